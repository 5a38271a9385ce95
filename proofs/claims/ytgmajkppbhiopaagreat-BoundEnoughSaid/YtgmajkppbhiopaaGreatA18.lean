/- No condition. -/
import Derived.Test.YtgmajkppbhiopaaGreatA00
import Derived.Test.YtgmajkppbhiopaaGreatA17
import Derived.Test.YtgmajkppbhiopaaGreatA06
import Derived.Test.YtgmajkppbhiopaaGreatA14
import Derived.Test.YtgmajkppbhiopaaGreatA16
import Derived.Test.YtgmajkppbhiopaaGreatA10
set_option linter.unusedSimpArgs false
set_option linter.unusedVariables false
set_option maxRecDepth 100000
set_option maxHeartbeats 4000000
namespace Go.Proofs.YtgmajkppbhiopaaGreat
open Go.RowKit
theorem qA (base b:Nat) (g:Option Nat) (s:LSt) (t:Tg) (A:Option Addr) (zs:List Int) (c:Nat) (w:World) (h:aD w base b g s) (a3:s.msgs.length<s.recv+s.cap) (a5:s.msgs.length<s.cap) (a1:s.msgs.length<100000000000)
  (bl:base≤w.heap.size) (hA:Rd w A (ar .i64 zs)) (b1:zs.length≤17592186043904):
  Calls Tryz.prog 235 #[.pointer (some ⟨b,0,none⟩),.agg #[FQ t.a,FQ t.b,FQ t.c,FQ t.d,FQ t.e,.slice A zs.length c]] w fun e w'=>e=.returned (FQ 0)∧
   ∃g',aD w' base b g' {s with msgs:=s.msgs++[⟨t,zs⟩],peak:=max s.peak (s.msgs.length+1-s.recv)}∧Keep (cB b g) w w'∧(g'=g∨∃k,g'=some k∧w.heap.size≤k):=by
 obtain ⟨t0,t1,t2,t3,t4⟩:=t
 have H:=aa h
 obtain ⟨ok,ring,rows,hc,Q,hg,hrl,b4,hm⟩:=h
 obtain ⟨RA,rc,rfl,bs⟩:=av Q
 have bM:=ok.cap1
 have ci:=ok.cap2
 have bd:=ok.rs
 have cl:=ok.pk
 have hl:=fun o n=>kv b _ _ _ _ _ _ (show ap ((w.alloc o).drewN n) _ _ _ _ _ _ from hc.alloc o) bd (by omega)
 obtain ⟨i,a2⟩:∃i,s.msgs.length%s.cap=i:=⟨_,rfl⟩
 obtain ⟨L,hL⟩:∃L,min s.msgs.length s.cap=L:=⟨_,rfl⟩
 rw [hL] at bs Q hrl hc hg
 have c1:=hc.c1
 have hb:=EL hc
 have b0:(((s.msgs.length:Int)-(s.recv:Int))==(s.cap:Int))=false:=by simp;omega
 have ad:=fun W hW=>ma A zs c W hW b1
 obtain ⟨D,hD⟩:∃D:Int,D=(s.msgs.length:Int)-(s.recv:Int):=⟨_,rfl⟩
 rw [←hD] at b0 hl
 have cf:0≤D∧D<s.cap:=by omega
 obtain rfl:i=L:=by rw [←hL,←a2,Nat.mod_eq_of_lt a5];omega
 obtain ⟨Hl,V,Hc,J,Hg,a8,bv,Hm⟩:=aj hl ok hc Q hg hrl b4 hm;obtain ⟨b9,HL,bw,HD⟩:=af a2 hL ad hD;clear hl hc ok Q hg hrl b4 hm a2 hL ad hD
 go_enter Tryz.func235,Tryz.ntmps235
 go_wp2_with fail
 go_quiet ((go_at_call 104;exact Calls.quiet_of (Hl.out _ _)))
 clear b0
 go_wp2_with fail
 refine (bw.out _ ((hA.alloc _).drewN _)).mono ?_
 rintro e B ⟨v1,rfl,N,Y⟩
 obtain ⟨A1,T,rfl,cj⟩:=av N
 have v:B.heap[w.heap.size]?=some (.cells #[FQ t0,FQ t1,FQ t2,FQ t3,FQ t4,.slice A zs.length c] 79 (0,0)):=by
  rw [Y.block _ (by simp)]
  exact EN w _
 have cc:=EL v
 have p0:B.cell? ⟨w.heap.size,0,none⟩=some (FQ t0):=EO B _ 0 _ _ _ v
 have p1:B.cell? ⟨w.heap.size,1,none⟩=some (FQ t1):=EO B _ 1 _ _ _ v
 have p2:B.cell? ⟨w.heap.size,2,none⟩=some (FQ t2):=EO B _ 2 _ _ _ v
 have p3:B.cell? ⟨w.heap.size,3,none⟩=some (FQ t3):=EO B _ 3 _ _ _ v
 have p4:B.cell? ⟨w.heap.size,4,none⟩=some (FQ t4):=EO B _ 4 _ _ _ v
 have p5:B.cell? ⟨w.heap.size,5,none⟩=some (.slice A zs.length c):=EO B _ 5 _ _ _ v
 have pf:=fun j=>EV B _ j _ _ v
 have a4:Below w.heap.size w B:=(EW ((EP _ w).alloc (EM _) _) _).trans (Y.mono (by simp))
 have y:=Hc.out.same (a4.block b hb)
 have bN:=EL y
 have k0:=y.c0
 have k2:=y.c2
 have k3:=y.c3
 have k4:=y.c4
 have f2:=y.free 2
 have f4:=y.free 4
 have f0:=y.free 0
 have bz:¬(b=w.heap.size):=by omega
 have bA:¬(w.heap.size=b):=by omega
 have b7:=fun W hW=>iR b (.slice RA i rc) s.cap s.msgs.length s.recv s.peak s.msgs.length i W hW V.out.cap1 V.out.cap2 b9.out
 obtain ⟨bb,bV,R,bi⟩:=af y Y N b7;clear y Y N b7 v
 go_wp2_with fail
 refine (bi.out _ (bb.out.same (Below.heap_setCell B ⟨w.heap.size,5,none⟩ _ b bz))).mono ?_
 rintro e w2 ⟨rfl,rfl⟩
 have x:=aq J.out (Below.mono a4 (EM _))
 have a6:=aa x;clear x
 have hrb:(Value.slice RA i rc).ownBlock≠some w.heap.size:=fun e=>by have:=(J.out.lt _ e).2;omega
 have b8:=vH Hc.out J.out
 have co:i≤1048576:=by have:=HL.out;omega
 go_wp2_with fail
 go_region_law ((refine qY Dg rfl (.tmp 47) (.tmp 49) rfl base (.slice RA i rc) i (List.flatten rows) rfl ?_ (some ⟨B.heap.size,0,none⟩) 1 1 [FQ t0,FQ t1,FQ t2,FQ t3,FQ t4,.slice A1 zs.length T] rfl ?_ rfl ?_ ?_ ?_ ?_ ?_;((focus (repeat' (first | (with_reducible exact a6.out) | (with_reducible refine World.ownsRow.drew ?_) | (with_reducible refine bC ?_ _) | (with_reducible refine World.ownsRow.alloc ?_ _) | (with_reducible refine (World.ownsRow.stored ?_ _ _).1) | (with_reducible refine ownsRow_setCell_other ?_ ?_ _) | (with_reducible assumption) | (simp [Value.ownBlock];done) | (simp [Value.ownBlock];omega)))));exact Rd.drew (fk _ _ _ _ (by simp));(intro u hu;simp at hu;rcases hu with rfl | rfl | rfl | rfl | rfl | rfl<;>rfl);omega;(unfold maxLen;omega);(simp;omega);(intro A2 c2 w2 x U I Z;have a0:=I.block b (by first | (simp;done) | (simp;omega)) (fun e=>b8 e.symm);have C:ap w2 b (.slice RA i rc) s.cap s.msgs.length s.recv s.peak:=(by refine ap.same ?_ a0;(focus (repeat' (first | (with_reducible exact bb.out) | (with_reducible refine ap.drew ?_) | (with_reducible refine ap.drewN ?_ _) | (with_reducible refine ap.alloc ?_ _) | (with_reducible refine ap.set0 (ring:=.slice RA L rc) ?_ _) | (with_reducible refine ap.set2 (sent:=s.msgs.length) ?_ _ _ ?_) | (with_reducible refine ap.set4 (peak:=s.peak) ?_ _ _ ?_) | (with_reducible refine ap.far ?_ _ _ ?_) | omega | (push_cast;omega)))));have cd:=C.c0;have c7:=C.free 0;have bG:=C.c2;have c8:=C.c3;have c9:=C.c4;have cb:=C.free 2;have bI:=C.free 4;obtain ⟨bh,O,b6,b3,b5⟩:=ag U I Z C x;clear U I Z C x a0)))
 all_goals go_wp2_with fail
 all_goals have bo:IntKind.i64.wrap ((s.msgs.length:Int)+1)=(s.msgs.length:Int)+1:=ER _ (by omega)
 all_goals go_region
 all_goals clear bo
 all_goals go_wp2_with fail
 all_goals have bn:0≤(s.recv:Int)∧(s.recv:Int)≤(s.msgs.length:Int)+1∧(s.msgs.length:Int)+1≤17592186043904:=by omega
 all_goals go_region_with ((go_at_call 104;refine (sk b ((s.msgs.length:Int)+1) s.recv _ (by simp [go_sem, *]) (by simp [go_sem, *]) bn).mono ?_;rintro e w' ⟨rfl,n',rfl⟩))
 all_goals go_wp2_with fail
 all_goals go_ret
 all_goals
  have c6:=vH b3.out b5.out
  have bO:Keep (cB b g) w B:=Keep.below a4
  have cn:Keep (cB b g) w w2:=Keep.grown (by (focus (repeat' (first | (with_reducible exact Keep.refl _ _) | (with_reducible assumption) | (with_reducible refine Keep.setCell ?_ _ ?_ _) | (with_reducible refine Keep.alloc ?_ _) | (with_reducible refine Keep.drewN ?_ _) | (with_reducible refine Keep.drew ?_) | (with_reducible exact Or.inr (fp _ _)) | (with_reducible exact Or.inr (fm _ _)) | (refine Or.inr ?_;first | rfl | (simp;done) | omega) | (refine Or.inl ?_;first | omega | (simp;done) | (simp;omega)))))) O.out (fun k hk=>.inr (.inr (Hg.out.symm.trans hk)))
  have b2:i+1=min (s.msgs.length+1) s.cap:=by have:=HL.out;omega
  have a7:ed (rows++[[FQ t0,FQ t1,FQ t2,FQ t3,FQ t4,.slice A1 zs.length T]]) i=[FQ t0,FQ t1,FQ t2,FQ t3,FQ t4,.slice A1 zs.length T]:=by
   rw [←a8.out];exact mX _ _
  refine ⟨rfl,(Value.slice A2 (i+1) c2).ownBlock,?_,by (focus (repeat' (first | (with_reducible exact Keep.refl _ _) | (with_reducible assumption) | (with_reducible refine Keep.setCell ?_ _ ?_ _) | (with_reducible refine Keep.alloc ?_ _) | (with_reducible refine Keep.drewN ?_ _) | (with_reducible refine Keep.drew ?_) | (with_reducible exact Or.inr (fp _ _)) | (with_reducible exact Or.inr (fm _ _)) | (refine Or.inr ?_;first | rfl | (simp;done) | omega) | (refine Or.inl ?_;first | omega | (simp;done) | (simp;omega))))),?_⟩
  ·refine jG (A1:=A1) (c1:=T) (g:=g) (rows':=rows++[[FQ t0,FQ t1,FQ t2,FQ t3,FQ t4,.slice A1 zs.length T]]) (ring':=.slice A2 (i+1) c2) V.out Hc.out (HL.out▸J.out) Hg.out Hm.out a3 a1 ⟨t0,t1,t2,t3,t4⟩ zs b1 (by (focus (repeat' (first | (with_reducible exact Keep.refl _ _) | (with_reducible assumption) | (with_reducible refine Keep.setCell ?_ _ ?_ _) | (with_reducible refine Keep.alloc ?_ _) | (with_reducible refine Keep.drewN ?_ _) | (with_reducible refine Keep.drew ?_) | (with_reducible exact Or.inr (fp _ _)) | (with_reducible exact Or.inr (fm _ _)) | (refine Or.inr ?_;first | rfl | (simp;done) | omega) | (refine Or.inl ?_;first | omega | (simp;done) | (simp;omega)))))) (P:=max s.peak (s.msgs.length+1-s.recv)) rfl (by (focus (repeat' (first | (with_reducible exact b3.out) | (with_reducible refine ap.drew ?_) | (with_reducible refine ap.drewN ?_ _) | (with_reducible refine ap.alloc ?_ _) | (with_reducible refine ap.set0 (ring:=.slice RA i rc) ?_ _) | (with_reducible refine ap.set2 (sent:=s.msgs.length) ?_ _ _ ?_) | (with_reducible refine ap.set4 (peak:=s.peak) ?_ _ _ ?_) | (with_reducible refine ap.far ?_ _ _ ?_) | omega | (push_cast;omega))))) ?_ rfl ?_ ?_ ?_ ?_ ?_
   ·rw [←b2,FA,List.flatten_cons,List.flatten_nil,List.append_nil]
    (focus (repeat' (first | (with_reducible exact b5.out) | (with_reducible refine World.ownsRow.drew ?_) | (with_reducible refine bC ?_ _) | (with_reducible refine World.ownsRow.alloc ?_ _) | (with_reducible refine (World.ownsRow.stored ?_ _ _).1) | (with_reducible refine ownsRow_setCell_other ?_ ?_ _) | (with_reducible assumption) | (simp [Value.ownBlock];done) | (simp [Value.ownBlock];omega))))
   ·rw [Fp,Fz,a8.out,b2]
   ·intro r hr
    rcases FE.1 hr with hr | hr
    ·exact bv.out r hr
    ·rw [List.mem_singleton.1 hr];rfl
   ·intro j h1 h2
    exact mW _ _ _ (by rw [a8.out,←HL.out];exact nj h1 h2 (by omega) V.out.cap1)
   ·rw [b9.out];exact a7
   ·have bX:Keep (fun k=>k≤w.heap.size) B w2:=Keep.grown (by (focus (repeat' (first | (with_reducible exact Keep.refl _ _) | (with_reducible assumption) | (with_reducible refine Keep.setCell ?_ _ ?_ _) | (with_reducible refine Keep.alloc ?_ _) | (with_reducible refine Keep.drewN ?_ _) | (with_reducible refine Keep.drew ?_) | (with_reducible exact Or.inr (fp _ _)) | (with_reducible exact Or.inr (fm _ _)) | (refine Or.inr ?_;first | rfl | (simp;done) | omega) | (refine Or.inl ?_;first | omega | (simp;done) | (simp;omega)))))) O.out (fun k hk=>.inr (by have:=(J.out.lt k hk).2;omega))
    refine Keep.own (S:=fun k=>k≤w.heap.size) (w:=B) ?_ (aA R.out (by simp;omega)) ?_
    ·(focus (repeat' (first | (with_reducible exact Keep.refl _ _) | (with_reducible assumption) | (with_reducible refine Keep.setCell ?_ _ ?_ _) | (with_reducible refine Keep.alloc ?_ _) | (with_reducible refine Keep.drewN ?_ _) | (with_reducible refine Keep.drew ?_) | (with_reducible exact Or.inr (fp _ _)) | (with_reducible exact Or.inr (fm _ _)) | (refine Or.inr ?_;first | rfl | (simp;done) | omega) | (refine Or.inl ?_;first | omega | (simp;done) | (simp;omega)))))
     all_goals (dsimp only;omega)
    ·intro k hk
     have:=(R.out.lt k hk).1
     simp at this ⊢;omega
  ·rcases b6.out with h1 | h1
   ·exact .inl (h1.trans Hg.out)
   ·exact .inr ⟨_,h1,by simp;omega⟩
def LSt.send (s:LSt) (m:Msg):LSt:={s with msgs:=s.msgs++[m],peak:=max s.peak (s.msgs.length+1-s.recv)}
def LSt.new (c:Nat):LSt:=⟨c,[],0,0⟩
theorem Bf (base b:Nat) (g:Option Nat) (s:LSt) (t:Tg) (A:Option Addr) (zs:List Int) (c:Nat) (w:World) (h:aD w base b g s) (u:s.msgs.length<s.recv+s.cap) (o:s.msgs.length<100000000000)
  (i:base≤w.heap.size) (B:Rd w A (ar .i64 zs)) (v:zs.length≤17592186043904):
  Calls Tryz.prog 235 #[.pointer (some ⟨b,0,none⟩),.agg #[FQ t.a,FQ t.b,FQ t.c,FQ t.d,FQ t.e,.slice A zs.length c]] w fun e y=>e=.returned (FQ 0)∧
   ∃x,aD y base b x (s.send ⟨t,zs⟩)∧Keep (cB b g) w y∧(x=g∨∃k,x=some k∧w.heap.size≤k):=by
 rcases Fa s.msgs.length s.cap with hc | hc
 ·exact qA base b g s t A zs c w h u hc o i B v
 ·exact nm base b g s t A zs c w h u hc o i B v
theorem aD.blocks {w:World} {base b:Nat} {g:Option Nat} {s:LSt} (h:aD w base b g s):b<w.heap.size∧∀i,g=some i→base≤i∧i<w.heap.size:=by
 obtain ⟨ok,ring,rows,hc,o,u,_⟩:=h
 exact ⟨EL hc,fun i v=>o.lt i (u.trans v)⟩
theorem ib {w:World} {b x:Nat} {y u:Array Value} {t v:TypeId} (h:w.heap[b]?=some (.cells y t (0,0))) (i:w.heap[x]?=some (.cells u v (0,0))) (o:t≠v):b≠x:=by
 rintro rfl
 rw [h] at i
 injection i with i
 injection i with _ i
 exact o i
theorem aD.blk {w:World} {base b:Nat} {g:Option Nat} {s:LSt} (h:aD w base b g s):∃i,w.heap[b]?=some (.cells i 182 (0,0)):=by
 obtain ⟨ok,ring,rows,hc,_⟩:=h
 exact ⟨_,hc⟩
theorem aD.ringBlk {w:World} {base b i:Nat} {s:LSt} (h:aD w base b (some i) s):∃B,w.heap[i]?=some (.cells B 79 (0,0)):=by
 obtain ⟨ok,ring,rows,hc,o,u,_⟩:=h
 rcases o.2 with ⟨hn,_⟩ | ⟨A,cap2,y,v,_,x,_⟩
 ·rw [hn] at u;cases u
 ·rw [v] at u
  obtain rfl:A=i:=by simpa [Value.ownBlock] using u
  exact ⟨_,x⟩
theorem aD.other {w v:World} {base b x:Nat} {g:Option Nat} {s:LSt} {A:Array Value} {t:TypeId} (h:aD w base b g s) (k:Keep (fun i=>i=x) w v) (u:w.heap[x]?=some (.cells A t (0,0))) (B:t≠182) (y:t≠79) (D:t≠2):aD v base b g s:=by
 obtain ⟨H,hb⟩:=h.blk
 refine h.keep k (ib hb u B.symm) (fun i o=>?_) (fun i c o _=>ib o u D.symm)
 subst o
 obtain ⟨cg,C⟩:=h.ringBlk
 exact ib C u y.symm
theorem kU:dt Tryz.prog 150 9:=⟨⟨_,Tryz.underlying150,rfl⟩,by kernel_rfl⟩
theorem tJ:dt Tryz.prog 77 5:=⟨⟨_,Tryz.underlying77,rfl⟩,by kernel_rfl⟩
def Acn.tg (a:Acn):Tg:=⟨a.st,a.bk,a.ph,a.rd,a.ch⟩
theorem uF {y:Itm} {i:Acn} (h:y.a=some i) {lo o:Nat} (v:i.at'.1=lo) (u:i.at'.2=o):(aS y).toArray=#[FQ (y.kind:Nat),FQ (y.st:Nat),FQ (y.n:Nat),.bool i.send,.bool i.add,FQ (i.st:Nat),FQ (i.bk:Nat),FQ (i.ph:Nat),FQ (i.rd:Nat),FQ (i.ch:Nat),FQ (lo:Nat),FQ (o:Nat)]:=by
 subst v;subst u
 unfold aS
 rw [h]
 rfl
theorem pM {H:Nat→Prop} {w:World} {b x:Nat} {i:Inp} {a:MAd} {m:Mst} (h:aC H w b i x a m) (a6:i.start.length≤60) (y:Itm) (v:Acn) (Z:y.a=some v) (lo A:Nat) (h1:v.at'.1=lo) (h2:v.at'.2=A) (b3:lo<A) (b0:A≤i.start.length) (u l:Option Addr)
  (C:Int) (L:Nat→Prop) (a1:¬L b) (U:∀k,w.heap.size≤k→¬L k) (Q:World→Prop) (B:∀o d,Below w.heap.size w o→Calls Tryz.prog 235 #[.pointer l,.agg #[FQ (v.st:Nat),FQ (v.bk:Nat),FQ (v.ph:Nat),FQ (v.rd:Nat),FQ (v.ch:Nat),.slice (some ⟨a.bg,lo,none⟩) (A-lo:Nat) d]] o fun e Y=>e=.returned (FQ C)∧Keep L o Y∧Q Y):
  Calls Tryz.prog 226 #[.pointer (some ⟨b,0,none⟩),.agg (aS y).toArray,.agg #[.pointer u,.pointer l]] w fun e o=>e=.returned (FQ C)∧Keep L w o∧Q o:=by
 rw [uF Z h1 h2]
 have I:=h.blk
 have b1:i.start.length≤a.cg:=by
  obtain ⟨_,_,e,h⟩:=av h.oG
  simp only [FD] at e
  omega
 obtain ⟨W0,W1,T,O,g0,g1,J,a3⟩:=ge w #[FQ (y.kind:Nat),FQ (y.st:Nat),FQ (y.n:Nat),.bool v.send,.bool v.add,FQ (v.st:Nat),FQ (v.bk:Nat),FQ (v.ph:Nat),FQ (v.rd:Nat),FQ (v.ch:Nat),FQ (lo:Nat),FQ (A:Nat)] #[.pointer u,.pointer l] 152 333
 have a0:=sb I _ J
 obtain ⟨a2,a5,V,G0,G1,K1,N⟩:=ai T O a0 g0 g1 J B;clear T O a0 g0 g1 J I h B Z h1 h2 a3
 go_enter Tryz.func226,Tryz.ntmps226
 go_upto_region 1 with (fail)
 rw [a2.out,a5.out]
 go_upto_region 2 with (first | (refine cE #[.bool v.send,.bool v.add,FQ (v.st:Nat),FQ (v.bk:Nat),FQ (v.ph:Nat),FQ (v.rd:Nat),FQ (v.ch:Nat),FQ (lo:Nat),FQ (A:Nat)] (b:=w.heap.size) G0.out kU rfl rfl rfl rfl ?_) | (refine cS (EN _ _) kU rfl rfl rfl rfl rfl rfl rfl ?_;intro D e2 k2;obtain ⟨E2,R⟩:=ab e2 (dI k2);clear e2 k2))
 have q2:Keep L D D.drew:=(Keep.refl _ _).drew
 have lx:=EL E2.out
 have kx:=fun o (q:Keep L D o)=>(q.block W1.heap.size lx (U _ K1.out.size)).trans E2.out
 have a4:∀o,Keep L D o→o.cell? ⟨b,13,none⟩=some (.slice (some ⟨a.bg,0,none⟩) i.start.length a.cg):=fun o q=>EO o b 13 _ _ _ ((q.block b (EL (sb V.out _ R.out)) a1).trans (sb V.out _ R.out))
 have s1:∀o,Keep L D o→o.cell? ⟨w.heap.size+1,1,none⟩=some (.pointer l):=fun o q=>EO o (w.heap.size+1) 1 _ _ _ ((q.block _ (EL (sb G1.out _ R.out)) (U _ (by omega))).trans (sb G1.out _ R.out))
 have x7:∀o,Keep L D o→o.cell? ⟨W1.heap.size,7,none⟩=some (FQ (lo:Nat)):=fun o q=>EO o _ 7 _ _ _ (kx o q)
 have x8:∀o,Keep L D o→o.cell? ⟨W1.heap.size,8,none⟩=some (FQ (A:Nat)):=fun o q=>EO o _ 8 _ _ _ (kx o q)
 have b2:(lo:Int)≤A:=by omega
 have b4:(A:Int)≤a.cg:=by omega
 have a7:lo≤A:=by omega
 have a8:A≤a.cg:=by omega
 have ad:¬a.cg=lo:=by omega
 obtain ⟨BB,KX⟩:=ab (bt K1.out R.out) kx;clear kx lx
 dsimp only [Act.put]
 refine HA.g (fun o:World=>Keep L D o) ?_
 refine HA.t ?_ [0,1,2] q2 ?_
 refine HA.ld 3 #[FQ (v.st:Nat),FQ (v.bk:Nat),FQ (v.ph:Nat),FQ (v.rd:Nat),FQ (v.ch:Nat)] (fun o q=>KX.out o q) tJ q2 ?_
 refine HA.t ?_ [4,5,6,7,8,9,10,11,12,13,14,15] q2 ?_
 refine HA.c 16 (N.out _ (a.cg-lo) BB.out.drew) ?_
 rintro e w3 ⟨rfl,k3,hq⟩
 have q3:=q2.trans k3
 refine ⟨_,rfl,q3,fun _=>?_⟩
 refine HA.t ?_ [17] q3 ?_
 refine HA.d ?_
 have K3:=aa ((Keep.below (S:=L) BB.out).trans q3);clear q2 q3 k3 a4 s1 x7 x8
 go_wp2_with fail
 go_ret
 exact ⟨rfl,K3.out,hq⟩
theorem AP {H:Nat→Prop} {w:World} {b x:Nat} {i:Inp} {a:MAd} {m:Mst} (h:aC H w b i x a m) (D:i.start.length≤60) (y:Itm) (o:Acn) (Q:y.a=some o) (R:o.at'.1<o.at'.2) (O:o.at'.2≤i.start.length) (u:Option Addr)
  {base l:Nat} {g:Option Nat} {s:LSt} (L:aD w base l g s) (v:s.msgs.length<s.recv+s.cap) (B:s.msgs.length<100000000000) (A:base≤w.heap.size):
  Calls Tryz.prog 226 #[.pointer (some ⟨b,0,none⟩),.agg (aS y).toArray,.agg #[.pointer u,.pointer (some ⟨l,0,none⟩)]] w fun e C=>e=.returned (FQ 0)∧Keep (cB l g) w C∧
   ∃I,aD C base l I (s.send ⟨o.tg,(m.G.drop o.at'.1).take (o.at'.2-o.at'.1)⟩)∧(I=g∨∃k,I=some k∧w.heap.size≤k):=by
 obtain ⟨cl,T⟩:=L.blk
 have N:=L.blocks
 refine pM h D y o Q _ _ rfl rfl R O u (some ⟨l,0,none⟩) 0 (cB l g) ?_ ?_ _ (fun C d q=>?_)
 ·rintro (e | e)
  ·exact ib h.blk T (by decide) e
  ·subst e
   obtain ⟨cg,V⟩:=L.ringBlk
   exact ib h.blk V (by decide) rfl
 ·rintro k hk (e | e)
  ·omega
  ·have:=(N.2 k e).2;omega
 ·have hG:Rd C (some ⟨a.bg,o.at'.1,none⟩) (ar .i64 ((m.G.drop o.at'.1).take (o.at'.2-o.at'.1))):=by
   have:=((Rd.own (aq h.oG q)).drop o.at'.1).take (o.at'.2-o.at'.1)
   rwa [dP,du,FI] at this
  have J:((m.G.drop o.at'.1).take (o.at'.2-o.at'.1)).length=o.at'.2-o.at'.1:=by rw [Fv,Fy,h.wG.1];omega
  have:=Bf base l g s o.tg (some ⟨a.bg,o.at'.1,none⟩) ((m.G.drop o.at'.1).take (o.at'.2-o.at'.1)) d C (L.below q) v B (ES A q.size) hG (by omega)
  rw [J] at this
  refine this.mono ?_
  rintro e a0 ⟨he,I,U,k2,Y⟩
  exact ⟨he,k2,I,U,Y.imp id fun ⟨k,e1,Z⟩=>⟨k,e1,ES q.size Z⟩⟩
theorem uq {H:Nat→Prop} {w:World} {b x:Nat} {i:Inp} {a:MAd} {m:Mst} (h:aC H w b i x a m) (A:i.start.length≤60) (y:Itm) (v:Acn) (C:y.a=some v) (D:v.at'.1<v.at'.2) (I:v.at'.2≤i.start.length) (u:Option Addr)
  {base l:Nat} {g:Option Nat} {s:LSt} (J:aD w base l g s) (o:s.msgs.length=s.recv+s.cap):
  Calls Tryz.prog 226 #[.pointer (some ⟨b,0,none⟩),.agg (aS y).toArray,.agg #[.pointer u,.pointer (some ⟨l,0,none⟩)]] w fun e B=>e=.returned (FQ 11)∧Below w.heap.size w B:=by
 refine (pM h A y v C _ _ rfl rfl D I u (some ⟨l,0,none⟩) 11 (fun _=>False) id (fun _ _ h=>h) (fun _=>True) (fun B d q=>?_)).mono fun e B h=>⟨h.1,h.2.1.toBelow (EM _) (fun _ h=>h.elim)⟩
 exact (oD base l g s _ B (J.below q) o).mono fun e L h=>⟨h.1,Keep.below h.2,trivial⟩
def sR (G:List Int) (lo:Nat) (v:List Int) (add:Bool) (k:Nat):List Int:=di G.length fun j=>if lo≤j∧j<lo+k then (if add then wrap64 (nth G j+nth v (j-lo)) else nth v (j-lo)) else nth G j
def kC (G:List Int) (lo:Nat) (v:List Int) (add:Bool):List Int:=sR G lo v add v.length
section
variable (G:List Int) (lo:Nat) (v:List Int) (add:Bool)
theorem nT (k:Nat):(sR G lo v add k).length=G.length:=aU _ _
theorem sS:(kC G lo v add).length=G.length:=aU _ _
theorem yF:sR G lo v add 0=G:=(dQ rfl fun k _=>by rw [if_neg (by omega)]).symm
theorem nS {k j:Nat} (h:j<G.length):nth (sR G lo v add k) j=if lo≤j∧j<lo+k then (if add then wrap64 (nth G j+nth v (j-lo)) else nth v (j-lo)) else nth G j:=cu _ h
theorem BR {k:Nat} (hk:lo+k<G.length):(sR G lo v add k).set (lo+k) (if add then wrap64 (nth G (lo+k)+nth v k) else nth v k)=sR G lo v add (k+1):=by
 refine gW (by simp [nT]) fun j i=>?_
 rw [List.length_set,nT] at i
 rw [eN,nS _ _ _ _ i,nS _ _ _ _ i,nT]
 by_cases o:j=lo+k
 ·subst o
  rw [if_pos (show lo+k=lo+k∧lo+k<G.length from EU rfl hk),if_pos (show lo≤lo+k∧lo+k<lo+(k+1) by omega),Nat.add_sub_cancel_left]
 ·rw [if_neg (show ¬(j=lo+k∧lo+k<G.length) from fun h=>o h.1)]
  by_cases u:lo≤j∧j<lo+k
  ·rw [if_pos u,if_pos (show lo≤j∧j<lo+(k+1) by omega)]
  ·rw [if_neg u,if_neg (show ¬(lo≤j∧j<lo+(k+1)) by omega)]
end
theorem sU {G v:List Int} {lo:Nat} {add:Bool} (o:W64 G) (i:W64 v):W64 (kC G lo v add):=dZ fun k hk=>by
 split
 ·rename_i h
  split
  ·unfold wrap64;omega
  ·exact i _ (by omega)
 ·exact o k hk
theorem yG {G v:List Int} {lo:Nat} (h:lo+v.length≤G.length):splice G lo v=kC G lo v false:=by
 unfold splice kC sR
 refine dQ (by simp only [Fp,Fv,Fy];omega) fun k hk=>?_
 rw [if_neg (show ¬(false=true) by decide)]
 by_cases i:k<lo
 ·rw [if_neg (by omega)]
  simp only [nth,List.getD_eq_getElem?_getD]
  rw [Ft (by rw [Fv];omega),List.getElem?_take,if_pos i]
 ·by_cases o:k<lo+v.length
  ·rw [if_pos ⟨by omega,o⟩]
   simp only [nth,List.getD_eq_getElem?_getD]
   rw [Fu (by rw [Fv];omega),Fv,Ft (by omega)]
   congr 2;omega
  ·rw [if_neg (by omega)]
   simp only [nth,List.getD_eq_getElem?_getD]
   rw [Fu (by rw [Fv];omega),Fv,Fu (by omega),List.getElem?_drop]
   congr 2;omega
theorem vi (g c lo n:Nat) (B:Option Addr) (xs x:List Int) (L R d:Nat) (w:World) (h:w.ownsRow 0 2 1 (.slice (some ⟨g,0,none⟩) n c) n (ar .i64 xs)) (hB:Rd w B (ar .i64 x)) (hl:x.length=L) (hn:lo+L≤n) (hm:n≤17592186043904)
  (A:∀b,B=some b→b.block≠g):
  Calls Tryz.prog 234 #[.slice (some ⟨g,lo,none⟩) L R,.slice B L d] w fun e N=>e=.returned (.bool true)∧N.ownsRow 0 2 1 (.slice (some ⟨g,0,none⟩) n c) n (ar .i64 (kC xs lo x true))∧Keep (fun i=>i=g) w N:=by
 have y:=iO h
 unfold kC
 rw [hl]
 obtain ⟨Z,T,Hn,U,HN⟩:=ag h hB y hl A;clear h hB y hl A
 go_enter Tryz.func234,Tryz.ntmps234
 go_wp2_with fail
 go_loopw [13] (fun i wr=>∃k:Nat,k≤L∧i=FQ k∧wr.ownsRow 0 2 1 (.slice (some ⟨g,0,none⟩) n c) n (ar .i64 (sR xs lo x true k))∧Keep (fun i=>i=g) w wr) (fun i _=>L-(intOf i).toNat)
 case atStart=>exact ⟨0,EQ _,rfl,by rw [yF];exact Z.out,Keep.refl _ _⟩
 case round=>
  obtain ⟨k,hk,rfl,h,C⟩:=hrel
  by_cases D:k<L
  ·have hg:=(h.lt g rfl).2
   have v:lo+k<xs.length:=by rw [Hn.out];omega
   have Y:=cP h (show lo+k<n by omega)
   rw [nS _ _ _ _ v,if_neg (by omega)] at Y
   have f1:=h.frozenAt (lo+k)
   obtain ⟨O,V,rfl,Q⟩:=T.out.num (show k<x.length by rw [U.out];exact D)
   have J:O≠g:=HN.out _ rfl
   have p2:wr.cell? ⟨O,V+k,none⟩=some (FQ (nth x k)):=C.cell Q J
   have o:=BR xs lo x true v
   rw [if_pos rfl] at o
   obtain ⟨I,u,H⟩:=ae C h o;clear C h o v Q
   go_wp2_with fail
   go_region
   all_goals go_wp2_with fail
   all_goals
    go_roundw
    case rel=>
     refine ⟨k+1,by omega,by go_num,?_,?_⟩
     ·rw [←H.out];exact eL (bC u.out 1) (lo+k) _
     ·exact Keep.setCell (I.out.drewN 1) ⟨g,lo+k,none⟩ (.inr rfl) _
    case measure=>simp [intOf];omega
  ·obtain rfl:k=L:=by omega
   obtain ⟨I,u⟩:=ab C h;clear C h
   go_wp2_with fail
   go_ret
   exact ⟨rfl,u.out,I.out⟩
theorem zK:dt Tryz.prog 79 6:=⟨⟨_,Tryz.underlying79,rfl⟩,by kernel_rfl⟩
theorem qU {α:Type} {i u:List α} {lo n:Nat} (h:lo+u.length≤n) (hn:n≤i.length):(splice i lo u).take n=splice (i.take n) lo u:=by
 unfold splice
 have o:lo≤n:=by omega
 rw [List.take_append,List.take_append,List.take_take,Fv,List.take_take,List.drop_take,Nat.min_eq_right o,Nat.min_eq_left o,Nat.min_eq_left (show lo≤i.length by omega),List.take_of_length_le (show u.length≤n-lo by omega),Nat.sub_sub]
theorem tz {α:Type} {i o:List α} {lo:Nat} (h:lo+o.length≤i.length):(splice i lo o).length=i.length:=by
 unfold splice;simp only [Fp,Fv,Fy];omega
theorem CS {w:World} {base:Nat} {e:TypeId} {g n cap:Nat} {xs:List Value} (h:w.ownsRow base e 1 (.slice (some ⟨g,0,none⟩) n cap) n xs):
  ∃o:List Value,w.heap[g]?=some (.cells o.toArray e (0,0))∧o.take n=xs∧n≤o.length∧∀(u:World) (i:List Value),u.heap[g]?=some (.cells (List.toArray i) e (0,0))→i.length=o.length→u.ownsRow base e 1 (.slice (some ⟨g,0,none⟩) n cap) n (i.take n):=by
 rcases h.2 with ⟨I,_⟩ | ⟨J,x,o,v,hb,H,C,B,A,y⟩
 ·cases I
 ·simp only [FD,Option.some.injEq,Addr.mk.injEq,and_true,true_and] at v
  obtain ⟨rfl,rfl⟩:=v
  rw [Nat.mul_one] at A y
  have hl:o.toList.length=cap:=by simpa using A
  refine ⟨o.toList,by simpa using H,by simpa using y,by omega,fun u i hw D=>⟨by rw [Fv];omega,.inr ⟨g,cap,i.toArray,rfl,hb,hw,C,B,?_,?_⟩⟩⟩
  ·simp;omega
  ·simp
theorem AR {w:World} {b:Nat} (y:Itm) (h:Acn) (I:y.a=some h) (u v:Option Addr) (C:Int) (hC:C≠0)
  (o:∀i,Below w.heap.size w i→Calls Tryz.prog 236 #[.pointer u,.agg #[FQ (h.st:Nat),FQ (h.bk:Nat),FQ (h.ph:Nat),FQ (h.rd:Nat),FQ (h.ch:Nat)]] i fun e T=>e=.returned (.tuple #[.agg FX,FQ C])∧Below i.heap.size i T):
  Calls Tryz.prog 227 #[.pointer (some ⟨b,0,none⟩),.agg (aS y).toArray,.agg #[.pointer u,.pointer v]] w fun e i=>e=.returned (FQ C)∧Below w.heap.size w i:=by
 obtain ⟨lo,Z⟩:∃lo,h.at'.1=lo:=⟨_,rfl⟩
 obtain ⟨J,U⟩:∃J,h.at'.2=J:=⟨_,rfl⟩
 rw [uF I Z U]
 obtain ⟨W0,W1,D,B,Y,g1,H,O⟩:=ge w #[FQ (y.kind:Nat),FQ (y.st:Nat),FQ (y.n:Nat),.bool h.send,.bool h.add,FQ (h.st:Nat),FQ (h.bk:Nat),FQ (h.ph:Nat),FQ (h.rd:Nat),FQ (h.ch:Nat),FQ (lo:Nat),FQ (J:Nat)] #[.pointer u,.pointer v] 152 333
 obtain ⟨N,R,G0,G1,K1,x⟩:=ah D B Y g1 H o;clear D B Y g1 H o I Z U O
 go_enter Tryz.func227,Tryz.ntmps227
 go_upto_region 1 with (fail)
 rw [N.out,R.out]
 go_upto_region 2 with (first | (refine cE #[.bool h.send,.bool h.add,FQ (h.st:Nat),FQ (h.bk:Nat),FQ (h.ph:Nat),FQ (h.rd:Nat),FQ (h.ch:Nat),FQ (lo:Nat),FQ (J:Nat)] (b:=w.heap.size) G0.out kU rfl rfl rfl rfl ?_) | (refine cS (EN _ _) kU rfl rfl rfl rfl rfl rfl rfl ?_;intro A e2 k2;obtain ⟨E2,L⟩:=ab e2 (dI k2);clear e2 k2))
 have q2:=br A
 have B2:=aa (bt K1.out L.out)
 have s0:∀i,Below A.heap.size A i→i.cell? ⟨w.heap.size+1,0,none⟩=some (.pointer u):=fun i q=>EO i (w.heap.size+1) 0 _ _ _ (sb (sb G1.out _ L.out) i q)
 have Q:=fun i (q:Below A.heap.size A i)=>ET (EL (sb G1.out _ L.out)) q.size
 go_wp2_with (refine cE #[FQ (h.st:Nat),FQ (h.bk:Nat),FQ (h.ph:Nat),FQ (h.rd:Nat),FQ (h.ch:Nat)] (b:=W1.heap.size) E2.out tJ rfl rfl rfl rfl ?_)
 refine (x.out A B2.out).mono ?_
 rintro e w3 ⟨rfl,V⟩
 have a0:(C != 0)=true:=by rw [bne_iff_ne];exact hC
 have B3:=aa (bt B2.out V);clear q2 s0 Q V
 go_wp2_with (refine cS (EN _ _) zK rfl rfl rfl rfl rfl rfl rfl ?_;intro W4 e4 k4;have K4:=aa (bt B3.out (dI k4));clear e4 k4)
 go_ret
 exact ⟨rfl,K4.out⟩
theorem AQ {H:Nat→Prop} {w:World} {b x:Nat} {i:Inp} {a:MAd} {m:Mst} (h:aC H w b i x a m) (c8:i.start.length≤60) (y:Itm) (B:Acn) (a5:y.a=some B) (lo D:Nat) (h1:B.at'.1=lo) (h2:B.at'.2=D) (cf:lo<D) (ci:D≤i.start.length) (v:Option Addr)
  {base l:Nat} {g:Option Nat} {s:LSt} (hL:aD w base l g s) (cn:a.bg<base) (bv:s.recv<s.msgs.length) (b2:(aG s.msgs s.recv).tag=B.tg) (R:(aG s.msgs s.recv).vals.length=D-lo):
  Calls Tryz.prog 227 #[.pointer (some ⟨b,0,none⟩),.agg (aS y).toArray,.agg #[.pointer (some ⟨l,0,none⟩),.pointer v]] w fun e o=>e=.returned (FQ 0)∧Keep (fun k=>k=l∨k=a.bg) w o∧
   aD o base l g {s with recv:=s.recv+1}∧o.ownsRow 0 2 1 (.slice (some ⟨a.bg,0,none⟩) i.start.length a.cg) i.start.length (ar .i64 (kC m.G lo (aG s.msgs s.recv).vals B.add)):=by
 rw [uF a5 h1 h2]
 have T:=h.blk
 obtain ⟨cl,Q⟩:=hL.blk
 have cd:i.start.length≤a.cg:=by
  obtain ⟨_,_,e,h⟩:=av h.oG
  simp only [FD] at e
  omega
 have bl:b≠l:=ib h.blk Q (by decide)
 have a8:l≠a.bg:=fun e=>an Q (by decide) h.oG (by rw [e];rfl)
 have a3:=h.wG.1
 have bn:=h.blk
 obtain ⟨u,hu⟩:∃u,(some ⟨l,0,none⟩:Option Addr)=u:=⟨_,rfl⟩
 rw [hu]
 obtain ⟨W0,W1,b4,a0,g0,g1,a2,bo⟩:=ge w #[FQ (y.kind:Nat),FQ (y.st:Nat),FQ (y.n:Nat),.bool B.send,.bool B.add,FQ (B.st:Nat),FQ (B.bk:Nat),FQ (B.ph:Nat),FQ (B.rd:Nat),FQ (B.ch:Nat),FQ (lo:Nat),FQ (D:Nat)] #[.pointer u,.pointer v] 152 333
 rw [←hu] at g1 a0
 rw [←hu]
 have bi:=sb T _ a2
 obtain ⟨bX,bN,b6,G0,G1,K1,HM,HL⟩:=aj b4 a0 bi g0 g1 a2 h hL;obtain ⟨c7,I,cj,c6⟩:=af b2 R Q a3;clear b4 a0 bi g0 g1 a2 T bn h hL a5 h1 h2 bo hu b2 R Q a3
 go_enter Tryz.func227,Tryz.ntmps227
 go_upto_region 1 with (fail)
 rw [bX.out,bN.out]
 go_upto_region 2 with (first | (refine cE #[.bool B.send,.bool B.add,FQ (B.st:Nat),FQ (B.bk:Nat),FQ (B.ph:Nat),FQ (B.rd:Nat),FQ (B.ch:Nat),FQ (lo:Nat),FQ (D:Nat)] (b:=w.heap.size) G0.out kU rfl rfl rfl rfl ?_) | (refine cS (EN _ _) kU rfl rfl rfl rfl rfl rfl rfl ?_;intro W2 e2 k2;obtain ⟨E2,K2⟩:=ab e2 (dI k2);clear e2 k2))
 have B2:=aa (bt K1.out K2.out)
 have a1:=se base l g s B.tg W2 (HL.out.below B2.out) bv c7.out
 rw [I.out] at a1
 have a4:=aa a1
 have s0:W2.cell? ⟨w.heap.size+1,0,none⟩=some (.pointer (some ⟨l,0,none⟩)):=EO W2 (w.heap.size+1) 0 _ _ _ (sb G1.out _ K2.out)
 clear a1
 go_wp2_with (refine cE #[FQ (B.st:Nat),FQ (B.bk:Nat),FQ (B.ph:Nat),FQ (B.rd:Nat),FQ (B.ch:Nat)] (b:=W1.heap.size) E2.out tJ rfl rfl rfl rfl ?_)
 refine a4.out.mono ?_
 rintro e w3 ⟨A,c,rfl,o3,L3,k3⟩
 have bA:l≠W1.heap.size:=by have:=HL.out.blocks.1;have:=K1.out.size;omega
 have e3:=(k3.block W1.heap.size (EL E2.out) (fun e=>bA e.symm)).trans E2.out
 have b3:=(k3.block b (EL (sb b6.out _ K2.out)) bl).trans (sb b6.out _ K2.out)
 have a7:=k3.own (aq HM.out.oG B2.out) (fun j hj e=>a8 (by cases hj;exact e.symm))
 obtain ⟨O3,bO,K3,E3,bI,bG⟩:=ah o3 L3 ((Keep.below (S:=fun k=>k=l) B2.out).trans k3) e3 b3 a7;clear o3 L3 k3 e3 b3 a7 s0 a4
 go_upto_region 5 with (refine cS (EN _ _) zK rfl rfl rfl rfl rfl rfl rfl ?_;intro C e4 k4;obtain ⟨E4,K4⟩:=ab e4 (dI k4);clear e4 k4)
 have q4:=(br C).drew
 have kx:=fun o (q:Below C.heap.size C o)=>sb (sb E3.out _ K4.out) o q
 have bM:∀o,Below C.heap.size C o→o.cell? ⟨b,13,none⟩=some (.slice (some ⟨a.bg,0,none⟩) i.start.length a.cg):=fun o q=>EO o b 13 _ _ _ (sb (sb bI.out _ K4.out) o q)
 have x1:∀o,Below C.heap.size C o→o.cell? ⟨W1.heap.size,1,none⟩=some (.bool B.add):=fun o q=>EO o _ 1 _ _ _ (kx o q)
 have x7:∀o,Below C.heap.size C o→o.cell? ⟨W1.heap.size,7,none⟩=some (FQ (lo:Nat)):=fun o q=>EO o _ 7 _ _ _ (kx o q)
 have x8:∀o,Below C.heap.size C o→o.cell? ⟨W1.heap.size,8,none⟩=some (FQ (D:Nat)):=fun o q=>EO o _ 8 _ _ _ (kx o q)
 have y5:∀o,Below C.heap.size C o→o.cell? ⟨w3.heap.size,5,none⟩=some (.slice A (D-lo:Nat) c):=fun o q=>EO o _ 5 _ _ _ (sb E4.out o q)
 have xl:=sl (sb E3.out _ K4.out)
 have yl:=sl E4.out
 have co:(lo:Int)≤D:=by omega
 have cq:(D:Int)≤a.cg:=by omega
 have c9:lo≤D:=by omega
 have cb:D≤a.cg:=by omega
 have cc:¬a.cg=lo:=by omega
 clear kx
 refine HA.g (fun o:World=>Below C.heap.size C o) ?_
 refine HA.t ?_ [0,1,2,3,4,5,6,7,8,9,10,11] q4 ?_
 refine HA.d ?_
 have N:=aa (K4.out.trans (q4.mono K4.out.size))
 have o5:=aq O3.out N.out
 have L5:=bO.out.below N.out
 have Z:=aq bG.out N.out
 have K5:=(K3.out.mono (S':=fun k=>k=l∨k=a.bg) fun k _ e=>.inl e).trans (Keep.below N.out)
 have bb:∀z,A=some z→z.block≠a.bg:=fun z hz e=>by
  rcases o5.2 with ⟨e',_⟩ | ⟨r,_,_,e',hb,_⟩
  ·injection e' with e1;rw [e1] at hz;cases hz
  ·injection e' with e1;rw [e1] at hz;cases hz;exact absurd hb (by simp only at e;omega)
 have bh:∀o,Keep (fun k=>k=a.bg) C.drew o→aD o base l g {s with recv:=s.recv+1}:=fun o k=>by
  refine L5.keep k a8 (fun j hj e=>?_) (fun j _ _ hb e=>by omega)
  subst hj
  obtain ⟨cg,hg⟩:=L5.ringBlk
  exact an hg (by decide) Z (by rw [e];rfl)
 obtain ⟨O5,a6,b7,bV,b8⟩:=ag o5 Z K5 bb bh;clear o5 L5 Z K5 bb bh bM
 cases hadd:B.add with
 | true=>
  rw [hadd] at x1
  obtain ⟨J,bz⟩:=ab hadd (vi a.bg a.cg lo i.start.length A m.G (aG s.msgs s.recv).vals (D-lo) (a.cg-lo) c C.drew a6.out (Rd.own O5.out) I.out (by omega) (by omega) bV.out)
  clear hadd
  go_wp2_with fail
  refine bz.out.mono ?_
  rintro e w6 ⟨rfl,o6,k6⟩
  obtain ⟨O6,L6,K6⟩:=ae o6 (b8.out w6 k6) (b7.out.trans (k6.mono fun k _ e=>.inr e));clear o6 k6 x1 x7 x8 y5 xl yl q4
  go_wp2_with fail
  go_ret
  exact ⟨rfl,K6.out,L6.out,by first | exact O6.out | (rw [J.out];exact O6.out)⟩
 | false=>
  rw [hadd] at x1
  have J:=aa hadd
  obtain ⟨Y,V,b9,bd,b0⟩:=CS a6.out
  have O:(ar .i64 (aG s.msgs s.recv).vals).length=D-lo:=by rw [aK,I.out]
  have L:lo+(ar .i64 (aG s.msgs s.recv).vals).length≤Y.length:=by rw [O];omega
  have U:∀o:World,o.heap[a.bg]?=some (.cells (splice Y lo (ar .i64 (aG s.msgs s.recv).vals)).toArray 2 (0,0))→o.ownsRow 0 2 1 (.slice (some ⟨a.bg,0,none⟩) i.start.length a.cg) i.start.length (ar .i64 (kC m.G lo (aG s.msgs s.recv).vals false)):=fun o hw=>by
   have:=b0 o _ hw (tz L)
   rwa [qU (by rw [O];omega) bd,b9,jh,yG (by rw [I.out,c6.out];omega)] at this
  obtain ⟨b1,bw,ad,b5,bs⟩:=ag V O L U (Rd.own O5.out);clear hadd V b9 bd b0 O L U
  go_wp2_with (refine j6 rfl (.tmp 41) (.tmp 43) 139 26 rfl 2 Tryz.underlying139 (by kernel_rfl) (some ⟨a.bg,lo,none⟩) A (D-lo) (a.cg-lo) c rfl rfl a.bg lo Y 2 b1.out (ar .i64 (aG s.msgs s.recv).vals) bw.out (fun _=>rfl) bs.out ad.out (bj _ _) ?_;intro w6 g6 k6;obtain ⟨O6,L6,K6⟩:=ae (b5.out w6 g6) (b8.out w6 k6) (b7.out.trans (k6.mono fun k _ e=>.inr e));clear g6 k6 x1 x7 x8 y5 xl yl q4)
  go_ret
  exact ⟨rfl,K6.out,L6.out,by first | exact O6.out | (rw [J.out];exact O6.out)⟩
theorem aD.box {w o:World} {base l b:Nat} {g:Option Nat} {s:LSt} (h:aD w base l g s) (k:Keep (fun k=>k=b) w o) (u:l≠b) (x:b<base):aD o base l g s:=
 h.keep k u (fun i v e=>by have:=(h.blocks.2 i v).1;omega) (fun i c _ hb e=>by omega)
theorem aC.setGH {H:Nat→Prop} {w A:World} {b x:Nat} {i:Inp} {a:MAd} {m:Mst} (h:aC H w b i x a m) (hn:∀k,Mut b a k→¬H k) (hk:Keep (fun k=>k=a.bg∨H k) w A) (G:List Int)
  (oG:A.ownsRow 0 2 1 (.slice (some ⟨a.bg,0,none⟩) i.start.length a.cg) i.start.length (ar .i64 G)) (wG:G.length=i.start.length∧W64 G):aC H A b i x a {m with G:=G}:=by
 have he:Ext (aQ (er H b a) w) (aQ (er H b a) A):=dL (hk.mono fun k _ e=>e.imp (fun e=>.inr (.inr (.inr (.inl e)))) id) (fun k _ hS=>hS)
 have nb:b≠a.bg:=fun e=>an h.blk (by decide) h.oG (by rw [e];rfl)
 have hb:=(hk.block b (EL h.blk) (fun e=>e.elim nb (hn b (.inl rfl)))).trans h.blk
 have y:∀{v:Value} {e size n xs},(∀j,v.ownBlock=some j→j≠a.bg∧Mut b a j)→w.ownsRow 0 e size v n xs→A.ownsRow 0 e size v n xs:=fun u y=>hk.own y (fun j o e=>e.elim (u j o).1 (hn j (u j o).2))
 have I:∀{v:Value} {e:TypeId} {size n:Nat} {xs:List Value},e≠2→w.ownsRow 0 e size v n xs→∀j,v.ownBlock=some j→j≠a.bg:=fun u y j o e=>by
  rcases h.oG.2 with ⟨B,_⟩ | ⟨r',_,_,B,_,L,_⟩
  ·cases B
  ·simp only [FD,Option.some.injEq,Addr.mk.injEq] at B
   obtain ⟨⟨Y,_⟩,_⟩:=B
   exact an L (Ne.symm u) y (by rw [o,e,Y])
 obtain ⟨V,a1,Z,O,Q,C,R⟩:=h.pl
 obtain ⟨rows,D,U,J,N⟩:=h.re
 exact ⟨hb,dx h.sh he,gu cz h.ex he,eQ h.sa he,⟨V,a1,Z,O,Q,C,eR R he⟩,aJ h.bu he,aJ h.it he,⟨rows,y (fun j o=>⟨I (by decide) D j o,by cases o;exact .inr (.inr (.inr (.inr (.inl rfl))))⟩) D,U,J,fun j x T=>cz (N j x T) he⟩,
  y (fun j o=>by cases o;exact ⟨h.dj.2.1,.inr (.inl rfl)⟩) h.oP,y (fun j o=>by cases o;exact ⟨h.dj.2.2,.inr (.inr (.inl rfl))⟩) h.oM,oG,y (fun j o=>⟨I (by decide) h.oO j o,.inr (.inr (.inr (.inr (.inr o))))⟩) h.oO,h.dj,fun k _ hm=>hn k hm,h.wP,h.wM,wG,h.ox,h.xw⟩
theorem AY {H:Nat→Prop} {w:World} {b x:Nat} {i:Inp} {a:MAd} {m:Mst} (h:aC H w b i x a m) (hn:∀k,Mut b a k→¬H k) (D:∀k,w.heap.size≤k→¬H k) (hs:bP i) {y:Itm} (hy:(bf i x m.st)[m.nx]?=some y) (hk:y.kind=3) {v:Acn} (a2:y.a=some v) (a3:v.at'.1<v.at'.2) (Y:v.at'.2≤i.start.length) (u:Option Addr)
  {base l:Nat} {g:Option Nat} {s:LSt} (hL:aD w base l g s) (J:s.msgs.length<s.recv+s.cap) (N:s.msgs.length<100000000000) (L:base≤w.heap.size) (I:∀k,cB l g k→H k) (a0:b<base):
  Calls Tryz.prog 216 #[.pointer (some ⟨b,0,none⟩),.pointer u,.pointer (some ⟨l,0,none⟩)] w fun e A=>e=.returned (FQ 0)∧
   Cv (cB l g) b i x a m (fun U A m1=>m1=m∧∃o,(∀k,U k↔H k∨o=some k)∧aD A base l o (s.send ⟨v.tg,(m.G.drop v.at'.1).take (v.at'.2-v.at'.1)⟩)∧(o=g∨∃k,o=some k∧w.heap.size≤k)) w A:=by
 have a1:l≠b:=fun e=>hn b (.inl rfl) (I b (.inl e.symm))
 refine (rX h hn D (G:=cB l g) (fun k e=>?_) hs hy u (some ⟨l,0,none⟩) 226 (fun A=>by rw [hk];kernel_rfl) (fun args w=>by kernel_rfl) (fun _=>False)
  (fun U A m1=>m1=m∧∃o,(∀k,U k↔H k∨o=some k)∧aD A base l o (s.send ⟨v.tg,(m.G.drop v.at'.1).take (v.at'.2-v.at'.1)⟩)∧(o=g∨∃k,o=some k∧w.heap.size≤k)) ?_ (fun A q=>?_)).mono ?_
 ·rcases e with e | e
  ·rw [e];exact hL.blocks.1
  ·exact (hL.blocks.2 k e).2
 ·rintro U w1 w2 m1 ⟨e,o,h1,h2,h3⟩ kk
  exact ⟨e,o,h1,h2.box kk a1 a0,h3⟩
 ·have V:=h.below q hn
  refine (AP V hs.n y v a2 a3 Y u (hL.below q) J N (ES L q.size)).mono ?_
  rintro e a4 ⟨he,O,o,T,R⟩
  have B:∀k,o=some k→H k∨A.heap.size≤k:=fun k e=>by
   rcases R with rfl | ⟨j,e1,Z⟩
   ·exact .inl (I k (.inr e))
   ·rw [e1] at e;cases e;exact .inr Z
  have Q:∀k,Mut b a k→¬(H k∨o=some k):=fun k hm e=>by
   rcases e with e | e
   ·exact hn k hm e
   ·rcases B k e with e | e
    ·exact hn k hm e
    ·have:=V.mlt k hm;omega
  refine .inl ⟨he,fun k=>H k∨o=some k,a,m,V.step (O.mono fun k _ e=>I k e) (fun k hl e=>?_) Q,Q,fun k hl e=>?_,rfl,rfl,O.mono fun k _ e=>.inr e,fun k hm=>.inl hm,⟨rfl,rfl,rfl⟩,rfl,o,fun k=>Iff.rfl,T,?_⟩
  ·rcases e with e | e
   ·exact e
   ·rcases B k e with e | e
    ·exact e
    ·omega
  ·rcases e with e | e
   ·exact D k (ES (ES q.size O.size) hl) e
   ·have:=(T.blocks.2 k e).2;omega
  ·exact R.imp id fun ⟨k,e1,Z⟩=>⟨k,e1,ES q.size Z⟩
 ·rintro e A (⟨he,hd⟩ | ⟨C,_,hF,_⟩)
  ·exact ⟨he,hd⟩
  ·exact hF.elim
theorem A0 {H:Nat→Prop} {w:World} {b x:Nat} {i:Inp} {a:MAd} {m:Mst} (h:aC H w b i x a m) (hn:∀k,Mut b a k→¬H k) (A:∀k,w.heap.size≤k→¬H k) (L:bP i) {y:Itm} (O:(bf i x m.st)[m.nx]?=some y) (hk:y.kind=3) {v:Acn} (D:y.a=some v) (J:v.at'.1<v.at'.2) (I:v.at'.2≤i.start.length) (u:Option Addr)
  {base l:Nat} {g:Option Nat} {s:LSt} (R:aD w base l g s) (o:s.msgs.length=s.recv+s.cap):
  Calls Tryz.prog 216 #[.pointer (some ⟨b,0,none⟩),.pointer u,.pointer (some ⟨l,0,none⟩)] w fun e B=>e=.returned (FQ 11)∧Below w.heap.size w B:=by
 refine (iQ h hn A (G:=fun _=>False) (fun _ h=>h.elim) L O u (some ⟨l,0,none⟩) 226 (fun B=>by rw [hk];kernel_rfl) (fun args w=>by kernel_rfl) (fun C=>C=11) (fun _ _=>False) (fun _ _ _ h _=>h) (fun B q=>?_)).mono ?_
 ·refine (uq (h.below q hn) L.n y v D J I u (R.below q) o).mono ?_
  rintro e Q ⟨he,k⟩
  exact .inr ⟨11,by decide,rfl,he,k⟩
 ·rintro e B (⟨_,_,_,_,_,_,_,_,_,N⟩ | ⟨C,_,T,he,k⟩)
  ·exact N.elim
  ·rw [T] at he;exact ⟨he,k⟩
theorem AZ {H:Nat→Prop} {w:World} {b x:Nat} {i:Inp} {a:MAd} {m:Mst} (h:aC H w b i x a m) (hn:∀k,Mut b a k→¬H k) (D:∀k,w.heap.size≤k→¬H k) (hs:bP i) {y:Itm} (hy:(bf i x m.st)[m.nx]?=some y) (hk:y.kind=4) {o:Acn} (U:y.a=some o) (V:o.at'.1<o.at'.2) (N:o.at'.2≤i.start.length) (v:Option Addr)
  {base l:Nat} {g:Option Nat} {s:LSt} (hL:aD w base l g s) (A:∀k,cB l g k→H k) (O:b<base) (R:a.bg<base) (J:s.recv<s.msgs.length) (L:(aG s.msgs s.recv).tag=o.tg) (B:(aG s.msgs s.recv).vals.length=o.at'.2-o.at'.1) (hw:W64 (aG s.msgs s.recv).vals):
  Calls Tryz.prog 216 #[.pointer (some ⟨b,0,none⟩),.pointer (some ⟨l,0,none⟩),.pointer v] w fun e u=>e=.returned (FQ 0)∧
   s8 H (fun k=>k=l) b i x a m (fun u m1=>m1={m with G:=kC m.G o.at'.1 (aG s.msgs s.recv).vals o.add}∧aD u base l g {s with recv:=s.recv+1}) w u:=by
 have Q:l≠b:=fun e=>hn b (.inl rfl) (A b (.inl e.symm))
 refine (iQ h hn D (G:=fun k=>k=l) (fun k e=>by rw [e];exact hL.blocks.1) hs hy (some ⟨l,0,none⟩) v 227 (fun u=>by rw [hk];kernel_rfl) (fun args w=>by kernel_rfl) (fun _=>False)
  (fun u m1=>m1={m with G:=kC m.G o.at'.1 (aG s.msgs s.recv).vals o.add}∧aD u base l g {s with recv:=s.recv+1}) (fun w1 w2 m1 Y kk=>⟨Y.1,Y.2.box kk Q O⟩) (fun u q=>?_)).mono ?_
 ·have Z:=h.below q hn
  refine (AQ Z hs.n y o U _ _ rfl rfl V N v (hL.below q) R J L B).mono ?_
  rintro e a0 ⟨he,I,T,hG⟩
  exact .inl ⟨he,a,_,Z.setGH hn (I.mono fun k _ e=>e.elim (fun e=>.inr (A k (.inl e))) .inl) _ hG ⟨by rw [sS];exact h.wG.1,sU h.wG.2 hw⟩,rfl,rfl,I.mono fun k _ e=>e.elim .inr (fun e=>.inl (.inr (.inr (.inr (.inl e))))),fun k hm=>.inl hm,⟨rfl,rfl,rfl⟩,rfl,T⟩
 ·rintro e u (⟨he,hd⟩ | ⟨C,_,hF,_⟩)
  ·exact ⟨he,hd⟩
  ·exact hF.elim
theorem nl {H:Nat→Prop} {w:World} {b x:Nat} {i:Inp} {a:MAd} {m:Mst} (h:aC H w b i x a m) (hn:∀k,Mut b a k→¬H k) (B:∀k,w.heap.size≤k→¬H k) (Q:bP i) {y:Itm} (N:(bf i x m.st)[m.nx]?=some y) (hk:y.kind=4) {A:Acn} (J:y.a=some A) (v:Option Addr)
  {base l:Nat} {g:Option Nat} {s:LSt} (R:aD w base l g s) (I:s.recv=s.msgs.length∨(s.recv<s.msgs.length∧(aG s.msgs s.recv).tag≠A.tg)):
  Calls Tryz.prog 216 #[.pointer (some ⟨b,0,none⟩),.pointer (some ⟨l,0,none⟩),.pointer v] w fun e D=>e=.returned (FQ (if s.recv=s.msgs.length then 12 else 10))∧Below w.heap.size w D:=by
 refine (iQ h hn B (G:=fun _=>False) (fun _ h=>h.elim) Q N (some ⟨l,0,none⟩) v 227 (fun D=>by rw [hk];kernel_rfl) (fun args w=>by kernel_rfl) (fun C=>C=if s.recv=s.msgs.length then 12 else 10) (fun _ _=>False) (fun _ _ _ h _=>h) (fun D q=>?_)).mono ?_
 ·refine (AR y A J (some ⟨l,0,none⟩) v (if s.recv=s.msgs.length then 12 else 10) (by split<;>decide) (fun o O=>?_)).mono ?_
  ·have u:=(R.below q).below O
   rcases I with e | ⟨e,ne⟩
   ·rw [if_pos e];exact oE base l g s A.tg o u e
   ·rw [if_neg (by omega)];exact qB base l g s A.tg o u e ne
  ·rintro e o ⟨he,k⟩
   exact .inr ⟨_,by split<;>decide,rfl,he,k⟩
 ·rintro e D (⟨_,_,_,_,_,_,_,_,_,L⟩ | ⟨C,_,T,he,k⟩)
  ·exact L.elim
  ·rw [T] at he;exact ⟨he,k⟩
def jC (i:Inp) (x:Nat) (m:Mst) (y:Itm):Mst:=
 if y.kind=1 then {m with G:=eP i m.P m.G (fF i.data (qx i x y.st y.n))}
 else if y.kind=2 then {m with op:=m.op++[y.n]}
 else if y.kind=5 then
  {m with P:=apP i.cfg.rate i.cfg.mom i.cfg.shift m.P m.M ((m.G.drop (ay (ao i).buks y.n).1).take ((ay (ao i).buks y.n).2-(ay (ao i).buks y.n).1)) (ay (ao i).buks y.n).1 ((ay (ao i).buks y.n).2-(ay (ao i).buks y.n).1),M:=apM i.cfg.mom i.cfg.shift m.M ((m.G.drop (ay (ao i).buks y.n).1).take ((ay (ao i).buks y.n).2-(ay (ao i).buks y.n).1)) (ay (ao i).buks y.n).1 ((ay (ao i).buks y.n).2-(ay (ao i).buks y.n).1),op:=eS m.op y.n}
 else {m with rc:=m.rc++[(m.P,m.M)],G:=List.replicate i.start.length 0}
def Em (m:Mst) (y:Itm):Prop:=(y.kind=1∨y.kind=2∨y.kind=5∨y.kind=6)∧m.op.length≤1000∧(y.kind=5→0<m.op.length)∧(y.kind=6→m.rc.length≤1000)
def bB (n s k:Nat):Nat:=min ((bT n s-k)*s) n
theorem D6 {n s k:Nat} (u:1≤s) (hk:k<bT n s):ay (j0 n s) k=(bB n s (k+1),bB n s k)∧bB n s (k+1)<bB n s k∧bB n s k≤n:=by
 have o:=ft (n:=n) (size:=s) (k:=bT n s-1-k) (by omega)
 have i:bT n s-(k+1)=bT n s-1-k:=by omega
 have h:(bT n s-k)*s=(bT n s-1-k)*s+s:=by
  rw [show bT n s-k=(bT n s-1-k)+1 by omega,FG]
 have hl:k<(j0 n s).length:=by rw [jn];exact hk
 refine ⟨?_,?_,?_⟩
 ·rw [bq _ _ hl]
  simp only [j0,List.getElem_reverse,cY,dA,List.getElem_map,List.getElem_range,List.length_map,List.length_range]
  unfold bB
  rw [i,h]
  simp only [Prod.mk.injEq,and_true]
  omega
 ·unfold bB
  rw [i,h]
  omega
 ·unfold bB
  omega
theorem Dq (n s:Nat) (o:1≤s):bB n s 0=n:=by
 unfold bB bT
 by_cases h:n=0
 ·simp [h]
 ·rw [if_neg h,Nat.sub_zero,FG]
  have i:=Nat.div_add_mod (n-1) s
  have u:=Nat.mod_lt (n-1) (show 0<s from o)
  rw [Nat.mul_comm] at i
  omega
theorem yB (a c:Nat):eS (List.range' a (c+1)) a=List.range' (a+1) c:=by
 unfold eS
 rw [List.range'_succ,List.filter_cons,if_neg (by simp)]
 exact List.filter_eq_self.2 fun j h=>by
  rw [List.mem_range'_1] at h
  simp only [FM]
  omega
theorem rW {H:Nat→Prop} {w:World} {b x:Nat} {i:Inp} {a:MAd} {m:Mst} (h:aC H w b i x a m) (hn:∀k,Mut b a k→¬H k) (o:∀k,w.heap.size≤k→¬H k) (L:bP i) {y:Itm} (C:(bf i x m.st)[m.nx]?=some y) (hk:Em m y)
  (N: -9223372036854775808≤i.cfg.rate∧i.cfg.rate≤9223372036854775807) (R: -9223372036854775808≤i.cfg.mom∧i.cfg.mom≤9223372036854775807) (u v:Option Addr):
  Calls Tryz.prog 216 #[.pointer (some ⟨b,0,none⟩),.pointer u,.pointer v] w fun e D=>e=.returned (FQ 0)∧s8 H (fun _=>False) b i x a m (fun _ m1=>m1=jC i x m y) w D:=by
 obtain ⟨k0,T,k5,k6⟩:=hk
 obtain ⟨h1,Y⟩:=dD C
 have O:=uX C
 have J:=L.ok
 rcases k0 with k | k | k | k
 ·refine (Ba h hn o L C k u v).mono fun e D q=>?_
  have A:jC i x m y={m with G:=eP i m.P m.G (fF i.data (qx i x m.st y.n))}:=by
   unfold jC;rw [if_pos k,O]
  rw [A];exact q
 ·refine (ux h hn o L C k T u v).mono fun e D q=>?_
  have A:jC i x m y={m with op:=m.op++[y.n]}:=by
   unfold jC;rw [if_neg (by omega),if_pos k]
  rw [A];exact q
 ·obtain ⟨g,hg,g1,g2⟩:=yn Y (.inr k)
  obtain ⟨j,U,rfl⟩:=List.getElem_of_mem hg
  have Q:=J.grp U
  rw [bq _ _ U] at Q
  have I:y.n<(ao i).buks.length:=by omega
  have B:=I
  rw [Pln.buks,jn] at B
  obtain ⟨V,b2,Z⟩:=D6 J.bu B
  have hr:ay (ao i).buks y.n=(bB (ao i).n (ao i).bu (y.n+1),bB (ao i).n (ao i).bu y.n):=V
  refine (C0 h hn o L C k u v I (k5 k) T N R _ _ hr b2 Z).mono fun e D q=>?_
  have A:=jC.eq_1 i x m y
  rw [if_neg (by omega),if_neg (by omega),if_pos k,hr] at A
  rw [A];exact q
 ·refine (uv h hn o L C k (k6 k) u v).mono fun e D q=>?_
  have A:jC i x m y={m with rc:=m.rc++[(m.P,m.M)],G:=List.replicate i.start.length 0}:=by
   unfold jC;rw [if_neg (by omega),if_neg (by omega),if_neg (by omega)]
  rw [A];exact q
theorem uE {p:Pln} {x st:Nat} {y:Itm} (h:y∈aw p x st):(y.a=none∧y.kind≠3∧y.kind≠4)∨∃a,y.a=some a∧y.kind=(if a.send then 3 else 4):=by
 unfold aw at h
 simp only [FE,List.mem_map,List.mem_flatMap,List.mem_singleton] at h
 rcases h with (⟨_,_,rfl⟩ | ⟨g,_,h⟩) | rfl
 ·exact .inl ⟨rfl,(fun e=>by cases e),(fun e=>by cases e)⟩
 ·unfold bU at h
  simp only [FE,List.mem_map,List.mem_flatMap] at h
  rcases h with (⟨_,_,rfl⟩ | ⟨_,_,_,_,_,_,h⟩) | ⟨_,_,rfl⟩
  ·exact .inl ⟨rfl,(fun e=>by cases e),(fun e=>by cases e)⟩
  ·unfold aN at h
   obtain ⟨c,_,rfl⟩:=List.mem_map.1 h
   exact .inr ⟨c,rfl,rfl⟩
  ·exact .inl ⟨rfl,(fun e=>by cases e),(fun e=>by cases e)⟩
 ·exact .inl ⟨rfl,(fun e=>by cases e),(fun e=>by cases e)⟩
theorem jp {i:Inp} {x k:Nat} {y:Itm} (h:y∈iY i x k):(y.a=none∧y.kind≠3∧y.kind≠4)∨∃a,y.a=some a∧y.kind=(if a.send then 3 else 4):=by
 unfold iY at h
 obtain ⟨st,_,h⟩:=List.mem_flatMap.1 h
 exact uE h
def sN (i:Inp) (x p:Nat):Nat:=(dU ((de i x).take p)).length
def rN (i:Inp) (x p:Nat):Nat:=(ey ((de i x).take p)).length
def nxW (W x:Nat):Nat:=(x+1)%W
def pvW (W x:Nat):Nat:=(x+W-1)%W
theorem rL {W x:Nat} (h:x<W):nxW W (pvW W x)=x:=by
 unfold nxW pvW
 rw [Nat.mod_add_mod,show x+W-1+1=x+W by omega,Nat.add_mod_right,Nat.mod_eq_of_lt h]
theorem AG {W x:Nat} (h:0<W):nxW W x<W:=Nat.mod_lt _ h
theorem jg {W x:Nat} (h:0<W):pvW W x<W:=Nat.mod_lt _ h
def can (i:Inp) (C:Nat) (pos:Nat→Nat) (x:Nat):Prop:=∃y,(de i x)[pos x]?=some y∧(y.kind=3→sN i x (pos x)<rN i (nxW (ao i).W x) (pos (nxW (ao i).W x))+C)∧(y.kind=4→rN i x (pos x)<sN i (pvW (ao i).W x) (pos (pvW (ao i).W x)))
theorem pb {l:List Itm} {n:Nat} {c:Cor} (h:(dU l)[n]?=some c):∃a∈df l,a.send=true∧a.cor=c:=by
 have:=List.mem_of_getElem? h
 simp only [dU,List.mem_map,List.mem_filter] at this
 obtain ⟨a,⟨i,o⟩,u⟩:=this
 exact ⟨a,i,o,u⟩
theorem pt {l:List Itm} {n:Nat} {c:Cor} (h:(ey l)[n]?=some c):∃a∈df l,a.send=false∧a.cor=c:=by
 have:=List.mem_of_getElem? h
 simp only [ey,List.mem_map,List.mem_filter] at this
 obtain ⟨a,⟨i,o⟩,u⟩:=this
 exact ⟨a,i,by simpa using o,u⟩
theorem fX (l:List Itm) (k:Nat):l=l.take k++l.drop k:=(List.take_append_drop k l).symm
theorem vY {wi:Nat} {l:List Itm} {k:Nat} (o:(df l).Pairwise fun a b=>a.key wi<b.key wi) {r:Acn} (hr:r∈df (l.drop k)):∃y,l[k]?=some y∧∀a,y.a=some a→a.key wi≤r.key wi:=by
 cases hd:l.drop k with
 | nil=>rw [hd] at hr;simp [df] at hr
 | cons y t=>
  refine ⟨y,?_,fun a u=>?_⟩
  ·have:=List.getElem?_drop (xs:=l) (i:=k) (j:=0)
   rw [hd,Nat.add_zero] at this
   exact this.symm
  ·rw [fX l k,eU,List.pairwise_append] at o
   have h:=o.2.1
   rw [hd] at h hr
   have e:df (y::t)=a::df t:=by unfold df;rw [List.filterMap_cons,u]
   rw [e] at h hr
   rcases List.mem_cons.1 hr with rfl | v
   ·exact EM _
   ·exact Nat.le_of_lt ((List.pairwise_cons.1 h).1 r v)
theorem vg {wi:Nat} {l:List Itm} {k:Nat} (h:(df l).Pairwise fun a b=>a.key wi<b.key wi) {y:Itm} {a s:Acn} (v:l[k]?=some y) (u:y.a=some a) (o:s∈df (l.take k)):s.key wi<a.key wi:=by
 rw [fX l k,eU,List.pairwise_append] at h
 refine h.2.2 s o a ?_
 unfold df
 rw [List.mem_filterMap]
 refine ⟨y,?_,u⟩
 have:=List.getElem?_drop (xs:=l) (i:=k) (j:=0)
 rw [Nat.add_zero,v] at this
 exact List.mem_of_getElem? this
theorem rx {l:List Itm} {k:Nat} {y:Itm} {a:Acn} (o:l[k]?=some y) (h:y.a=some a) (x:a.send=false):(ey l)[(ey (l.take k)).length]?=some a.cor:=by
 have v:l.drop k=y::l.drop (k+1):=by
  obtain ⟨u,i⟩:=Fq.1 o
  rw [List.drop_eq_getElem_cons u,i]
 conv=>lhs;rw [fX l k,la]
 rw [Fu (by simp),List.take_append_drop,Nat.sub_self,v]
 unfold ey df
 rw [List.filterMap_cons,h]
 simp [x]
theorem zB {l:List Itm} {k:Nat} {y:Itm} {a:Acn} (o:l[k]?=some y) (h:y.a=some a) (x:a.send=true):(dU l)[(dU (l.take k)).length]?=some a.cor:=by
 have v:l.drop k=y::l.drop (k+1):=by
  obtain ⟨u,i⟩:=Fq.1 o
  rw [List.drop_eq_getElem_cons u,i]
 conv=>lhs;rw [fX l k,js]
 rw [Fu (by simp),List.take_append_drop,Nat.sub_self,v]
 unfold dU df
 rw [List.filterMap_cons,h]
 simp [x]
theorem C5 {i:Inp} (V:aT (ao i)) {C:Nat} (hC:1≤C) (pos:Nat→Nat):∀n x,x<(ao i).W→∀y a,(de i x)[pos x]?=some y→y.a=some a→a.key (ao i).wi=n→∃z,z<(ao i).W∧can i C pos z:=by
 intro n
 induction n using Nat.strongRecOn with
 | _ n ih=>
  intro x hx y a T Y hn
  by_cases v:can i C pos x
  ·exact ⟨x,hx,v⟩
  have hW:0<(ao i).W:=V.W1
  have H:∀z,z<(ao i).W→∀D,(de i z)[pos z]?=some D→(∀B,D.a=some B→B.key (ao i).wi<n)→∃z,z<(ao i).W∧can i C pos z:=fun z I D o hk=>by
   rcases jp (List.mem_of_getElem? o) with ⟨_,h3,h4⟩ | ⟨B,u,_⟩
   ·exact ⟨z,I,D,o,fun e=>absurd e h3,fun e=>absurd e h4⟩
   ·exact ih _ (hk B u) z I D B o u rfl
  rcases jp (List.mem_of_getElem? T) with ⟨h0,_⟩ | ⟨a2,U,hk⟩
  ·rw [Y] at h0;cases h0
  rw [Y] at U
  obtain rfl:a=a2:=Option.some.inj U
  cases hs:a.send with
  | true=>
   rw [hs,if_pos rfl] at hk
   have hb:rN i (nxW (ao i).W x) (pos (nxW (ao i).W x))+C≤sN i x (pos x):=by
    rcases Fa (sN i x (pos x)) (rN i (nxW (ao i).W x) (pos (nxW (ao i).W x))+C) with h | h
    ·exact absurd ⟨y,T,fun _=>h,fun e=>by omega⟩ v
    ·exact h
   have I:=AG (W:=(ao i).W) (x:=x) hW
   generalize hzz:nxW (ao i).W x=z at hb I
   have Q:rN i z (pos z)<(dU ((de i x).take (pos x))).length:=by unfold sN at hb;omega
   obtain ⟨c,hc⟩:∃c,(dU ((de i x).take (pos x)))[rN i z (pos z)]?=some c:=⟨_,Fr Q⟩
   obtain ⟨s,L,N,J⟩:=pb hc
   have a3:=vg (qO V x _) T Y L
   have hr:(ey (de i z))[rN i z (pos z)]?=some c:=by
    rw [←hzz]
    show (ey (iY i ((x+1)%(ao i).W) i.cfg.steps.toNat))[_]?=_
    rw [←kr,fX (iY i x i.cfg.steps.toNat) (pos x),js,hzz,Ft Q]
    exact hc
   have A:(ey ((de i z).drop (pos z)))[0]?=some c:=by
    rw [fX (de i z) (pos z),la,Fu (by unfold rN;simp)] at hr
    simpa [rN] using hr
   obtain ⟨r,a1,Z,a0⟩:=pt A
   obtain ⟨D,o,O⟩:=vY (qO V z _) a1
   refine H z I D o fun B u=>?_
   have h1:=O B u
   have h2:r.key (ao i).wi=2*c.q (ao i).wi+1:=by unfold Acn.key;rw [a0,Z];rfl
   have h3:s.key (ao i).wi=2*c.q (ao i).wi:=by unfold Acn.key;rw [J,N];rfl
   have h4:a.key (ao i).wi=2*a.cor.q (ao i).wi:=by unfold Acn.key;rw [hs];rfl
   omega
  | false=>
   rw [hs] at hk
   have a4:y.kind=4:=hk
   have hb:sN i (pvW (ao i).W x) (pos (pvW (ao i).W x))≤rN i x (pos x):=by
    rcases Fa (rN i x (pos x)) (sN i (pvW (ao i).W x) (pos (pvW (ao i).W x))) with h | h
    ·exact absurd ⟨y,T,fun e=>by omega,fun _=>h⟩ v
    ·exact h
   have I:=jg (W:=(ao i).W) (x:=x) hW
   have R:=rL hx
   generalize pvW (ao i).W x=z at hb I R
   have hr:=rx T Y hs
   have A:(dU (de i z))[rN i x (pos x)]?=some a.cor:=by
    show (dU (iY i z i.cfg.steps.toNat))[_]?=_
    rw [kr,show (z+1)%(ao i).W=x from R]
    exact hr
   rw [fX (de i z) (pos z),js,Fu hb] at A
   obtain ⟨s,L,N,J⟩:=pb A
   obtain ⟨D,o,O⟩:=vY (qO V z _) L
   refine H z I D o fun B u=>?_
   have h1:=O B u
   have h2:s.key (ao i).wi=2*a.cor.q (ao i).wi:=by unfold Acn.key;rw [J,N];rfl
   have h3:a.key (ao i).wi=2*a.cor.q (ao i).wi+1:=by unfold Acn.key;rw [hs];rfl
   omega
theorem EK {i:Inp} (u:aT (ao i)) {C:Nat} (v:1≤C) (pos:Nat→Nat) {x:Nat} (o:x<(ao i).W) (hl:pos x<(de i x).length):∃z,z<(ao i).W∧can i C pos z:=by
 have h:=Fr hl
 rcases jp (List.mem_of_getElem? h) with ⟨_,B,A⟩ | ⟨a,y,_⟩
 ·exact ⟨x,o,_,h,fun e=>absurd e B,fun e=>absurd e A⟩
 ·exact C5 u v pos _ x o _ a h y rfl
end Go.Proofs.YtgmajkppbhiopaaGreat
