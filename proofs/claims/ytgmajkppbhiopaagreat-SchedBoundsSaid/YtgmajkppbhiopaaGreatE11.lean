/- No condition. -/
import Derived.Test.YtgmajkppbhiopaaGreatE10
set_option linter.unusedSimpArgs false
set_option linter.unusedVariables false
set_option maxRecDepth 100000
set_option maxHeartbeats 4000000
namespace Go.Proofs.YtgmajkppbhiopaaGreat
open Go.RowKit
open Tryz
theorem vo (base b:Nat) (g:Option Nat) (s:LSt) (t:Tg) (A:Option Addr) (zs:List Int) (c:Nat) (w:World) (h:aW w base b g s) (a2:s.msgs.length<s.recv+s.cap) (a4:s.msgs.length<s.cap) (a0:s.msgs.length<100000000000)
  (b5:base<=w.heap.size) (hA:Rd w A (aA .i64 zs)) (ab:zs.length<=17592186043904):
  Calls prog 235 #[(au b),.agg #[MO t.a,MO t.b,MO t.c,MO t.d,MO t.e,.slice A zs.length c]] w fun e w'=>e=.returned (MO 0)/\
   ∃g',aW w' base b g' {s with msgs:=s.msgs++[⟨t,zs⟩],peak:=max s.peak (s.msgs.length+1-s.recv)}/\Keep (dL b g) w w'/\(g'=g\/∃k,g'=some k/\w.heap.size<=k):=by
 obtain ⟨t0,t1,t2,t3,t4⟩:=t
 have H:=aa h
 obtain ⟨ok,ring,rows,hc,O,hg,hrl,av,hm⟩:=h
 obtain ⟨RA,rc,rfl,b8⟩:=aD O
 have bi:=ok.cap1
 have bO:=ok.cap2
 have b2:=ok.rs
 have bX:=ok.pk
 have hl:=fun o n=>mN b _ _ _ _ _ _ (show aC ((w.alloc o).drewN n) _ _ _ _ _ _ from hc.alloc o) b2 ap
 obtain ⟨i,a1⟩:∃i,s.msgs.length%s.cap=i:=⟨_,rfl⟩
 obtain ⟨L,hL⟩:∃L,min s.msgs.length s.cap=L:=⟨_,rfl⟩
 rw [hL] at b8 O hrl hc hg
 have c1:=hc.c1
 have hb:=LN hc
 have a9:(((s.msgs.length:Int)-(s.recv:Int))==(s.cap:Int))=false:=by simp;omega
 have a8:=fun W hW=>mp A zs c W hW ab
 obtain ⟨D,hD⟩:∃D:Int,D=(s.msgs.length:Int)-(s.recv:Int):=⟨_,rfl⟩
 rw [<-hD] at a9 hl
 have bN:0<=D/\D<s.cap:=ap
 obtain rfl:i=L:=by rw [<-hL,<-a1,Nat.mod_eq_of_lt a4];omega
 obtain ⟨Hl,U,Hc,I,Hg,a7,b9,Hm⟩:=ak hl ok hc O hg hrl av hm;obtain ⟨b0,HL,bb,HD⟩:=ag a1 hL a8 hD;clear hl hc ok O hg hrl av hm a1 hL a8 hD
 go_enter func235,ntmps235
 go_wp2_with fail
 go_quiet ((go_at_call 104;exact Calls.quiet_of (Hl.o _ _)))
 clear a9
 go_wp2_with fail
 refine (bb.o _ ((hA.alloc _).drewN _)).mono ?_
 rintro e y ⟨v1,rfl,J,V⟩
 obtain ⟨A1,R,rfl,bV⟩:=aD J
 have p:y.heap[w.heap.size]?=some (.cells #[MO t0,MO t1,MO t2,MO t3,MO t4,.slice A zs.length c] 79 (0,0)):=by
  rw [V.block _ (by simp)]
  exact LP w _
 have bI:=LN p
 have p0:y.cell? (ar w.heap.size 0)=some (MO t0):=LQ y _ 0 _ _ _ p
 have p1:y.cell? (ar w.heap.size 1)=some (MO t1):=LQ y _ 1 _ _ _ p
 have p2:y.cell? (ar w.heap.size 2)=some (MO t2):=LQ y _ 2 _ _ _ p
 have p3:y.cell? (ar w.heap.size 3)=some (MO t3):=LQ y _ 3 _ _ _ p
 have p4:y.cell? (ar w.heap.size 4)=some (MO t4):=LQ y _ 4 _ _ _ p
 have p5:y.cell? (ar w.heap.size 5)=some (.slice A zs.length c):=LQ y _ 5 _ _ _ p
 have pf:=fun j=>LX y _ j _ _ p
 have a3:aq w y:=(LY ((LR _ w).alloc (LO _) _) _).trans (V.mono (by simp))
 have x:=Hc.o.same (a3.block b hb)
 have bl:=LN x
 have k0:=x.c0
 have k2:=x.c2
 have k3:=x.c3
 have k4:=x.c4
 have f2:=x.free 2
 have f4:=x.free 4
 have f0:=x.free 0
 have bd:¬(b=w.heap.size):=ap
 have be:¬(w.heap.size=b):=ap
 have aP:=fun W hW=>jB b (.slice RA i rc) s.cap s.msgs.length s.recv s.peak s.msgs.length i W hW U.o.cap1 U.o.cap2 b0.o
 obtain ⟨b1,bo,Q,b4⟩:=ag x V J aP;clear x V J aP p
 go_wp2_with fail
 refine (b4.o _ (b1.o.same (Below.heap_setCell y (ar w.heap.size 5) _ b bd))).mono ?_
 rintro e w2 ⟨rfl,rfl⟩
 have v:=ay I.o (Below.mono a3 (LO _))
 have a5:=aa v;clear v
 have hrb:(Value.slice RA i rc).ownBlock≠some w.heap.size:=fun e=>by have:=(I.o.lt _ e).2;omega
 have aR:=AR Hc.o I.o
 have c7:i<=1048576:=by have:=HL.o;omega
 go_wp2_with fail
 go_region_law ((refine iB j3 rfl (.tmp 47) (.tmp 49) rfl base (.slice RA i rc) i (List.flatten rows) rfl ?_ (some (ar y.heap.size 0)) 1 1 [MO t0,MO t1,MO t2,MO t3,MO t4,.slice A1 zs.length R] rfl ?_ rfl ?_ ?_ ?_ ?_ ?_;((focus (repeat' (first | (with_reducible exact a5.o) | (with_reducible refine World.ownsRow.drew ?_) | (with_reducible refine bT ?_ _) | (with_reducible refine World.ownsRow.alloc ?_ _) | (with_reducible refine (World.ownsRow.stored ?_ _ _).1) | (with_reducible refine ownsRow_setCell_other ?_ ?_ _) | (with_reducible assumption) | (simp [Value.ownBlock];done) | (simp [Value.ownBlock];omega)))));exact Rd.drew (dD _ _ _ _ (by simp));(intro u hu;simp at hu;rcases hu with rfl | rfl | rfl | rfl | rfl | rfl<;>rfl);omega;(unfold maxLen;omega);(simp;omega);(intro A2 c2 w2 v T C Y;have Z:=C.block b (by first | (simp;done) | (simp;omega)) (fun e=>aR e.symm);have B:aC w2 b (.slice RA i rc) s.cap s.msgs.length s.recv s.peak:=(by refine aC.same ?_ Z;(focus (repeat' (first | (with_reducible exact b1.o) | (with_reducible refine aC.drew ?_) | (with_reducible refine aC.drewN ?_ _) | (with_reducible refine aC.alloc ?_ _) | (with_reducible refine aC.set0 (ring:=.slice RA L rc) ?_ _) | (with_reducible refine aC.set2 (sent:=s.msgs.length) ?_ _ _ ?_) | (with_reducible refine aC.set4 (peak:=s.peak) ?_ _ _ ?_) | (with_reducible refine aC.far ?_ _ _ ?_) | omega | (push_cast;omega)))));have bM:=B.c0;have bw:=B.free 0;have bf:=B.c2;have bz:=B.c3;have bA:=B.c4;have bG:=B.free 2;have bh:=B.free 4;obtain ⟨b3,N,aM,ao,aG⟩:=ah T C Y B v;clear T C Y B v Z)))
 all_goals go_wp2_with fail
 all_goals have b7:IntKind.i64.wrap ((s.msgs.length:Int)+1)=(s.msgs.length:Int)+1:=LT _ ap
 all_goals go_region
 all_goals clear b7
 all_goals go_wp2_with fail
 all_goals have b6:0<=(s.recv:Int)/\(s.recv:Int)<=(s.msgs.length:Int)+1/\(s.msgs.length:Int)+1<=17592186043904:=ap
 all_goals go_region_with ((go_at_call 104;refine (xr b ((s.msgs.length:Int)+1) s.recv _ (by simp [go_sem, *]) (by simp [go_sem, *]) b6).mono ?_;rintro e w' ⟨rfl,n',rfl⟩))
 all_goals go_wp2_with fail
 all_goals go_ret
 all_goals
  have bv:=AR ao.o aG.o
  have bn:Keep (dL b g) w y:=Keep.below a3
  have c6:Keep (dL b g) w w2:=Keep.grown (by (focus (repeat' (first | (with_reducible exact Keep.refl _ _) | (with_reducible assumption) | (with_reducible refine Keep.setCell ?_ _ ?_ _) | (with_reducible refine Keep.alloc ?_ _) | (with_reducible refine Keep.drewN ?_ _) | (with_reducible refine Keep.drew ?_) | (with_reducible exact Or.inr (iz _ _)) | (with_reducible exact Or.inr (iy _ _)) | (refine Or.inr ?_;first | rfl | (simp;done) | omega) | (refine Or.inl ?_;first | omega | (simp;done) | (simp;omega)))))) N.o (fun k hk=>.inr (.inr (Hg.o.symm.trans hk)))
  have ad:i+1=min (s.msgs.length+1) s.cap:=by have:=HL.o;omega
  have a6:et (rows++[[MO t0,MO t1,MO t2,MO t3,MO t4,.slice A1 zs.length R]]) i=[MO t0,MO t1,MO t2,MO t3,MO t4,.slice A1 zs.length R]:=by
   rw [<-a7.o];exact jo _ _
  refine ⟨rfl,(Value.slice A2 (i+1) c2).ownBlock,?_,by (focus (repeat' (first | (with_reducible exact Keep.refl _ _) | (with_reducible assumption) | (with_reducible refine Keep.setCell ?_ _ ?_ _) | (with_reducible refine Keep.alloc ?_ _) | (with_reducible refine Keep.drewN ?_ _) | (with_reducible refine Keep.drew ?_) | (with_reducible exact Or.inr (iz _ _)) | (with_reducible exact Or.inr (iy _ _)) | (refine Or.inr ?_;first | rfl | (simp;done) | omega) | (refine Or.inl ?_;first | omega | (simp;done) | (simp;omega))))),?_⟩
  ·refine nd (A1:=A1) (c1:=R) (g:=g) (rows':=rows++[[MO t0,MO t1,MO t2,MO t3,MO t4,.slice A1 zs.length R]]) (ring':=.slice A2 (i+1) c2) U.o Hc.o (HL.o▸I.o) Hg.o Hm.o a2 a0 ⟨t0,t1,t2,t3,t4⟩ zs ab (by (focus (repeat' (first | (with_reducible exact Keep.refl _ _) | (with_reducible assumption) | (with_reducible refine Keep.setCell ?_ _ ?_ _) | (with_reducible refine Keep.alloc ?_ _) | (with_reducible refine Keep.drewN ?_ _) | (with_reducible refine Keep.drew ?_) | (with_reducible exact Or.inr (iz _ _)) | (with_reducible exact Or.inr (iy _ _)) | (refine Or.inr ?_;first | rfl | (simp;done) | omega) | (refine Or.inl ?_;first | omega | (simp;done) | (simp;omega)))))) (P:=max s.peak (s.msgs.length+1-s.recv)) rfl (by (focus (repeat' (first | (with_reducible exact ao.o) | (with_reducible refine aC.drew ?_) | (with_reducible refine aC.drewN ?_ _) | (with_reducible refine aC.alloc ?_ _) | (with_reducible refine aC.set0 (ring:=.slice RA i rc) ?_ _) | (with_reducible refine aC.set2 (sent:=s.msgs.length) ?_ _ _ ?_) | (with_reducible refine aC.set4 (peak:=s.peak) ?_ _ _ ?_) | (with_reducible refine aC.far ?_ _ _ ?_) | omega | (push_cast;omega))))) ?_ rfl ?_ ?_ ?_ ?_ ?_
   ·rw [<-ad,My,List.flatten_cons,List.flatten_nil,List.append_nil]
    (focus (repeat' (first | (with_reducible exact aG.o) | (with_reducible refine World.ownsRow.drew ?_) | (with_reducible refine bT ?_ _) | (with_reducible refine World.ownsRow.alloc ?_ _) | (with_reducible refine (World.ownsRow.stored ?_ _ _).1) | (with_reducible refine ownsRow_setCell_other ?_ ?_ _) | (with_reducible assumption) | (simp [Value.ownBlock];done) | (simp [Value.ownBlock];omega))))
   ·rw [Mo,Mx,a7.o,ad]
   ·intro r hr
    rcases MD.1 hr with hr | hr
    ·exact b9.o r hr
    ·rw [List.mem_singleton.1 hr];rfl
   ·intro j h1 h2
    exact jn _ _ _ (by rw [a7.o,<-HL.o];exact rM h1 h2 ap U.o.cap1)
   ·rw [b0.o];exact a6
   ·have bs:Keep (fun k=>k<=w.heap.size) y w2:=Keep.grown (by (focus (repeat' (first | (with_reducible exact Keep.refl _ _) | (with_reducible assumption) | (with_reducible refine Keep.setCell ?_ _ ?_ _) | (with_reducible refine Keep.alloc ?_ _) | (with_reducible refine Keep.drewN ?_ _) | (with_reducible refine Keep.drew ?_) | (with_reducible exact Or.inr (iz _ _)) | (with_reducible exact Or.inr (iy _ _)) | (refine Or.inr ?_;first | rfl | (simp;done) | omega) | (refine Or.inl ?_;first | omega | (simp;done) | (simp;omega)))))) N.o (fun k hk=>.inr (by have:=(I.o.lt k hk).2;omega))
    refine Keep.own (S:=fun k=>k<=w.heap.size) (w:=y) ?_ (aE Q.o (by simp;omega)) ?_
    ·(focus (repeat' (first | (with_reducible exact Keep.refl _ _) | (with_reducible assumption) | (with_reducible refine Keep.setCell ?_ _ ?_ _) | (with_reducible refine Keep.alloc ?_ _) | (with_reducible refine Keep.drewN ?_ _) | (with_reducible refine Keep.drew ?_) | (with_reducible exact Or.inr (iz _ _)) | (with_reducible exact Or.inr (iy _ _)) | (refine Or.inr ?_;first | rfl | (simp;done) | omega) | (refine Or.inl ?_;first | omega | (simp;done) | (simp;omega)))))
     all_goals (dsimp only;omega)
    ·intro k hk
     have:=(Q.o.lt k hk).1
     simp at this ⊢;omega
  ·rcases aM.o with h1 | h1
   ·exact .inl (h1.trans Hg.o)
   ·exact .inr ⟨_,h1,by simp;omega⟩
def LSt.send (s:LSt) (m:Msg):LSt:={s with msgs:=s.msgs++[m],peak:=max s.peak (s.msgs.length+1-s.recv)}
def LSt.new (c:Nat):LSt:=⟨c,[],0,0⟩
theorem Gg (base b:Nat) (g:Option Nat) (s:LSt) (t:Tg) (A:Option Addr) (zs:List Int) (c:Nat) (w:World) (h:aW w base b g s) (p:s.msgs.length<s.recv+s.cap) (o:s.msgs.length<100000000000)
  (i:base<=w.heap.size) (hA:Rd w A (aA .i64 zs)) (u:zs.length<=17592186043904):
  Calls prog 235 #[(au b),.agg #[MO t.a,MO t.b,MO t.c,MO t.d,MO t.e,.slice A zs.length c]] w fun e x=>e=.returned (MO 0)/\
   ∃v,aW x base b v (s.send ⟨t,zs⟩)/\Keep (dL b g) w x/\(v=g\/∃k,v=some k/\w.heap.size<=k):=by
 rcases Ma s.msgs.length s.cap with hc | hc
 ·exact vo base b g s t A zs c w h p hc o i hA u
 ·exact rQ base b g s t A zs c w h p hc o i hA u
theorem aW.blocks {w:World} {base b:Nat} {g:Option Nat} {s:LSt} (h:aW w base b g s):b<w.heap.size/\∀i,g=some i->base<=i/\i<w.heap.size:=by
 obtain ⟨ok,ring,rows,hc,o,hg,_⟩:=h
 exact ⟨LN hc,fun i p=>o.lt i (hg.trans p)⟩
theorem nJ {w:World} {b v:Nat} {x p:Array Value} {t u:TypeId} (h:w.heap[b]?=some (.cells x t (0,0))) (i:w.heap[v]?=some (.cells p u (0,0))) (o:t≠u):b≠v:=by
 rintro rfl
 rw [h] at i
 injection i with i
 injection i with _ i
 exact o i
theorem aW.blk {w:World} {base b:Nat} {g:Option Nat} {s:LSt} (h:aW w base b g s):∃i,w.heap[b]?=some (.cells i 182 (0,0)):=by
 obtain ⟨ok,ring,rows,hc,_⟩:=h
 exact ⟨_,hc⟩
theorem aW.ringBlk {w:World} {base b i:Nat} {s:LSt} (h:aW w base b (some i) s):∃y,w.heap[i]?=some (.cells y 79 (0,0)):=by
 obtain ⟨ok,ring,rows,hc,o,hg,_⟩:=h
 rcases o.2 with ⟨hn,_⟩ | ⟨x,cap2,v,p,_,u,_⟩
 ·rw [hn] at hg;cases hg
 ·rw [p] at hg
  obtain rfl:x=i:=by simpa [Value.ownBlock] using hg
  exact ⟨_,u⟩
theorem pG:cW prog 150 9:=⟨⟨_,underlying150,rfl⟩,by kernel_rfl⟩
theorem no:cW prog 77 5:=⟨⟨_,underlying77,rfl⟩,by kernel_rfl⟩
def Acn.tg (a:Acn):Tg:=⟨a.st,a.bk,a.ph,a.rd,a.ch⟩
theorem zF {y:Itm} {i:Acn} (h:y.a=some i) {lo o:Nat} (h1:i.at'.1=lo) (p:i.at'.2=o):(bq y).toArray=#[MO (y.kind:Nat),MO (y.st:Nat),MO (y.n:Nat),.bool i.send,.bool i.add,MO (i.st:Nat),MO (i.bk:Nat),MO (i.ph:Nat),MO (i.rd:Nat),MO (i.ch:Nat),MO (lo:Nat),MO (o:Nat)]:=by
 subst h1;subst p
 unfold bq
 rw [h]
 rfl
theorem ug {H:Nat->Prop} {w:World} {b x:Nat} {i:Inp} {a:MAd} {m:Mst} (h:aT H w b i x a m) (a6:i.start.length<=60) (y:Itm) (v:Acn) (Z:y.a=some v) (lo A:Nat) (h1:v.at'.1=lo) (h2:v.at'.2=A) (av:lo<A) (ab:A<=i.start.length) (u l:Option Addr)
  (C:Int) (L:Nat->Prop) (a1:¬L b) (U:∀k,w.heap.size<=k->¬L k) (Q:World->Prop) (B:∀p d,aq w p->Calls prog 235 #[.pointer l,.agg #[MO (v.st:Nat),MO (v.bk:Nat),MO (v.ph:Nat),MO (v.rd:Nat),MO (v.ch:Nat),.slice (some (ar a.bg lo)) (A-lo:Nat) d]] p fun e Y=>e=.returned (MO C)/\Keep L p Y/\Q Y):
  Calls prog 226 #[(au b),.agg (bq y).toArray,.agg #[.pointer u,.pointer l]] w fun e p=>e=.returned (MO C)/\Keep L w p/\Q p:=by
 rw [zF Z h1 h2]
 have I:=h.blk
 have ad:i.start.length<=a.cg:=by
  obtain ⟨_,_,e,h⟩:=aD h.oG
  simp only [MC] at e
  omega
 obtain ⟨W0,W1,T,O,g0,g1,J,a3⟩:=fQ w #[MO (y.kind:Nat),MO (y.st:Nat),MO (y.n:Nat),.bool v.send,.bool v.add,MO (v.st:Nat),MO (v.bk:Nat),MO (v.ph:Nat),MO (v.rd:Nat),MO (v.ch:Nat),MO (lo:Nat),MO (A:Nat)] #[.pointer u,.pointer l] 152 333
 have a0:=sb I _ J
 obtain ⟨a2,a5,V,G0,G1,K1,N⟩:=aj T O a0 g0 g1 J B;clear T O a0 g0 g1 J I h B Z h1 h2 a3
 go_enter func226,ntmps226
 go_upto_region 1 with (fail)
 rw [a2.o,a5.o]
 go_upto_region 2 with (first | (refine aS #[.bool v.send,.bool v.add,MO (v.st:Nat),MO (v.bk:Nat),MO (v.ph:Nat),MO (v.rd:Nat),MO (v.ch:Nat),MO (lo:Nat),MO (A:Nat)] (b:=w.heap.size) G0.o pG rfl rfl rfl rfl ?_) | (refine aJ (LP _ _) pG rfl rfl rfl rfl rfl rfl rfl ?_;intro D e2 k2;obtain ⟨E2,R⟩:=ae e2 (aU k2);clear e2 k2))
 have q2:Keep L D D.drew:=(Keep.refl _ _).drew
 have lx:=LN E2.o
 have kx:=fun p (q:Keep L D p)=>(q.block W1.heap.size lx (U _ K1.o.size)).trans E2.o
 have a4:∀p,Keep L D p->p.cell? (ar b 13)=some (.slice (some (ar a.bg 0)) i.start.length a.cg):=fun p q=>LQ p b 13 _ _ _ ((q.block b (LN (sb V.o _ R.o)) a1).trans (sb V.o _ R.o))
 have s1:∀p,Keep L D p->p.cell? (ar (w.heap.size+1) 1)=some (.pointer l):=fun p q=>LQ p (w.heap.size+1) 1 _ _ _ ((q.block _ (LN (sb G1.o _ R.o)) (U _ ap)).trans (sb G1.o _ R.o))
 have x7:∀p,Keep L D p->p.cell? (ar W1.heap.size 7)=some (MO (lo:Nat)):=fun p q=>LQ p _ 7 _ _ _ (kx p q)
 have x8:∀p,Keep L D p->p.cell? (ar W1.heap.size 8)=some (MO (A:Nat)):=fun p q=>LQ p _ 8 _ _ _ (kx p q)
 have ao:(lo:Int)<=A:=ap
 have aG:(A:Int)<=a.cg:=ap
 have a7:lo<=A:=ap
 have a8:A<=a.cg:=ap
 have a9:¬a.cg=lo:=ap
 obtain ⟨BB,KX⟩:=ae (bt K1.o R.o) kx;clear kx lx
 dsimp only [Act.put]
 refine HA.g (fun p:World=>Keep L D p) ?_
 refine HA.t ?_ [0,1,2] q2 ?_
 refine HA.ld 3 #[MO (v.st:Nat),MO (v.bk:Nat),MO (v.ph:Nat),MO (v.rd:Nat),MO (v.ch:Nat)] (fun p q=>KX.o p q) no q2 ?_
 refine HA.t ?_ [4,5,6,7,8,9,10,11,12,13,14,15] q2 ?_
 refine HA.c 16 (N.o _ (a.cg-lo) BB.o.drew) ?_
 rintro e w3 ⟨rfl,k3,hq⟩
 have q3:=q2.trans k3
 refine ⟨_,rfl,q3,fun _=>?_⟩
 refine HA.t ?_ [17] q3 ?_
 refine HA.d ?_
 have K3:=aa ((Keep.below (S:=L) BB.o).trans q3);clear q2 q3 k3 a4 s1 x7 x8
 go_wp2_with fail
 go_ret
 exact ⟨rfl,K3.o,hq⟩
theorem FO {H:Nat->Prop} {w:World} {b x:Nat} {i:Inp} {a:MAd} {m:Mst} (h:aT H w b i x a m) (C:i.start.length<=60) (y:Itm) (o:Acn) (O:y.a=some o) (Q:o.at'.1<o.at'.2) (N:o.at'.2<=i.start.length) (u:Option Addr)
  {base l:Nat} {g:Option Nat} {s:LSt} (J:aW w base l g s) (p:s.msgs.length<s.recv+s.cap) (A:s.msgs.length<100000000000) (v:base<=w.heap.size):
  Calls prog 226 #[(au b),.agg (bq y).toArray,.agg #[.pointer u,(au l)]] w fun e B=>e=.returned (MO 0)/\Keep (dL l g) w B/\
   ∃D,aW B base l D (s.send ⟨o.tg,(m.G.drop o.at'.1).take (o.at'.2-o.at'.1)⟩)/\(D=g\/∃k,D=some k/\w.heap.size<=k):=by
 obtain ⟨cl,R⟩:=J.blk
 have L:=J.blocks
 refine ug h C y o O _ _ rfl rfl Q N u (some (ar l 0)) 0 (dL l g) ?_ ?_ _ (fun B d q=>?_)
 ·rintro (e | e)
  ·exact nJ h.blk R (by decide) e
  ·subst e
   obtain ⟨cg,hg⟩:=J.ringBlk
   exact nJ h.blk hg (by decide) rfl
 ·rintro k hk (e | e)
  ·omega
  ·have:=(L.2 k e).2;omega
 ·have Z:Rd B (some (ar a.bg o.at'.1)) (aA .i64 ((m.G.drop o.at'.1).take (o.at'.2-o.at'.1))):=by
   have:=((Rd.own (ay h.oG q)).drop o.at'.1).take (o.at'.2-o.at'.1)
   rwa [dm,de,MH] at this
  have I:((m.G.drop o.at'.1).take (o.at'.2-o.at'.1)).length=o.at'.2-o.at'.1:=by rw [Mt,Mw,h.wG.1];omega
  have:=Gg base l g s o.tg (some (ar a.bg o.at'.1)) ((m.G.drop o.at'.1).take (o.at'.2-o.at'.1)) d B (J.below q) p A (LU v q.size) Z ap
  rw [I] at this
  refine this.mono ?_
  rintro e Y ⟨he,D,T,k2,U⟩
  exact ⟨he,k2,D,T,U.imp id fun ⟨k,e1,V⟩=>⟨k,e1,LU q.size V⟩⟩
theorem zt {H:Nat->Prop} {w:World} {b x:Nat} {i:Inp} {a:MAd} {m:Mst} (h:aT H w b i x a m) (v:i.start.length<=60) (y:Itm) (p:Acn) (B:y.a=some p) (C:p.at'.1<p.at'.2) (D:p.at'.2<=i.start.length) (u:Option Addr)
  {base l:Nat} {g:Option Nat} {s:LSt} (I:aW w base l g s) (o:s.msgs.length=s.recv+s.cap):
  Calls prog 226 #[(au b),.agg (bq y).toArray,.agg #[.pointer u,(au l)]] w fun e A=>e=.returned (MO 11)/\aq w A:=by
 refine (ug h v y p B _ _ rfl rfl C D u (some (ar l 0)) 11 (fun _=>False) id (fun _ _ h=>h) (fun _=>True) (fun A d q=>?_)).mono fun e A h=>⟨h.1,h.2.1.toBelow (LO _) (fun _ h=>h.elim)⟩
 exact (sX base l g s _ A (I.below q) o).mono fun e J h=>⟨h.1,Keep.below h.2,trivial⟩
def ta (G:List Int) (lo:Nat) (v:List Int) (add:Bool) (k:Nat):List Int:=dB G.length fun j=>if lo<=j/\j<lo+k then (if add then wrap64 (nth G j+nth v (j-lo)) else nth v (j-lo)) else nth G j
def kh (G:List Int) (lo:Nat) (v:List Int) (add:Bool):List Int:=ta G lo v add v.length
section
variable (G:List Int) (lo:Nat) (v:List Int) (add:Bool)
theorem sF (k:Nat):(ta G lo v add k).length=G.length:=cC _ _
theorem pq:(kh G lo v add).length=G.length:=cC _ _
theorem uz:ta G lo v add 0=G:=(fv rfl fun k _=>by rw [if_neg ap]).symm
theorem pd {k j:Nat} (h:j<G.length):nth (ta G lo v add k) j=if lo<=j/\j<lo+k then (if add then wrap64 (nth G j+nth v (j-lo)) else nth v (j-lo)) else nth G j:=bS _ h
theorem xX {k:Nat} (hk:lo+k<G.length):(ta G lo v add k).set (lo+k) (if add then wrap64 (nth G (lo+k)+nth v k) else nth v k)=ta G lo v add (k+1):=by
 refine iU (by simp [sF]) fun j i=>?_
 rw [List.length_set,sF] at i
 rw [ix,pd _ _ _ _ i,pd _ _ _ _ i,sF]
 by_cases h1:j=lo+k
 ·subst h1
  rw [if_pos (show lo+k=lo+k/\lo+k<G.length from LW rfl hk),if_pos (show lo<=lo+k/\lo+k<lo+(k+1) by omega),Nat.add_sub_cancel_left]
 ·rw [if_neg (show ¬(j=lo+k/\lo+k<G.length) from fun h=>h1 h.1)]
  by_cases o:lo<=j/\j<lo+k
  ·rw [if_pos o,if_pos (show lo<=j/\j<lo+(k+1) by omega)]
  ·rw [if_neg o,if_neg (show ¬(lo<=j/\j<lo+(k+1)) by omega)]
end
theorem sG {G v:List Int} {lo:Nat} {add:Bool} (o:W64 G) (i:W64 v):W64 (kh G lo v add):=fx fun k hk=>by
 split
 ·rename_i h
  split
  ·unfold wrap64;omega
  ·exact i _ ap
 ·exact o k hk
theorem DO {G v:List Int} {lo:Nat} (h:lo+v.length<=G.length):splice G lo v=kh G lo v false:=by
 unfold splice kh ta
 refine fv (by simp only [Mo,Mt,Mw];omega) fun k hk=>?_
 rw [if_neg (show ¬(false=true) by decide)]
 by_cases h1:k<lo
 ·rw [if_neg ap]
  simp only [nth,List.getD_eq_getElem?_getD]
  rw [Mr (by rw [Mt];omega),List.getElem?_take,if_pos h1]
 ·by_cases i:k<lo+v.length
  ·rw [if_pos ⟨by omega,i⟩]
   simp only [nth,List.getD_eq_getElem?_getD]
   rw [Ms (by rw [Mt];omega),Mt,Mr ap]
   congr 2;omega
  ·rw [if_neg ap]
   simp only [nth,List.getD_eq_getElem?_getD]
   rw [Ms (by rw [Mt];omega),Mt,Ms ap,List.getElem?_drop]
   congr 2;omega
theorem HE {G v:List Int} (h:v.length=G.length):kh G 0 v true=fj G v:=by
 unfold kh ta fj
 refine eK fun k hk=>?_
 rw [if_pos (show 0<=k/\k<0+v.length by omega),if_pos rfl,Nat.sub_zero]
theorem Ag (g c lo n:Nat) (B:Option Addr) (xs ys:List Int) (L Q d:Nat) (w:World) (h:w.ownsRow 0 2 1 (.slice (some (ar g 0)) n c) n (aA .i64 xs)) (hB:Rd w B (aA .i64 ys)) (hl:ys.length=L) (hn:lo+L<=n) (hm:n<=17592186043904)
  (y:∀b,B=some b->b.block≠g):
  Calls prog 234 #[.slice (some (ar g lo)) L Q,.slice B L d] w fun e J=>e=.returned (.bool true)/\J.ownsRow 0 2 1 (.slice (some (ar g 0)) n c) n (aA .i64 (kh xs lo ys true))/\Keep (fun i=>i=g) w J:=by
 have x:=jX h
 unfold kh
 rw [hl]
 obtain ⟨Y,R,Hn,T,Z⟩:=ah h hB x hl y;clear h hB x hl y
 go_enter func234,ntmps234
 go_wp2_with fail
 go_loopw [13] (fun i wr=>∃k:Nat,k<=L/\i=MO k/\wr.ownsRow 0 2 1 (.slice (some (ar g 0)) n c) n (aA .i64 (ta xs lo ys true k))/\Keep (fun i=>i=g) w wr) (fun i _=>L-(intOf i).toNat)
 case atStart=>exact ⟨0,LS _,rfl,by rw [uz];exact Y.o,Keep.refl _ _⟩
 case round=>
  obtain ⟨k,hk,rfl,h,A⟩:=hrel
  by_cases C:k<L
  ·have hg:=(h.lt g rfl).2
   have v:lo+k<xs.length:=by rw [Hn.o];omega
   have V:=cE h (show lo+k<n by omega)
   rw [pd _ _ _ _ v,if_neg ap] at V
   have f1:=h.frozenAt (lo+k)
   obtain ⟨N,U,rfl,O⟩:=R.o.num (show k<ys.length by rw [T.o];exact C)
   have I:N≠g:=Z.o _ rfl
   have p2:wr.cell? (ar N (U+k))=some (MO (nth ys k)):=A.cell O I
   have p:=xX xs lo ys true v
   rw [if_pos rfl] at p
   obtain ⟨H,u,D⟩:=af A h p;clear A h p v O
   go_wp2_with fail
   go_region
   all_goals go_wp2_with fail
   all_goals
    go_roundw
    case rel=>
     refine ⟨k+1,by omega,by go_num,?_,?_⟩
     ·rw [<-D.o];exact dS (bT u.o 1) (lo+k) _
     ·exact Keep.setCell (H.o.drewN 1) (ar g (lo+k)) (.inr rfl) _
    case measure=>simp [intOf];omega
  ·obtain rfl:k=L:=ap
   obtain ⟨H,u⟩:=ae A h;clear A h
   go_wp2_with fail
   go_ret
   exact ⟨rfl,u.o,H.o⟩
theorem uY:cW prog 79 6:=⟨⟨_,underlying79,rfl⟩,by kernel_rfl⟩
theorem vJ {α:Type} {i p:List α} {lo n:Nat} (h:lo+p.length<=n) (hn:n<=i.length):(splice i lo p).take n=splice (i.take n) lo p:=by
 unfold splice
 have o:lo<=n:=ap
 rw [List.take_append,List.take_append,List.take_take,Mt,List.take_take,List.drop_take,Nat.min_eq_right o,Nat.min_eq_left o,Nat.min_eq_left (show lo<=i.length by omega),List.take_of_length_le (show p.length<=n-lo by omega),Nat.sub_sub]
theorem yx {α:Type} {i o:List α} {lo:Nat} (h:lo+o.length<=i.length):(splice i lo o).length=i.length:=by
 unfold splice;simp only [Mo,Mt,Mw];omega
theorem I6 {w:World} {base:Nat} {e:TypeId} {g n cap:Nat} {xs:List Value} (h:w.ownsRow base e 1 (.slice (some (ar g 0)) n cap) n xs):
  ∃o:List Value,w.heap[g]?=some (.cells o.toArray e (0,0))/\o.take n=xs/\n<=o.length/\∀(p:World) (i:List Value),p.heap[g]?=some (.cells (List.toArray i) e (0,0))->i.length=o.length->p.ownsRow base e 1 (.slice (some (ar g 0)) n cap) n (i.take n):=by
 rcases h.2 with ⟨B,_⟩ | ⟨C,v,o,u,hb,hg,h1,y,hs,x⟩
 ·cases B
 ·simp only [MC,Option.some.injEq,Addr.mk.injEq,and_true,true_and] at u
  obtain ⟨rfl,rfl⟩:=u
  rw [Nat.mul_one] at hs x
  have hl:o.toList.length=cap:=by simpa using hs
  refine ⟨o.toList,by simpa using hg,by simpa using x,by omega,fun p i hw A=>⟨by rw [Mt];omega,.inr ⟨g,cap,i.toArray,rfl,hb,hw,h1,y,?_,?_⟩⟩⟩
  ·simp;omega
  ·simp
theorem FR {w:World} {b:Nat} (y:Itm) (h:Acn) (H:y.a=some h) (u v:Option Addr) (C:Int) (hC:C≠0)
  (p:∀i,aq w i->Calls prog 236 #[.pointer u,.agg #[MO (h.st:Nat),MO (h.bk:Nat),MO (h.ph:Nat),MO (h.rd:Nat),MO (h.ch:Nat)]] i fun e T=>e=.returned (.tuple #[.agg MW,MO C])/\aq i T):
  Calls prog 227 #[(au b),.agg (bq y).toArray,.agg #[.pointer u,.pointer v]] w fun e i=>e=.returned (MO C)/\aq w i:=by
 obtain ⟨lo,h1⟩:∃lo,h.at'.1=lo:=⟨_,rfl⟩
 obtain ⟨I,U⟩:∃I,h.at'.2=I:=⟨_,rfl⟩
 rw [zF H h1 U]
 obtain ⟨W0,W1,B,A,Y,g1,D,O⟩:=fQ w #[MO (y.kind:Nat),MO (y.st:Nat),MO (y.n:Nat),.bool h.send,.bool h.add,MO (h.st:Nat),MO (h.bk:Nat),MO (h.ph:Nat),MO (h.rd:Nat),MO (h.ch:Nat),MO (lo:Nat),MO (I:Nat)] #[.pointer u,.pointer v] 152 333
 obtain ⟨N,R,G0,G1,K1,x⟩:=ai B A Y g1 D p;clear B A Y g1 D p H h1 U O
 go_enter func227,ntmps227
 go_upto_region 1 with (fail)
 rw [N.o,R.o]
 go_upto_region 2 with (first | (refine aS #[.bool h.send,.bool h.add,MO (h.st:Nat),MO (h.bk:Nat),MO (h.ph:Nat),MO (h.rd:Nat),MO (h.ch:Nat),MO (lo:Nat),MO (I:Nat)] (b:=w.heap.size) G0.o pG rfl rfl rfl rfl ?_) | (refine aJ (LP _ _) pG rfl rfl rfl rfl rfl rfl rfl ?_;intro J Z k2;obtain ⟨E2,L⟩:=ae Z (aU k2);clear Z k2))
 have q2:=br J
 have B2:=aa (bt K1.o L.o)
 have s0:∀i,aq J i->i.cell? (ar (w.heap.size+1) 0)=some (.pointer u):=fun i q=>LQ i (w.heap.size+1) 0 _ _ _ (sb (sb G1.o _ L.o) i q)
 have Q:=fun i (q:aq J i)=>LV (LN (sb G1.o _ L.o)) q.size
 go_wp2_with (refine aS #[MO (h.st:Nat),MO (h.bk:Nat),MO (h.ph:Nat),MO (h.rd:Nat),MO (h.ch:Nat)] (b:=W1.heap.size) E2.o no rfl rfl rfl rfl ?_)
 refine (x.o J B2.o).mono ?_
 rintro e w3 ⟨rfl,V⟩
 have a0:(C != 0)=true:=by rw [bne_iff_ne];exact hC
 have B3:=aa (bt B2.o V);clear q2 s0 Q V
 go_wp2_with (refine aJ (LP _ _) uY rfl rfl rfl rfl rfl rfl rfl ?_;intro W4 e4 k4;have K4:=aa (bt B3.o (aU k4));clear e4 k4)
 go_ret
 exact ⟨rfl,K4.o⟩
theorem FQ {H:Nat->Prop} {w:World} {b x:Nat} {i:Inp} {a:MAd} {m:Mst} (h:aT H w b i x a m) (bA:i.start.length<=60) (y:Itm) (B:Acn) (a5:y.a=some B) (lo C:Nat) (h1:B.at'.1=lo) (h2:B.at'.2=C) (bO:lo<C) (bV:C<=i.start.length) (v:Option Addr)
  {base l:Nat} {g:Option Nat} {s:LSt} (hL:aW w base l g s) (c6:a.bg<base) (bb:s.recv<s.msgs.length) (ao:(aK s.msgs s.recv).tag=B.tg) (R:(aK s.msgs s.recv).vals.length=C-lo):
  Calls prog 227 #[(au b),.agg (bq y).toArray,.agg #[(au l),.pointer v]] w fun e p=>e=.returned (MO 0)/\Keep (fun k=>k=l\/k=a.bg) w p/\
   aW p base l g {s with recv:=s.recv+1}/\p.ownsRow 0 2 1 (.slice (some (ar a.bg 0)) i.start.length a.cg) i.start.length (aA .i64 (kh m.G lo (aK s.msgs s.recv).vals B.add)):=by
 rw [zF a5 h1 h2]
 have T:=h.blk
 obtain ⟨cl,Q⟩:=hL.blk
 have bN:i.start.length<=a.cg:=by
  obtain ⟨_,_,e,h⟩:=aD h.oG
  simp only [MC] at e
  omega
 have b6:b≠l:=nJ h.blk Q (by decide)
 have a8:l≠a.bg:=fun e=>ax Q (by decide) h.oG (by rw [e];rfl)
 have a3:=h.wG.1
 have b7:=h.blk
 obtain ⟨u,hu⟩:∃u,(some (ar l 0):Option Addr)=u:=⟨_,rfl⟩
 simp only [au];rw [show (some (⟨l,0,none⟩:Addr))=u from hu]
 obtain ⟨W0,W1,av,a0,g0,g1,a2,b8⟩:=fQ w #[MO (y.kind:Nat),MO (y.st:Nat),MO (y.n:Nat),.bool B.send,.bool B.add,MO (B.st:Nat),MO (B.bk:Nat),MO (B.ph:Nat),MO (B.rd:Nat),MO (B.ch:Nat),MO (lo:Nat),MO (C:Nat)] #[.pointer u,.pointer v] 152 333
 rw [<-hu] at g1 a0
 rw [<-hu]
 have b5:=sb T _ a2
 obtain ⟨bv,bn,aM,G0,G1,K1,HM,HL⟩:=ak av a0 b5 g0 g1 a2 h hL;obtain ⟨bz,D,bX,bw⟩:=ag ao R Q a3;clear av a0 b5 g0 g1 a2 T b7 h hL a5 h1 h2 b8 hu ao R Q a3
 go_enter func227,ntmps227
 go_upto_region 1 with (fail)
 rw [bv.o,bn.o]
 go_upto_region 2 with (first | (refine aS #[.bool B.send,.bool B.add,MO (B.st:Nat),MO (B.bk:Nat),MO (B.ph:Nat),MO (B.rd:Nat),MO (B.ch:Nat),MO (lo:Nat),MO (C:Nat)] (b:=w.heap.size) G0.o pG rfl rfl rfl rfl ?_) | (refine aJ (LP _ _) pG rfl rfl rfl rfl rfl rfl rfl ?_;intro W2 e2 k2;obtain ⟨E2,K2⟩:=ae e2 (aU k2);clear e2 k2))
 have B2:=aa (bt K1.o K2.o)
 have a1:=xp base l g s B.tg W2 (HL.o.below B2.o) bb bz.o
 rw [D.o] at a1
 have a4:=aa a1
 have s0:W2.cell? (ar (w.heap.size+1) 0)=some ((au l)):=LQ W2 (w.heap.size+1) 0 _ _ _ (sb G1.o _ K2.o)
 clear a1
 go_wp2_with (refine aS #[MO (B.st:Nat),MO (B.bk:Nat),MO (B.ph:Nat),MO (B.rd:Nat),MO (B.ch:Nat)] (b:=W1.heap.size) E2.o no rfl rfl rfl rfl ?_)
 refine a4.o.mono ?_
 rintro e w3 ⟨A,c,rfl,o3,L3,k3⟩
 have bf:l≠W1.heap.size:=by have:=HL.o.blocks.1;have:=K1.o.size;omega
 have e3:=(k3.block W1.heap.size (LN E2.o) (fun e=>bf e.symm)).trans E2.o
 have b3:=(k3.block b (LN (sb aM.o _ K2.o)) b6).trans (sb aM.o _ K2.o)
 have a7:=k3.own (ay HM.o.oG B2.o) (fun j hj e=>a8 (by cases hj;exact e.symm))
 obtain ⟨O3,bo,K3,E3,bi,bh⟩:=ai o3 L3 ((Keep.below (S:=fun k=>k=l) B2.o).trans k3) e3 b3 a7;clear o3 L3 k3 e3 b3 a7 s0 a4
 go_upto_region 5 with (refine aJ (LP _ _) uY rfl rfl rfl rfl rfl rfl rfl ?_;intro L e4 k4;obtain ⟨E4,K4⟩:=ae e4 (aU k4);clear e4 k4)
 have q4:=(br L).drew
 have kx:=fun p (q:aq L p)=>sb (sb E3.o _ K4.o) p q
 have bl:∀p,aq L p->p.cell? (ar b 13)=some (.slice (some (ar a.bg 0)) i.start.length a.cg):=fun p q=>LQ p b 13 _ _ _ (sb (sb bi.o _ K4.o) p q)
 have x1:∀p,aq L p->p.cell? (ar W1.heap.size 1)=some (.bool B.add):=fun p q=>LQ p _ 1 _ _ _ (kx p q)
 have x7:∀p,aq L p->p.cell? (ar W1.heap.size 7)=some (MO (lo:Nat)):=fun p q=>LQ p _ 7 _ _ _ (kx p q)
 have x8:∀p,aq L p->p.cell? (ar W1.heap.size 8)=some (MO (C:Nat)):=fun p q=>LQ p _ 8 _ _ _ (kx p q)
 have y5:∀p,aq L p->p.cell? (ar w3.heap.size 5)=some (.slice A (C-lo:Nat) c):=fun p q=>LQ p _ 5 _ _ _ (sb E4.o p q)
 have xl:=sl (sb E3.o _ K4.o)
 have yl:=sl E4.o
 have c7:(lo:Int)<=C:=ap
 have c8:(C:Int)<=a.cg:=ap
 have bG:lo<=C:=ap
 have bI:C<=a.cg:=ap
 have bM:¬a.cg=lo:=ap
 clear kx
 refine HA.g (fun p:World=>aq L p) ?_
 refine HA.t ?_ [0,1,2,3,4,5,6,7,8,9,10,11] q4 ?_
 refine HA.d ?_
 have N:=aa (K4.o.trans (q4.mono K4.o.size))
 have o5:=ay O3.o N.o
 have L5:=bo.o.below N.o
 have Z:=ay bh.o N.o
 have K5:=(K3.o.mono (S':=fun k=>k=l\/k=a.bg) fun k _ e=>.inl e).trans (Keep.below N.o)
 have b1:∀z,A=some z->z.block≠a.bg:=fun z hz e=>by
  rcases o5.2 with ⟨e',_⟩ | ⟨r,_,_,e',hb,_⟩
  ·injection e' with e1;rw [e1] at hz;cases hz
  ·injection e' with e1;rw [e1] at hz;cases hz;exact absurd hb (by simp only at e;omega)
 have b4:∀p,Keep (fun k=>k=a.bg) L.drew p->aW p base l g {s with recv:=s.recv+1}:=fun p k=>by
  refine L5.keep k a8 (fun j hj e=>?_) (fun j _ _ hb e=>ap)
  subst hj
  obtain ⟨cg,hg⟩:=L5.ringBlk
  exact ax hg (by decide) Z (by rw [e];rfl)
 obtain ⟨O5,a6,aP,bs,aR⟩:=ah o5 Z K5 b1 b4;clear o5 L5 Z K5 b1 b4 bl
 cases hadd:B.add with
 | true=>
  rw [hadd] at x1
  obtain ⟨I,be⟩:=ae hadd (Ag a.bg a.cg lo i.start.length A m.G (aK s.msgs s.recv).vals (C-lo) (a.cg-lo) c L.drew a6.o (Rd.own O5.o) D.o ap ap bs.o)
  clear hadd
  go_wp2_with fail
  refine be.o.mono ?_
  rintro e w6 ⟨rfl,o6,k6⟩
  obtain ⟨O6,L6,K6⟩:=af o6 (aR.o w6 k6) (aP.o.trans (k6.mono fun k _ e=>.inr e));clear o6 k6 x1 x7 x8 y5 xl yl q4
  go_wp2_with fail
  go_ret
  exact ⟨rfl,K6.o,L6.o,by first | exact O6.o | (rw [I.o];exact O6.o)⟩
 | false=>
  rw [hadd] at x1
  have I:=aa hadd
  obtain ⟨Y,V,b0,b2,ab⟩:=I6 a6.o
  have O:(aA .i64 (aK s.msgs s.recv).vals).length=C-lo:=by rw [bU,D.o]
  have J:lo+(aA .i64 (aK s.msgs s.recv).vals).length<=Y.length:=by rw [O];omega
  have U:∀p:World,p.heap[a.bg]?=some (.cells (splice Y lo (aA .i64 (aK s.msgs s.recv).vals)).toArray 2 (0,0))->p.ownsRow 0 2 1 (.slice (some (ar a.bg 0)) i.start.length a.cg) i.start.length (aA .i64 (kh m.G lo (aK s.msgs s.recv).vals false)):=fun p hw=>by
   have:=ab p _ hw (yx J)
   rwa [vJ (by rw [O];omega) b2,b0,mb,DO (by rw [D.o,bw.o];omega)] at this
  obtain ⟨ad,bd,a9,aG,b9⟩:=ah V O J U (Rd.own O5.o);clear hadd V b0 b2 ab O J U
  go_wp2_with (refine nS rfl (.tmp 41) (.tmp 43) 139 26 rfl 2 underlying139 (by kernel_rfl) (some (ar a.bg lo)) A (C-lo) (a.cg-lo) c rfl rfl a.bg lo Y 2 ad.o (aA .i64 (aK s.msgs s.recv).vals) bd.o (fun _=>rfl) b9.o a9.o (cG _ _) ?_;intro w6 g6 k6;obtain ⟨O6,L6,K6⟩:=af (aG.o w6 g6) (aR.o w6 k6) (aP.o.trans (k6.mono fun k _ e=>.inr e));clear g6 k6 x1 x7 x8 y5 xl yl q4)
  go_ret
  exact ⟨rfl,K6.o,L6.o,by first | exact O6.o | (rw [I.o];exact O6.o)⟩
theorem aW.box {w o:World} {base l b:Nat} {g:Option Nat} {s:LSt} (h:aW w base l g s) (k:Keep (fun k=>k=b) w o) (h1:l≠b) (u:b<base):aW o base l g s:=
 h.keep k h1 (fun i p e=>by have:=(h.blocks.2 i p).1;omega) (fun i c _ hb e=>ap)
theorem aT.setGH {H:Nat->Prop} {w y:World} {b x:Nat} {i:Inp} {a:MAd} {m:Mst} (h:aT H w b i x a m) (hn:∀k,Mut b a k->¬H k) (hk:Keep (fun k=>k=a.bg\/H k) w y) (G:List Int)
  (oG:y.ownsRow 0 2 1 (.slice (some (ar a.bg 0)) i.start.length a.cg) i.start.length (aA .i64 G)) (wG:G.length=i.start.length/\W64 G):aT H y b i x a {m with G:=G}:=by
 have he:Ext (aF (fT H b a) w) (aF (fT H b a) y):=bE (hk.mono fun k _ e=>e.imp (fun e=>.inr (.inr (.inr (.inl e)))) id) (fun k _ Y=>Y)
 have nb:b≠a.bg:=fun e=>ax h.blk (by decide) h.oG (by rw [e];rfl)
 have hb:=(hk.block b (LN h.blk) (fun e=>e.elim nb (hn b (.inl rfl)))).trans h.blk
 have u:∀{v:Value} {e size n xs},(∀j,v.ownBlock=some j->j≠a.bg/\Mut b a j)->w.ownsRow 0 e size v n xs->y.ownsRow 0 e size v n xs:=fun p u=>hk.own u (fun j o e=>e.elim (p j o).1 (hn j (p j o).2))
 have D:∀{v:Value} {e:TypeId} {size n:Nat} {xs:List Value},e≠2->w.ownsRow 0 e size v n xs->∀j,v.ownBlock=some j->j≠a.bg:=fun p u j o e=>by
  rcases h.oG.2 with ⟨A,_⟩ | ⟨Z,_,_,A,_,hg,_⟩
  ·cases A
  ·simp only [MC,Option.some.injEq,Addr.mk.injEq] at A
   obtain ⟨⟨U,_⟩,_⟩:=A
   exact ax hg (Ne.symm p) u (by rw [o,e,U])
 obtain ⟨T,a1,V,L,N,B,O⟩:=h.pl
 obtain ⟨rows,C,R,I,J⟩:=h.re
 exact ⟨hb,fl h.sh he,eA cJ h.ex he,gE h.sa he,⟨T,a1,V,L,N,B,gF O he⟩,aV h.bu he,aV h.it he,⟨rows,u (fun j o=>⟨D (by decide) C j o,by cases o;exact .inr (.inr (.inr (.inr (.inl rfl))))⟩) C,R,I,fun j x Q=>cJ (J j x Q) he⟩,
  u (fun j o=>by cases o;exact ⟨h.dj.2.1,.inr (.inl rfl)⟩) h.oP,u (fun j o=>by cases o;exact ⟨h.dj.2.2,.inr (.inr (.inl rfl))⟩) h.oM,oG,u (fun j o=>⟨D (by decide) h.oO j o,.inr (.inr (.inr (.inr (.inr o))))⟩) h.oO,h.dj,fun k _ hm=>hn k hm,h.wP,h.wM,wG,h.ox,h.xw⟩
theorem FX {H:Nat->Prop} {w:World} {b x:Nat} {i:Inp} {a:MAd} {m:Mst} (h:aT H w b i x a m) (hn:∀k,Mut b a k->¬H k) (B:∀k,w.heap.size<=k->¬H k) (hs:cK i) {y:Itm} (hy:(cR i x m.st)[m.nx]?=some y) (hk:y.kind=3) {p:Acn} (a2:y.a=some p) (a3:p.at'.1<p.at'.2) (Y:p.at'.2<=i.start.length) (u:Option Addr)
  {base l:Nat} {g:Option Nat} {s:LSt} (V:aW w base l g s) (I:s.msgs.length<s.recv+s.cap) (L:s.msgs.length<100000000000) (J:base<=w.heap.size) (D:∀k,dL l g k->H k) (a0:b<base):
  Calls prog 216 #[(au b),.pointer u,(au l)] w fun e v=>e=.returned (MO 0)/\
   ID (dL l g) b i x a m (fun T v m1=>m1=m/\∃o,(∀k,T k↔H k\/o=some k)/\aW v base l o (s.send ⟨p.tg,(m.G.drop p.at'.1).take (p.at'.2-p.at'.1)⟩)/\(o=g\/∃k,o=some k/\w.heap.size<=k)) w v:=by
 have a1:l≠b:=fun e=>hn b (.inl rfl) (D b (.inl e.symm))
 refine (xn h hn B (G:=dL l g) (fun k e=>?_) hs hy u (some (ar l 0)) 226 (fun v=>by rw [hk];kernel_rfl) (fun args w=>by kernel_rfl) (fun _=>False)
  (fun T v m1=>m1=m/\∃o,(∀k,T k↔H k\/o=some k)/\aW v base l o (s.send ⟨p.tg,(m.G.drop p.at'.1).take (p.at'.2-p.at'.1)⟩)/\(o=g\/∃k,o=some k/\w.heap.size<=k)) ?_ (fun v q=>?_)).mono ?_
 ·rcases e with e | e
  ·rw [e];exact V.blocks.1
  ·exact (V.blocks.2 k e).2
 ·rintro T w1 w2 m1 ⟨e,o,h1,h2,h3⟩ kk
  exact ⟨e,o,h1,h2.box kk a1 a0,h3⟩
 ·have U:=h.below q hn
  refine (FO U hs.n y p a2 a3 Y u (V.below q) I L (LU J q.size)).mono ?_
  rintro e a4 ⟨he,N,o,R,Q⟩
  have A:∀k,o=some k->H k\/v.heap.size<=k:=fun k e=>by
   rcases Q with rfl | ⟨j,e1,Z⟩
   ·exact .inl (D k (.inr e))
   ·rw [e1] at e;cases e;exact .inr Z
  have O:∀k,Mut b a k->¬(H k\/o=some k):=fun k hm e=>by
   rcases e with e | e
   ·exact hn k hm e
   ·rcases A k e with e | e
    ·exact hn k hm e
    ·have:=U.mlt k hm;omega
  refine .inl ⟨he,fun k=>H k\/o=some k,a,m,U.step (N.mono fun k _ e=>D k e) (fun k hl e=>?_) O,O,fun k hl e=>?_,rfl,rfl,N.mono fun k _ e=>.inr e,fun k hm=>.inl hm,⟨rfl,rfl,rfl⟩,rfl,o,fun k=>Iff.rfl,R,?_⟩
  ·rcases e with e | e
   ·exact e
   ·rcases A k e with e | e
    ·exact e
    ·omega
  ·rcases e with e | e
   ·exact B k (LU (LU q.size N.size) hl) e
   ·have:=(R.blocks.2 k e).2;omega
  ·exact Q.imp id fun ⟨k,e1,Z⟩=>⟨k,e1,LU q.size Z⟩
 ·rintro e v (⟨he,hd⟩ | ⟨C,_,hF,_⟩)
  ·exact ⟨he,hd⟩
  ·exact hF.elim
theorem FZ {H:Nat->Prop} {w:World} {b x:Nat} {i:Inp} {a:MAd} {m:Mst} (h:aT H w b i x a m) (hn:∀k,Mut b a k->¬H k) (v:∀k,w.heap.size<=k->¬H k) (hs:cK i) {y:Itm} (L:(cR i x m.st)[m.nx]?=some y) (hk:y.kind=3) {p:Acn} (B:y.a=some p) (I:p.at'.1<p.at'.2) (D:p.at'.2<=i.start.length) (u:Option Addr)
  {base l:Nat} {g:Option Nat} {s:LSt} (O:aW w base l g s) (o:s.msgs.length=s.recv+s.cap):
  Calls prog 216 #[(au b),.pointer u,(au l)] w fun e A=>e=.returned (MO 11)/\aq w A:=by
 refine (lq h hn v (G:=fun _=>False) (fun _ h=>h.elim) hs L u (some (ar l 0)) 226 (fun A=>by rw [hk];kernel_rfl) (fun args w=>by kernel_rfl) (fun C=>C=11) (fun _ _=>False) (fun _ _ _ h _=>h) (fun A q=>?_)).mono ?_
 ·refine (zt (h.below q hn) hs.n y p B I D u (O.below q) o).mono ?_
  rintro e N ⟨he,k⟩
  exact .inr ⟨11,by decide,rfl,he,k⟩
 ·rintro e A (⟨_,_,_,_,_,_,_,_,_,J⟩ | ⟨C,_,Q,he,k⟩)
  ·exact J.elim
  ·rw [Q] at he;exact ⟨he,k⟩
theorem FY {H:Nat->Prop} {w:World} {b x:Nat} {i:Inp} {a:MAd} {m:Mst} (h:aT H w b i x a m) (hn:∀k,Mut b a k->¬H k) (B:∀k,w.heap.size<=k->¬H k) (hs:cK i) {y:Itm} (hy:(cR i x m.st)[m.nx]?=some y) (hk:y.kind=4) {o:Acn} (T:y.a=some o) (U:o.at'.1<o.at'.2) (L:o.at'.2<=i.start.length) (v:Option Addr)
  {base l:Nat} {g:Option Nat} {s:LSt} (Z:aW w base l g s) (u:∀k,dL l g k->H k) (N:b<base) (Q:a.bg<base) (I:s.recv<s.msgs.length) (J:(aK s.msgs s.recv).tag=o.tg) (A:(aK s.msgs s.recv).vals.length=o.at'.2-o.at'.1) (hw:W64 (aK s.msgs s.recv).vals):
  Calls prog 216 #[(au b),(au l),.pointer v] w fun e p=>e=.returned (MO 0)/\
   yi H (fun k=>k=l) b i x a m (fun p m1=>m1={m with G:=kh m.G o.at'.1 (aK s.msgs s.recv).vals o.add}/\aW p base l g {s with recv:=s.recv+1}) w p:=by
 have O:l≠b:=fun e=>hn b (.inl rfl) (u b (.inl e.symm))
 refine (lq h hn B (G:=fun k=>k=l) (fun k e=>by rw [e];exact Z.blocks.1) hs hy (some (ar l 0)) v 227 (fun p=>by rw [hk];kernel_rfl) (fun args w=>by kernel_rfl) (fun _=>False)
  (fun p m1=>m1={m with G:=kh m.G o.at'.1 (aK s.msgs s.recv).vals o.add}/\aW p base l g {s with recv:=s.recv+1}) (fun w1 w2 m1 V kk=>⟨V.1,V.2.box kk O N⟩) (fun p q=>?_)).mono ?_
 ·have Y:=h.below q hn
  refine (FQ Y hs.n y o T _ _ rfl rfl U L v (Z.below q) Q I J A).mono ?_
  rintro e a0 ⟨he,D,R,hG⟩
  exact .inl ⟨he,a,_,Y.setGH hn (D.mono fun k _ e=>e.elim (fun e=>.inr (u k (.inl e))) .inl) _ hG ⟨by rw [pq];exact h.wG.1,sG h.wG.2 hw⟩,rfl,rfl,D.mono fun k _ e=>e.elim .inr (fun e=>.inl (.inr (.inr (.inr (.inl e))))),fun k hm=>.inl hm,⟨rfl,rfl,rfl⟩,rfl,R⟩
 ·rintro e p (⟨he,hd⟩ | ⟨C,_,hF,_⟩)
  ·exact ⟨he,hd⟩
  ·exact hF.elim
theorem rP {H:Nat->Prop} {w:World} {b x:Nat} {i:Inp} {a:MAd} {m:Mst} (h:aT H w b i x a m) (hn:∀k,Mut b a k->¬H k) (A:∀k,w.heap.size<=k->¬H k) (hs:cK i) {y:Itm} (L:(cR i x m.st)[m.nx]?=some y) (hk:y.kind=4) {u:Acn} (I:y.a=some u) (v:Option Addr)
  {base l:Nat} {g:Option Nat} {s:LSt} (O:aW w base l g s) (D:s.recv=s.msgs.length\/(s.recv<s.msgs.length/\(aK s.msgs s.recv).tag≠u.tg)):
  Calls prog 216 #[(au b),(au l),.pointer v] w fun e B=>e=.returned (MO (if s.recv=s.msgs.length then 12 else 10))/\aq w B:=by
 refine (lq h hn A (G:=fun _=>False) (fun _ h=>h.elim) hs L (some (ar l 0)) v 227 (fun B=>by rw [hk];kernel_rfl) (fun args w=>by kernel_rfl) (fun C=>C=if s.recv=s.msgs.length then 12 else 10) (fun _ _=>False) (fun _ _ _ h _=>h) (fun B q=>?_)).mono ?_
 ·refine (FR y u I (some (ar l 0)) v (if s.recv=s.msgs.length then 12 else 10) (by split<;>decide) (fun o N=>?_)).mono ?_
  ·have p:=(O.below q).below N
   rcases D with e | ⟨e,ne⟩
   ·rw [if_pos e];exact sY base l g s u.tg o p e
   ·rw [if_neg ap];exact vq base l g s u.tg o p e ne
  ·rintro e o ⟨he,k⟩
   exact .inr ⟨_,by split<;>decide,rfl,he,k⟩
 ·rintro e B (⟨_,_,_,_,_,_,_,_,_,J⟩ | ⟨C,_,Q,he,k⟩)
  ·exact J.elim
  ·rw [Q] at he;exact ⟨he,k⟩
def jL (i:Inp) (x:Nat) (m:Mst) (y:Itm):Mst:=
 if y.kind=1 then {m with G:=ez i m.P m.G (dK i.data (oN i x y.st y.n))}
 else if y.kind=2 then {m with op:=m.op++[y.n]}
 else if y.kind=5 then
  {m with P:=apP i.cfg.rate i.cfg.mom i.cfg.shift m.P m.M ((m.G.drop (aL (aB i).buks y.n).1).take ((aL (aB i).buks y.n).2-(aL (aB i).buks y.n).1)) (aL (aB i).buks y.n).1 ((aL (aB i).buks y.n).2-(aL (aB i).buks y.n).1),M:=apM i.cfg.mom i.cfg.shift m.M ((m.G.drop (aL (aB i).buks y.n).1).take ((aL (aB i).buks y.n).2-(aL (aB i).buks y.n).1)) (aL (aB i).buks y.n).1 ((aL (aB i).buks y.n).2-(aL (aB i).buks y.n).1),op:=gL m.op y.n}
 else {m with rc:=m.rc++[(m.P,m.M)],G:=List.replicate i.start.length 0}
def Ld (m:Mst) (y:Itm):Prop:=(y.kind=1\/y.kind=2\/y.kind=5\/y.kind=6)/\m.op.length<=1000/\(y.kind=5->0<m.op.length)/\(y.kind=6->m.rc.length<=1000)
def bB (n s k:Nat):Nat:=min ((du n s-k)*s) n
theorem If {n s k:Nat} (hs:1<=s) (hk:k<du n s):aL (nI n s) k=(bB n s (k+1),bB n s k)/\bB n s (k+1)<bB n s k/\bB n s k<=n:=by
 have h1:=iV (n:=n) (size:=s) (k:=du n s-1-k) ap
 have h:du n s-(k+1)=du n s-1-k:=ap
 have i:(du n s-k)*s=(du n s-1-k)*s+s:=by
  rw [show du n s-k=(du n s-1-k)+1 by omega,MF]
 have hl:k<(nI n s).length:=by rw [kD];exact hk
 refine ⟨?_,?_,?_⟩
 ·rw [cN _ _ hl]
  simp only [nI,List.getElem_reverse,eD,fp,List.getElem_map,List.getElem_range,List.length_map,List.length_range]
  unfold bB
  rw [h,i]
  simp only [Prod.mk.injEq,and_true]
  omega
 ·unfold bB
  rw [h,i]
  omega
 ·unfold bB
  omega
theorem Jy (n s:Nat) (hs:1<=s):bB n s 0=n:=by
 unfold bB du
 by_cases h:n=0
 ·simp [h]
 ·rw [if_neg h,Nat.sub_zero,MF]
  have h1:=Nat.div_add_mod (n-1) s
  have i:=Nat.mod_lt (n-1) (show 0<s from hs)
  rw [Nat.mul_comm] at h1
  omega
theorem DK (a c:Nat):gL (List.range' a (c+1)) a=List.range' (a+1) c:=by
 unfold gL
 rw [List.range'_succ,List.filter_cons,if_neg (by simp)]
 exact List.filter_eq_self.2 fun j h=>by
  rw [List.mem_range'_1] at h
  simp only [ML]
  omega
theorem xk {H:Nat->Prop} {w:World} {b x:Nat} {i:Inp} {a:MAd} {m:Mst} (h:aT H w b i x a m) (hn:∀k,Mut b a k->¬H k) (o:∀k,w.heap.size<=k->¬H k) (hs:cK i) {y:Itm} (B:(cR i x m.st)[m.nx]?=some y) (hk:Ld m y)
  (J: -9223372036854775808<=i.cfg.rate/\i.cfg.rate<=9223372036854775807) (O: -9223372036854775808<=i.cfg.mom/\i.cfg.mom<=9223372036854775807) (u v:Option Addr):
  Calls prog 216 #[(au b),.pointer u,.pointer v] w fun e C=>e=.returned (MO 0)/\yi H (fun _=>False) b i x a m (fun _ m1=>m1=jL i x m y) w C:=by
 obtain ⟨V,Q,Y,Z⟩:=hk
 obtain ⟨h1,U⟩:=dF B
 have L:=vx B
 have I:=hs.ok
 rcases V with k | k | k | k
 ·refine (F4 h hn o hs B k u v).mono fun e C q=>?_
  have p:jL i x m y={m with G:=ez i m.P m.G (dK i.data (oN i x m.st y.n))}:=by
   unfold jL;rw [if_pos k,L]
  rw [p];exact q
 ·refine (zy h hn o hs B k Q u v).mono fun e C q=>?_
  have p:jL i x m y={m with op:=m.op++[y.n]}:=by
   unfold jL;rw [if_neg ap,if_pos k]
  rw [p];exact q
 ·obtain ⟨g,hg,g1,g2⟩:=ul U (.inr k)
  obtain ⟨j,R,rfl⟩:=List.getElem_of_mem hg
  have N:=I.grp R
  rw [cN _ _ R] at N
  have D:y.n<(aB i).buks.length:=ap
  have A:=D
  rw [Pln.buks,kD] at A
  obtain ⟨T,b2,b3⟩:=If I.bu A
  have hr:aL (aB i).buks y.n=(bB (aB i).n (aB i).bu (y.n+1),bB (aB i).n (aB i).bu y.n):=T
  refine (Je h hn o hs B k u v D (Y k) Q J O _ _ hr b2 b3).mono fun e C q=>?_
  have p:=jL.eq_1 i x m y
  rw [if_neg ap,if_neg ap,if_pos k,hr] at p
  rw [p];exact q
 ·refine (zx h hn o hs B k (Z k) u v).mono fun e C q=>?_
  have p:jL i x m y={m with rc:=m.rc++[(m.P,m.M)],G:=List.replicate i.start.length 0}:=by
   unfold jL;rw [if_neg ap,if_neg ap,if_neg ap]
  rw [p];exact q
theorem zE {p:Pln} {x st:Nat} {y:Itm} (h:y∈aI p x st):(y.a=none/\y.kind≠3/\y.kind≠4)\/∃a,y.a=some a/\y.kind=(if a.send then 3 else 4):=by
 unfold aI at h
 simp only [MD,List.mem_map,List.mem_flatMap,List.mem_singleton] at h
 rcases h with (⟨_,_,rfl⟩ | ⟨g,_,h⟩) | rfl
 ·exact .inl ⟨rfl,(fun e=>by cases e),(fun e=>by cases e)⟩
 ·unfold dg at h
  simp only [MD,List.mem_map,List.mem_flatMap] at h
  rcases h with (⟨_,_,rfl⟩ | ⟨_,_,_,_,_,_,h⟩) | ⟨_,_,rfl⟩
  ·exact .inl ⟨rfl,(fun e=>by cases e),(fun e=>by cases e)⟩
  ·unfold bY at h
   obtain ⟨c,_,rfl⟩:=List.mem_map.1 h
   exact .inr ⟨c,rfl,rfl⟩
  ·exact .inl ⟨rfl,(fun e=>by cases e),(fun e=>by cases e)⟩
 ·exact .inl ⟨rfl,(fun e=>by cases e),(fun e=>by cases e)⟩
theorem yb {i:Inp} {x k:Nat} {y:Itm} (h:y∈iX i x k):(y.a=none/\y.kind≠3/\y.kind≠4)\/∃a,y.a=some a/\y.kind=(if a.send then 3 else 4):=by
 unfold iX at h
 obtain ⟨st,_,h⟩:=List.mem_flatMap.1 h
 exact zE h
def sN (i:Inp) (x p:Nat):Nat:=(gP ((dQ i x).take p)).length
def rN (i:Inp) (x p:Nat):Nat:=(iD ((dQ i x).take p)).length
def nxW (W x:Nat):Nat:=(x+1)%W
def pvW (W x:Nat):Nat:=(x+W-1)%W
theorem Be {W x:Nat} (h:x<W):nxW W (pvW W x)=x:=by
 unfold nxW pvW
 rw [Nat.mod_add_mod,show x+W-1+1=x+W by omega,Nat.add_mod_right,Nat.mod_eq_of_lt h]
theorem Kg {W x:Nat} (h:0<W):nxW W x<W:=Nat.mod_lt _ h
theorem lZ {W x:Nat} (h:0<W):pvW W x<W:=Nat.mod_lt _ h
def can (i:Inp) (C:Nat) (pos:Nat->Nat) (x:Nat):Prop:=∃y,(dQ i x)[pos x]?=some y/\(y.kind=3->sN i x (pos x)<rN i (nxW (aB i).W x) (pos (nxW (aB i).W x))+C)/\(y.kind=4->rN i x (pos x)<sN i (pvW (aB i).W x) (pos (pvW (aB i).W x)))
theorem KQ {l:List Itm} {n:Nat} {c:Cor} (h:(gP l)[n]?=some c):∃a∈gh l,a.send=true/\a.cor=c:=by
 have:=List.mem_of_getElem? h
 simp only [gP,List.mem_map,List.mem_filter] at this
 obtain ⟨a,⟨h1,i⟩,o⟩:=this
 exact ⟨a,h1,i,o⟩
theorem CO {l:List Itm} {n:Nat} {c:Cor} (h:(iD l)[n]?=some c):∃a∈gh l,a.send=false/\a.cor=c:=by
 have:=List.mem_of_getElem? h
 simp only [iD,List.mem_map,List.mem_filter] at this
 obtain ⟨a,⟨h1,i⟩,o⟩:=this
 exact ⟨a,h1,by simpa using i,o⟩
theorem vO (l:List Itm) (k:Nat):l=l.take k++l.drop k:=(List.take_append_drop k l).symm
theorem Fg {l:List Itm} {k:Nat} {y:Itm} {a:Acn} (p:l[k]?=some y) (h:y.a=some a) (hs:a.send=false):(iD l)[(iD (l.take k)).length]?=some a.cor:=by
 have o:l.drop k=y::l.drop (k+1):=by
  obtain ⟨h1,i⟩:=Mp.1 p
  rw [List.drop_eq_getElem_cons h1,i]
 conv=>lhs;rw [vO l k,tH]
 rw [Ms (by simp),List.take_append_drop,Nat.sub_self,o]
 unfold iD gh
 rw [List.filterMap_cons,h]
 simp [hs]
theorem Ez {l:List Itm} {k:Nat} {y:Itm} {a:Acn} (p:l[k]?=some y) (h:y.a=some a) (hs:a.send=true):(gP l)[(gP (l.take k)).length]?=some a.cor:=by
 have o:l.drop k=y::l.drop (k+1):=by
  obtain ⟨h1,i⟩:=Mp.1 p
  rw [List.drop_eq_getElem_cons h1,i]
 conv=>lhs;rw [vO l k,tw]
 rw [Ms (by simp),List.take_append_drop,Nat.sub_self,o]
 unfold gP gh
 rw [List.filterMap_cons,h]
 simp [hs]
def opF (s:Nat×Nat) (y:Itm):Nat×Nat:=if y.kind=2 then (s.1,s.2+1) else if y.kind=5 then (s.1+1,s.2) else s
def oH (wi nb:Nat):Nat×Nat->List Itm->Prop
 | _,[]=>True
 | s,y::r=>(y.kind=2->y.n=s.2/\s.2<nb/\s.2+1<=s.1+wi)/\(y.kind=5->y.n=s.1/\s.1<s.2)/\oH wi nb (opF s y) r
theorem ku (wi nb:Nat):∀(l r:List Itm) (s:Nat×Nat),oH wi nb s (l++r)↔oH wi nb s l/\oH wi nb (l.foldl opF s) r
 | [],r,s=>by simp [oH]
 | y::l,r,s=>by
  have:=ku wi nb l r (opF s y)
  simp only [List.cons_append,oH,List.foldl_cons,this,and_assoc]
theorem vi {wi nb:Nat}:∀{l:List Itm} {s:Nat×Nat} {k:Nat} {y:Itm},oH wi nb s l->l[k]?=some y->(y.kind=2->y.n=((l.take k).foldl opF s).2/\((l.take k).foldl opF s).2<nb/\((l.take k).foldl opF s).2+1<=((l.take k).foldl opF s).1+wi)/\(y.kind=5->y.n=((l.take k).foldl opF s).1/\((l.take k).foldl opF s).1<((l.take k).foldl opF s).2)
 | [],_,_,_,_,h=>by simp at h
 | z::l,s,0,y,hr,h=>by
  simp only [Mk,Option.some.injEq] at h
  subst h
  exact ⟨hr.1,hr.2.1⟩
 | z::l,s,k+1,y,hr,h=>by
  rw [Mj] at h
  exact vi (l:=l) hr.2.2 h
theorem wT {wi nb:Nat}:∀{l:List Itm} {s:Nat×Nat},oH wi nb s l->s.1<=s.2->s.2<=nb->s.2<=s.1+wi->∀k,((l.take k).foldl opF s).1<=((l.take k).foldl opF s).2/\((l.take k).foldl opF s).2<=nb/\((l.take k).foldl opF s).2<=((l.take k).foldl opF s).1+wi
 | [],s,_,h1,h2,h3,k=>by simpa using ⟨h1,h2,h3⟩
 | y::l,s,h,h1,h2,h3,0=>⟨h1,h2,h3⟩
 | y::l,s,h,h1,h2,h3,k+1=>by
  have hk:(opF s y).1<=(opF s y).2/\(opF s y).2<=nb/\(opF s y).2<=(opF s y).1+wi:=by
   unfold opF
   by_cases i:y.kind=2
   ·rw [if_pos i];have:=h.1 i;exact ⟨by omega,by omega,by omega⟩
   ·rw [if_neg i]
    by_cases o:y.kind=5
    ·rw [if_pos o];have:=h.2.1 o;exact ⟨by omega,h2,by omega⟩
    ·rw [if_neg o];exact ⟨h1,h2,h3⟩
  exact wT h.2.2 hk.1 hk.2.1 hk.2.2 k
theorem qG {wi nb:Nat}:∀{l:List Itm} (s:Nat×Nat),(∀y∈l,y.kind≠2/\y.kind≠5)->oH wi nb s l/\l.foldl opF s=s
 | [],s,_=>⟨trivial,rfl⟩
 | y::l,s,h=>by
  have i:=h y (by simp)
  have e:opF s y=s:=by unfold opF;rw [if_neg i.1,if_neg i.2]
  have o:=qG (wi:=wi) (nb:=nb) (l:=l) s fun z p=>h z (by simp [p])
  refine ⟨⟨fun k=>absurd k i.1,fun k=>absurd k i.2,?_⟩,?_⟩
  ·rw [e];exact o.1
  ·rw [List.foldl_cons,e];exact o.2
theorem tZ {wi nb:Nat} (st u:Nat):∀(k l:Nat),l+k<=nb->l+k<=u+wi->oH wi nb (u,l) ((List.range' l k).map fun j=>(⟨2,st,j,none⟩:Itm))/\((List.range' l k).map fun j=>(⟨2,st,j,none⟩:Itm)).foldl opF (u,l)=(u,l+k)
 | 0,l,_,_=>⟨trivial,rfl⟩
 | k+1,l,h1,h2=>by
  rw [List.range'_succ,List.map_cons]
  have h:=tZ (wi:=wi) (nb:=nb) st u k (l+1) ap ap
  refine ⟨⟨fun _=>⟨rfl,by show l<nb;omega,by show l+1<=u+wi;omega⟩,fun i=>(by cases i),h.1⟩,?_⟩
  rw [List.foldl_cons]
  show List.foldl opF (u,l+1) _=_
  rw [h.2]
  congr 1;omega
theorem tY {wi nb:Nat} (st l:Nat):∀(k u:Nat),u+k<=l->oH wi nb (u,l) ((List.range' u k).map fun j=>(⟨5,st,j,none⟩:Itm))/\((List.range' u k).map fun j=>(⟨5,st,j,none⟩:Itm)).foldl opF (u,l)=(u+k,l)
 | 0,u,_=>⟨trivial,rfl⟩
 | k+1,u,h1=>by
  rw [List.range'_succ,List.map_cons]
  have h:=tY (wi:=wi) (nb:=nb) st l k (u+1) ap
  refine ⟨⟨fun i=>(by cases i),fun _=>⟨rfl,by show u<l;omega⟩,h.1⟩,?_⟩
  rw [List.foldl_cons]
  show List.foldl opF (u+1,l) _=_
  rw [h.2]
  congr 1;omega
theorem FF {p:Pln} (x st:Nat) (g:Rg) (h1:g.1<=g.2) (v:g.2<=p.buks.length) (A:g.2<=g.1+p.wi):oH p.wi p.buks.length (g.1,g.1) (dg p x st g)/\(dg p x st g).foldl opF (g.1,g.1)=(g.2,g.2):=by
 have a1:=tZ (wi:=p.wi) (nb:=p.buks.length) st g.1 (g.2-g.1) g.1 ap ap
 have u:g.1+(g.2-g.1)=g.2:=ap
 rw [u] at a1
 have i:=qG (wi:=p.wi) (nb:=p.buks.length) (l:=(List.range 2).flatMap fun ph=>(List.range (p.W-1)).flatMap fun r=>(List.range' g.1 (g.2-g.1)).flatMap fun j=>bY p x st ph r j) (g.1,g.2) (fun y h=>by
  simp only [List.mem_flatMap] at h
  obtain ⟨_,_,_,_,_,_,h⟩:=h
  unfold bY at h
  obtain ⟨c,_,rfl⟩:=List.mem_map.1 h
  unfold gC
  split<;>exact ⟨fun e=>(by cases e),fun e=>(by cases e)⟩)
 have o:=tY (wi:=p.wi) (nb:=p.buks.length) st g.2 (g.2-g.1) g.1 ap
 rw [u] at o
 unfold dg
 refine ⟨?_,?_⟩
 ·rw [ku,ku,List.foldl_append,a1.2,i.2]
  exact ⟨⟨a1.1,i.1⟩,o.1⟩
 ·rw [List.foldl_append,List.foldl_append,a1.2,i.2,o.2]
theorem ua {p:Pln} (i:db p) (x st:Nat):∀k,k<=du p.buks.length p.wi->oH p.wi p.buks.length (0,0) (((List.range k).map fun j=>((j*p.wi,min (j*p.wi+p.wi) p.buks.length):Rg)).flatMap (dg p x st))/\(((List.range k).map fun j=>((j*p.wi,min (j*p.wi+p.wi) p.buks.length):Rg)).flatMap (dg p x st)).foldl opF (0,0)=(min (k*p.wi) p.buks.length,min (k*p.wi) p.buks.length)
 | 0,_=>⟨trivial,by simp⟩
 | k+1,hk=>by
  have h:=ua i x st k ap
  have u:=iV (n:=p.buks.length) (size:=p.wi) (k:=k) ap
  have o:min (k*p.wi) p.buks.length=k*p.wi:=ap
  have hg:=FF (p:=p) x st (k*p.wi,min (k*p.wi+p.wi) p.buks.length) (by show k*p.wi<=_;omega) (by show min _ _<=_;omega) (by show min _ _<=_;omega)
  rw [ME,List.map_append,List.flatMap_append,ku,List.foldl_append,h.2,o]
  simp only [List.map_cons,List.map_nil,List.flatMap_cons,List.flatMap_nil,List.append_nil]
  rw [MF]
  exact ⟨⟨h.1,hg.1⟩,hg.2⟩
theorem oE {p:Pln} (o:db p) (x st:Nat):oH p.wi p.buks.length (0,0) (aI p x st)/\(aI p x st).foldl opF (0,0)=(p.buks.length,p.buks.length):=by
 have a1:=qG (wi:=p.wi) (nb:=p.buks.length) (l:=(List.range p.mi).map fun a=>(⟨1,st,a,none⟩:Itm)) (0,0) (fun y i=>by obtain ⟨_,_,rfl⟩:=List.mem_map.1 i;exact ⟨fun e=>(by cases e),fun e=>(by cases e)⟩)
 have h:=ua o x st _ (LO _)
 have A:min (du p.buks.length p.wi*p.wi) p.buks.length=p.buks.length:=by
  have:=Jy p.buks.length p.wi o.wi
  unfold bB at this
  rwa [Nat.sub_zero] at this
 rw [A] at h
 have u:=qG (wi:=p.wi) (nb:=p.buks.length) (l:=[(⟨6,st,0,none⟩:Itm)]) (p.buks.length,p.buks.length) (fun y i=>by rw [List.mem_singleton.1 i];exact ⟨fun e=>(by cases e),fun e=>(by cases e)⟩)
 have v:p.grps=(List.range (du p.buks.length p.wi)).map fun j=>((j*p.wi,min (j*p.wi+p.wi) p.buks.length):Rg):=rfl
 unfold aI
 rw [v]
 refine ⟨?_,?_⟩
 ·rw [ku,ku,List.foldl_append,a1.2,h.2]
  exact ⟨⟨a1.1,h.1⟩,u.1⟩
 ·rw [List.foldl_append,List.foldl_append,a1.2,h.2]
  exact u.2
def opP (p:Pln) (x st nx:Nat):Nat×Nat:=((aI p x st).take nx).foldl opF (0,0)
theorem Bd {p:Pln} (h:db p) (x st nx:Nat):(opP p x st nx).1<=(opP p x st nx).2/\(opP p x st nx).2<=p.buks.length/\(opP p x st nx).2<=(opP p x st nx).1+p.wi:=
 wT (oE h x st).1 (LO _) (LS _) (LS _) nx
theorem FG {p:Pln} {x st nx:Nat} {y:Itm} (h:(aI p x st)[nx]?=some y):opP p x st (nx+1)=opF (opP p x st nx) y:=by
 unfold opP
 rw [List.take_add_one,h,List.foldl_append]
 rfl
theorem I8 {p:Pln} (i:db p) {x st nx:Nat} (h:(aI p x st).length<=nx):opP p x st nx=(p.buks.length,p.buks.length):=by
 unfold opP
 rw [List.take_of_length_le h]
 exact (oE i x st).2
def opL (p:Pln) (x st nx:Nat):List Nat:=List.range' (opP p x st nx).1 ((opP p x st nx).2-(opP p x st nx).1)
theorem vk {p:Pln} (h:db p) (x st nx:Nat):(opL p x st nx).length<=p.wi/\(opL p x st nx).length<=p.buks.length:=by
 have:=Bd h x st nx
 unfold opL
 rw [List.length_range']
 omega
theorem Dz {p:Pln} (u:db p) {x st nx:Nat} {y:Itm} (i:(aI p x st)[nx]?=some y):(y.kind=6↔nx+1=(aI p x st).length):=by
 have hn:=(Mp.1 i).1
 have e:aI p x st=((List.range p.mi).map (fun a=>(⟨1,st,a,none⟩:Itm))++p.grps.flatMap (dg p x st))++[⟨6,st,0,none⟩]:=rfl
 generalize hf:(List.range p.mi).map (fun a=>(⟨1,st,a,none⟩:Itm))++p.grps.flatMap (dg p x st)=front at e
 have hl:(aI p x st).length=front.length+1:=by rw [e];simp
 rcases Ma nx front.length with h | h
 ·have hm:y∈front:=by
   rw [e,Mr h] at i
   exact List.mem_of_getElem? i
  have hk:y.kind≠6:=by
   rw [<-hf] at hm
   rcases MD.1 hm with hm | hm
   ·obtain ⟨_,_,rfl⟩:=List.mem_map.1 hm
    exact fun e=>by cases e
   ·obtain ⟨g,_,hm⟩:=List.mem_flatMap.1 hm
    unfold dg at hm
    simp only [MD,List.mem_map,List.mem_flatMap] at hm
    rcases hm with (⟨_,_,rfl⟩ | ⟨_,_,_,_,_,_,hm⟩) | ⟨_,_,rfl⟩
    ·exact fun e=>by cases e
    ·unfold bY at hm
     obtain ⟨c,_,rfl⟩:=List.mem_map.1 hm
     unfold gC
     split<;>exact fun e=>by cases e
    ·exact fun e=>by cases e
  exact ⟨fun e=>absurd e hk,fun e=>ap⟩
 ·have o:nx=front.length:=ap
  subst o
  rw [e] at i
  simp at i
  subst i
  exact ⟨fun _=>hl.symm,fun _=>rfl⟩
theorem qv {p:Pln} {x st:Nat} {y:Itm} (h:y∈aI p x st) (hn:y.a=none):y.kind=1\/y.kind=2\/y.kind=5\/y.kind=6:=by
 unfold aI at h
 simp only [MD,List.mem_map,List.mem_flatMap,List.mem_singleton] at h
 rcases h with (⟨_,_,rfl⟩ | ⟨g,_,h⟩) | rfl
 ·exact .inl rfl
 ·unfold dg at h
  simp only [MD,List.mem_map,List.mem_flatMap] at h
  rcases h with (⟨_,_,rfl⟩ | ⟨_,_,_,_,_,_,h⟩) | ⟨_,_,rfl⟩
  ·exact .inr (.inl rfl)
  ·unfold bY at h
   obtain ⟨c,_,rfl⟩:=List.mem_map.1 h
   cases hn
  ·exact .inr (.inr (.inl rfl))
 ·exact .inr (.inr (.inr rfl))
structure MOk (i:Inp) (x:Nat) (m:Mst):Prop where
 op:m.op=opL (aB i) x m.st m.nx
 rc:m.rc.length=m.st+1
 rl:∀y∈m.rc,y.1.length=i.start.length/\y.2.length=i.start.length
 lP:m.P.length=i.start.length
 lM:m.M.length=i.start.length
 lG:m.G.length=i.start.length
 ps:(m.st<i.cfg.steps.toNat/\m.nx<(aI (aB i) x 0).length)\/(m.st=i.cfg.steps.toNat/\m.nx=0)
theorem MOk.zero {i:Inp} (x:Nat):MOk i x (fB i):=by
 refine ⟨rfl,rfl,fun y o=>?_,rfl,by simp [fB],by simp [fB],?_⟩
 ·simp only [fB,List.mem_singleton] at o
  subst o
  exact ⟨rfl,by simp⟩
 ·by_cases h:0<i.cfg.steps.toNat
  ·exact .inl ⟨h,ji _ _ _⟩
  ·exact .inr ⟨by show 0=_;omega,rfl⟩
theorem MOk.done {i:Inp} (hs:cK i) {x:Nat} {m:Mst} (h:MOk i x m):bD i x m<=(dQ i x).length:=by
 rw [pz hs.ok]
 unfold bD
 rcases h.ps with ⟨h1,o⟩ | ⟨h1,o⟩
 ·have:=MN (aI (aB i) x 0).length (Nat.succ_le_of_lt h1)
  rw [MF] at this
  omega
 ·rw [h1,o];omega
theorem MOk.cur {i:Inp} (hs:cK i) {x:Nat} {m:Mst} (h:MOk i x m):(cR i x m.st)[m.nx]?=(dQ i x)[bD i x m]?:=by
 rcases h.ps with ⟨h1,o⟩ | ⟨h1,o⟩
 ·have p:=Mq (l:=aI (aB i) x m.st) (i:=m.nx) (by rw [jC hs.ok];exact o)
  have:=BF hs.ok p h1
  unfold cR bD
  rw [if_pos h1,this,p]
 ·unfold cR bD
  rw [if_neg ap,List.getElem?_nil,List.getElem?_eq_none (by rw [pz hs.ok,h1];omega)]
theorem MOk.okAt {i:Inp} (hs:cK i) {x:Nat} {m:Mst} (h:MOk i x m) {y:Itm} (o:(cR i x m.st)[m.nx]?=some y) (hn:y.a=none):Ld m y:=by
 obtain ⟨h1,v⟩:=dF o
 have hc:cR i x m.st=aI (aB i) x m.st:=if_pos h1
 rw [hc] at o
 have u:=vi (oE hs.ok x m.st).1 o
 have B:=(vk hs.ok x m.st m.nx).2
 have A:=hs.ok.buks
 have p:=hs.s
 refine ⟨qv v hn,by rw [h.op];omega,fun C=>?_,fun _=>by rw [h.rc];omega⟩
 rw [h.op]
 have:=(u.2 C).2
 unfold opL
 rw [List.length_range']
 show 0<(opP (aB i) x m.st m.nx).2-(opP (aB i) x m.st m.nx).1
 unfold opP
 omega
theorem MOk.next {i:Inp} (hs:cK i) {x:Nat} {m m1:Mst} (h:MOk i x m) {y:Itm} (A:(cR i x m.st)[m.nx]?=some y) (h1:m1.st=m.st) (R:m1.nx=m.nx) (hP:m1.P.length=i.start.length) (O:m1.M.length=i.start.length) (Q:m1.G.length=i.start.length)
  (I:m1.op=if y.kind=2 then m.op++[y.n] else if y.kind=5 then gL m.op y.n else m.op) (v:m1.rc=if y.kind=6 then m.rc++[(m.P,m.M)] else m.rc):MOk i x (adv i x m1):=by
 obtain ⟨g1,Y⟩:=dF A
 have hc:cR i x m.st=aI (aB i) x m.st:=if_pos g1
 rw [hc] at A
 have N:=vi (oE hs.ok x m.st).1 A
 have Z:=Bd hs.ok x m.st m.nx
 have L:=FG A
 have V:=jC hs.ok x m.st
 have u:=Dz hs.ok A
 have U:=(Mp.1 A).1
 have D:m1.op=opL (aB i) x m.st (m.nx+1):=by
  rw [I,h.op]
  unfold opL
  rw [L]
  unfold opF
  change (y.kind=2->y.n=(opP (aB i) x m.st m.nx).2/\(opP (aB i) x m.st m.nx).2<_/\_)/\(y.kind=5->y.n=(opP (aB i) x m.st m.nx).1/\(opP (aB i) x m.st m.nx).1<(opP (aB i) x m.st m.nx).2) at N
  by_cases H:y.kind=2
  ·rw [if_pos H,if_pos H]
   have:=(N.1 H).1
   show _=List.range' (opP (aB i) x m.st m.nx).1 ((opP (aB i) x m.st m.nx).2+1-(opP (aB i) x m.st m.nx).1)
   rw [show (opP (aB i) x m.st m.nx).2+1-(opP (aB i) x m.st m.nx).1=((opP (aB i) x m.st m.nx).2-(opP (aB i) x m.st m.nx).1)+1 by omega,List.range'_concat,this]
   congr 2
   omega
  ·rw [if_neg H,if_neg H]
   by_cases B:y.kind=5
   ·rw [if_pos B,if_pos B]
    have T:=N.2 B
    rw [T.1]
    show _=List.range' ((opP (aB i) x m.st m.nx).1+1) ((opP (aB i) x m.st m.nx).2-((opP (aB i) x m.st m.nx).1+1))
    rw [show (opP (aB i) x m.st m.nx).2-(opP (aB i) x m.st m.nx).1=((opP (aB i) x m.st m.nx).2-((opP (aB i) x m.st m.nx).1+1))+1 by omega,DK]
   ·rw [if_neg B,if_neg B]
 have p:∀z∈m1.rc,z.1.length=i.start.length/\z.2.length=i.start.length:=by
  rw [v]
  split
  ·intro z C
   rcases MD.1 C with C | C
   ·exact h.rl z C
   ·rw [List.mem_singleton.1 C];exact ⟨h.lP,h.lM⟩
  ·exact h.rl
 unfold adv
 rw [R,h1,hc]
 by_cases o:m.nx+1<(aI (aB i) x m.st).length
 ·rw [if_pos o]
  refine ⟨by show m1.op=opL _ _ m.st (m.nx+1);exact D,?_,p,hP,O,Q,.inl ⟨by show m.st<_;omega,by show m.nx+1<_;omega⟩⟩
  show m1.rc.length=m.st+1
  rw [v,if_neg (fun e=>by have:=u.1 e;omega)]
  exact h.rc
 ·rw [if_neg o]
  have hl:m.nx+1=(aI (aB i) x m.st).length:=ap
  refine ⟨?_,?_,p,hP,O,Q,?_⟩
  ·show m1.op=opL _ _ (m.st+1) 0
   rw [D]
   unfold opL
   rw [I8 hs.ok (Nat.le_of_eq hl.symm),Nat.sub_self]
   rfl
  ·show m1.rc.length=m.st+1+1
   rw [v,if_pos (u.2 hl),Mo,h.rc]
   rfl
  ·by_cases J:m.st+1<i.cfg.steps.toNat
   ·exact .inl ⟨J,ji _ _ _⟩
   ·exact .inr ⟨by show m.st+1=_;omega,rfl⟩
theorem wn {l:List Rg} {j:Nat} (h:l.length<=j):aL l j=(0,0):=by simp [aL,List.getD,h]
theorem Kx {s:Rg} {c:Nat} (hc:1<=c):∀r∈chR s c,s.1<=r.1/\r.1<r.2/\(s.1<=s.2->r.2<=s.2):=by
 intro r hr
 simp only [chR,shR,fp,List.map_map,List.mem_map,List.mem_range,Function.comp] at hr
 obtain ⟨j,i,rfl⟩:=hr
 have:=iV i
 refine ⟨by simp only;omega,by simp only;omega,fun h=>by simp only;omega⟩
def J9 (p:Pln) (x:Nat) (t:Tg):Rg:=aL (chR (aL (dU (aL p.buks t.b.toNat) p.W) (fI p.W x t.c.toNat t.d.toNat)) p.ck) t.e.toNat
theorem tC {st bk:Nat} {b:Rg} {W c x ph r:Nat} {a:Acn} (h:a∈df st bk b W c x ph r):
  ∃i,a.at'=aL (chR (aL (dU b W) i) c) a.ch/\a.ch<(chR (aL (dU b W) i) c).length/\(a.send=false->i=fI W x ph r):=by
 unfold df ju at h
 obtain ⟨k,hk,h⟩:=List.mem_flatMap.1 h
 rw [MD] at h
 rcases h with h | h<;>split at h
 ·rename_i hl
  simp only [List.mem_singleton] at h;subst h
  exact ⟨er W x ph r,rfl,hl,fun e=>by cases e⟩
 ·simp at h
 ·rename_i hl
  simp only [List.mem_singleton] at h;subst h
  exact ⟨fI W x ph r,rfl,hl,fun _=>rfl⟩
 ·simp at h
theorem jk {p:Pln} {x st:Nat} {y:Itm} (h:y∈aI p x st) {a:Acn} (i:y.a=some a):y.kind=(if a.send then 3 else 4)/\a.st=st/\a∈df st a.bk (aL p.buks a.bk) p.W p.ck x a.ph a.rd:=by
 unfold aI at h
 simp only [MD,List.mem_map,List.mem_flatMap,List.mem_singleton] at h
 rcases h with (⟨_,_,rfl⟩ | ⟨g,_,h⟩) | rfl
 ·cases i
 ·unfold dg at h
  simp only [MD,List.mem_map,List.mem_flatMap] at h
  rcases h with (⟨_,_,rfl⟩ | ⟨ph,_,r,_,j,_,h⟩) | ⟨_,_,rfl⟩
  ·cases i
  ·unfold bY at h
   obtain ⟨c,hc,rfl⟩:=List.mem_map.1 h
   simp only [gC,Option.some.injEq] at i
   subst i
   obtain ⟨o,A,u,v,_⟩:=CA hc
   refine ⟨rfl,o,?_⟩
   rw [A,u,v]
   exact hc
  ·cases i
 ·cases i
theorem Ar {p:Pln} (u:db p) {x st:Nat} {y:Itm} (h:y∈aI p x st) {a:Acn} (B:y.a=some a):a.at'.1<a.at'.2/\a.at'.2<=p.n:=by
 obtain ⟨_,_,C⟩:=jk h B
 obtain ⟨o,A,v,_⟩:=tC C
 have hm:=List.getElem_mem v
 rw [<-cN _ _ v,<-A] at hm
 have hc:=Kx u.ck _ hm
 have hb:(aL p.buks a.bk).1<=(aL p.buks a.bk).2/\(aL p.buks a.bk).2<=p.n:=by
  rcases Ma a.bk p.buks.length with i | i
  ·have:=By _ (List.getElem_mem i)
   rw [<-cN _ _ i] at this
   exact this
  ·have:aL p.buks a.bk=(0,0):=wn i
   rw [this];simp
 have hs:(aL (dU (aL p.buks a.bk) p.W) o).1<=(aL (dU (aL p.buks a.bk) p.W) o).2/\(aL (dU (aL p.buks a.bk) p.W) o).2<=(aL p.buks a.bk).2:=by
  rcases Ma o (dU (aL p.buks a.bk) p.W).length with i | i
  ·have:=AH u.W1 hb.1 _ (List.getElem_mem i)
   rw [<-cN _ _ i] at this
   exact this
  ·have:aL (dU (aL p.buks a.bk) p.W) o=(0,0):=wn i
   rw [this];simp
 have:=hc.2.2 hs.1
 exact ⟨hc.2.1,by omega⟩
theorem Iu {p:Pln} {x st:Nat} {y:Itm} (h:y∈aI p x st) {a:Acn} (u:y.a=some a) (hr:a.send=false):a.at'=J9 p x a.tg:=by
 obtain ⟨_,_,v⟩:=jk h u
 obtain ⟨A,i,_,o⟩:=tC v
 rw [i,o hr]
 rfl
def IB (i:Inp) (x:Nat) (s:LSt):Prop:=∀j,j<s.msgs.length->W64 (aK s.msgs j).vals/\((aK s.msgs j).tag.a=999\/(aK s.msgs j).vals.length=(J9 (aB i) x (aK s.msgs j).tag).2-(J9 (aB i) x (aK s.msgs j).tag).1)
theorem IB.len {i:Inp} (hs:cK i) {x:Nat} {s:LSt} (h:IB i x s) {st:Nat} {y:Itm} (B:st<i.cfg.steps.toNat) (A:y∈aI (aB i) x st) {a:Acn} (v:y.a=some a) (hr:a.send=false) (u:s.recv<s.msgs.length) (p:(aK s.msgs s.recv).tag=a.tg):
  (aK s.msgs s.recv).vals.length=a.at'.2-a.at'.1/\W64 (aK s.msgs s.recv).vals:=by
 obtain ⟨h1,o⟩:=h _ u
 refine ⟨?_,h1⟩
 rw [Iu A v hr,<-p]
 rcases o with o | o
 ·exfalso
  rw [p] at o
  have e:a.tg.a=(a.st:Int):=rfl
  rw [e,(jk A v).2.1] at o
  have:=hs.s
  omega
 ·exact o
inductive jI (i:Inp) (x:Nat) (m:Mst) (s t:LSt):Mst->LSt->LSt->Nat->Prop
 | fin:(cR i x m.st).length<=m.nx->jI i x m s t m s t 13
 | own (y:Itm):(cR i x m.st)[m.nx]?=some y->y.a=none->jI i x m s t (adv i x (jL i x m y)) s t 0
 | send (y:Itm) (a:Acn):(cR i x m.st)[m.nx]?=some y->y.a=some a->y.kind=3->t.msgs.length<t.recv+t.cap->jI i x m s t (adv i x m) s (t.send ⟨a.tg,(m.G.drop a.at'.1).take (a.at'.2-a.at'.1)⟩) 0
 | full (y:Itm) (a:Acn):(cR i x m.st)[m.nx]?=some y->y.a=some a->y.kind=3->t.msgs.length=t.recv+t.cap->jI i x m s t m s t 11
 | recv (y:Itm) (a:Acn):(cR i x m.st)[m.nx]?=some y->y.a=some a->y.kind=4->s.recv<s.msgs.length->(aK s.msgs s.recv).tag=a.tg->jI i x m s t (adv i x {m with G:=kh m.G a.at'.1 (aK s.msgs s.recv).vals a.add}) {s with recv:=s.recv+1} t 0
 | none (y:Itm) (a:Acn):(cR i x m.st)[m.nx]?=some y->y.a=some a->y.kind=4->s.recv=s.msgs.length->jI i x m s t m s t 12
 | other (y:Itm) (a:Acn):(cR i x m.st)[m.nx]?=some y->y.a=some a->y.kind=4->s.recv<s.msgs.length->(aK s.msgs s.recv).tag≠a.tg->jI i x m s t m s t 10
theorem BS (i:Inp) (x:Nat) (m:Mst) (s t:LSt) (hs:s.recv<=s.msgs.length) (u:t.msgs.length<=t.recv+t.cap):∃m1 s1 t1 C,jI i x m s t m1 s1 t1 C:=by
 cases hy:(cR i x m.st)[m.nx]? with
 | none=>exact ⟨_,_,_,_,.fin (by rw [List.getElem?_eq_none_iff] at hy;exact hy)⟩
 | some y=>
  cases ha:y.a with
  | none=>exact ⟨_,_,_,_,.own y hy ha⟩
  | some a=>
   have hk:=(jk (dF hy).2 ha).1
   by_cases h:a.send=true
   ·rw [if_pos h] at hk
    by_cases o:t.msgs.length<t.recv+t.cap
    ·exact ⟨_,_,_,_,.send y a hy ha hk o⟩
    ·exact ⟨_,_,_,_,.full y a hy ha hk ap⟩
   ·rw [if_neg h] at hk
    by_cases p:s.recv=s.msgs.length
    ·exact ⟨_,_,_,_,.none y a hy ha hk p⟩
    ·by_cases he:(aK s.msgs s.recv).tag=a.tg
     ·exact ⟨_,_,_,_,.recv y a hy ha hk ap he⟩
     ·exact ⟨_,_,_,_,.other y a hy ha hk ap he⟩
theorem pO {p:Pln} {x st:Nat} {y:Itm} (h:y∈aI p x st) {a:Acn} (i:y.a=some a) (hk:y.kind=4):a.send=false:=by
 have:=(jk h i).1
 cases hse:a.send with
 | true=>rw [hse,hk] at this;cases this
 | false=>rfl
theorem zq (l:List Msg) (y:Msg) (j:Nat):aK (l++[y]) j=if j<l.length then aK l j else if j=l.length then y else Msg.zero:=by
 unfold aK
 simp only [List.getD_eq_getElem?_getD]
 by_cases h:j<l.length
 ·rw [if_pos h,Mr h]
 ·rw [if_neg h,Ms ap]
  by_cases i:j=l.length
  ·rw [if_pos i];subst i;simp
  ·rw [if_neg i,List.getElem?_eq_none (by simp;omega)];rfl
theorem jI.ok {i:Inp} (hs:cK i) {x:Nat} {m m1:Mst} {s t s1 t1:LSt} {C:Nat} (h:jI i x m s t m1 s1 t1 C) (hm:MOk i x m):MOk i x m1:=by
 cases h with
 | fin=>exact hm
 | own y hy ha=>
  have o:=hm.okAt hs hy ha
  have lG:(ez i m.P m.G (dK i.data (oN i x y.st y.n))).length=i.start.length:=lC _ _ hm.lG
  refine hm.next hs hy ?_ ?_ ?_ ?_ ?_ ?_ ?_<;>unfold jL<;>rcases o.1 with k | k | k | k<;>simp only [k]<;>first | rfl | simp [hm.lP,hm.lM,hm.lG,lG,mW,mX]
 | send y a hy ha hk=>exact hm.next hs hy rfl rfl hm.lP hm.lM hm.lG (by rw [if_neg ap,if_neg ap]) (by rw [if_neg ap])
 | full=>exact hm
 | recv y a hy ha hk=>exact hm.next hs hy rfl rfl hm.lP hm.lM (by show (kh _ _ _ _).length=_;rw [pq];exact hm.lG) (by rw [if_neg ap,if_neg ap]) (by rw [if_neg ap])
 | none=>exact hm
 | other=>exact hm
theorem nu (A:Option Addr) (zs:List Int) (c:Nat) (w:World) (hA:Rd w A (aA .i64 zs)) (hl:zs.length<=17592186043904):
  Calls prog 165 #[.slice A zs.length c] w fun e y=>∃x u,e=.returned (.slice x zs.length u)/\y.ownsRow w.heap.size 2 1 (.slice x zs.length u) zs.length (aA .i64 zs)/\aq w y:=by
 go_enter func165,ntmps165
 go_wp2_with (at_builtin;refine dy j4 _ rfl (.tmp 3) (.tmp 4) rfl w.heap.size _ 0 [] rfl (ey w 2 1) A zs.length c (aA .i64 zs) rfl (hA.alloc _) (by rw [bU];omega) (cG _ _) ap (by unfold maxLen;omega) (by simp) ?_)
 intro x u B h hb _ _
 have p:=((LR _ w).alloc (LO _) (.cells #[] 2)).trans hb
 obtain ⟨i,v⟩:=ae h p;clear h hb p
 go_wp2
 go_ret
 exact ⟨_,_,rfl,i.o,v.o⟩
end Go.Proofs.YtgmajkppbhiopaaGreat
namespace Go.Proofs.YtgmajkppbhiopaaGreat
open Go.RowKit Go.ChangeShapes Go.WideShapes Go.ChangeAt
open Tryz
theorem Bc:jJ prog 2 1 (Ka .i64):=tW underlying2 (by kernel_rfl)
theorem zp:jJ prog 27 1 (AV .u64):=nC underlying27 underlying253 (by kernel_rfl) (by kernel_rfl) (by kernel_rfl)
theorem JT {l:List Int} (h:∀z∈l,(Lit.int .u64 z).wf=true):U64 l:=fun k hk=>by
 have:=h _ (vl hk)
 simpa [Lit.wf,IntKind.min,IntKind.max,IntKind.signed,IntKind.bits] using this
theorem D4 {z:Int} (h:(Lit.int .i64 z).wf=true): -9223372036854775808<=z/\z<=9223372036854775807:=by
 simpa [Lit.wf,IntKind.min,IntKind.max,IntKind.signed,IntKind.bits] using h
theorem uA:prog.cellsOf 91=2:=by kernel_rfl
theorem sJ:prog.cellsOf 24=12:=by kernel_rfl
theorem sI:prog.cellsOf 29=15:=by kernel_rfl
theorem rD {w:World} {A:Option Addr} {zs:List Int} {c:Nat} (h:zs.length<=c) (o:zs.length<=17592186043904) (p:Rd w A (aA .i64 zs)) (i:∀z∈zs,(Lit.int .i64 z).wf=true):cH w A zs c:=⟨h,o,p,uN i⟩
theorem FD:jJ prog 91 2 rEx:=⟨uA,fun {H L W C I x} h o=>by
 obtain ⟨xs,n,_,v,hl,i,u⟩:=DataW.trod_struct underlying91 h
 rw [uA] at hl
 have p:xs.length=2:=i
 obtain ⟨T,A,c,a1,R,U,N,J,Q⟩:=bW nD underlying91 v o (u 0 _ rfl) ap rfl
 obtain ⟨D,B,d,y,O,b3,b4,b5,b6⟩:=bW nD underlying91 v o (u 1 _ rfl) ap rfl
 clear h u i p v o
 match I,hl with
 | [c0,c1],_=>
  simp at a1 y
  exact ⟨rfl,⟨T,D⟩,A,c,B,d,by simp [a1,y],rD R N J Q,rD O b4 b5 b6⟩⟩
theorem Da:jJ prog 25 1 (rSl rEx 2):=wS underlying25 FD (by kernel_rfl) (of_decide_eq_true (by kernel_rfl))
def Ly:eE Cfg:=fun w h k=>∃A c,h=(dh A c k).toList/\ka w A c k/\(-9223372036854775808<=k.rate/\k.rate<=9223372036854775807)/\(-9223372036854775808<=k.mom/\k.mom<=9223372036854775807)/\W64 k.sizes/\W64 [k.shift,k.workers,k.batch,k.micros,k.steps,k.bucket,k.chunk,k.window,k.cap]
theorem Db:jJ prog 24 12 Ly:=⟨sJ,fun {H a7 W T cs x} h i=>by
 obtain ⟨xs,n,_,p,hl,u,o⟩:=DataW.trod_struct underlying24 h
 rw [sJ] at hl
 have v:xs.length=12:=u
 obtain ⟨sz,A,c,a1,a2,a3,a4,a5,a6⟩:=bW rI underlying24 p i (o 0 _ rfl) ap rfl
 obtain ⟨z1,h1,g1⟩:=bW iT underlying24 p i (o 1 _ rfl) ap rfl
 obtain ⟨z2,I,g2⟩:=bW Bc underlying24 p i (o 2 _ rfl) ap rfl
 obtain ⟨z3,R,g3⟩:=bW Bc underlying24 p i (o 3 _ rfl) ap rfl
 obtain ⟨z4,J,g4⟩:=bW iT underlying24 p i (o 4 _ rfl) ap rfl
 obtain ⟨Z,N,g5⟩:=bW iT underlying24 p i (o 5 _ rfl) ap rfl
 obtain ⟨z6,U,g6⟩:=bW iT underlying24 p i (o 6 _ rfl) ap rfl
 obtain ⟨Y,L,g7⟩:=bW iT underlying24 p i (o 7 _ rfl) ap rfl
 obtain ⟨z8,Q,g8⟩:=bW iT underlying24 p i (o 8 _ rfl) ap rfl
 obtain ⟨z9,V,g9⟩:=bW iT underlying24 p i (o 9 _ rfl) ap rfl
 obtain ⟨C,y,a8⟩:=bW iT underlying24 p i (o 10 _ rfl) ap rfl
 obtain ⟨D,B,a0⟩:=bW iT underlying24 p i (o 11 _ rfl) ap rfl
 clear h o u v p i
 match cs,hl with
 | [c0,c1,c2,c3,c4,c5,c6,c7,c8,c9,c10,c11],_=>
  simp at a1 h1 I R J N U L Q V y B
  refine ⟨rfl,⟨sz,z1,z2,z3,z4,Z,z6,Y,z8,z9,C,D⟩,A,c,by simp [dh,a1,h1,I,R,J,N,U,L,Q,V,y,B],⟨a2,a3,a4,a5⟩,D4 g2,D4 g3,uN a6,?_⟩
  refine uN fun z O=>?_
  simp only [List.mem_cons,List.not_mem_nil,or_false] at O
  rcases O with rfl | rfl | rfl | rfl | rfl | rfl | rfl | rfl | rfl<;>assumption⟩
def La:eE Inp:=fun w u i=>∃A c D h T o R p,u=(aO A c D h T o R p i).toList/\jK w A c D T o R i/\i.data.length<=h/\h<=9223372036854775807/\i.draws.length<=p/\p<=9223372036854775807/\o<=9223372036854775807/\W64 i.cfg.sizes/\W64 [i.cfg.shift,i.cfg.workers,i.cfg.batch,i.cfg.micros,i.cfg.steps,i.cfg.bucket,i.cfg.chunk,i.cfg.window,i.cfg.cap]
theorem C9:jJ prog 29 15 La:=⟨sI,fun {H a0 W I cs x} h i=>by
 obtain ⟨xs,n,_,v,hl,o,u⟩:=DataW.trod_struct underlying29 h
 rw [sI] at hl
 have p:xs.length=4:=o
 obtain ⟨k,A,c,y,k2,k3,k4,k5,k6⟩:=bW Db underlying29 v i (u 0 _ rfl) ap rfl
 obtain ⟨Z,D,cd,C,J,N,d4,d5⟩:=bW Da underlying29 v i (u 1 _ rfl) ap rfl
 obtain ⟨st,T,ct,t1,t2,L,Q,t5,U⟩:=bW nD underlying29 v i (u 2 _ rfl) ap rfl
 obtain ⟨dr,R,cr,B,r2,O,Y,r5,V⟩:=bW zp underlying29 v i (u 3 _ rfl) ap rfl
 clear h u o p v i
 match cs,hl with
 | [c0,c1,c2,c3,c4,c5,c6,c7,c8,c9,c10,c11,c12,c13,c14],_=>
  simp [dh] at y C t1 B
  exact ⟨rfl,⟨k,Z,st,dr⟩,A,c,D,cd,T,ct,R,cr,by simp [aO,y,C,t1,B],⟨k2,d5,d4,rD t2 Q t5 U,r5,Y,JT V,k3,k4⟩,J,N,r2,O,L,k5,k6⟩⟩
theorem FE {H:Type} {B:TypeId×Value->H} {W:World} {base:Nat} {v:Value} {d:DataW H} {p:List MemPlace} (o:Value.okWide prog W .any base 29 v) (h:DataW.Trod B prog W 0 (fun _=>true) true 29 v d p) (z:j8 prog 29 d):
  ∃(A:Option Addr) (c:Nat) (D:Option Addr) (u:Nat) (T:Option Addr) (x:Nat) (R:Option Addr) (y:Nat) (i:Inp),v=.agg (aO A c D u T x R y i)/\jK W A c D T x R i/\i.data.length<=u/\u<=9223372036854775807/\i.draws.length<=y/\y<=9223372036854775807/\x<=9223372036854775807/\W64 i.cfg.sizes/\W64 [i.cfg.shift,i.cfg.workers,i.cfg.batch,i.cfg.micros,i.cfg.steps,i.cfg.bucket,i.cfg.chunk,i.cfg.window,i.cfg.cap]:=by
 obtain ⟨C,rfl,_⟩:=okWide_struct underlying29 o
 obtain ⟨i,⟨A,c,D,u,T,x,R,y,e,h1⟩,_⟩:=qs C9 h z
 refine ⟨A,c,D,u,T,x,R,y,i,?_,h1⟩
 obtain ⟨l⟩:=C
 have I:l=_:=e
 rw [I]
theorem Az {P:Program} {ops:Array Oper} {rest:List Oper} {op:Oper} {a:Act} {w:World} {Q:Exit->Act->World->Prop} {p:TypeId} {x:Operand} {b o:Nat} {xs:Array Value} {t:TypeId} {C:Nat×Nat} (i:Array Value)
  (hb:w.heap[b]?=some (.cells xs t C)) (hr:cW P p i.size) (hw:Region.wanted op (yielded ops a.tmps)=true) (u:op.op=.load p x) (B:a.eval x=.pointer (some (ar b o))) (hcs:(xs.toList.drop o).take i.toList.length=i.toList)
  (h:wpList P ops Q rest (a.put op.dst (.agg i)) w):wpList P ops Q (op::rest) a w:=by
 obtain ⟨⟨d,h1,v⟩,A⟩:=hr
 refine wpList_step fun K y=>?_
 rw [if_pos hw]
 exact wp_load_mid p x u b o B i.toList d (eI hb o hcs) h1 v (by simpa using A) (y _ _ (by simpa using h))
end Go.Proofs.YtgmajkppbhiopaaGreat
namespace Go.Proofs.YtgmajkppbhiopaaGreat
open Go.RowKit
open Tryz
theorem aT.i64 {H:Nat->Prop} {w:World} {b x:Nat} {i:Inp} {a:MAd} {m:Mst} (h:aT H w b i x a m) {j:Nat} {c:Array Value} (o:w.heap[j]?=some (.cells c 2 (0,0))) (hm:Mut b a j):j=a.bp\/j=a.bm\/j=a.bg:=by
 rcases hm with e | e | e | e | e | e
 ·exact absurd e (nJ o h.blk (by decide))
 ·exact .inl e
 ·exact .inr (.inl e)
 ·exact .inr (.inr e)
 ·obtain ⟨rows,p,_⟩:=h.re
  exact absurd (show some j=_ by rw [e];rfl) (ax o (by decide) p)
 ·exact absurd e.symm (ax o (by decide) h.oO)
theorem aW.noI64 {w:World} {B l:Nat} {g:Option Nat} {s:LSt} (h:aW w B l g s) {j:Nat} {c:Array Value} (i:w.heap[j]?=some (.cells c 2 (0,0))):¬dL l g j:=by
 rintro (e | e)
 ·obtain ⟨o,hb⟩:=h.blk
  exact absurd e (nJ i hb (by decide))
 ·subst e
  obtain ⟨o,hb⟩:=h.ringBlk
  exact absurd rfl (nJ i hb (by decide))
theorem aW.mach {H G:Nat->Prop} {w o:World} {B l b x:Nat} {g:Option Nat} {s:LSt} {i:Inp} {a:MAd} {m:Mst} (v:aW w B l g s) (u:aT H w b i x a m) (p:a.bp<B/\a.bm<B/\a.bg<B) (hn:∀k,dL l g k->¬(Mut b a k\/G k))
  (y:∀(j:Nat) (c:Array Value),w.heap[j]?=some (.cells c 2 (0,0))->¬G j) (hk:Keep (fun k=>Mut b a k\/G k) w o):aW o B l g s:=
 v.keep hk (hn l (.inl rfl)) (fun j h=>hn j (.inr h)) (fun j c h hb e=>e.elim (fun e=>by rcases u.i64 h e with e | e | e<;>omega) (y j c h))
theorem aW.lt {w:World} {B l:Nat} {g:Option Nat} {s:LSt} (h:aW w B l g s):∀k,dL l g k->k<w.heap.size:=by
 rintro k (e | e)
 ·rw [e];exact h.blocks.1
 ·exact (h.blocks.2 k e).2
def Bj (l:Nat) (g:Option Nat) (i:Nat) (h:Option Nat) (k:Nat):Prop:=dL l g k\/dL i h k
def WH (E:Nat->Prop) (l:Nat) (g:Option Nat) (i:Nat) (h:Option Nat) (k:Nat):Prop:=Bj l g i h k\/E k
structure Wld (E:Nat->Prop) (B:Nat) (w:World) (b l l':Nat) (i:Inp) (x:Nat) (a:MAd) (m:Mst) (s t:LSt) (g g':Option Nat):Prop where
 mach:aT (WH E l g l' g') w b i x a m
 hn:∀k,Mut b a k->¬WH E l g l' g' k
 lf:aW w B l g s
 lt:aW w B l' g' t
 dj:∀k,dL l g k->¬dL l' g' k
 lo:b<B/\a.bp<B/\a.bm<B/\a.bg<B
 hB:B<=w.heap.size
 ne:∀k,Bj l g l' g' k->¬E k
 ex:∀k,E k->k<w.heap.size
theorem Wld.below {E:Nat->Prop} {B:Nat} {w p:World} {b l u x:Nat} {i:Inp} {a:MAd} {m:Mst} {s t:LSt} {g o:Option Nat} (h:Wld E B w b l u i x a m s t g o) (hb:aq w p):Wld E B p b l u i x a m s t g o:=
 ⟨h.mach.below hb h.hn,h.hn,h.lf.below hb,h.lt.below hb,h.dj,h.lo,LU h.hB hb.size,h.ne,fun k e=>LV (h.ex k e) hb.size⟩
theorem Wld.newL {E:Nat->Prop} {B:Nat} {w:World} {b l o x:Nat} {i:Inp} {a:MAd} {m:Mst} {s t:LSt} {g p:Option Nat} (h:Wld E B w b l o i x a m s t g p):∀k,w.heap.size<=k->¬Bj l g o p k:=by
 rintro k hk (e | e)
 ·have:=h.lf.lt k e;omega
 ·have:=h.lt.lt k e;omega
theorem Wld.new {E:Nat->Prop} {B:Nat} {w:World} {b l o x:Nat} {i:Inp} {a:MAd} {m:Mst} {s t:LSt} {g p:Option Nat} (h:Wld E B w b l o i x a m s t g p):∀k,w.heap.size<=k->¬WH E l g o p k:=by
 rintro k hk (e | e)
 ·exact h.newL k hk e
 ·have:=h.ex k e;omega
def JE (b:Nat) (a:MAd) (l:Nat) (g:Option Nat) (i:Nat) (h:Option Nat) (k:Nat):Prop:=Mut b a k\/Bj l g i h k
def jH (E:Nat->Prop) (B:Nat) (w:World) (b l h:Nat) (i:Inp) (x:Nat) (a:MAd) (g p:Option Nat) (m1:Mst) (s1 t1:LSt) (o:World):Prop:=
 ∃a1 g1,Wld E B o b l h i x a1 m1 s1 t1 g g1/\Keep (JE b a l g h p) w o/\∀k,JE b a1 l g h g1 k->JE b a l g h p k\/w.heap.size<=k
theorem jH.below {E:Nat->Prop} {B:Nat} {w p:World} {b l u x:Nat} {i:Inp} {a:MAd} {m:Mst} {s t:LSt} {g o:Option Nat} (h:Wld E B w b l u i x a m s t g o) (hb:aq w p):jH E B w b l u i x a g o m s t p:=
 ⟨a,o,h.below hb,Keep.below hb,fun _ h=>.inl h⟩
theorem jH.own {E:Nat->Prop} {B:Nat} {w A:World} {b l v x:Nat} {i:Inp} {a:MAd} {m m1:Mst} {s t:LSt} {g u:Option Nat} (h:Wld E B w b l v i x a m s t g u) {T:World->Mst->Prop} (J:∀w m,T w m->m=m1) (H:yi (WH E l g v u) (fun _=>False) b i x a m T w A):jH E B w b l v i x a g u (adv i x m1) s t A:=by
 obtain ⟨D,R,h1, -, -,p,C,O,L⟩:=H
 rw [J _ _ L] at h1
 obtain ⟨I,N,Q⟩:=O
 have o:=h.lo
 have y:∀k,Mut b D k->¬WH E l g v u k:=fun k hk=>(C k hk).elim (h.hn k) (h.new k)
 exact ⟨D,u,⟨h1,y,h.lf.mach h.mach o.2 (fun k hk e=>e.elim (fun e=>h.hn k e (.inl (.inl hk))) id) (fun _ _ _ h=>h) p,h.lt.mach h.mach o.2 (fun k hk e=>e.elim (fun e=>h.hn k e (.inl (.inr hk))) id) (fun _ _ _ h=>h) p,h.dj,by rw [I,N,Q];exact o,LU h.hB p.size,h.ne,fun k e=>LV (h.ex k e) p.size⟩,
  p.mono fun k _ e=>e.elim .inl False.elim,fun k hk=>hk.elim (fun e=>(C k e).imp .inl id) (fun e=>.inl (.inr e))⟩
theorem Jf {E:Nat->Prop} {B:Nat} {w:World} {b l N x:Nat} {i:Inp} {a:MAd} {m m1:Mst} {s t s1 t1:LSt} {g O:Option Nat} {C:Nat} (h:Wld E B w b l N i x a m s t g O) (hs:cK i) (hm:MOk i x m) (Z:IB i x s) (J:t.msgs.length<100000000000)
  (a0: -9223372036854775808<=i.cfg.rate/\i.cfg.rate<=9223372036854775807) (a1: -9223372036854775808<=i.cfg.mom/\i.cfg.mom<=9223372036854775807) (hr:jI i x m s t m1 s1 t1 C):
  Calls prog 216 #[(au b),(au l),(au N)] w fun e H=>e=.returned (MO (C:Nat))/\jH E B w b l N i x a g O m1 s1 t1 H:=by
 have v:∀{y:Itm} {ac:Acn},(cR i x m.st)[m.nx]?=some y->y.a=some ac->ac.at'.1<ac.at'.2/\ac.at'.2<=i.start.length:=fun o p=>Ar hs.ok (dF o).2 p
 cases hr with
 | fin hf=>
  refine (Bi h.mach hf _ _).mono ?_
  rintro e H ⟨he,k⟩
  exact ⟨he,jH.below h k⟩
 | own y o p=>
  refine (xk h.mach h.hn h.new hs o (hm.okAt hs o p) a0 a1 _ _).mono ?_
  rintro e H ⟨he,hd⟩
  exact ⟨he,jH.own h (fun _ _ e=>e) hd⟩
 | send y ac o p hk hroom=>
  refine (FX h.mach h.hn h.new hs o hk p (v o p).1 (v o p).2 _ h.lt hroom J h.hB (fun k e=>.inl (.inr e)) h.lo.1).mono ?_
  rintro e H ⟨he,H1,T,m2,h1,L, -, -, -,D,V,⟨f1,f2,f3⟩,rfl,U,hH,hL,hg⟩
  have u:=h.lo
  have I:∀k,WH E l g N U k->H1 k:=fun k e=>(hH k).2 (by
   rcases e with (e | e | e) | e
   ·exact .inl (.inl (.inl e))
   ·exact .inl (.inl (.inr (.inl e)))
   ·exact .inr e
   ·exact .inl (.inr e))
  have A:∀k,U=some k->dL N O k\/w.heap.size<=k:=fun k e=>by
   rcases hg with rfl | ⟨j,e1,e2⟩
   ·exact .inl (.inr e)
   ·rw [e1] at e;cases e;exact .inr e2
  have Q:∀k,Mut b T k->¬WH E l g N U k:=fun k hk e=>L k hk (I k e)
  refine ⟨he,T,U,⟨h1.step (Keep.refl _ _) (fun k _ e=>I k e) Q,Q,h.lf.mach h.mach u.2 (fun k hk e=>e.elim (fun e=>h.hn k e (.inl (.inl hk))) (h.dj k hk)) (fun j c hj=>h.lt.noI64 hj) D,hL,fun k hk e=>?_,by rw [f1,f2,f3];exact u,LU h.hB D.size,fun k hk Y=>?_,fun k e=>LV (h.ex k e) D.size⟩,
   D.mono fun k _ e=>e.imp id .inr,fun k hk=>?_⟩
  ·rcases e with e | e
   ·exact h.dj k hk (.inl e)
   ·rcases A k e with e | e
    ·exact h.dj k hk e
    ·have:=h.lf.lt k hk;omega
  ·rcases hk with e | e | e
   ·exact h.ne k (.inl e) Y
   ·exact h.ne k (.inr (.inl e)) Y
   ·rcases A k e with e | e
    ·exact h.ne k (.inr e) Y
    ·have:=h.ex k Y;omega
  ·rcases hk with e | e | e | e
   ·exact (V k e).imp .inl id
   ·exact .inl (.inr (.inl e))
   ·exact .inl (.inr (.inr (.inl e)))
   ·exact (A k e).imp (fun e=>.inr (.inr e)) id
 | full y ac o p hk hf=>
  refine (FZ h.mach h.hn h.new hs o hk p (v o p).1 (v o p).2 _ h.lt hf).mono ?_
  rintro e H ⟨he,k⟩
  exact ⟨he,jH.below h k⟩
 | recv y ac o p hk hlt heq=>
  have R:=Z.len hs (dF o).1 (dF o).2 p (pO (dF o).2 p hk) hlt heq
  have u:=h.lo
  refine (FY h.mach h.hn h.new hs o hk p (v o p).1 (v o p).2 _ h.lf (fun k e=>.inl (.inl e)) u.1 u.2.2.2 hlt heq R.1 R.2).mono ?_
  rintro e H ⟨he,T,m2,h1, -, -,D,V,⟨f1,f2,f3⟩,rfl,hL⟩
  have L:∀k,Mut b T k->¬WH E l g N O k:=fun k hk=>(V k hk).elim (h.hn k) (h.new k)
  exact ⟨he,T,O,⟨h1,L,hL,h.lt.mach h.mach u.2 (fun k hk e=>e.elim (fun e=>h.hn k e (.inl (.inr hk))) (fun e=>h.dj k (.inl e) hk)) (fun j c hj e=>h.lf.noI64 hj (.inl e)) D,h.dj,by rw [f1,f2,f3];exact u,LU h.hB D.size,h.ne,fun k e=>LV (h.ex k e) D.size⟩,
   D.mono fun k _ e=>e.imp id (fun e=>.inl (.inl e)),fun k hk=>hk.elim (fun e=>(V k e).imp .inl id) (fun e=>.inl (.inr e))⟩
 | none y ac o p hk h0=>
  refine (rP h.mach h.hn h.new hs o hk p _ h.lf (.inl h0)).mono ?_
  rintro e H ⟨he,k⟩
  rw [if_pos h0] at he
  exact ⟨he,jH.below h k⟩
 | other y ac o p hk hlt hne=>
  refine (rP h.mach h.hn h.new hs o hk p _ h.lf (.inr ⟨hlt,hne⟩)).mono ?_
  rintro e H ⟨he,k⟩
  rw [if_neg ap] at he
  exact ⟨he,jH.below h k⟩
def iO (w:World) (A:Option Addr) (ms:List Msg):Prop:=
 ∃rows,Rd w A (List.flatten rows)/\rows.length=ms.length/\(∀r∈rows,r.length=6)/\∀j,j<ms.length->BN w (et rows j) (aK ms j)
theorem qx {rows:List (List Value)} {k:Nat} (h:∀r∈rows,r.length=k):(List.flatten rows).length=rows.length*k:=by
 induction rows with
 | nil=>simp
 | cons r l ih=>rw [List.flatten_cons,Mo,h r (by simp),ih (fun r hr=>h r (by simp [hr])),List.length_cons,Nat.add_mul];omega
def fz (V w:World) (A:Option Addr) (ms:List Msg):Prop:=
 ∃rows,Rd w A (List.flatten rows)/\rows.length=ms.length/\(∀r∈rows,r.length=6)/\∀j,j<ms.length->BN V (et rows j) (aK ms j)
theorem fz.nil (V w:World) (A:Option Addr):fz V w A []:=⟨[],Rd.nil _ _,rfl,by simp,by simp⟩
theorem iO.in_ {w:World} {A:Option Addr} {ms:List Msg} (h:iO w A ms):fz w w A ms:=h
theorem fz.keep {V w i:World} {S:Nat->Prop} {A:Option Addr} {ms:List Msg} (h:fz V w A ms) (k:Keep S w i) (hA:∀a,A=some a->¬S a.block):fz V i A ms:=by
 obtain ⟨rows,h1,o,u,p⟩:=h
 exact ⟨rows,k.rd h1 hA,o,u,p⟩
theorem dP {p q:Prop} (h:p) (k:p->q):q:=k h
theorem nz (w:World) (e:TypeId) (size n base:Nat) (hn:w.heap.size=n) (hb:base<=n):(w.alloc (.cells #[] e)).ownsRow base e size (.slice (some (ar n 0)) 0 0) 0 []:=by
 subst hn
 exact World.ownsRow_made w #[] 0 hb (by unfold maxLen;omega) (by simp)
theorem pL (cap:Int) (A:Option Addr) (n c:Nat) (r pk:Int) (w:World) (hr:0<=r/\r<=n) (hn:n<=17592186043904):
  Calls prog 166 #[.agg #[MO cap,.slice A n c,MO r,MO pk]] w fun e h=>e=.returned (MO ((n:Int)-r))/\h=w.alloc (.cells #[MO cap,.slice A n c,MO r,MO pk] 75):=by
 go_enter func166,ntmps166
 go_wp2
 go_ret
 exact ⟨rfl,rfl⟩
theorem oK (t0 t1 t2 o p:Int) (v:Value) (i:v.oneCell'=true):∀u∈[Value.int .i64 t0,MO t1,MO t2,MO o,MO p,v],u.oneCell'=true:=by
 intro u h
 simp at h
 rcases h with rfl | rfl | rfl | rfl | rfl | rfl<;>first | rfl | exact i
theorem ER {w:World} {ms:List Msg} {rows:List (List Value)} (v:rows.length=ms.length) (p:∀j,j<ms.length->BN w (et rows j) (aK ms j)):∀u∈List.flatten rows,u.oneCell'=true:=by
 intro u h
 obtain ⟨r,hr,h⟩:=List.mem_flatten.1 h
 obtain ⟨j,o,e⟩:=List.getElem_of_mem hr
 obtain ⟨x,c,i,_⟩:=p j ap
 rw [show et rows j=r by simp [et,o,e]] at i
 subst i
 exact oK _ _ _ _ _ _ rfl u h
theorem vc {h o:World} {k:Nat} {cap r pk:Int} {x:Value} {p:Option Addr} {n c3:Nat} {xs:List Value} (hk:k<h.heap.size) (y:h.heap[k]?=some (.cells #[MO cap,x,MO r,MO pk] 75 (0,0)))
  (hB:aq h o) (u:o.ownsRow h.heap.size 79 6 (.slice p n c3) n xs) (v:Value):
  (o.setCell (ar k 1) v).ownsRow h.heap.size 79 6 (.slice p n c3) n xs/\(o.setCell (ar k 1) v).heap[k]?=some (.cells #[MO cap,v,MO r,MO pk] 75 (0,0))/\Keep (fun i=>i=k) h (o.setCell (ar k 1) v):=by
 refine ⟨ownsRow_setCell_other u (fun e=>by have:=(u.lt _ e).1;simp at this;omega) v,?_,Keep.setCell (S:=fun i=>i=k) (Keep.below hB) (ar k 1) (.inr rfl) v⟩
 exact MM o k 1 _ _ v ((hB.block k hk).trans y)
def BK (V:World) (cap r:Nat) (pk:Nat) (ms:List Msg) (w:World) (e:Ending) (i:World):Prop:=
 ∃h o P,P=(pk:Int)/\e=.returned (.tuple #[.agg #[MO cap,.slice h ms.length o,MO r,MO P],MO 0])/\(fz V i h ms/\ms.length<=o/\∀a,h=some a->w.heap.size<=a.block)/\aq w i
theorem wu {V W:World} {u B:Option Addr} {ms:List Msg} {rows:List (List Value)} {t0 t1 t2 i o:Int} {zs:List Int} {d:Nat} (p:rows.length=ms.length) (y:∀r∈rows,r.length=6)
  (x:∀j,j<ms.length->BN V (et rows j) (aK ms j)) (hB:Rd V B (aA .i64 zs)) (hr:Rd W u (List.flatten rows++[MO t0,MO t1,MO t2,MO i,MO o,.slice B zs.length d])):
  fz V W u (ms++[⟨⟨t0,t1,t2,i,o⟩,zs⟩]):=by
 refine ⟨rows++[[MO t0,MO t1,MO t2,MO i,MO o,.slice B zs.length d]],?_,by simp [p],?_,?_⟩
 ·rw [My,List.flatten_cons,List.flatten_nil,List.append_nil];exact hr
 ·intro r hr
  rcases MD.1 hr with hr | hr
  ·exact y r hr
  ·rw [List.mem_singleton.1 hr];rfl
 ·intro j v
  rcases Ma j ms.length with h | h
  ·rw [jn _ _ _ ap,jx _ _ _ h]
   exact x j h
  ·obtain rfl:j=ms.length:=by simp at v;omega
   rw [jy,<-p,jo]
   exact ⟨B,d,rfl,hB⟩
theorem IV (V:World) (cap:Nat) (A:Option Addr) (ms:List Msg) (c r pk:Nat) (t:Tg) (B:Option Addr) (zs:List Int) (d:Nat) (w:World) (hr:r<=ms.length) (hn:ms.length<=100000000000) (be:ms.length<r+cap) (hA:fz V w A ms) (hB:Rd V B (aA .i64 zs)):
  Calls prog 135 #[.agg #[MO cap,.slice A ms.length c,MO r,MO pk],.agg #[MO t.a,MO t.b,MO t.c,MO t.d,MO t.e,.slice B zs.length d]] w (BK V cap r (max pk (ms.length+1-r)) (ms++[⟨t,zs⟩]) w):=by
 obtain ⟨t0,t1,t2,t3,t4⟩:=t
 obtain ⟨rows,h1,h2,h3,h4⟩:=hA
 have aG:=qx h3
 rw [h2] at aG
 have ab:=ER h2 h4
 have a3:=fun W=>pL cap A ms.length c r pk W ap ap
 obtain ⟨bi,aP,a4,H2,H3,H4⟩:=ai a3 aG ab h2 h3 h4;clear a3 aG ab h2 h3 h4
 go_enter func135,ntmps135
 go_wp2_with fail
 go_region_held3 (fun w'=>w'.cell? ⟨w.heap.size,0,none⟩=some (MO (cap:Int))/\w'.cell? ⟨w.heap.size,1,none⟩=some (.slice A ms.length c)/\w'.cell? ⟨w.heap.size,2,none⟩=some (MO (r:Int))/\w'.cell? ⟨w.heap.size,3,none⟩=some (MO (pk:Int))) (simp [go_sem,World.cell?_alloc_past, *])
  ((go_at_call 166;refine (bi.o _).mono ?_;rintro e w' ⟨rfl,rfl⟩))
 go_wp2_with fail
 generalize hw1:World.drew _=w1
 have hf:(w1.heap[w.heap.size]?=some (.cells #[MO (cap:Int),.slice A ms.length c,MO (r:Int),MO (pk:Int)] 75 (0,0)))/\(w1.heap[w.heap.size+1]?=some (.cells #[MO t0,MO t1,MO t2,MO t3,MO t4,.slice B zs.length d] 79 (0,0)))/\
   (w1.heap[w.heap.size+1+1]?=some (.cells #[MO 0,MP,MO 0,MO 0] 75 (0,0)))/\w.heap.size+4=w1.heap.size/\aq w w1:=by
  subst hw1
  refine ⟨?_,?_,?_,by simp,?_⟩
  ·show ((((w.heap.push _).push _).push _).push _)[_]?=_
   simp only [Array.getElem?_push,Array.size_push]
   rw [if_neg ap,if_neg ap,if_neg ap,if_pos trivial]
  ·show ((((w.heap.push _).push _).push _).push _)[_]?=_
   simp only [Array.getElem?_push,Array.size_push]
   rw [if_neg ap,if_neg ap,if_pos trivial]
  ·show ((((w.heap.push _).push _).push _).push _)[_]?=_
   simp only [Array.getElem?_push,Array.size_push]
   rw [if_neg ap,if_pos trivial]
  ·exact am
 obtain ⟨a1,U,b4,aR,b5⟩:=hf
 have b0:w1.cell? ⟨w.heap.size,0,none⟩=some (MO (cap:Int)):=LQ w1 _ 0 _ _ _ a1
 have b1:w1.cell? ⟨w.heap.size,1,none⟩=some (.slice A ms.length c):=LQ w1 _ 1 _ _ _ a1
 have b2:w1.cell? ⟨w.heap.size,2,none⟩=some (MO (r:Int)):=LQ w1 _ 2 _ _ _ a1
 have b3:w1.cell? ⟨w.heap.size,3,none⟩=some (MO (pk:Int)):=LQ w1 _ 3 _ _ _ a1
 have bf:=fun j=>LX w1 _ j _ _ a1
 have m0:w1.cell? ⟨(w.heap.size+1),0,none⟩=some (MO t0):=LQ w1 _ 0 _ _ _ U
 have m1:w1.cell? ⟨(w.heap.size+1),1,none⟩=some (MO t1):=LQ w1 _ 1 _ _ _ U
 have m2:w1.cell? ⟨(w.heap.size+1),2,none⟩=some (MO t2):=LQ w1 _ 2 _ _ _ U
 have m3:w1.cell? ⟨(w.heap.size+1),3,none⟩=some (MO t3):=LQ w1 _ 3 _ _ _ U
 have m4:w1.cell? ⟨(w.heap.size+1),4,none⟩=some (MO t4):=LQ w1 _ 4 _ _ _ U
 have m5:w1.cell? ⟨(w.heap.size+1),5,none⟩=some (.slice B zs.length d):=LQ w1 _ 5 _ _ _ U
 have J:w.heap.size<w1.heap.size:=ap
 have x:w.heap.size+1<w1.heap.size:=ap
 have a8:w.heap.size+1+1<w1.heap.size:=ap
 have a9:=h1.below b5
 obtain ⟨bw,bz,bo,bG,bh⟩:=ah hw1 aR a1 U b4;clear hw1 aR a1 U b4 h1
 go_cut [] (fun wx=>∃A' c',wx.ownsRow w1.heap.size 79 6 (.slice A' (ms.length+1) c') (ms.length+1) (List.flatten rows++[MO t0,MO t1,MO t2,MO t3,MO t4,.slice B zs.length d])/\
   wx.heap[w.heap.size]?=some (.cells #[MO (cap:Int),.slice A' (ms.length+1) c',MO (r:Int),MO (pk:Int)] 75 (0,0))/\Keep (fun k=>k=w.heap.size) w1 wx)
 case first=>
  go_region_law (first | (refine iB j3 rfl (.tmp 12) (.tmp 14) rfl w1.heap.size (.slice (some ⟨w1.heap.size,0,none⟩) 0 0) 0 [] rfl ?_ A ms.length c (List.flatten rows) rfl ?_ ?_ ?_ ?_ ?_ ?_ ?_;(focus ((repeat' (first | (with_reducible refine World.ownsRow.drew ?_) | (refine nz _ _ _ _ _ ?_ ?_;(focus (try simp));omega) | (with_reducible refine World.ownsRow.alloc ?_ _)));done));(focus ((repeat' (first | (with_reducible exact a9) | (with_reducible refine Rd.drew ?_) | (with_reducible refine Rd.alloc ?_ _)));done));exact aP.o;exact a4.o;omega;(unfold maxLen;omega);(simp;try omega);intro A2 c2 Z i D u T;simp only [MH,List.nil_append] at i;refine dP (p:=aq w1 Z) ?_ ?_;(focus (refine Below.trans ?_ D;exact am;done));intro h;have a8:=h.size;have n0:=(h.cell (p:=⟨(w.heap.size+1),0,none⟩) x).trans m0;have n1:=(h.cell (p:=⟨(w.heap.size+1),1,none⟩) x).trans m1;have n2:=(h.cell (p:=⟨(w.heap.size+1),2,none⟩) x).trans m2;have n3:=(h.cell (p:=⟨(w.heap.size+1),3,none⟩) x).trans m3;have n4:=(h.cell (p:=⟨(w.heap.size+1),4,none⟩) x).trans m4;have n5:=(h.cell (p:=⟨(w.heap.size+1),5,none⟩) x).trans m5;refine dP (p:=Rd Z (some ⟨(w1.heap.size+1),0,none⟩) [MO t0,MO t1,MO t2,MO t3,MO t4,.slice B zs.length d]) ?_ ?_;(focus (refine Rd.grown (row:=some w1.heap.size) ?_ u ?_;(focus ((repeat' (first | (with_reducible refine Rd.drew ?_) | (refine dD _ _ _ _ ?_;simp;done) | (with_reducible refine Rd.alloc ?_ _)));done));(intro a ha;cases ha;simp)));intro L;refine dP (p:=w.heap.size<Z.heap.size/\w.heap.size+1<Z.heap.size) (LW ?_ ?_) ?_;omega;omega;intro N;have ad:=N.1;have ao:=N.2;have p1:=(h.cell (p:=⟨w.heap.size,1,none⟩) J).trans b1;have b8:=(h.frozen (p:=⟨w.heap.size,1,none⟩) J).trans (bf 1);obtain ⟨a5,O,a2⟩:=af h i L;clear h i L D u T N) | (refine iB j3 rfl (.tmp 12) (.tmp 14) rfl w1.heap.size (.slice (some ⟨(w1.heap.size+1),0,none⟩) 0 0) 0 [] rfl ?_ A ms.length c (List.flatten rows) rfl ?_ ?_ ?_ ?_ ?_ ?_ ?_;(focus ((repeat' (first | (with_reducible refine World.ownsRow.drew ?_) | (refine nz _ _ _ _ _ ?_ ?_;(focus (try simp));omega) | (with_reducible refine World.ownsRow.alloc ?_ _)));done));(focus ((repeat' (first | (with_reducible exact a9) | (with_reducible refine Rd.drew ?_) | (with_reducible refine Rd.alloc ?_ _)));done));exact aP.o;exact a4.o;omega;(unfold maxLen;omega);(simp;try omega);intro A2 c2 Z i D u T;simp only [MH,List.nil_append] at i;refine dP (p:=aq w1 Z) ?_ ?_;(focus (refine Below.trans ?_ D;exact am;done));intro h;have a8:=h.size;have n0:=(h.cell (p:=⟨(w.heap.size+1),0,none⟩) x).trans m0;have n1:=(h.cell (p:=⟨(w.heap.size+1),1,none⟩) x).trans m1;have n2:=(h.cell (p:=⟨(w.heap.size+1),2,none⟩) x).trans m2;have n3:=(h.cell (p:=⟨(w.heap.size+1),3,none⟩) x).trans m3;have n4:=(h.cell (p:=⟨(w.heap.size+1),4,none⟩) x).trans m4;have n5:=(h.cell (p:=⟨(w.heap.size+1),5,none⟩) x).trans m5;refine dP (p:=Rd Z (some ⟨w1.heap.size,0,none⟩) [MO t0,MO t1,MO t2,MO t3,MO t4,.slice B zs.length d]) ?_ ?_;(focus (refine Rd.grown (row:=some (w1.heap.size+1)) ?_ u ?_;(focus ((repeat' (first | (with_reducible refine Rd.drew ?_) | (refine dD _ _ _ _ ?_;simp;done) | (with_reducible refine Rd.alloc ?_ _)));done));(intro a ha;cases ha;simp)));intro L;refine dP (p:=w.heap.size<Z.heap.size/\w.heap.size+1<Z.heap.size) (LW ?_ ?_) ?_;omega;omega;intro N;have ad:=N.1;have ao:=N.2;have p1:=(h.cell (p:=⟨w.heap.size,1,none⟩) J).trans b1;have b8:=(h.frozen (p:=⟨w.heap.size,1,none⟩) J).trans (bf 1);obtain ⟨a5,O,a2⟩:=af h i L;clear h i L D u T N) | (refine iB j3 rfl (.tmp 12) (.tmp 14) rfl w1.heap.size (.slice (some ⟨w1.heap.size,0,none⟩) 0 0) 0 [] rfl ?_ A ms.length c (List.flatten rows) rfl ?_ ?_ ?_ ?_ ?_ ?_ ?_;(focus ((repeat' (first | (with_reducible refine World.ownsRow.drew ?_) | (refine nz _ _ _ _ _ ?_ ?_;(focus (try simp));omega) | (with_reducible refine World.ownsRow.alloc ?_ _)));done));(focus ((repeat' (first | (with_reducible exact a9) | (with_reducible refine Rd.drew ?_) | (with_reducible refine Rd.alloc ?_ _)));done));exact aP.o;exact a4.o;omega;(unfold maxLen;omega);(simp;try omega);intro A2 c2 Z i D u T;simp only [MH,List.nil_append] at i;refine dP (p:=aq w1 Z) ?_ ?_;(focus (refine Below.trans ?_ D;exact am;done));intro h;have a8:=h.size;have n0:=(h.cell (p:=⟨(w.heap.size+1),0,none⟩) x).trans m0;have n1:=(h.cell (p:=⟨(w.heap.size+1),1,none⟩) x).trans m1;have n2:=(h.cell (p:=⟨(w.heap.size+1),2,none⟩) x).trans m2;have n3:=(h.cell (p:=⟨(w.heap.size+1),3,none⟩) x).trans m3;have n4:=(h.cell (p:=⟨(w.heap.size+1),4,none⟩) x).trans m4;have n5:=(h.cell (p:=⟨(w.heap.size+1),5,none⟩) x).trans m5;have L:Rd Z (some ⟨Z.heap.size,0,none⟩) []:=Rd.nil _ _;refine dP (p:=w.heap.size<Z.heap.size/\w.heap.size+1<Z.heap.size) (LW ?_ ?_) ?_;omega;omega;intro N;have ad:=N.1;have ao:=N.2;have p1:=(h.cell (p:=⟨w.heap.size,1,none⟩) J).trans b1;have b8:=(h.frozen (p:=⟨w.heap.size,1,none⟩) J).trans (bf 1);obtain ⟨a5,O,a2⟩:=af h i L;clear h i L D u T N) | (refine iB j3 rfl (.tmp 15) (.tmp 17) rfl w1.heap.size (.slice A2 ms.length c2) ms.length (List.flatten rows) rfl ?_ (some ⟨Z.heap.size,0,none⟩) 1 1 [MO t0,MO t1,MO t2,MO t3,MO t4,.slice B zs.length d] rfl ?_ rfl (oK _ _ _ _ _ _ rfl) ?_ ?_ ?_ ?_;(focus ((repeat' (first | (with_reducible exact O.o) | (with_reducible refine World.ownsRow.drew ?_) | (with_reducible refine World.ownsRow.alloc ?_ _)));done));(focus ((repeat' (first | (with_reducible refine Rd.drew ?_) | exact dD _ _ _ _ rfl));done));omega;(unfold maxLen;omega);(first | omega | (focus (simp;omega)) | simp);intro A3 c3 w3 y C I Y;refine dP (p:=aq w1 w3) ?_ ?_;(focus (refine a5.o.trans (Below.trans ?_ C);exact am;done));intro H;have q1:=(H.cell (p:=⟨w.heap.size,1,none⟩) J).trans b1;have bb:=(H.frozen (p:=⟨w.heap.size,1,none⟩) J).trans (bf 1);obtain ⟨aM,a0⟩:=ae H y;clear H y C I Y) | (refine iB j3 rfl (.tmp 15) (.tmp 17) rfl w1.heap.size (.slice A2 ms.length c2) ms.length (List.flatten rows) rfl ?_ (some ⟨(w1.heap.size+1),0,none⟩) 1 1 [MO t0,MO t1,MO t2,MO t3,MO t4,.slice B zs.length d] rfl ?_ rfl (oK _ _ _ _ _ _ rfl) ?_ ?_ ?_ ?_;(focus ((repeat' (first | (with_reducible exact O.o) | (with_reducible refine World.ownsRow.drew ?_) | (with_reducible refine World.ownsRow.alloc ?_ _)));done));(focus ((repeat' (first | (with_reducible exact a2.o) | (with_reducible refine Rd.drew ?_)));done));omega;(unfold maxLen;omega);(first | omega | (focus (simp;omega)) | simp);intro A3 c3 w3 y C I Y;refine dP (p:=aq w1 w3) ?_ ?_;(focus (refine a5.o.trans (Below.trans ?_ C);exact am;done));intro H;have q1:=(H.cell (p:=⟨w.heap.size,1,none⟩) J).trans b1;have bb:=(H.frozen (p:=⟨w.heap.size,1,none⟩) J).trans (bf 1);obtain ⟨aM,a0⟩:=ae H y;clear H y C I Y) | (refine iB j3 rfl (.tmp 15) (.tmp 17) rfl w1.heap.size (.slice A2 ms.length c2) ms.length (List.flatten rows) rfl ?_ (some ⟨w1.heap.size,0,none⟩) 1 1 [MO t0,MO t1,MO t2,MO t3,MO t4,.slice B zs.length d] rfl ?_ rfl (oK _ _ _ _ _ _ rfl) ?_ ?_ ?_ ?_;(focus ((repeat' (first | (with_reducible exact O.o) | (with_reducible refine World.ownsRow.drew ?_) | (with_reducible refine World.ownsRow.alloc ?_ _)));done));(focus ((repeat' (first | (with_reducible exact a2.o) | (with_reducible refine Rd.drew ?_)));done));omega;(unfold maxLen;omega);(first | omega | (focus (simp;omega)) | simp);intro A3 c3 w3 y C I Y;refine dP (p:=aq w1 w3) ?_ ?_;(focus (refine a5.o.trans (Below.trans ?_ C);exact am;done));intro H;have q1:=(H.cell (p:=⟨w.heap.size,1,none⟩) J).trans b1;have bb:=(H.frozen (p:=⟨w.heap.size,1,none⟩) J).trans (bf 1);obtain ⟨aM,a0⟩:=ae H y;clear H y C I Y))
  all_goals go_wp2_with fail
  all_goals go_meet
  all_goals
   have hm:=vc J bo.o aM.o a0.o (.slice A3 (ms.length+1) c3)
   first | exact ⟨A3,c3,hm.1,hm.2.1,hm.2.2⟩ | exact ⟨A3,c3,hm.1,hm.2.1,Keep.drew hm.2.2⟩
 case rest=>
  obtain ⟨A',c',av,R,hK⟩:=hcut
  have bs:=hK.size
  have e0:wc.cell? ⟨w.heap.size,0,none⟩=some (MO (cap:Int)):=LQ wc _ 0 _ _ _ R
  have e1:wc.cell? ⟨w.heap.size,1,none⟩=some (.slice A' (ms.length+1) c'):=LQ wc _ 1 _ _ _ R
  have e2:wc.cell? ⟨w.heap.size,2,none⟩=some (MO (r:Int)):=LQ wc _ 2 _ _ _ R
  have e3:wc.cell? ⟨w.heap.size,3,none⟩=some (MO (pk:Int)):=LQ wc _ 3 _ _ _ R
  have ef:=fun j=>LX wc _ j _ _ R
  have Q:=(hK.block (w.heap.size+1+1) a8 ap).trans bh.o
  have g0:wc.cell? ⟨(w.heap.size+1+1),0,none⟩=some (MO 0):=LQ wc _ 0 _ _ _ Q
  have g1:wc.cell? ⟨(w.heap.size+1+1),1,none⟩=some (MP):=LQ wc _ 1 _ _ _ Q
  have g2:wc.cell? ⟨(w.heap.size+1+1),2,none⟩=some (MO 0):=LQ wc _ 2 _ _ _ Q
  have g3:wc.cell? ⟨(w.heap.size+1+1),3,none⟩=some (MO 0):=LQ wc _ 3 _ _ _ Q
  have gf:=fun j=>LX wc _ j _ _ Q
  have bv:w.heap.size<wc.heap.size:=ap
  have b7:w.heap.size+1+1<wc.heap.size:=ap
  have b6:=fun W=>pL cap A' (ms.length+1) c' r pk W ap ap
  obtain ⟨bd,HK,a7⟩:=af b6 hK av;clear b6 hK av Q R b0 b1 b2 b3 bf m0 m1 m2 m3 m4 m5 a9
  go_wp2_with fail
  go_region_with ((go_at_call 166;refine (bd.o _).mono ?_;rintro e w' ⟨rfl,rfl⟩))
  all_goals go_wp2_with fail
  all_goals
   have bA:Keep (fun k=>k<w1.heap.size) wc wc:=Keep.refl _ _
   have bI:aq w wc:=b5.trans (HK.o.toBelow ap (fun k hk=>ap))
   have bn:=Rd.own a7.o
   have b9:ms.length+1<=c':=by
    obtain ⟨A9,c9,e9,bl⟩:=aD a7.o
    injection e9 with _ _ e9;rw [e9];exact bl
   have a6:∀a:Addr,A'=some a->¬a.block<w1.heap.size:=fun a ha=>by
    have:=(a7.o.lt a.block (by rw [ha];rfl)).1;omega
   first
   | (have hP:(pk:Int)=((max pk (ms.length+1-r):Nat):Int):=ap;refine L7 (v:=.tuple #[.agg #[MO cap,.slice A' (ms.length+1) c',MO r,MO (pk:Int)],MO 0]) (by simp [results,results135,go_sem,g0,g1,g2,g3,b7]) rfl ⟨A',c',(pk:Int),hP,by rw [Mo,Mx],⟨?_,by rw [Mo,Mx];exact b9,fun a ha=>by have:=a6 a ha;omega⟩,?_⟩)
   | (have hP:(ms.length:Int)+1-(r:Int)=((max pk (ms.length+1-r):Nat):Int):=ap;refine L7 (v:=.tuple #[.agg #[MO cap,.slice A' (ms.length+1) c',MO r,MO ((ms.length:Int)+1-(r:Int))],MO 0]) (by simp [results,results135,go_sem,g0,g1,g2,g3,b7]) rfl ⟨A',c',(ms.length:Int)+1-(r:Int),hP,by rw [Mo,Mx],⟨?_,by rw [Mo,Mx];exact b9,fun a ha=>by have:=a6 a ha;omega⟩,?_⟩)
  all_goals first
   | (refine wu (B:=B) (d:=d) H2.o H3.o H4.o hB (Keep.rd (S:=fun k=>k<w1.heap.size) (w:=wc) ?_ bn a6);(focus (repeat' (first | (with_reducible exact Keep.refl _ _) | (with_reducible assumption) | (with_reducible refine Keep.setCell ?_ _ ?_ _) | (with_reducible refine Keep.alloc ?_ _) | (with_reducible refine Keep.drewN ?_ _) | (with_reducible refine Keep.drew ?_) | (dsimp only;omega)))))
   | exact am
end Go.Proofs.YtgmajkppbhiopaaGreat
