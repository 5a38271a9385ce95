/- No condition. -/
import Derived.Test.YtgmajkppbhiopaaGreatC10
set_option linter.unusedSimpArgs false
set_option linter.unusedVariables false
set_option maxRecDepth 100000
set_option maxHeartbeats 4000000
namespace Go.Proofs.YtgmajkppbhiopaaGreat
open Go.RowKit
open Tryz
theorem vH (base b:Nat) (g:Option Nat) (s:LSt) (t:Tg) (A:Option Addr) (zs:List Int) (c:Nat) (w:World) (h:aV w base b g s) (a2:s.msgs.length<s.recv+s.cap) (a4:s.msgs.length<s.cap) (a0:s.msgs.length<100000000000)
  (b5:base<=w.heap.size) (hA:Rd w A (aB .i64 zs)) (ab:zs.length<=17592186043904):
  Calls prog 235 #[(au b),.agg #[M8 t.a,M8 t.b,M8 t.c,M8 t.d,M8 t.e,.slice A zs.length c]] w fun e w'=>e=.returned (M8 0)/\
   ∃g',aV w' base b g' {s with msgs:=s.msgs++[⟨t,zs⟩],peak:=max s.peak (s.msgs.length+1-s.recv)}/\Keep (dJ b g) w w'/\(g'=g\/∃k,g'=some k/\w.heap.size<=k):=by
 obtain ⟨t0,t1,t2,t3,t4⟩:=t
 have H:=aa h
 obtain ⟨ok,ring,rows,hc,O,hg,hrl,av,hm⟩:=h
 obtain ⟨RA,rc,rfl,b8⟩:=aC O
 have bi:=ok.cap1
 have bO:=ok.cap2
 have b2:=ok.rs
 have bX:=ok.pk
 have hl:=fun o n=>mR b _ _ _ _ _ _ (show aD ((w.alloc o).drewN n) _ _ _ _ _ _ from hc.alloc o) b2 ap
 obtain ⟨i,a1⟩:∃i,s.msgs.length%s.cap=i:=⟨_,rfl⟩
 obtain ⟨L,hL⟩:∃L,min s.msgs.length s.cap=L:=⟨_,rfl⟩
 rw [hL] at b8 O hrl hc hg
 have c1:=hc.c1
 have hb:=Ma hc
 have a9:(((s.msgs.length:Int)-(s.recv:Int))==(s.cap:Int))=false:=by simp;omega
 have a8:=fun W hW=>qC A zs c W hW ab
 obtain ⟨D,hD⟩:∃D:Int,D=(s.msgs.length:Int)-(s.recv:Int):=⟨_,rfl⟩
 rw [<-hD] at a9 hl
 have bN:0<=D/\D<s.cap:=ap
 obtain rfl:i=L:=by rw [<-hL,<-a1,Nat.mod_eq_of_lt a4];omega
 obtain ⟨Hl,U,Hc,I,Hg,a7,b9,Hm⟩:=ak hl ok hc O hg hrl av hm;obtain ⟨b0,HL,bb,HD⟩:=ag a1 hL a8 hD;clear hl hc ok O hg hrl av hm a1 hL a8 hD
 go_enter func235,ntmps235
 go_wp2_with fail
 go_quiet ((go_at_call 104;exact Calls.quiet_of (Hl.o _ _)))
 clear a9
 go_wp2_with fail
 refine (bb.o _ ((hA.alloc _).drewN _)).mono ?_
 rintro e y ⟨v1,rfl,J,V⟩
 obtain ⟨A1,R,rfl,bV⟩:=aC J
 have p:y.heap[w.heap.size]?=some (.cells #[M8 t0,M8 t1,M8 t2,M8 t3,M8 t4,.slice A zs.length c] 79 (0,0)):=by
  rw [V.block _ (by simp)]
  exact Mc w _
 have bI:=Ma p
 have p0:y.cell? (ar w.heap.size 0)=some (M8 t0):=Md y _ 0 _ _ _ p
 have p1:y.cell? (ar w.heap.size 1)=some (M8 t1):=Md y _ 1 _ _ _ p
 have p2:y.cell? (ar w.heap.size 2)=some (M8 t2):=Md y _ 2 _ _ _ p
 have p3:y.cell? (ar w.heap.size 3)=some (M8 t3):=Md y _ 3 _ _ _ p
 have p4:y.cell? (ar w.heap.size 4)=some (M8 t4):=Md y _ 4 _ _ _ p
 have p5:y.cell? (ar w.heap.size 5)=some (.slice A zs.length c):=Md y _ 5 _ _ _ p
 have pf:=fun j=>Mk y _ j _ _ p
 have a3:aq w y:=(Mm ((Me _ w).alloc (Mb _) _) _).trans (V.mono (by simp))
 have x:=Hc.o.same (a3.block b hb)
 have bl:=Ma x
 have k0:=x.c0
 have k2:=x.c2
 have k3:=x.c3
 have k4:=x.c4
 have f2:=x.free 2
 have f4:=x.free 4
 have f0:=x.free 0
 have bd:¬(b=w.heap.size):=ap
 have be:¬(w.heap.size=b):=ap
 have aP:=fun W hW=>lp b (.slice RA i rc) s.cap s.msgs.length s.recv s.peak s.msgs.length i W hW U.o.cap1 U.o.cap2 b0.o
 obtain ⟨b1,bo,Q,b4⟩:=ag x V J aP;clear x V J aP p
 go_wp2_with fail
 refine (b4.o _ (b1.o.same (Below.heap_setCell y (ar w.heap.size 5) _ b bd))).mono ?_
 rintro e w2 ⟨rfl,rfl⟩
 have v:=ay I.o (Below.mono a3 (Mb _))
 have a5:=aa v;clear v
 have hrb:(Value.slice RA i rc).ownBlock≠some w.heap.size:=fun e=>by have:=(I.o.lt _ e).2;omega
 have aR:=Bg Hc.o I.o
 have c7:i<=1048576:=by have:=HL.o;omega
 go_wp2_with fail
 go_region_law ((refine iC lE rfl (.tmp 47) (.tmp 49) rfl base (.slice RA i rc) i (List.flatten rows) rfl ?_ (some (ar y.heap.size 0)) 1 1 [M8 t0,M8 t1,M8 t2,M8 t3,M8 t4,.slice A1 zs.length R] rfl ?_ rfl ?_ ?_ ?_ ?_ ?_;((focus (repeat' (first | (with_reducible exact a5.o) | (with_reducible refine World.ownsRow.drew ?_) | (with_reducible refine bT ?_ _) | (with_reducible refine World.ownsRow.alloc ?_ _) | (with_reducible refine (World.ownsRow.stored ?_ _ _).1) | (with_reducible refine ownsRow_setCell_other ?_ ?_ _) | (with_reducible assumption) | (simp [Value.ownBlock];done) | (simp [Value.ownBlock];omega)))));exact Rd.drew (dD _ _ _ _ (by simp));(intro u hu;simp at hu;rcases hu with rfl | rfl | rfl | rfl | rfl | rfl<;>rfl);omega;(unfold maxLen;omega);(simp;omega);(intro A2 c2 w2 v T C Y;have Z:=C.block b (by first | (simp;done) | (simp;omega)) (fun e=>aR e.symm);have B:aD w2 b (.slice RA i rc) s.cap s.msgs.length s.recv s.peak:=(by refine aD.same ?_ Z;(focus (repeat' (first | (with_reducible exact b1.o) | (with_reducible refine aD.drew ?_) | (with_reducible refine aD.drewN ?_ _) | (with_reducible refine aD.alloc ?_ _) | (with_reducible refine aD.set0 (ring:=.slice RA L rc) ?_ _) | (with_reducible refine aD.set2 (sent:=s.msgs.length) ?_ _ _ ?_) | (with_reducible refine aD.set4 (peak:=s.peak) ?_ _ _ ?_) | (with_reducible refine aD.far ?_ _ _ ?_) | omega | (push_cast;omega)))));have bM:=B.c0;have bw:=B.free 0;have bf:=B.c2;have bz:=B.c3;have bA:=B.c4;have bG:=B.free 2;have bh:=B.free 4;obtain ⟨b3,N,aM,ao,aG⟩:=ah T C Y B v;clear T C Y B v Z)))
 all_goals go_wp2_with fail
 all_goals have b7:IntKind.i64.wrap ((s.msgs.length:Int)+1)=(s.msgs.length:Int)+1:=Mg _ ap
 all_goals go_region
 all_goals clear b7
 all_goals go_wp2_with fail
 all_goals have b6:0<=(s.recv:Int)/\(s.recv:Int)<=(s.msgs.length:Int)+1/\(s.msgs.length:Int)+1<=17592186043904:=ap
 all_goals go_region_with ((go_at_call 104;refine (xU b ((s.msgs.length:Int)+1) s.recv _ (by simp [go_sem, *]) (by simp [go_sem, *]) b6).mono ?_;rintro e w' ⟨rfl,n',rfl⟩))
 all_goals go_wp2_with fail
 all_goals go_ret
 all_goals
  have bv:=Bg ao.o aG.o
  have bn:Keep (dJ b g) w y:=Keep.below a3
  have c6:Keep (dJ b g) w w2:=Keep.grown (by (focus (repeat' (first | (with_reducible exact Keep.refl _ _) | (with_reducible assumption) | (with_reducible refine Keep.setCell ?_ _ ?_ _) | (with_reducible refine Keep.alloc ?_ _) | (with_reducible refine Keep.drewN ?_ _) | (with_reducible refine Keep.drew ?_) | (with_reducible exact Or.inr (iA _ _)) | (with_reducible exact Or.inr (iz _ _)) | (refine Or.inr ?_;first | rfl | (simp;done) | omega) | (refine Or.inl ?_;first | omega | (simp;done) | (simp;omega)))))) N.o (fun k hk=>.inr (.inr (Hg.o.symm.trans hk)))
  have ad:i+1=min (s.msgs.length+1) s.cap:=by have:=HL.o;omega
  have a6:eQ (rows++[[M8 t0,M8 t1,M8 t2,M8 t3,M8 t4,.slice A1 zs.length R]]) i=[M8 t0,M8 t1,M8 t2,M8 t3,M8 t4,.slice A1 zs.length R]:=by
   rw [<-a7.o];exact lY _ _
  refine ⟨rfl,(Value.slice A2 (i+1) c2).ownBlock,?_,by (focus (repeat' (first | (with_reducible exact Keep.refl _ _) | (with_reducible assumption) | (with_reducible refine Keep.setCell ?_ _ ?_ _) | (with_reducible refine Keep.alloc ?_ _) | (with_reducible refine Keep.drewN ?_ _) | (with_reducible refine Keep.drew ?_) | (with_reducible exact Or.inr (iA _ _)) | (with_reducible exact Or.inr (iz _ _)) | (refine Or.inr ?_;first | rfl | (simp;done) | omega) | (refine Or.inl ?_;first | omega | (simp;done) | (simp;omega))))),?_⟩
  ·refine nj (A1:=A1) (c1:=R) (g:=g) (rows':=rows++[[M8 t0,M8 t1,M8 t2,M8 t3,M8 t4,.slice A1 zs.length R]]) (ring':=.slice A2 (i+1) c2) U.o Hc.o (HL.o▸I.o) Hg.o Hm.o a2 a0 ⟨t0,t1,t2,t3,t4⟩ zs ab (by (focus (repeat' (first | (with_reducible exact Keep.refl _ _) | (with_reducible assumption) | (with_reducible refine Keep.setCell ?_ _ ?_ _) | (with_reducible refine Keep.alloc ?_ _) | (with_reducible refine Keep.drewN ?_ _) | (with_reducible refine Keep.drew ?_) | (with_reducible exact Or.inr (iA _ _)) | (with_reducible exact Or.inr (iz _ _)) | (refine Or.inr ?_;first | rfl | (simp;done) | omega) | (refine Or.inl ?_;first | omega | (simp;done) | (simp;omega)))))) (P:=max s.peak (s.msgs.length+1-s.recv)) rfl (by (focus (repeat' (first | (with_reducible exact ao.o) | (with_reducible refine aD.drew ?_) | (with_reducible refine aD.drewN ?_ _) | (with_reducible refine aD.alloc ?_ _) | (with_reducible refine aD.set0 (ring:=.slice RA i rc) ?_ _) | (with_reducible refine aD.set2 (sent:=s.msgs.length) ?_ _ _ ?_) | (with_reducible refine aD.set4 (peak:=s.peak) ?_ _ _ ?_) | (with_reducible refine aD.far ?_ _ _ ?_) | omega | (push_cast;omega))))) ?_ rfl ?_ ?_ ?_ ?_ ?_
   ·rw [<-ad,MO,List.flatten_cons,List.flatten_nil,List.append_nil]
    (focus (repeat' (first | (with_reducible exact aG.o) | (with_reducible refine World.ownsRow.drew ?_) | (with_reducible refine bT ?_ _) | (with_reducible refine World.ownsRow.alloc ?_ _) | (with_reducible refine (World.ownsRow.stored ?_ _ _).1) | (with_reducible refine ownsRow_setCell_other ?_ ?_ _) | (with_reducible assumption) | (simp [Value.ownBlock];done) | (simp [Value.ownBlock];omega))))
   ·rw [ME,MN,a7.o,ad]
   ·intro r hr
    rcases MS.1 hr with hr | hr
    ·exact b9.o r hr
    ·rw [List.mem_singleton.1 hr];rfl
   ·intro j h1 h2
    exact lX _ _ _ (by rw [a7.o,<-HL.o];exact rW h1 h2 ap U.o.cap1)
   ·rw [b0.o];exact a6
   ·have bs:Keep (fun k=>k<=w.heap.size) y w2:=Keep.grown (by (focus (repeat' (first | (with_reducible exact Keep.refl _ _) | (with_reducible assumption) | (with_reducible refine Keep.setCell ?_ _ ?_ _) | (with_reducible refine Keep.alloc ?_ _) | (with_reducible refine Keep.drewN ?_ _) | (with_reducible refine Keep.drew ?_) | (with_reducible exact Or.inr (iA _ _)) | (with_reducible exact Or.inr (iz _ _)) | (refine Or.inr ?_;first | rfl | (simp;done) | omega) | (refine Or.inl ?_;first | omega | (simp;done) | (simp;omega)))))) N.o (fun k hk=>.inr (by have:=(I.o.lt k hk).2;omega))
    refine Keep.own (S:=fun k=>k<=w.heap.size) (w:=y) ?_ (aE Q.o (by simp;omega)) ?_
    ·(focus (repeat' (first | (with_reducible exact Keep.refl _ _) | (with_reducible assumption) | (with_reducible refine Keep.setCell ?_ _ ?_ _) | (with_reducible refine Keep.alloc ?_ _) | (with_reducible refine Keep.drewN ?_ _) | (with_reducible refine Keep.drew ?_) | (with_reducible exact Or.inr (iA _ _)) | (with_reducible exact Or.inr (iz _ _)) | (refine Or.inr ?_;first | rfl | (simp;done) | omega) | (refine Or.inl ?_;first | omega | (simp;done) | (simp;omega)))))
     all_goals (dsimp only;omega)
    ·intro k hk
     have:=(Q.o.lt k hk).1
     simp at this ⊢;omega
  ·rcases aM.o with h1 | h1
   ·exact .inl (h1.trans Hg.o)
   ·exact .inr ⟨_,h1,by simp;omega⟩
def LSt.send (s:LSt) (m:Msg):LSt:={s with msgs:=s.msgs++[m],peak:=max s.peak (s.msgs.length+1-s.recv)}
def LSt.new (c:Nat):LSt:=⟨c,[],0,0⟩
theorem Gr (base b:Nat) (g:Option Nat) (s:LSt) (t:Tg) (A:Option Addr) (zs:List Int) (c:Nat) (w:World) (h:aV w base b g s) (p:s.msgs.length<s.recv+s.cap) (o:s.msgs.length<100000000000)
  (i:base<=w.heap.size) (hA:Rd w A (aB .i64 zs)) (u:zs.length<=17592186043904):
  Calls prog 235 #[(au b),.agg #[M8 t.a,M8 t.b,M8 t.c,M8 t.d,M8 t.e,.slice A zs.length c]] w fun e x=>e=.returned (M8 0)/\
   ∃v,aV x base b v (s.send ⟨t,zs⟩)/\Keep (dJ b g) w x/\(v=g\/∃k,v=some k/\w.heap.size<=k):=by
 rcases Mq s.msgs.length s.cap with hc | hc
 ·exact vH base b g s t A zs c w h p hc o i hA u
 ·exact sd base b g s t A zs c w h p hc o i hA u
theorem aV.blocks {w:World} {base b:Nat} {g:Option Nat} {s:LSt} (h:aV w base b g s):b<w.heap.size/\∀i,g=some i->base<=i/\i<w.heap.size:=by
 obtain ⟨ok,ring,rows,hc,o,hg,_⟩:=h
 exact ⟨Ma hc,fun i p=>o.lt i (hg.trans p)⟩
theorem nS {w:World} {b v:Nat} {x p:Array Value} {t u:TypeId} (h:w.heap[b]?=some (.cells x t (0,0))) (i:w.heap[v]?=some (.cells p u (0,0))) (o:t≠u):b≠v:=by
 rintro rfl
 rw [h] at i
 injection i with i
 injection i with _ i
 exact o i
theorem aV.blk {w:World} {base b:Nat} {g:Option Nat} {s:LSt} (h:aV w base b g s):∃i,w.heap[b]?=some (.cells i 182 (0,0)):=by
 obtain ⟨ok,ring,rows,hc,_⟩:=h
 exact ⟨_,hc⟩
theorem aV.ringBlk {w:World} {base b i:Nat} {s:LSt} (h:aV w base b (some i) s):∃y,w.heap[i]?=some (.cells y 79 (0,0)):=by
 obtain ⟨ok,ring,rows,hc,o,hg,_⟩:=h
 rcases o.2 with ⟨hn,_⟩ | ⟨x,cap2,v,p,_,u,_⟩
 ·rw [hn] at hg;cases hg
 ·rw [p] at hg
  obtain rfl:x=i:=by simpa [Value.ownBlock] using hg
  exact ⟨_,u⟩
theorem pM:cW prog 150 9:=⟨⟨_,underlying150,rfl⟩,by kernel_rfl⟩
theorem jp:cW prog 77 5:=⟨⟨_,underlying77,rfl⟩,by kernel_rfl⟩
def Acn.tg (a:Acn):Tg:=⟨a.st,a.bk,a.ph,a.rd,a.ch⟩
theorem vJ {y:Itm} {i:Acn} (h:y.a=some i) {lo o:Nat} (h1:i.at'.1=lo) (p:i.at'.2=o):(aZ y).toArray=#[M8 (y.kind:Nat),M8 (y.st:Nat),M8 (y.n:Nat),.bool i.send,.bool i.add,M8 (i.st:Nat),M8 (i.bk:Nat),M8 (i.ph:Nat),M8 (i.rd:Nat),M8 (i.ch:Nat),M8 (lo:Nat),M8 (o:Nat)]:=by
 subst h1;subst p
 unfold aZ
 rw [h]
 rfl
theorem ur {H:Nat->Prop} {w:World} {b x:Nat} {i:Inp} {a:MAd} {m:Mst} (h:aU H w b i x a m) (a6:i.start.length<=60) (y:Itm) (v:Acn) (Z:y.a=some v) (lo A:Nat) (h1:v.at'.1=lo) (h2:v.at'.2=A) (av:lo<A) (ab:A<=i.start.length) (u l:Option Addr)
  (C:Int) (L:Nat->Prop) (a1:¬L b) (U:∀k,w.heap.size<=k->¬L k) (Q:World->Prop) (B:∀p d,aq w p->Calls prog 235 #[.pointer l,.agg #[M8 (v.st:Nat),M8 (v.bk:Nat),M8 (v.ph:Nat),M8 (v.rd:Nat),M8 (v.ch:Nat),.slice (some (ar a.bg lo)) (A-lo:Nat) d]] p fun e Y=>e=.returned (M8 C)/\Keep L p Y/\Q Y):
  Calls prog 226 #[(au b),.agg (aZ y).toArray,.agg #[.pointer u,.pointer l]] w fun e p=>e=.returned (M8 C)/\Keep L w p/\Q p:=by
 rw [vJ Z h1 h2]
 have I:=h.blk
 have ad:i.start.length<=a.cg:=by
  obtain ⟨_,_,e,h⟩:=aC h.oG
  simp only [MR] at e
  omega
 obtain ⟨W0,W1,T,O,g0,g1,J,a3⟩:=fP w #[M8 (y.kind:Nat),M8 (y.st:Nat),M8 (y.n:Nat),.bool v.send,.bool v.add,M8 (v.st:Nat),M8 (v.bk:Nat),M8 (v.ph:Nat),M8 (v.rd:Nat),M8 (v.ch:Nat),M8 (lo:Nat),M8 (A:Nat)] #[.pointer u,.pointer l] 152 333
 have a0:=sb I _ J
 obtain ⟨a2,a5,V,G0,G1,K1,N⟩:=aj T O a0 g0 g1 J B;clear T O a0 g0 g1 J I h B Z h1 h2 a3
 go_enter func226,ntmps226
 go_upto_region 1 with (fail)
 rw [a2.o,a5.o]
 go_upto_region 2 with (first | (refine aT #[.bool v.send,.bool v.add,M8 (v.st:Nat),M8 (v.bk:Nat),M8 (v.ph:Nat),M8 (v.rd:Nat),M8 (v.ch:Nat),M8 (lo:Nat),M8 (A:Nat)] (b:=w.heap.size) G0.o pM rfl rfl rfl rfl ?_) | (refine aI (Mc _ _) pM rfl rfl rfl rfl rfl rfl rfl ?_;intro D e2 k2;obtain ⟨E2,R⟩:=ae e2 (aK k2);clear e2 k2))
 have q2:Keep L D D.drew:=(Keep.refl _ _).drew
 have lx:=Ma E2.o
 have kx:=fun p (q:Keep L D p)=>(q.block W1.heap.size lx (U _ K1.o.size)).trans E2.o
 have a4:∀p,Keep L D p->p.cell? (ar b 13)=some (.slice (some (ar a.bg 0)) i.start.length a.cg):=fun p q=>Md p b 13 _ _ _ ((q.block b (Ma (sb V.o _ R.o)) a1).trans (sb V.o _ R.o))
 have s1:∀p,Keep L D p->p.cell? (ar (w.heap.size+1) 1)=some (.pointer l):=fun p q=>Md p (w.heap.size+1) 1 _ _ _ ((q.block _ (Ma (sb G1.o _ R.o)) (U _ ap)).trans (sb G1.o _ R.o))
 have x7:∀p,Keep L D p->p.cell? (ar W1.heap.size 7)=some (M8 (lo:Nat)):=fun p q=>Md p _ 7 _ _ _ (kx p q)
 have x8:∀p,Keep L D p->p.cell? (ar W1.heap.size 8)=some (M8 (A:Nat)):=fun p q=>Md p _ 8 _ _ _ (kx p q)
 have ao:(lo:Int)<=A:=ap
 have aG:(A:Int)<=a.cg:=ap
 have a7:lo<=A:=ap
 have a8:A<=a.cg:=ap
 have a9:¬a.cg=lo:=ap
 obtain ⟨BB,KX⟩:=ae (bt K1.o R.o) kx;clear kx lx
 dsimp only [Act.put]
 refine HA.g (fun p:World=>Keep L D p) ?_
 refine HA.t ?_ [0,1,2] q2 ?_
 refine HA.ld 3 #[M8 (v.st:Nat),M8 (v.bk:Nat),M8 (v.ph:Nat),M8 (v.rd:Nat),M8 (v.ch:Nat)] (fun p q=>KX.o p q) jp q2 ?_
 refine HA.t ?_ [4,5,6,7,8,9,10,11,12,13,14,15] q2 ?_
 refine HA.c 16 (N.o _ (a.cg-lo) BB.o.drew) ?_
 rintro e w3 ⟨rfl,k3,hq⟩
 have q3:=q2.trans k3
 refine ⟨_,rfl,q3,fun _=>?_⟩
 refine HA.t ?_ [17] q3 ?_
 refine HA.d ?_
 have K3:=aa ((Keep.below (S:=L) BB.o).trans q3);clear q2 q3 k3 a4 s1 x7 x8
 go_wp2_with fail
 go_ret
 exact ⟨rfl,K3.o,hq⟩
theorem FZ {H:Nat->Prop} {w:World} {b x:Nat} {i:Inp} {a:MAd} {m:Mst} (h:aU H w b i x a m) (C:i.start.length<=60) (y:Itm) (o:Acn) (O:y.a=some o) (Q:o.at'.1<o.at'.2) (N:o.at'.2<=i.start.length) (u:Option Addr)
  {base l:Nat} {g:Option Nat} {s:LSt} (J:aV w base l g s) (p:s.msgs.length<s.recv+s.cap) (A:s.msgs.length<100000000000) (v:base<=w.heap.size):
  Calls prog 226 #[(au b),.agg (aZ y).toArray,.agg #[.pointer u,(au l)]] w fun e B=>e=.returned (M8 0)/\Keep (dJ l g) w B/\
   ∃D,aV B base l D (s.send ⟨o.tg,(m.G.drop o.at'.1).take (o.at'.2-o.at'.1)⟩)/\(D=g\/∃k,D=some k/\w.heap.size<=k):=by
 obtain ⟨cl,R⟩:=J.blk
 have L:=J.blocks
 refine ur h C y o O _ _ rfl rfl Q N u (some (ar l 0)) 0 (dJ l g) ?_ ?_ _ (fun B d q=>?_)
 ·rintro (e | e)
  ·exact nS h.blk R (by decide) e
  ·subst e
   obtain ⟨cg,hg⟩:=J.ringBlk
   exact nS h.blk hg (by decide) rfl
 ·rintro k hk (e | e)
  ·omega
  ·have:=(L.2 k e).2;omega
 ·have Z:Rd B (some (ar a.bg o.at'.1)) (aB .i64 ((m.G.drop o.at'.1).take (o.at'.2-o.at'.1))):=by
   have:=((Rd.own (ay h.oG q)).drop o.at'.1).take (o.at'.2-o.at'.1)
   rwa [di,dd,MW] at this
  have I:((m.G.drop o.at'.1).take (o.at'.2-o.at'.1)).length=o.at'.2-o.at'.1:=by rw [MJ,MM,h.wG.1];omega
  have:=Gr base l g s o.tg (some (ar a.bg o.at'.1)) ((m.G.drop o.at'.1).take (o.at'.2-o.at'.1)) d B (J.below q) p A (Mh v q.size) Z ap
  rw [I] at this
  refine this.mono ?_
  rintro e Y ⟨he,D,T,k2,U⟩
  exact ⟨he,k2,D,T,U.imp id fun ⟨k,e1,V⟩=>⟨k,e1,Mh q.size V⟩⟩
theorem zK {H:Nat->Prop} {w:World} {b x:Nat} {i:Inp} {a:MAd} {m:Mst} (h:aU H w b i x a m) (v:i.start.length<=60) (y:Itm) (p:Acn) (B:y.a=some p) (C:p.at'.1<p.at'.2) (D:p.at'.2<=i.start.length) (u:Option Addr)
  {base l:Nat} {g:Option Nat} {s:LSt} (I:aV w base l g s) (o:s.msgs.length=s.recv+s.cap):
  Calls prog 226 #[(au b),.agg (aZ y).toArray,.agg #[.pointer u,(au l)]] w fun e A=>e=.returned (M8 11)/\aq w A:=by
 refine (ur h v y p B _ _ rfl rfl C D u (some (ar l 0)) 11 (fun _=>False) id (fun _ _ h=>h) (fun _=>True) (fun A d q=>?_)).mono fun e A h=>⟨h.1,h.2.1.toBelow (Mb _) (fun _ h=>h.elim)⟩
 exact (tr base l g s _ A (I.below q) o).mono fun e J h=>⟨h.1,Keep.below h.2,trivial⟩
def tv (G:List Int) (lo:Nat) (v:List Int) (add:Bool) (k:Nat):List Int:=dB G.length fun j=>if lo<=j/\j<lo+k then (if add then wrap64 (nth G j+nth v (j-lo)) else nth v (j-lo)) else nth G j
def j6 (G:List Int) (lo:Nat) (v:List Int) (add:Bool):List Int:=tv G lo v add v.length
section
variable (G:List Int) (lo:Nat) (v:List Int) (add:Bool)
theorem sR (k:Nat):(tv G lo v add k).length=G.length:=cD _ _
theorem pw:(j6 G lo v add).length=G.length:=cD _ _
theorem uM:tv G lo v add 0=G:=(fq rfl fun k _=>by rw [if_neg ap]).symm
theorem pt {k j:Nat} (h:j<G.length):nth (tv G lo v add k) j=if lo<=j/\j<lo+k then (if add then wrap64 (nth G j+nth v (j-lo)) else nth v (j-lo)) else nth G j:=bS _ h
theorem yt {k:Nat} (hk:lo+k<G.length):(tv G lo v add k).set (lo+k) (if add then wrap64 (nth G (lo+k)+nth v k) else nth v k)=tv G lo v add (k+1):=by
 refine iW (by simp [sR]) fun j i=>?_
 rw [List.length_set,sR] at i
 rw [iy,pt _ _ _ _ i,pt _ _ _ _ i,sR]
 by_cases h1:j=lo+k
 ·subst h1
  rw [if_pos (show lo+k=lo+k/\lo+k<G.length from Mj rfl hk),if_pos (show lo<=lo+k/\lo+k<lo+(k+1) by omega),Nat.add_sub_cancel_left]
 ·rw [if_neg (show ¬(j=lo+k/\lo+k<G.length) from fun h=>h1 h.1)]
  by_cases o:lo<=j/\j<lo+k
  ·rw [if_pos o,if_pos (show lo<=j/\j<lo+(k+1) by omega)]
  ·rw [if_neg o,if_neg (show ¬(lo<=j/\j<lo+(k+1)) by omega)]
end
theorem sS {G v:List Int} {lo:Nat} {add:Bool} (o:W64 G) (i:W64 v):W64 (j6 G lo v add):=fu fun k hk=>by
 split
 ·rename_i h
  split
  ·unfold wrap64;omega
  ·exact i _ ap
 ·exact o k hk
theorem DY {G v:List Int} {lo:Nat} (h:lo+v.length<=G.length):splice G lo v=j6 G lo v false:=by
 unfold splice j6 tv
 refine fq (by simp only [ME,MJ,MM];omega) fun k hk=>?_
 rw [if_neg (show ¬(false=true) by decide)]
 by_cases h1:k<lo
 ·rw [if_neg ap]
  simp only [nth,List.getD_eq_getElem?_getD]
  rw [MH (by rw [MJ];omega),List.getElem?_take,if_pos h1]
 ·by_cases i:k<lo+v.length
  ·rw [if_pos ⟨by omega,i⟩]
   simp only [nth,List.getD_eq_getElem?_getD]
   rw [MI (by rw [MJ];omega),MJ,MH ap]
   congr 2;omega
  ·rw [if_neg ap]
   simp only [nth,List.getD_eq_getElem?_getD]
   rw [MI (by rw [MJ];omega),MJ,MI ap,List.getElem?_drop]
   congr 2;omega
theorem If {G v:List Int} (h:v.length=G.length):j6 G 0 v true=ff G v:=by
 unfold j6 tv ff
 refine eF fun k hk=>?_
 rw [if_pos (show 0<=k/\k<0+v.length by omega),if_pos rfl,Nat.sub_zero]
theorem AF (g c lo n:Nat) (B:Option Addr) (xs ys:List Int) (L Q d:Nat) (w:World) (h:w.ownsRow 0 2 1 (.slice (some (ar g 0)) n c) n (aB .i64 xs)) (hB:Rd w B (aB .i64 ys)) (hl:ys.length=L) (hn:lo+L<=n) (hm:n<=17592186043904)
  (y:∀b,B=some b->b.block≠g):
  Calls prog 234 #[.slice (some (ar g lo)) L Q,.slice B L d] w fun e J=>e=.returned (.bool true)/\J.ownsRow 0 2 1 (.slice (some (ar g 0)) n c) n (aB .i64 (j6 xs lo ys true))/\Keep (fun i=>i=g) w J:=by
 have x:=jS h
 unfold j6
 rw [hl]
 obtain ⟨Y,R,Hn,T,Z⟩:=ah h hB x hl y;clear h hB x hl y
 go_enter func234,ntmps234
 go_wp2_with fail
 go_loopw [13] (fun i wr=>∃k:Nat,k<=L/\i=M8 k/\wr.ownsRow 0 2 1 (.slice (some (ar g 0)) n c) n (aB .i64 (tv xs lo ys true k))/\Keep (fun i=>i=g) w wr) (fun i _=>L-(intOf i).toNat)
 case atStart=>exact ⟨0,Mf _,rfl,by rw [uM];exact Y.o,Keep.refl _ _⟩
 case round=>
  obtain ⟨k,hk,rfl,h,A⟩:=hrel
  by_cases C:k<L
  ·have hg:=(h.lt g rfl).2
   have v:lo+k<xs.length:=by rw [Hn.o];omega
   have V:=cF h (show lo+k<n by omega)
   rw [pt _ _ _ _ v,if_neg ap] at V
   have f1:=h.frozenAt (lo+k)
   obtain ⟨N,U,rfl,O⟩:=R.o.num (show k<ys.length by rw [T.o];exact C)
   have I:N≠g:=Z.o _ rfl
   have p2:wr.cell? (ar N (U+k))=some (M8 (nth ys k)):=A.cell O I
   have p:=yt xs lo ys true v
   rw [if_pos rfl] at p
   obtain ⟨H,u,D⟩:=af A h p;clear A h p v O
   go_wp2_with fail
   go_region
   all_goals go_wp2_with fail
   all_goals
    go_roundw
    case rel=>
     refine ⟨k+1,by omega,by go_num,?_,?_⟩
     ·rw [<-D.o];exact dQ (bT u.o 1) (lo+k) _
     ·exact Keep.setCell (H.o.drewN 1) (ar g (lo+k)) (.inr rfl) _
    case measure=>simp [intOf];omega
  ·obtain rfl:k=L:=ap
   obtain ⟨H,u⟩:=ae A h;clear A h
   go_wp2_with fail
   go_ret
   exact ⟨rfl,u.o,H.o⟩
theorem vl:cW prog 79 6:=⟨⟨_,underlying79,rfl⟩,by kernel_rfl⟩
theorem wl {α:Type} {i p:List α} {lo n:Nat} (h:lo+p.length<=n) (hn:n<=i.length):(splice i lo p).take n=splice (i.take n) lo p:=by
 unfold splice
 have o:lo<=n:=ap
 rw [List.take_append,List.take_append,List.take_take,MJ,List.take_take,List.drop_take,Nat.min_eq_right o,Nat.min_eq_left o,Nat.min_eq_left (show lo<=i.length by omega),List.take_of_length_le (show p.length<=n-lo by omega),Nat.sub_sub]
theorem yN {α:Type} {i o:List α} {lo:Nat} (h:lo+o.length<=i.length):(splice i lo o).length=i.length:=by
 unfold splice;simp only [ME,MJ,MM];omega
theorem Ji {w:World} {base:Nat} {e:TypeId} {g n cap:Nat} {xs:List Value} (h:w.ownsRow base e 1 (.slice (some (ar g 0)) n cap) n xs):
  ∃o:List Value,w.heap[g]?=some (.cells o.toArray e (0,0))/\o.take n=xs/\n<=o.length/\∀(p:World) (i:List Value),p.heap[g]?=some (.cells (List.toArray i) e (0,0))->i.length=o.length->p.ownsRow base e 1 (.slice (some (ar g 0)) n cap) n (i.take n):=by
 rcases h.2 with ⟨B,_⟩ | ⟨C,v,o,u,hb,hg,h1,y,hs,x⟩
 ·cases B
 ·simp only [MR,Option.some.injEq,Addr.mk.injEq,and_true,true_and] at u
  obtain ⟨rfl,rfl⟩:=u
  rw [Nat.mul_one] at hs x
  have hl:o.toList.length=cap:=by simpa using hs
  refine ⟨o.toList,by simpa using hg,by simpa using x,by omega,fun p i hw A=>⟨by rw [MJ];omega,.inr ⟨g,cap,i.toArray,rfl,hb,hw,h1,y,?_,?_⟩⟩⟩
  ·simp;omega
  ·simp
theorem Gc {w:World} {b:Nat} (y:Itm) (h:Acn) (H:y.a=some h) (u v:Option Addr) (C:Int) (hC:C≠0)
  (p:∀i,aq w i->Calls prog 236 #[.pointer u,.agg #[M8 (h.st:Nat),M8 (h.bk:Nat),M8 (h.ph:Nat),M8 (h.rd:Nat),M8 (h.ch:Nat)]] i fun e T=>e=.returned (.tuple #[.agg Nh,M8 C])/\aq i T):
  Calls prog 227 #[(au b),.agg (aZ y).toArray,.agg #[.pointer u,.pointer v]] w fun e i=>e=.returned (M8 C)/\aq w i:=by
 obtain ⟨lo,h1⟩:∃lo,h.at'.1=lo:=⟨_,rfl⟩
 obtain ⟨I,U⟩:∃I,h.at'.2=I:=⟨_,rfl⟩
 rw [vJ H h1 U]
 obtain ⟨W0,W1,B,A,Y,g1,D,O⟩:=fP w #[M8 (y.kind:Nat),M8 (y.st:Nat),M8 (y.n:Nat),.bool h.send,.bool h.add,M8 (h.st:Nat),M8 (h.bk:Nat),M8 (h.ph:Nat),M8 (h.rd:Nat),M8 (h.ch:Nat),M8 (lo:Nat),M8 (I:Nat)] #[.pointer u,.pointer v] 152 333
 obtain ⟨N,R,G0,G1,K1,x⟩:=ai B A Y g1 D p;clear B A Y g1 D p H h1 U O
 go_enter func227,ntmps227
 go_upto_region 1 with (fail)
 rw [N.o,R.o]
 go_upto_region 2 with (first | (refine aT #[.bool h.send,.bool h.add,M8 (h.st:Nat),M8 (h.bk:Nat),M8 (h.ph:Nat),M8 (h.rd:Nat),M8 (h.ch:Nat),M8 (lo:Nat),M8 (I:Nat)] (b:=w.heap.size) G0.o pM rfl rfl rfl rfl ?_) | (refine aI (Mc _ _) pM rfl rfl rfl rfl rfl rfl rfl ?_;intro J Z k2;obtain ⟨E2,L⟩:=ae Z (aK k2);clear Z k2))
 have q2:=br J
 have B2:=aa (bt K1.o L.o)
 have s0:∀i,aq J i->i.cell? (ar (w.heap.size+1) 0)=some (.pointer u):=fun i q=>Md i (w.heap.size+1) 0 _ _ _ (sb (sb G1.o _ L.o) i q)
 have Q:=fun i (q:aq J i)=>Mi (Ma (sb G1.o _ L.o)) q.size
 go_wp2_with (refine aT #[M8 (h.st:Nat),M8 (h.bk:Nat),M8 (h.ph:Nat),M8 (h.rd:Nat),M8 (h.ch:Nat)] (b:=W1.heap.size) E2.o jp rfl rfl rfl rfl ?_)
 refine (x.o J B2.o).mono ?_
 rintro e w3 ⟨rfl,V⟩
 have a0:(C != 0)=true:=by rw [bne_iff_ne];exact hC
 have B3:=aa (bt B2.o V);clear q2 s0 Q V
 go_wp2_with (refine aI (Mc _ _) vl rfl rfl rfl rfl rfl rfl rfl ?_;intro W4 e4 k4;have K4:=aa (bt B3.o (aK k4));clear e4 k4)
 go_ret
 exact ⟨rfl,K4.o⟩
theorem F4 {H:Nat->Prop} {w:World} {b x:Nat} {i:Inp} {a:MAd} {m:Mst} (h:aU H w b i x a m) (bA:i.start.length<=60) (y:Itm) (B:Acn) (a5:y.a=some B) (lo C:Nat) (h1:B.at'.1=lo) (h2:B.at'.2=C) (bO:lo<C) (bV:C<=i.start.length) (v:Option Addr)
  {base l:Nat} {g:Option Nat} {s:LSt} (hL:aV w base l g s) (c6:a.bg<base) (bb:s.recv<s.msgs.length) (ao:(aO s.msgs s.recv).tag=B.tg) (R:(aO s.msgs s.recv).vals.length=C-lo):
  Calls prog 227 #[(au b),.agg (aZ y).toArray,.agg #[(au l),.pointer v]] w fun e p=>e=.returned (M8 0)/\Keep (fun k=>k=l\/k=a.bg) w p/\
   aV p base l g {s with recv:=s.recv+1}/\p.ownsRow 0 2 1 (.slice (some (ar a.bg 0)) i.start.length a.cg) i.start.length (aB .i64 (j6 m.G lo (aO s.msgs s.recv).vals B.add)):=by
 rw [vJ a5 h1 h2]
 have T:=h.blk
 obtain ⟨cl,Q⟩:=hL.blk
 have bN:i.start.length<=a.cg:=by
  obtain ⟨_,_,e,h⟩:=aC h.oG
  simp only [MR] at e
  omega
 have b6:b≠l:=nS h.blk Q (by decide)
 have a8:l≠a.bg:=fun e=>ax Q (by decide) h.oG (by rw [e];rfl)
 have a3:=h.wG.1
 have b7:=h.blk
 obtain ⟨u,hu⟩:∃u,(some (ar l 0):Option Addr)=u:=⟨_,rfl⟩
 simp only [au];rw [show (some (⟨l,0,none⟩:Addr))=u from hu]
 obtain ⟨W0,W1,av,a0,g0,g1,a2,b8⟩:=fP w #[M8 (y.kind:Nat),M8 (y.st:Nat),M8 (y.n:Nat),.bool B.send,.bool B.add,M8 (B.st:Nat),M8 (B.bk:Nat),M8 (B.ph:Nat),M8 (B.rd:Nat),M8 (B.ch:Nat),M8 (lo:Nat),M8 (C:Nat)] #[.pointer u,.pointer v] 152 333
 rw [<-hu] at g1 a0
 rw [<-hu]
 have b5:=sb T _ a2
 obtain ⟨bv,bn,aM,G0,G1,K1,HM,HL⟩:=ak av a0 b5 g0 g1 a2 h hL;obtain ⟨bz,D,bX,bw⟩:=ag ao R Q a3;clear av a0 b5 g0 g1 a2 T b7 h hL a5 h1 h2 b8 hu ao R Q a3
 go_enter func227,ntmps227
 go_upto_region 1 with (fail)
 rw [bv.o,bn.o]
 go_upto_region 2 with (first | (refine aT #[.bool B.send,.bool B.add,M8 (B.st:Nat),M8 (B.bk:Nat),M8 (B.ph:Nat),M8 (B.rd:Nat),M8 (B.ch:Nat),M8 (lo:Nat),M8 (C:Nat)] (b:=w.heap.size) G0.o pM rfl rfl rfl rfl ?_) | (refine aI (Mc _ _) pM rfl rfl rfl rfl rfl rfl rfl ?_;intro W2 e2 k2;obtain ⟨E2,K2⟩:=ae e2 (aK k2);clear e2 k2))
 have B2:=aa (bt K1.o K2.o)
 have a1:=xT base l g s B.tg W2 (HL.o.below B2.o) bb bz.o
 rw [D.o] at a1
 have a4:=aa a1
 have s0:W2.cell? (ar (w.heap.size+1) 0)=some ((au l)):=Md W2 (w.heap.size+1) 0 _ _ _ (sb G1.o _ K2.o)
 clear a1
 go_wp2_with (refine aT #[M8 (B.st:Nat),M8 (B.bk:Nat),M8 (B.ph:Nat),M8 (B.rd:Nat),M8 (B.ch:Nat)] (b:=W1.heap.size) E2.o jp rfl rfl rfl rfl ?_)
 refine a4.o.mono ?_
 rintro e w3 ⟨A,c,rfl,o3,L3,k3⟩
 have bf:l≠W1.heap.size:=by have:=HL.o.blocks.1;have:=K1.o.size;omega
 have e3:=(k3.block W1.heap.size (Ma E2.o) (fun e=>bf e.symm)).trans E2.o
 have b3:=(k3.block b (Ma (sb aM.o _ K2.o)) b6).trans (sb aM.o _ K2.o)
 have a7:=k3.own (ay HM.o.oG B2.o) (fun j hj e=>a8 (by cases hj;exact e.symm))
 obtain ⟨O3,bo,K3,E3,bi,bh⟩:=ai o3 L3 ((Keep.below (S:=fun k=>k=l) B2.o).trans k3) e3 b3 a7;clear o3 L3 k3 e3 b3 a7 s0 a4
 go_upto_region 5 with (refine aI (Mc _ _) vl rfl rfl rfl rfl rfl rfl rfl ?_;intro L e4 k4;obtain ⟨E4,K4⟩:=ae e4 (aK k4);clear e4 k4)
 have q4:=(br L).drew
 have kx:=fun p (q:aq L p)=>sb (sb E3.o _ K4.o) p q
 have bl:∀p,aq L p->p.cell? (ar b 13)=some (.slice (some (ar a.bg 0)) i.start.length a.cg):=fun p q=>Md p b 13 _ _ _ (sb (sb bi.o _ K4.o) p q)
 have x1:∀p,aq L p->p.cell? (ar W1.heap.size 1)=some (.bool B.add):=fun p q=>Md p _ 1 _ _ _ (kx p q)
 have x7:∀p,aq L p->p.cell? (ar W1.heap.size 7)=some (M8 (lo:Nat)):=fun p q=>Md p _ 7 _ _ _ (kx p q)
 have x8:∀p,aq L p->p.cell? (ar W1.heap.size 8)=some (M8 (C:Nat)):=fun p q=>Md p _ 8 _ _ _ (kx p q)
 have y5:∀p,aq L p->p.cell? (ar w3.heap.size 5)=some (.slice A (C-lo:Nat) c):=fun p q=>Md p _ 5 _ _ _ (sb E4.o p q)
 have xl:=sl (sb E3.o _ K4.o)
 have yl:=sl E4.o
 have c7:(lo:Int)<=C:=ap
 have c8:(C:Int)<=a.cg:=ap
 have bG:lo<=C:=ap
 have bI:C<=a.cg:=ap
 have bM:¬a.cg=lo:=ap
 clear kx
 refine HA.g (fun p:World=>aq L p) ?_
 refine HA.t ?_ [0,1,2,3,4,5,6,7,8,9,10,11] q4 ?_
 refine HA.d ?_
 have N:=aa (K4.o.trans (q4.mono K4.o.size))
 have o5:=ay O3.o N.o
 have L5:=bo.o.below N.o
 have Z:=ay bh.o N.o
 have K5:=(K3.o.mono (S':=fun k=>k=l\/k=a.bg) fun k _ e=>.inl e).trans (Keep.below N.o)
 have b1:∀z,A=some z->z.block≠a.bg:=fun z hz e=>by
  rcases o5.2 with ⟨e',_⟩ | ⟨r,_,_,e',hb,_⟩
  ·injection e' with e1;rw [e1] at hz;cases hz
  ·injection e' with e1;rw [e1] at hz;cases hz;exact absurd hb (by simp only at e;omega)
 have b4:∀p,Keep (fun k=>k=a.bg) L.drew p->aV p base l g {s with recv:=s.recv+1}:=fun p k=>by
  refine L5.keep k a8 (fun j hj e=>?_) (fun j _ _ hb e=>ap)
  subst hj
  obtain ⟨cg,hg⟩:=L5.ringBlk
  exact ax hg (by decide) Z (by rw [e];rfl)
 obtain ⟨O5,a6,aP,bs,aR⟩:=ah o5 Z K5 b1 b4;clear o5 L5 Z K5 b1 b4 bl
 cases hadd:B.add with
 | true=>
  rw [hadd] at x1
  obtain ⟨I,be⟩:=ae hadd (AF a.bg a.cg lo i.start.length A m.G (aO s.msgs s.recv).vals (C-lo) (a.cg-lo) c L.drew a6.o (Rd.own O5.o) D.o ap ap bs.o)
  clear hadd
  go_wp2_with fail
  refine be.o.mono ?_
  rintro e w6 ⟨rfl,o6,k6⟩
  obtain ⟨O6,L6,K6⟩:=af o6 (aR.o w6 k6) (aP.o.trans (k6.mono fun k _ e=>.inr e));clear o6 k6 x1 x7 x8 y5 xl yl q4
  go_wp2_with fail
  go_ret
  exact ⟨rfl,K6.o,L6.o,by first | exact O6.o | (rw [I.o];exact O6.o)⟩
 | false=>
  rw [hadd] at x1
  have I:=aa hadd
  obtain ⟨Y,V,b0,b2,ab⟩:=Ji a6.o
  have O:(aB .i64 (aO s.msgs s.recv).vals).length=C-lo:=by rw [bU,D.o]
  have J:lo+(aB .i64 (aO s.msgs s.recv).vals).length<=Y.length:=by rw [O];omega
  have U:∀p:World,p.heap[a.bg]?=some (.cells (splice Y lo (aB .i64 (aO s.msgs s.recv).vals)).toArray 2 (0,0))->p.ownsRow 0 2 1 (.slice (some (ar a.bg 0)) i.start.length a.cg) i.start.length (aB .i64 (j6 m.G lo (aO s.msgs s.recv).vals false)):=fun p hw=>by
   have:=ab p _ hw (yN J)
   rwa [wl (by rw [O];omega) b2,b0,mb,DY (by rw [D.o,bw.o];omega)] at this
  obtain ⟨ad,bd,a9,aG,b9⟩:=ah V O J U (Rd.own O5.o);clear hadd V b0 b2 ab O J U
  go_wp2_with (refine nV rfl (.tmp 41) (.tmp 43) 139 26 rfl 2 underlying139 (by kernel_rfl) (some (ar a.bg lo)) A (C-lo) (a.cg-lo) c rfl rfl a.bg lo Y 2 ad.o (aB .i64 (aO s.msgs s.recv).vals) bd.o (fun _=>rfl) b9.o a9.o (cH _ _) ?_;intro w6 g6 k6;obtain ⟨O6,L6,K6⟩:=af (aG.o w6 g6) (aR.o w6 k6) (aP.o.trans (k6.mono fun k _ e=>.inr e));clear g6 k6 x1 x7 x8 y5 xl yl q4)
  go_ret
  exact ⟨rfl,K6.o,L6.o,by first | exact O6.o | (rw [I.o];exact O6.o)⟩
theorem aV.box {w o:World} {base l b:Nat} {g:Option Nat} {s:LSt} (h:aV w base l g s) (k:Keep (fun k=>k=b) w o) (h1:l≠b) (u:b<base):aV o base l g s:=
 h.keep k h1 (fun i p e=>by have:=(h.blocks.2 i p).1;omega) (fun i c _ hb e=>ap)
theorem aU.setGH {H:Nat->Prop} {w y:World} {b x:Nat} {i:Inp} {a:MAd} {m:Mst} (h:aU H w b i x a m) (hn:∀k,Mut b a k->¬H k) (hk:Keep (fun k=>k=a.bg\/H k) w y) (G:List Int)
  (oG:y.ownsRow 0 2 1 (.slice (some (ar a.bg 0)) i.start.length a.cg) i.start.length (aB .i64 G)) (wG:G.length=i.start.length/\W64 G):aU H y b i x a {m with G:=G}:=by
 have he:Ext (aF (fT H b a) w) (aF (fT H b a) y):=bE (hk.mono fun k _ e=>e.imp (fun e=>.inr (.inr (.inr (.inl e)))) id) (fun k _ Y=>Y)
 have nb:b≠a.bg:=fun e=>ax h.blk (by decide) h.oG (by rw [e];rfl)
 have hb:=(hk.block b (Ma h.blk) (fun e=>e.elim nb (hn b (.inl rfl)))).trans h.blk
 have u:∀{v:Value} {e size n xs},(∀j,v.ownBlock=some j->j≠a.bg/\Mut b a j)->w.ownsRow 0 e size v n xs->y.ownsRow 0 e size v n xs:=fun p u=>hk.own u (fun j o e=>e.elim (p j o).1 (hn j (p j o).2))
 have D:∀{v:Value} {e:TypeId} {size n:Nat} {xs:List Value},e≠2->w.ownsRow 0 e size v n xs->∀j,v.ownBlock=some j->j≠a.bg:=fun p u j o e=>by
  rcases h.oG.2 with ⟨A,_⟩ | ⟨Z,_,_,A,_,hg,_⟩
  ·cases A
  ·simp only [MR,Option.some.injEq,Addr.mk.injEq] at A
   obtain ⟨⟨U,_⟩,_⟩:=A
   exact ax hg (Ne.symm p) u (by rw [o,e,U])
 obtain ⟨T,a1,V,L,N,B,O⟩:=h.pl
 obtain ⟨rows,C,R,I,J⟩:=h.re
 exact ⟨hb,fh h.sh he,er cN h.ex he,gD h.sa he,⟨T,a1,V,L,N,B,gE O he⟩,aW h.bu he,aW h.it he,⟨rows,u (fun j o=>⟨D (by decide) C j o,by cases o;exact .inr (.inr (.inr (.inr (.inl rfl))))⟩) C,R,I,fun j x Q=>cN (J j x Q) he⟩,
  u (fun j o=>by cases o;exact ⟨h.dj.2.1,.inr (.inl rfl)⟩) h.oP,u (fun j o=>by cases o;exact ⟨h.dj.2.2,.inr (.inr (.inl rfl))⟩) h.oM,oG,u (fun j o=>⟨D (by decide) h.oO j o,.inr (.inr (.inr (.inr (.inr o))))⟩) h.oO,h.dj,fun k _ hm=>hn k hm,h.wP,h.wM,wG,h.ox,h.xw⟩
theorem Gh {H:Nat->Prop} {w:World} {b x:Nat} {i:Inp} {a:MAd} {m:Mst} (h:aU H w b i x a m) (hn:∀k,Mut b a k->¬H k) (B:∀k,w.heap.size<=k->¬H k) (hs:cz i) {y:Itm} (hy:(cI i x m.st)[m.nx]?=some y) (hk:y.kind=3) {p:Acn} (a2:y.a=some p) (a3:p.at'.1<p.at'.2) (Y:p.at'.2<=i.start.length) (u:Option Addr)
  {base l:Nat} {g:Option Nat} {s:LSt} (V:aV w base l g s) (I:s.msgs.length<s.recv+s.cap) (L:s.msgs.length<100000000000) (J:base<=w.heap.size) (D:∀k,dJ l g k->H k) (a0:b<base):
  Calls prog 216 #[(au b),.pointer u,(au l)] w fun e v=>e=.returned (M8 0)/\
   IP (dJ l g) b i x a m (fun T v m1=>m1=m/\∃o,(∀k,T k↔H k\/o=some k)/\aV v base l o (s.send ⟨p.tg,(m.G.drop p.at'.1).take (p.at'.2-p.at'.1)⟩)/\(o=g\/∃k,o=some k/\w.heap.size<=k)) w v:=by
 have a1:l≠b:=fun e=>hn b (.inl rfl) (D b (.inl e.symm))
 refine (xO h hn B (G:=dJ l g) (fun k e=>?_) hs hy u (some (ar l 0)) 226 (fun v=>by rw [hk];kernel_rfl) (fun args w=>by kernel_rfl) (fun _=>False)
  (fun T v m1=>m1=m/\∃o,(∀k,T k↔H k\/o=some k)/\aV v base l o (s.send ⟨p.tg,(m.G.drop p.at'.1).take (p.at'.2-p.at'.1)⟩)/\(o=g\/∃k,o=some k/\w.heap.size<=k)) ?_ (fun v q=>?_)).mono ?_
 ·rcases e with e | e
  ·rw [e];exact V.blocks.1
  ·exact (V.blocks.2 k e).2
 ·rintro T w1 w2 m1 ⟨e,o,h1,h2,h3⟩ kk
  exact ⟨e,o,h1,h2.box kk a1 a0,h3⟩
 ·have U:=h.below q hn
  refine (FZ U hs.n y p a2 a3 Y u (V.below q) I L (Mh J q.size)).mono ?_
  rintro e a4 ⟨he,N,o,R,Q⟩
  have A:∀k,o=some k->H k\/v.heap.size<=k:=fun k e=>by
   rcases Q with rfl | ⟨j,e1,Z⟩
   ·exact .inl (D k (.inr e))
   ·rw [e1] at e;cases e;exact .inr Z
  have O:∀k,Mut b a k->¬(H k\/o=some k):=fun k hm e=>by
   rcases e with e | e
   ·exact hn k hm e
   ·rcases A k e with e | e
    ·exact hn k hm e
    ·have:=U.mlt k hm;omega
  refine .inl ⟨he,fun k=>H k\/o=some k,a,m,U.step (N.mono fun k _ e=>D k e) (fun k hl e=>?_) O,O,fun k hl e=>?_,rfl,rfl,N.mono fun k _ e=>.inr e,fun k hm=>.inl hm,⟨rfl,rfl,rfl⟩,rfl,o,fun k=>Iff.rfl,R,?_⟩
  ·rcases e with e | e
   ·exact e
   ·rcases A k e with e | e
    ·exact e
    ·omega
  ·rcases e with e | e
   ·exact B k (Mh (Mh q.size N.size) hl) e
   ·have:=(R.blocks.2 k e).2;omega
  ·exact Q.imp id fun ⟨k,e1,Z⟩=>⟨k,e1,Mh q.size Z⟩
 ·rintro e v (⟨he,hd⟩ | ⟨C,_,hF,_⟩)
  ·exact ⟨he,hd⟩
  ·exact hF.elim
theorem Gj {H:Nat->Prop} {w:World} {b x:Nat} {i:Inp} {a:MAd} {m:Mst} (h:aU H w b i x a m) (hn:∀k,Mut b a k->¬H k) (v:∀k,w.heap.size<=k->¬H k) (hs:cz i) {y:Itm} (L:(cI i x m.st)[m.nx]?=some y) (hk:y.kind=3) {p:Acn} (B:y.a=some p) (I:p.at'.1<p.at'.2) (D:p.at'.2<=i.start.length) (u:Option Addr)
  {base l:Nat} {g:Option Nat} {s:LSt} (O:aV w base l g s) (o:s.msgs.length=s.recv+s.cap):
  Calls prog 216 #[(au b),.pointer u,(au l)] w fun e A=>e=.returned (M8 11)/\aq w A:=by
 refine (ln h hn v (G:=fun _=>False) (fun _ h=>h.elim) hs L u (some (ar l 0)) 226 (fun A=>by rw [hk];kernel_rfl) (fun args w=>by kernel_rfl) (fun C=>C=11) (fun _ _=>False) (fun _ _ _ h _=>h) (fun A q=>?_)).mono ?_
 ·refine (zK (h.below q hn) hs.n y p B I D u (O.below q) o).mono ?_
  rintro e N ⟨he,k⟩
  exact .inr ⟨11,by decide,rfl,he,k⟩
 ·rintro e A (⟨_,_,_,_,_,_,_,_,_,J⟩ | ⟨C,_,Q,he,k⟩)
  ·exact J.elim
  ·rw [Q] at he;exact ⟨he,k⟩
theorem Gi {H:Nat->Prop} {w:World} {b x:Nat} {i:Inp} {a:MAd} {m:Mst} (h:aU H w b i x a m) (hn:∀k,Mut b a k->¬H k) (B:∀k,w.heap.size<=k->¬H k) (hs:cz i) {y:Itm} (hy:(cI i x m.st)[m.nx]?=some y) (hk:y.kind=4) {o:Acn} (T:y.a=some o) (U:o.at'.1<o.at'.2) (L:o.at'.2<=i.start.length) (v:Option Addr)
  {base l:Nat} {g:Option Nat} {s:LSt} (Z:aV w base l g s) (u:∀k,dJ l g k->H k) (N:b<base) (Q:a.bg<base) (I:s.recv<s.msgs.length) (J:(aO s.msgs s.recv).tag=o.tg) (A:(aO s.msgs s.recv).vals.length=o.at'.2-o.at'.1) (hw:W64 (aO s.msgs s.recv).vals):
  Calls prog 216 #[(au b),(au l),.pointer v] w fun e p=>e=.returned (M8 0)/\
   yA H (fun k=>k=l) b i x a m (fun p m1=>m1={m with G:=j6 m.G o.at'.1 (aO s.msgs s.recv).vals o.add}/\aV p base l g {s with recv:=s.recv+1}) w p:=by
 have O:l≠b:=fun e=>hn b (.inl rfl) (u b (.inl e.symm))
 refine (ln h hn B (G:=fun k=>k=l) (fun k e=>by rw [e];exact Z.blocks.1) hs hy (some (ar l 0)) v 227 (fun p=>by rw [hk];kernel_rfl) (fun args w=>by kernel_rfl) (fun _=>False)
  (fun p m1=>m1={m with G:=j6 m.G o.at'.1 (aO s.msgs s.recv).vals o.add}/\aV p base l g {s with recv:=s.recv+1}) (fun w1 w2 m1 V kk=>⟨V.1,V.2.box kk O N⟩) (fun p q=>?_)).mono ?_
 ·have Y:=h.below q hn
  refine (F4 Y hs.n y o T _ _ rfl rfl U L v (Z.below q) Q I J A).mono ?_
  rintro e a0 ⟨he,D,R,hG⟩
  exact .inl ⟨he,a,_,Y.setGH hn (D.mono fun k _ e=>e.elim (fun e=>.inr (u k (.inl e))) .inl) _ hG ⟨by rw [pw];exact h.wG.1,sS h.wG.2 hw⟩,rfl,rfl,D.mono fun k _ e=>e.elim .inr (fun e=>.inl (.inr (.inr (.inr (.inl e))))),fun k hm=>.inl hm,⟨rfl,rfl,rfl⟩,rfl,R⟩
 ·rintro e p (⟨he,hd⟩ | ⟨C,_,hF,_⟩)
  ·exact ⟨he,hd⟩
  ·exact hF.elim
theorem rZ {H:Nat->Prop} {w:World} {b x:Nat} {i:Inp} {a:MAd} {m:Mst} (h:aU H w b i x a m) (hn:∀k,Mut b a k->¬H k) (A:∀k,w.heap.size<=k->¬H k) (hs:cz i) {y:Itm} (L:(cI i x m.st)[m.nx]?=some y) (hk:y.kind=4) {u:Acn} (I:y.a=some u) (v:Option Addr)
  {base l:Nat} {g:Option Nat} {s:LSt} (O:aV w base l g s) (D:s.recv=s.msgs.length\/(s.recv<s.msgs.length/\(aO s.msgs s.recv).tag≠u.tg)):
  Calls prog 216 #[(au b),(au l),.pointer v] w fun e B=>e=.returned (M8 (if s.recv=s.msgs.length then 12 else 10))/\aq w B:=by
 refine (ln h hn A (G:=fun _=>False) (fun _ h=>h.elim) hs L (some (ar l 0)) v 227 (fun B=>by rw [hk];kernel_rfl) (fun args w=>by kernel_rfl) (fun C=>C=if s.recv=s.msgs.length then 12 else 10) (fun _ _=>False) (fun _ _ _ h _=>h) (fun B q=>?_)).mono ?_
 ·refine (Gc y u I (some (ar l 0)) v (if s.recv=s.msgs.length then 12 else 10) (by split<;>decide) (fun o N=>?_)).mono ?_
  ·have p:=(O.below q).below N
   rcases D with e | ⟨e,ne⟩
   ·rw [if_pos e];exact tt base l g s u.tg o p e
   ·rw [if_neg ap];exact vI base l g s u.tg o p e ne
  ·rintro e o ⟨he,k⟩
   exact .inr ⟨_,by split<;>decide,rfl,he,k⟩
 ·rintro e B (⟨_,_,_,_,_,_,_,_,_,J⟩ | ⟨C,_,Q,he,k⟩)
  ·exact J.elim
  ·rw [Q] at he;exact ⟨he,k⟩
def jG (i:Inp) (x:Nat) (m:Mst) (y:Itm):Mst:=
 if y.kind=1 then {m with G:=eq i m.P m.G (dI i.data (oV i x y.st y.n))}
 else if y.kind=2 then {m with op:=m.op++[y.n]}
 else if y.kind=5 then
  {m with P:=apP i.cfg.rate i.cfg.mom i.cfg.shift m.P m.M ((m.G.drop (aL (az i).buks y.n).1).take ((aL (az i).buks y.n).2-(aL (az i).buks y.n).1)) (aL (az i).buks y.n).1 ((aL (az i).buks y.n).2-(aL (az i).buks y.n).1),M:=apM i.cfg.mom i.cfg.shift m.M ((m.G.drop (aL (az i).buks y.n).1).take ((aL (az i).buks y.n).2-(aL (az i).buks y.n).1)) (aL (az i).buks y.n).1 ((aL (az i).buks y.n).2-(aL (az i).buks y.n).1),op:=gL m.op y.n}
 else {m with rc:=m.rc++[(m.P,m.M)],G:=List.replicate i.start.length 0}
def Lr (m:Mst) (y:Itm):Prop:=(y.kind=1\/y.kind=2\/y.kind=5\/y.kind=6)/\m.op.length<=1000/\(y.kind=5->0<m.op.length)/\(y.kind=6->m.rc.length<=1000)
def bB (n s k:Nat):Nat:=min ((dh n s-k)*s) n
theorem Io {n s k:Nat} (hs:1<=s) (hk:k<dh n s):aL (nQ n s) k=(bB n s (k+1),bB n s k)/\bB n s (k+1)<bB n s k/\bB n s k<=n:=by
 have h1:=iB (n:=n) (size:=s) (k:=dh n s-1-k) ap
 have h:dh n s-(k+1)=dh n s-1-k:=ap
 have i:(dh n s-k)*s=(dh n s-1-k)*s+s:=by
  rw [show dh n s-k=(dh n s-1-k)+1 by omega,MU]
 have hl:k<(nQ n s).length:=by rw [kw];exact hk
 refine ⟨?_,?_,?_⟩
 ·rw [cP _ _ hl]
  simp only [nQ,List.getElem_reverse,ey,fk,List.getElem_map,List.getElem_range,List.length_map,List.length_range]
  unfold bB
  rw [h,i]
  simp only [Prod.mk.injEq,and_true]
  omega
 ·unfold bB
  rw [h,i]
  omega
 ·unfold bB
  omega
theorem JN (n s:Nat) (hs:1<=s):bB n s 0=n:=by
 unfold bB dh
 by_cases h:n=0
 ·simp [h]
 ·rw [if_neg h,Nat.sub_zero,MU]
  have h1:=Nat.div_add_mod (n-1) s
  have i:=Nat.mod_lt (n-1) (show 0<s from hs)
  rw [Nat.mul_comm] at h1
  omega
theorem DU (a c:Nat):gL (List.range' a (c+1)) a=List.range' (a+1) c:=by
 unfold gL
 rw [List.range'_succ,List.filter_cons,if_neg (by simp)]
 exact List.filter_eq_self.2 fun j h=>by
  rw [List.mem_range'_1] at h
  simp only [M5]
  omega
theorem xM {H:Nat->Prop} {w:World} {b x:Nat} {i:Inp} {a:MAd} {m:Mst} (h:aU H w b i x a m) (hn:∀k,Mut b a k->¬H k) (o:∀k,w.heap.size<=k->¬H k) (hs:cz i) {y:Itm} (B:(cI i x m.st)[m.nx]?=some y) (hk:Lr m y)
  (J: -9223372036854775808<=i.cfg.rate/\i.cfg.rate<=9223372036854775807) (O: -9223372036854775808<=i.cfg.mom/\i.cfg.mom<=9223372036854775807) (u v:Option Addr):
  Calls prog 216 #[(au b),.pointer u,.pointer v] w fun e C=>e=.returned (M8 0)/\yA H (fun _=>False) b i x a m (fun _ m1=>m1=jG i x m y) w C:=by
 obtain ⟨V,Q,Y,Z⟩:=hk
 obtain ⟨h1,U⟩:=dt B
 have L:=vQ B
 have I:=hs.ok
 rcases V with k | k | k | k
 ·refine (Gk h hn o hs B k u v).mono fun e C q=>?_
  have p:jG i x m y={m with G:=eq i m.P m.G (dI i.data (oV i x m.st y.n))}:=by
   unfold jG;rw [if_pos k,L]
  rw [p];exact q
 ·refine (zQ h hn o hs B k Q u v).mono fun e C q=>?_
  have p:jG i x m y={m with op:=m.op++[y.n]}:=by
   unfold jG;rw [if_neg ap,if_pos k]
  rw [p];exact q
 ·obtain ⟨g,hg,g1,g2⟩:=uy U (.inr k)
  obtain ⟨j,R,rfl⟩:=List.getElem_of_mem hg
  have N:=I.grp R
  rw [cP _ _ R] at N
  have D:y.n<(az i).buks.length:=ap
  have A:=D
  rw [Pln.buks,kw] at A
  obtain ⟨T,b2,b3⟩:=Io I.bu A
  have hr:aL (az i).buks y.n=(bB (az i).n (az i).bu (y.n+1),bB (az i).n (az i).bu y.n):=T
  refine (Js h hn o hs B k u v D (Y k) Q J O _ _ hr b2 b3).mono fun e C q=>?_
  have p:=jG.eq_1 i x m y
  rw [if_neg ap,if_neg ap,if_pos k,hr] at p
  rw [p];exact q
 ·refine (zP h hn o hs B k (Z k) u v).mono fun e C q=>?_
  have p:jG i x m y={m with rc:=m.rc++[(m.P,m.M)],G:=List.replicate i.start.length 0}:=by
   unfold jG;rw [if_neg ap,if_neg ap,if_neg ap]
  rw [p];exact q
theorem zW {p:Pln} {x st:Nat} {y:Itm} (h:y∈aJ p x st):(y.a=none/\y.kind≠3/\y.kind≠4)\/∃a,y.a=some a/\y.kind=(if a.send then 3 else 4):=by
 unfold aJ at h
 simp only [MS,List.mem_map,List.mem_flatMap,List.mem_singleton] at h
 rcases h with (⟨_,_,rfl⟩ | ⟨g,_,h⟩) | rfl
 ·exact .inl ⟨rfl,(fun e=>by cases e),(fun e=>by cases e)⟩
 ·unfold de at h
  simp only [MS,List.mem_map,List.mem_flatMap] at h
  rcases h with (⟨_,_,rfl⟩ | ⟨_,_,_,_,_,_,h⟩) | ⟨_,_,rfl⟩
  ·exact .inl ⟨rfl,(fun e=>by cases e),(fun e=>by cases e)⟩
  ·unfold bW at h
   obtain ⟨c,_,rfl⟩:=List.mem_map.1 h
   exact .inr ⟨c,rfl,rfl⟩
  ·exact .inl ⟨rfl,(fun e=>by cases e),(fun e=>by cases e)⟩
 ·exact .inl ⟨rfl,(fun e=>by cases e),(fun e=>by cases e)⟩
theorem my {i:Inp} {x k:Nat} {y:Itm} (h:y∈gP i x k):(y.a=none/\y.kind≠3/\y.kind≠4)\/∃a,y.a=some a/\y.kind=(if a.send then 3 else 4):=by
 unfold gP at h
 obtain ⟨st,_,h⟩:=List.mem_flatMap.1 h
 exact zW h
def sN (i:Inp) (x p:Nat):Nat:=(fF ((db i x).take p)).length
def rN (i:Inp) (x p:Nat):Nat:=(fV ((db i x).take p)).length
def nxW (W x:Nat):Nat:=(x+1)%W
def pvW (W x:Nat):Nat:=(x+W-1)%W
theorem xt {W x:Nat} (h:x<W):nxW W (pvW W x)=x:=by
 unfold nxW pvW
 rw [Nat.mod_add_mod,show x+W-1+1=x+W by omega,Nat.add_mod_right,Nat.mod_eq_of_lt h]
theorem FS {W x:Nat} (h:0<W):nxW W x<W:=Nat.mod_lt _ h
theorem le {W x:Nat} (h:0<W):pvW W x<W:=Nat.mod_lt _ h
def can (i:Inp) (C:Nat) (pos:Nat->Nat) (x:Nat):Prop:=∃y,(db i x)[pos x]?=some y/\(y.kind=3->sN i x (pos x)<rN i (nxW (az i).W x) (pos (nxW (az i).W x))+C)/\(y.kind=4->rN i x (pos x)<sN i (pvW (az i).W x) (pos (pvW (az i).W x)))
theorem tJ {l:List Itm} {n:Nat} {c:Cor} (h:(fF l)[n]?=some c):∃a∈eA l,a.send=true/\a.cor=c:=by
 have:=List.mem_of_getElem? h
 simp only [fF,List.mem_map,List.mem_filter] at this
 obtain ⟨a,⟨h1,i⟩,o⟩:=this
 exact ⟨a,h1,i,o⟩
theorem tY {l:List Itm} {n:Nat} {c:Cor} (h:(fV l)[n]?=some c):∃a∈eA l,a.send=false/\a.cor=c:=by
 have:=List.mem_of_getElem? h
 simp only [fV,List.mem_map,List.mem_filter] at this
 obtain ⟨a,⟨h1,i⟩,o⟩:=this
 exact ⟨a,h1,by simpa using i,o⟩
theorem jo (l:List Itm) (k:Nat):l=l.take k++l.drop k:=(List.take_append_drop k l).symm
theorem BI {wi:Nat} {l:List Itm} {k:Nat} (o:(eA l).Pairwise fun a b=>a.key wi<b.key wi) {r:Acn} (hr:r∈eA (l.drop k)):∃y,l[k]?=some y/\∀a,y.a=some a->a.key wi<=r.key wi:=by
 cases hd:l.drop k with
 | nil=>rw [hd] at hr;simp [eA] at hr
 | cons y t=>
  refine ⟨y,?_,fun a p=>?_⟩
  ·have:=List.getElem?_drop (xs:=l) (i:=k) (j:=0)
   rw [hd,Nat.add_zero] at this
   exact this.symm
  ·rw [jo l k,gO,List.pairwise_append] at o
   have h:=o.2.1
   rw [hd] at h hr
   have e:eA (y::t)=a::eA t:=by unfold eA;rw [List.filterMap_cons,p]
   rw [e] at h hr
   rcases List.mem_cons.1 hr with rfl | u
   ·exact Mb _
   ·exact Nat.le_of_lt ((List.pairwise_cons.1 h).1 r u)
theorem AD {wi:Nat} {l:List Itm} {k:Nat} (h:(eA l).Pairwise fun a b=>a.key wi<b.key wi) {y:Itm} {a s:Acn} (p:l[k]?=some y) (o:y.a=some a) (hs:s∈eA (l.take k)):s.key wi<a.key wi:=by
 rw [jo l k,gO,List.pairwise_append] at h
 refine h.2.2 s hs a ?_
 unfold eA
 rw [List.mem_filterMap]
 refine ⟨y,?_,o⟩
 have:=List.getElem?_drop (xs:=l) (i:=k) (j:=0)
 rw [Nat.add_zero,p] at this
 exact List.mem_of_getElem? this
theorem wU {l:List Itm} {k:Nat} {y:Itm} {a:Acn} (p:l[k]?=some y) (h:y.a=some a) (hs:a.send=false):(fV l)[(fV (l.take k)).length]?=some a.cor:=by
 have o:l.drop k=y::l.drop (k+1):=by
  obtain ⟨h1,i⟩:=MF.1 p
  rw [List.drop_eq_getElem_cons h1,i]
 conv=>lhs;rw [jo l k,pT]
 rw [MI (by simp),List.take_append_drop,Nat.sub_self,o]
 unfold fV eA
 rw [List.filterMap_cons,h]
 simp [hs]
theorem EJ {l:List Itm} {k:Nat} {y:Itm} {a:Acn} (p:l[k]?=some y) (h:y.a=some a) (hs:a.send=true):(fF l)[(fF (l.take k)).length]?=some a.cor:=by
 have o:l.drop k=y::l.drop (k+1):=by
  obtain ⟨h1,i⟩:=MF.1 p
  rw [List.drop_eq_getElem_cons h1,i]
 conv=>lhs;rw [jo l k,mG]
 rw [MI (by simp),List.take_append_drop,Nat.sub_self,o]
 unfold fF eA
 rw [List.filterMap_cons,h]
 simp [hs]
theorem Jv {i:Inp} (U:cO (az i)) {C:Nat} (hC:1<=C) (pos:Nat->Nat):∀n x,x<(az i).W->∀y a,(db i x)[pos x]?=some y->y.a=some a->a.key (az i).wi=n->∃z,z<(az i).W/\can i C pos z:=by
 intro n
 induction n using Nat.strongRecOn with
 | _ n ih=>
  intro x hx y a R V hn
  by_cases u:can i C pos x
  ·exact ⟨x,hx,u⟩
  have hW:0<(az i).W:=U.W1
  have D:∀z,z<(az i).W->∀B,(db i z)[pos z]?=some B->(∀A,B.a=some A->A.key (az i).wi<n)->∃z,z<(az i).W/\can i C pos z:=fun z H B o hk=>by
   rcases my (List.mem_of_getElem? o) with ⟨_,h3,h4⟩ | ⟨A,p,_⟩
   ·exact ⟨z,H,B,o,fun e=>absurd e h3,fun e=>absurd e h4⟩
   ·exact ih _ (hk A p) z H B A o p rfl
  rcases my (List.mem_of_getElem? R) with ⟨h0,_⟩ | ⟨a2,T,hk⟩
  ·rw [V] at h0;cases h0
  rw [V] at T
  obtain rfl:a=a2:=Option.some.inj T
  cases hs:a.send with
  | true=>
   rw [hs,if_pos rfl] at hk
   have hb:rN i (nxW (az i).W x) (pos (nxW (az i).W x))+C<=sN i x (pos x):=by
    rcases Mq (sN i x (pos x)) (rN i (nxW (az i).W x) (pos (nxW (az i).W x))+C) with h | h
    ·exact absurd ⟨y,R,fun _=>h,fun e=>ap⟩ u
    ·exact h
   have H:=FS (W:=(az i).W) (x:=x) hW
   generalize hzz:nxW (az i).W x=z at hb H
   have O:rN i z (pos z)<(fF ((db i x).take (pos x))).length:=by unfold sN at hb;omega
   obtain ⟨c,hc⟩:∃c,(fF ((db i x).take (pos x)))[rN i z (pos z)]?=some c:=⟨_,MG O⟩
   obtain ⟨s,J,L,I⟩:=tJ hc
   have a1:=AD (vY U x _) R V J
   have hr:(fV (db i z))[rN i z (pos z)]?=some c:=by
    rw [<-hzz]
    show (fV (gP i ((x+1)%(az i).W) i.cfg.steps.toNat))[_]?=_
    rw [<-oT,jo (gP i x i.cfg.steps.toNat) (pos x),mG,hzz,MH O]
    exact hc
   have v:(fV ((db i z).drop (pos z)))[0]?=some c:=by
    rw [jo (db i z) (pos z),pT,MI (by unfold rN;simp)] at hr
    simpa [rN] using hr
   obtain ⟨r,a0,Y,Z⟩:=tY v
   obtain ⟨B,o,N⟩:=BI (vY U z _) a0
   refine D z H B o fun A p=>?_
   have h1:=N A p
   have h2:r.key (az i).wi=2*c.q (az i).wi+1:=by unfold Acn.key;rw [Z,Y];rfl
   have h3:s.key (az i).wi=2*c.q (az i).wi:=by unfold Acn.key;rw [I,L];rfl
   have h4:a.key (az i).wi=2*a.cor.q (az i).wi:=by unfold Acn.key;rw [hs];rfl
   omega
  | false=>
   rw [hs] at hk
   have a3:y.kind=4:=hk
   have hb:sN i (pvW (az i).W x) (pos (pvW (az i).W x))<=rN i x (pos x):=by
    rcases Mq (rN i x (pos x)) (sN i (pvW (az i).W x) (pos (pvW (az i).W x))) with h | h
    ·exact absurd ⟨y,R,fun e=>ap,fun _=>h⟩ u
    ·exact h
   have H:=le (W:=(az i).W) (x:=x) hW
   have Q:=xt hx
   generalize pvW (az i).W x=z at hb H Q
   have hr:=wU R V hs
   have v:(fF (db i z))[rN i x (pos x)]?=some a.cor:=by
    show (fF (gP i z i.cfg.steps.toNat))[_]?=_
    rw [oT,show (z+1)%(az i).W=x from Q]
    exact hr
   rw [jo (db i z) (pos z),mG,MI hb] at v
   obtain ⟨s,J,L,I⟩:=tJ v
   obtain ⟨B,o,N⟩:=BI (vY U z _) J
   refine D z H B o fun A p=>?_
   have h1:=N A p
   have h2:s.key (az i).wi=2*a.cor.q (az i).wi:=by unfold Acn.key;rw [I,L];rfl
   have h3:a.key (az i).wi=2*a.cor.q (az i).wi+1:=by unfold Acn.key;rw [hs];rfl
   omega
theorem L7 {i:Inp} (p:cO (az i)) {C:Nat} (u:1<=C) (pos:Nat->Nat) {x:Nat} (o:x<(az i).W) (hl:pos x<(db i x).length):∃z,z<(az i).W/\can i C pos z:=by
 have h:=MG hl
 rcases my (List.mem_of_getElem? h) with ⟨_,A,y⟩ | ⟨a,v,_⟩
 ·exact ⟨x,o,_,h,fun e=>absurd e A,fun e=>absurd e y⟩
 ·exact Jv p u pos _ x o _ a h v rfl
def opF (s:Nat×Nat) (y:Itm):Nat×Nat:=if y.kind=2 then (s.1,s.2+1) else if y.kind=5 then (s.1+1,s.2) else s
def oN (wi nb:Nat):Nat×Nat->List Itm->Prop
 | _,[]=>True
 | s,y::r=>(y.kind=2->y.n=s.2/\s.2<nb/\s.2+1<=s.1+wi)/\(y.kind=5->y.n=s.1/\s.1<s.2)/\oN wi nb (opF s y) r
theorem ko (wi nb:Nat):∀(l r:List Itm) (s:Nat×Nat),oN wi nb s (l++r)↔oN wi nb s l/\oN wi nb (l.foldl opF s) r
 | [],r,s=>by simp [oN]
 | y::l,r,s=>by
  have:=ko wi nb l r (opF s y)
  simp only [List.cons_append,oN,List.foldl_cons,this,and_assoc]
theorem vB {wi nb:Nat}:∀{l:List Itm} {s:Nat×Nat} {k:Nat} {y:Itm},oN wi nb s l->l[k]?=some y->(y.kind=2->y.n=((l.take k).foldl opF s).2/\((l.take k).foldl opF s).2<nb/\((l.take k).foldl opF s).2+1<=((l.take k).foldl opF s).1+wi)/\(y.kind=5->y.n=((l.take k).foldl opF s).1/\((l.take k).foldl opF s).1<((l.take k).foldl opF s).2)
 | [],_,_,_,_,h=>by simp at h
 | z::l,s,0,y,hr,h=>by
  simp only [MB,Option.some.injEq] at h
  subst h
  exact ⟨hr.1,hr.2.1⟩
 | z::l,s,k+1,y,hr,h=>by
  rw [Mz] at h
  exact vB (l:=l) hr.2.2 h
theorem xq {wi nb:Nat}:∀{l:List Itm} {s:Nat×Nat},oN wi nb s l->s.1<=s.2->s.2<=nb->s.2<=s.1+wi->∀k,((l.take k).foldl opF s).1<=((l.take k).foldl opF s).2/\((l.take k).foldl opF s).2<=nb/\((l.take k).foldl opF s).2<=((l.take k).foldl opF s).1+wi
 | [],s,_,h1,h2,h3,k=>by simpa using ⟨h1,h2,h3⟩
 | y::l,s,h,h1,h2,h3,0=>⟨h1,h2,h3⟩
 | y::l,s,h,h1,h2,h3,k+1=>by
  have hk:(opF s y).1<=(opF s y).2/\(opF s y).2<=nb/\(opF s y).2<=(opF s y).1+wi:=by
   unfold opF
   by_cases i:y.kind=2
   ·rw [if_pos i];have:=h.1 i;exact ⟨by omega,by omega,by omega⟩
   ·rw [if_neg i]
    by_cases o:y.kind=5
    ·rw [if_pos o];have:=h.2.1 o;exact ⟨by omega,h2,by omega⟩
    ·rw [if_neg o];exact ⟨h1,h2,h3⟩
  exact xq h.2.2 hk.1 hk.2.1 hk.2.2 k
theorem qO {wi nb:Nat}:∀{l:List Itm} (s:Nat×Nat),(∀y∈l,y.kind≠2/\y.kind≠5)->oN wi nb s l/\l.foldl opF s=s
 | [],s,_=>⟨trivial,rfl⟩
 | y::l,s,h=>by
  have i:=h y (by simp)
  have e:opF s y=s:=by unfold opF;rw [if_neg i.1,if_neg i.2]
  have o:=qO (wi:=wi) (nb:=nb) (l:=l) s fun z p=>h z (by simp [p])
  refine ⟨⟨fun k=>absurd k i.1,fun k=>absurd k i.2,?_⟩,?_⟩
  ·rw [e];exact o.1
  ·rw [List.foldl_cons,e];exact o.2
theorem um {wi nb:Nat} (st u:Nat):∀(k l:Nat),l+k<=nb->l+k<=u+wi->oN wi nb (u,l) ((List.range' l k).map fun j=>(⟨2,st,j,none⟩:Itm))/\((List.range' l k).map fun j=>(⟨2,st,j,none⟩:Itm)).foldl opF (u,l)=(u,l+k)
 | 0,l,_,_=>⟨trivial,rfl⟩
 | k+1,l,h1,h2=>by
  rw [List.range'_succ,List.map_cons]
  have h:=um (wi:=wi) (nb:=nb) st u k (l+1) ap ap
  refine ⟨⟨fun _=>⟨rfl,by show l<nb;omega,by show l+1<=u+wi;omega⟩,fun i=>(by cases i),h.1⟩,?_⟩
  rw [List.foldl_cons]
  show List.foldl opF (u,l+1) _=_
  rw [h.2]
  congr 1;omega
theorem ul {wi nb:Nat} (st l:Nat):∀(k u:Nat),u+k<=l->oN wi nb (u,l) ((List.range' u k).map fun j=>(⟨5,st,j,none⟩:Itm))/\((List.range' u k).map fun j=>(⟨5,st,j,none⟩:Itm)).foldl opF (u,l)=(u+k,l)
 | 0,u,_=>⟨trivial,rfl⟩
 | k+1,u,h1=>by
  rw [List.range'_succ,List.map_cons]
  have h:=ul (wi:=wi) (nb:=nb) st l k (u+1) ap
  refine ⟨⟨fun i=>(by cases i),fun _=>⟨rfl,by show u<l;omega⟩,h.1⟩,?_⟩
  rw [List.foldl_cons]
  show List.foldl opF (u+1,l) _=_
  rw [h.2]
  congr 1;omega
theorem FO {p:Pln} (x st:Nat) (g:Rg) (h1:g.1<=g.2) (v:g.2<=p.buks.length) (A:g.2<=g.1+p.wi):oN p.wi p.buks.length (g.1,g.1) (de p x st g)/\(de p x st g).foldl opF (g.1,g.1)=(g.2,g.2):=by
 have a1:=um (wi:=p.wi) (nb:=p.buks.length) st g.1 (g.2-g.1) g.1 ap ap
 have u:g.1+(g.2-g.1)=g.2:=ap
 rw [u] at a1
 have i:=qO (wi:=p.wi) (nb:=p.buks.length) (l:=(List.range 2).flatMap fun ph=>(List.range (p.W-1)).flatMap fun r=>(List.range' g.1 (g.2-g.1)).flatMap fun j=>bW p x st ph r j) (g.1,g.2) (fun y h=>by
  simp only [List.mem_flatMap] at h
  obtain ⟨_,_,_,_,_,_,h⟩:=h
  unfold bW at h
  obtain ⟨c,_,rfl⟩:=List.mem_map.1 h
  unfold gw
  split<;>exact ⟨fun e=>(by cases e),fun e=>(by cases e)⟩)
 have o:=ul (wi:=p.wi) (nb:=p.buks.length) st g.2 (g.2-g.1) g.1 ap
 rw [u] at o
 unfold de
 refine ⟨?_,?_⟩
 ·rw [ko,ko,List.foldl_append,a1.2,i.2]
  exact ⟨⟨a1.1,i.1⟩,o.1⟩
 ·rw [List.foldl_append,List.foldl_append,a1.2,i.2,o.2]
theorem un {p:Pln} (i:cO p) (x st:Nat):∀k,k<=dh p.buks.length p.wi->oN p.wi p.buks.length (0,0) (((List.range k).map fun j=>((j*p.wi,min (j*p.wi+p.wi) p.buks.length):Rg)).flatMap (de p x st))/\(((List.range k).map fun j=>((j*p.wi,min (j*p.wi+p.wi) p.buks.length):Rg)).flatMap (de p x st)).foldl opF (0,0)=(min (k*p.wi) p.buks.length,min (k*p.wi) p.buks.length)
 | 0,_=>⟨trivial,by simp⟩
 | k+1,hk=>by
  have h:=un i x st k ap
  have u:=iB (n:=p.buks.length) (size:=p.wi) (k:=k) ap
  have o:min (k*p.wi) p.buks.length=k*p.wi:=ap
  have hg:=FO (p:=p) x st (k*p.wi,min (k*p.wi+p.wi) p.buks.length) (by show k*p.wi<=_;omega) (by show min _ _<=_;omega) (by show min _ _<=_;omega)
  rw [MT,List.map_append,List.flatMap_append,ko,List.foldl_append,h.2,o]
  simp only [List.map_cons,List.map_nil,List.flatMap_cons,List.flatMap_nil,List.append_nil]
  rw [MU]
  exact ⟨⟨h.1,hg.1⟩,hg.2⟩
theorem oK {p:Pln} (o:cO p) (x st:Nat):oN p.wi p.buks.length (0,0) (aJ p x st)/\(aJ p x st).foldl opF (0,0)=(p.buks.length,p.buks.length):=by
 have a1:=qO (wi:=p.wi) (nb:=p.buks.length) (l:=(List.range p.mi).map fun a=>(⟨1,st,a,none⟩:Itm)) (0,0) (fun y i=>by obtain ⟨_,_,rfl⟩:=List.mem_map.1 i;exact ⟨fun e=>(by cases e),fun e=>(by cases e)⟩)
 have h:=un o x st _ (Mb _)
 have A:min (dh p.buks.length p.wi*p.wi) p.buks.length=p.buks.length:=by
  have:=JN p.buks.length p.wi o.wi
  unfold bB at this
  rwa [Nat.sub_zero] at this
 rw [A] at h
 have u:=qO (wi:=p.wi) (nb:=p.buks.length) (l:=[(⟨6,st,0,none⟩:Itm)]) (p.buks.length,p.buks.length) (fun y i=>by rw [List.mem_singleton.1 i];exact ⟨fun e=>(by cases e),fun e=>(by cases e)⟩)
 have v:p.grps=(List.range (dh p.buks.length p.wi)).map fun j=>((j*p.wi,min (j*p.wi+p.wi) p.buks.length):Rg):=rfl
 unfold aJ
 rw [v]
 refine ⟨?_,?_⟩
 ·rw [ko,ko,List.foldl_append,a1.2,h.2]
  exact ⟨⟨a1.1,h.1⟩,u.1⟩
 ·rw [List.foldl_append,List.foldl_append,a1.2,h.2]
  exact u.2
def opP (p:Pln) (x st nx:Nat):Nat×Nat:=((aJ p x st).take nx).foldl opF (0,0)
theorem Bv {p:Pln} (h:cO p) (x st nx:Nat):(opP p x st nx).1<=(opP p x st nx).2/\(opP p x st nx).2<=p.buks.length/\(opP p x st nx).2<=(opP p x st nx).1+p.wi:=
 xq (oK h x st).1 (Mb _) (Mf _) (Mf _) nx
theorem FQ {p:Pln} {x st nx:Nat} {y:Itm} (h:(aJ p x st)[nx]?=some y):opP p x st (nx+1)=opF (opP p x st nx) y:=by
 unfold opP
 rw [List.take_add_one,h,List.foldl_append]
 rfl
theorem Jk {p:Pln} (i:cO p) {x st nx:Nat} (h:(aJ p x st).length<=nx):opP p x st nx=(p.buks.length,p.buks.length):=by
 unfold opP
 rw [List.take_of_length_le h]
 exact (oK i x st).2
def opL (p:Pln) (x st nx:Nat):List Nat:=List.range' (opP p x st nx).1 ((opP p x st nx).2-(opP p x st nx).1)
theorem Jl {p:Pln} (h:cO p) (x st nx:Nat):(opL p x st nx).length<=p.wi/\(opL p x st nx).length<=p.buks.length:=by
 have:=Bv h x st nx
 unfold opL
 rw [List.length_range']
 omega
theorem DI {p:Pln} (u:cO p) {x st nx:Nat} {y:Itm} (i:(aJ p x st)[nx]?=some y):(y.kind=6↔nx+1=(aJ p x st).length):=by
 have hn:=(MF.1 i).1
 have e:aJ p x st=((List.range p.mi).map (fun a=>(⟨1,st,a,none⟩:Itm))++p.grps.flatMap (de p x st))++[⟨6,st,0,none⟩]:=rfl
 generalize hf:(List.range p.mi).map (fun a=>(⟨1,st,a,none⟩:Itm))++p.grps.flatMap (de p x st)=front at e
 have hl:(aJ p x st).length=front.length+1:=by rw [e];simp
 rcases Mq nx front.length with h | h
 ·have hm:y∈front:=by
   rw [e,MH h] at i
   exact List.mem_of_getElem? i
  have hk:y.kind≠6:=by
   rw [<-hf] at hm
   rcases MS.1 hm with hm | hm
   ·obtain ⟨_,_,rfl⟩:=List.mem_map.1 hm
    exact fun e=>by cases e
   ·obtain ⟨g,_,hm⟩:=List.mem_flatMap.1 hm
    unfold de at hm
    simp only [MS,List.mem_map,List.mem_flatMap] at hm
    rcases hm with (⟨_,_,rfl⟩ | ⟨_,_,_,_,_,_,hm⟩) | ⟨_,_,rfl⟩
    ·exact fun e=>by cases e
    ·unfold bW at hm
     obtain ⟨c,_,rfl⟩:=List.mem_map.1 hm
     unfold gw
     split<;>exact fun e=>by cases e
    ·exact fun e=>by cases e
  exact ⟨fun e=>absurd e hk,fun e=>ap⟩
 ·have o:nx=front.length:=ap
  subst o
  rw [e] at i
  simp at i
  subst i
  exact ⟨fun _=>hl.symm,fun _=>rfl⟩
theorem jV {p:Pln} {x st:Nat} {y:Itm} (h:y∈aJ p x st) (hn:y.a=none):y.kind=1\/y.kind=2\/y.kind=5\/y.kind=6:=by
 unfold aJ at h
 simp only [MS,List.mem_map,List.mem_flatMap,List.mem_singleton] at h
 rcases h with (⟨_,_,rfl⟩ | ⟨g,_,h⟩) | rfl
 ·exact .inl rfl
 ·unfold de at h
  simp only [MS,List.mem_map,List.mem_flatMap] at h
  rcases h with (⟨_,_,rfl⟩ | ⟨_,_,_,_,_,_,h⟩) | ⟨_,_,rfl⟩
  ·exact .inr (.inl rfl)
  ·unfold bW at h
   obtain ⟨c,_,rfl⟩:=List.mem_map.1 h
   cases hn
  ·exact .inr (.inr (.inl rfl))
 ·exact .inr (.inr (.inr rfl))
structure MOk (i:Inp) (x:Nat) (m:Mst):Prop where
 op:m.op=opL (az i) x m.st m.nx
 rc:m.rc.length=m.st+1
 rl:∀y∈m.rc,y.1.length=i.start.length/\y.2.length=i.start.length
 lP:m.P.length=i.start.length
 lM:m.M.length=i.start.length
 lG:m.G.length=i.start.length
 ps:(m.st<i.cfg.steps.toNat/\m.nx<(aJ (az i) x 0).length)\/(m.st=i.cfg.steps.toNat/\m.nx=0)
theorem MOk.zero {i:Inp} (x:Nat):MOk i x (fy i):=by
 refine ⟨rfl,rfl,fun y o=>?_,rfl,by simp [fy],by simp [fy],?_⟩
 ·simp only [fy,List.mem_singleton] at o
  subst o
  exact ⟨rfl,by simp⟩
 ·by_cases h:0<i.cfg.steps.toNat
  ·exact .inl ⟨h,jk _ _ _⟩
  ·exact .inr ⟨by show 0=_;omega,rfl⟩
theorem MOk.done {i:Inp} (hs:cz i) {x:Nat} {m:Mst} (h:MOk i x m):bD i x m<=(db i x).length:=by
 rw [pD hs.ok]
 unfold bD
 rcases h.ps with ⟨h1,o⟩ | ⟨h1,o⟩
 ·have:=M7 (aJ (az i) x 0).length (Nat.succ_le_of_lt h1)
  rw [MU] at this
  omega
 ·rw [h1,o];omega
theorem MOk.cur {i:Inp} (hs:cz i) {x:Nat} {m:Mst} (h:MOk i x m):(cI i x m.st)[m.nx]?=(db i x)[bD i x m]?:=by
 rcases h.ps with ⟨h1,o⟩ | ⟨h1,o⟩
 ·have p:=MG (l:=aJ (az i) x m.st) (i:=m.nx) (by rw [jy hs.ok];exact o)
  have:=B7 hs.ok p h1
  unfold cI bD
  rw [if_pos h1,this,p]
 ·unfold cI bD
  rw [if_neg ap,List.getElem?_nil,List.getElem?_eq_none (by rw [pD hs.ok,h1];omega)]
theorem MOk.okAt {i:Inp} (hs:cz i) {x:Nat} {m:Mst} (h:MOk i x m) {y:Itm} (o:(cI i x m.st)[m.nx]?=some y) (hn:y.a=none):Lr m y:=by
 obtain ⟨h1,v⟩:=dt o
 have hc:cI i x m.st=aJ (az i) x m.st:=if_pos h1
 rw [hc] at o
 have u:=vB (oK hs.ok x m.st).1 o
 have B:=(Jl hs.ok x m.st m.nx).2
 have A:=hs.ok.buks
 have p:=hs.s
 refine ⟨jV v hn,by rw [h.op];omega,fun C=>?_,fun _=>by rw [h.rc];omega⟩
 rw [h.op]
 have:=(u.2 C).2
 unfold opL
 rw [List.length_range']
 show 0<(opP (az i) x m.st m.nx).2-(opP (az i) x m.st m.nx).1
 unfold opP
 omega
theorem MOk.next {i:Inp} (hs:cz i) {x:Nat} {m m1:Mst} (h:MOk i x m) {y:Itm} (A:(cI i x m.st)[m.nx]?=some y) (h1:m1.st=m.st) (R:m1.nx=m.nx) (hP:m1.P.length=i.start.length) (O:m1.M.length=i.start.length) (Q:m1.G.length=i.start.length)
  (I:m1.op=if y.kind=2 then m.op++[y.n] else if y.kind=5 then gL m.op y.n else m.op) (v:m1.rc=if y.kind=6 then m.rc++[(m.P,m.M)] else m.rc):MOk i x (adv i x m1):=by
 obtain ⟨g1,Y⟩:=dt A
 have hc:cI i x m.st=aJ (az i) x m.st:=if_pos g1
 rw [hc] at A
 have N:=vB (oK hs.ok x m.st).1 A
 have Z:=Bv hs.ok x m.st m.nx
 have L:=FQ A
 have V:=jy hs.ok x m.st
 have u:=DI hs.ok A
 have U:=(MF.1 A).1
 have D:m1.op=opL (az i) x m.st (m.nx+1):=by
  rw [I,h.op]
  unfold opL
  rw [L]
  unfold opF
  change (y.kind=2->y.n=(opP (az i) x m.st m.nx).2/\(opP (az i) x m.st m.nx).2<_/\_)/\(y.kind=5->y.n=(opP (az i) x m.st m.nx).1/\(opP (az i) x m.st m.nx).1<(opP (az i) x m.st m.nx).2) at N
  by_cases H:y.kind=2
  ·rw [if_pos H,if_pos H]
   have:=(N.1 H).1
   show _=List.range' (opP (az i) x m.st m.nx).1 ((opP (az i) x m.st m.nx).2+1-(opP (az i) x m.st m.nx).1)
   rw [show (opP (az i) x m.st m.nx).2+1-(opP (az i) x m.st m.nx).1=((opP (az i) x m.st m.nx).2-(opP (az i) x m.st m.nx).1)+1 by omega,List.range'_concat,this]
   congr 2
   omega
  ·rw [if_neg H,if_neg H]
   by_cases B:y.kind=5
   ·rw [if_pos B,if_pos B]
    have T:=N.2 B
    rw [T.1]
    show _=List.range' ((opP (az i) x m.st m.nx).1+1) ((opP (az i) x m.st m.nx).2-((opP (az i) x m.st m.nx).1+1))
    rw [show (opP (az i) x m.st m.nx).2-(opP (az i) x m.st m.nx).1=((opP (az i) x m.st m.nx).2-((opP (az i) x m.st m.nx).1+1))+1 by omega,DU]
   ·rw [if_neg B,if_neg B]
 have p:∀z∈m1.rc,z.1.length=i.start.length/\z.2.length=i.start.length:=by
  rw [v]
  split
  ·intro z C
   rcases MS.1 C with C | C
   ·exact h.rl z C
   ·rw [List.mem_singleton.1 C];exact ⟨h.lP,h.lM⟩
  ·exact h.rl
 unfold adv
 rw [R,h1,hc]
 by_cases o:m.nx+1<(aJ (az i) x m.st).length
 ·rw [if_pos o]
  refine ⟨by show m1.op=opL _ _ m.st (m.nx+1);exact D,?_,p,hP,O,Q,.inl ⟨by show m.st<_;omega,by show m.nx+1<_;omega⟩⟩
  show m1.rc.length=m.st+1
  rw [v,if_neg (fun e=>by have:=u.1 e;omega)]
  exact h.rc
 ·rw [if_neg o]
  have hl:m.nx+1=(aJ (az i) x m.st).length:=ap
  refine ⟨?_,?_,p,hP,O,Q,?_⟩
  ·show m1.op=opL _ _ (m.st+1) 0
   rw [D]
   unfold opL
   rw [Jk hs.ok (Nat.le_of_eq hl.symm),Nat.sub_self]
   rfl
  ·show m1.rc.length=m.st+1+1
   rw [v,if_pos (u.2 hl),ME,h.rc]
   rfl
  ·by_cases J:m.st+1<i.cfg.steps.toNat
   ·exact .inl ⟨J,jk _ _ _⟩
   ·exact .inr ⟨by show m.st+1=_;omega,rfl⟩
theorem wQ {l:List Rg} {j:Nat} (h:l.length<=j):aL l j=(0,0):=by simp [aL,List.getD,h]
theorem KR {s:Rg} {c:Nat} (hc:1<=c):∀r∈chR s c,s.1<=r.1/\r.1<r.2/\(s.1<=s.2->r.2<=s.2):=by
 intro r hr
 simp only [chR,shR,fk,List.map_map,List.mem_map,List.mem_range,Function.comp] at hr
 obtain ⟨j,i,rfl⟩:=hr
 have:=iB i
 refine ⟨by simp only;omega,by simp only;omega,fun h=>by simp only;omega⟩
def Kt (p:Pln) (x:Nat) (t:Tg):Rg:=aL (chR (aL (dR (aL p.buks t.b.toNat) p.W) (fG p.W x t.c.toNat t.d.toNat)) p.ck) t.e.toNat
theorem tT {st bk:Nat} {b:Rg} {W c x ph r:Nat} {a:Acn} (h:a∈cX st bk b W c x ph r):
  ∃i,a.at'=aL (chR (aL (dR b W) i) c) a.ch/\a.ch<(chR (aL (dR b W) i) c).length/\(a.send=false->i=fG W x ph r):=by
 unfold cX iL at h
 obtain ⟨k,hk,h⟩:=List.mem_flatMap.1 h
 rw [MS] at h
 rcases h with h | h<;>split at h
 ·rename_i hl
  simp only [List.mem_singleton] at h;subst h
  exact ⟨eh W x ph r,rfl,hl,fun e=>by cases e⟩
 ·simp at h
 ·rename_i hl
  simp only [List.mem_singleton] at h;subst h
  exact ⟨fG W x ph r,rfl,hl,fun _=>rfl⟩
 ·simp at h
theorem jl {p:Pln} {x st:Nat} {y:Itm} (h:y∈aJ p x st) {a:Acn} (i:y.a=some a):y.kind=(if a.send then 3 else 4)/\a.st=st/\a∈cX st a.bk (aL p.buks a.bk) p.W p.ck x a.ph a.rd:=by
 unfold aJ at h
 simp only [MS,List.mem_map,List.mem_flatMap,List.mem_singleton] at h
 rcases h with (⟨_,_,rfl⟩ | ⟨g,_,h⟩) | rfl
 ·cases i
 ·unfold de at h
  simp only [MS,List.mem_map,List.mem_flatMap] at h
  rcases h with (⟨_,_,rfl⟩ | ⟨ph,_,r,_,j,_,h⟩) | ⟨_,_,rfl⟩
  ·cases i
  ·unfold bW at h
   obtain ⟨c,hc,rfl⟩:=List.mem_map.1 h
   simp only [gw,Option.some.injEq] at i
   subst i
   obtain ⟨o,A,u,v,_⟩:=pQ hc
   refine ⟨rfl,o,?_⟩
   rw [A,u,v]
   exact hc
  ·cases i
 ·cases i
theorem AK {p:Pln} (u:cO p) {x st:Nat} {y:Itm} (h:y∈aJ p x st) {a:Acn} (B:y.a=some a):a.at'.1<a.at'.2/\a.at'.2<=p.n:=by
 obtain ⟨_,_,C⟩:=jl h B
 obtain ⟨o,A,v,_⟩:=tT C
 have hm:=List.getElem_mem v
 rw [<-cP _ _ v,<-A] at hm
 have hc:=KR u.ck _ hm
 have hb:(aL p.buks a.bk).1<=(aL p.buks a.bk).2/\(aL p.buks a.bk).2<=p.n:=by
  rcases Mq a.bk p.buks.length with i | i
  ·have:=BT _ (List.getElem_mem i)
   rw [<-cP _ _ i] at this
   exact this
  ·have:aL p.buks a.bk=(0,0):=wQ i
   rw [this];simp
 have hs:(aL (dR (aL p.buks a.bk) p.W) o).1<=(aL (dR (aL p.buks a.bk) p.W) o).2/\(aL (dR (aL p.buks a.bk) p.W) o).2<=(aL p.buks a.bk).2:=by
  rcases Mq o (dR (aL p.buks a.bk) p.W).length with i | i
  ·have:=AZ u.W1 hb.1 _ (List.getElem_mem i)
   rw [<-cP _ _ i] at this
   exact this
  ·have:aL (dR (aL p.buks a.bk) p.W) o=(0,0):=wQ i
   rw [this];simp
 have:=hc.2.2 hs.1
 exact ⟨hc.2.1,by omega⟩
theorem IG {p:Pln} {x st:Nat} {y:Itm} (h:y∈aJ p x st) {a:Acn} (u:y.a=some a) (hr:a.send=false):a.at'=Kt p x a.tg:=by
 obtain ⟨_,_,v⟩:=jl h u
 obtain ⟨A,i,_,o⟩:=tT v
 rw [i,o hr]
 rfl
def IN (i:Inp) (x:Nat) (s:LSt):Prop:=∀j,j<s.msgs.length->W64 (aO s.msgs j).vals/\((aO s.msgs j).tag.a=999\/(aO s.msgs j).vals.length=(Kt (az i) x (aO s.msgs j).tag).2-(Kt (az i) x (aO s.msgs j).tag).1)
theorem IN.len {i:Inp} (hs:cz i) {x:Nat} {s:LSt} (h:IN i x s) {st:Nat} {y:Itm} (B:st<i.cfg.steps.toNat) (A:y∈aJ (az i) x st) {a:Acn} (v:y.a=some a) (hr:a.send=false) (u:s.recv<s.msgs.length) (p:(aO s.msgs s.recv).tag=a.tg):
  (aO s.msgs s.recv).vals.length=a.at'.2-a.at'.1/\W64 (aO s.msgs s.recv).vals:=by
 obtain ⟨h1,o⟩:=h _ u
 refine ⟨?_,h1⟩
 rw [IG A v hr,<-p]
 rcases o with o | o
 ·exfalso
  rw [p] at o
  have e:a.tg.a=(a.st:Int):=rfl
  rw [e,(jl A v).2.1] at o
  have:=hs.s
  omega
 ·exact o
inductive iT (i:Inp) (x:Nat) (m:Mst) (s t:LSt):Mst->LSt->LSt->Nat->Prop
 | fin:(cI i x m.st).length<=m.nx->iT i x m s t m s t 13
 | own (y:Itm):(cI i x m.st)[m.nx]?=some y->y.a=none->iT i x m s t (adv i x (jG i x m y)) s t 0
 | send (y:Itm) (a:Acn):(cI i x m.st)[m.nx]?=some y->y.a=some a->y.kind=3->t.msgs.length<t.recv+t.cap->iT i x m s t (adv i x m) s (t.send ⟨a.tg,(m.G.drop a.at'.1).take (a.at'.2-a.at'.1)⟩) 0
 | full (y:Itm) (a:Acn):(cI i x m.st)[m.nx]?=some y->y.a=some a->y.kind=3->t.msgs.length=t.recv+t.cap->iT i x m s t m s t 11
 | recv (y:Itm) (a:Acn):(cI i x m.st)[m.nx]?=some y->y.a=some a->y.kind=4->s.recv<s.msgs.length->(aO s.msgs s.recv).tag=a.tg->iT i x m s t (adv i x {m with G:=j6 m.G a.at'.1 (aO s.msgs s.recv).vals a.add}) {s with recv:=s.recv+1} t 0
 | none (y:Itm) (a:Acn):(cI i x m.st)[m.nx]?=some y->y.a=some a->y.kind=4->s.recv=s.msgs.length->iT i x m s t m s t 12
 | other (y:Itm) (a:Acn):(cI i x m.st)[m.nx]?=some y->y.a=some a->y.kind=4->s.recv<s.msgs.length->(aO s.msgs s.recv).tag≠a.tg->iT i x m s t m s t 10
theorem Cj (i:Inp) (x:Nat) (m:Mst) (s t:LSt) (hs:s.recv<=s.msgs.length) (u:t.msgs.length<=t.recv+t.cap):∃m1 s1 t1 C,iT i x m s t m1 s1 t1 C:=by
 cases hy:(cI i x m.st)[m.nx]? with
 | none=>exact ⟨_,_,_,_,.fin (by rw [List.getElem?_eq_none_iff] at hy;exact hy)⟩
 | some y=>
  cases ha:y.a with
  | none=>exact ⟨_,_,_,_,.own y hy ha⟩
  | some a=>
   have hk:=(jl (dt hy).2 ha).1
   by_cases h:a.send=true
   ·rw [if_pos h] at hk
    by_cases o:t.msgs.length<t.recv+t.cap
    ·exact ⟨_,_,_,_,.send y a hy ha hk o⟩
    ·exact ⟨_,_,_,_,.full y a hy ha hk ap⟩
   ·rw [if_neg h] at hk
    by_cases p:s.recv=s.msgs.length
    ·exact ⟨_,_,_,_,.none y a hy ha hk p⟩
    ·by_cases he:(aO s.msgs s.recv).tag=a.tg
     ·exact ⟨_,_,_,_,.recv y a hy ha hk ap he⟩
     ·exact ⟨_,_,_,_,.other y a hy ha hk ap he⟩
theorem pW {p:Pln} {x st:Nat} {y:Itm} (h:y∈aJ p x st) {a:Acn} (i:y.a=some a) (hk:y.kind=4):a.send=false:=by
 have:=(jl h i).1
 cases hse:a.send with
 | true=>rw [hse,hk] at this;cases this
 | false=>rfl
theorem zJ (l:List Msg) (y:Msg) (j:Nat):aO (l++[y]) j=if j<l.length then aO l j else if j=l.length then y else Msg.zero:=by
 unfold aO
 simp only [List.getD_eq_getElem?_getD]
 by_cases h:j<l.length
 ·rw [if_pos h,MH h]
 ·rw [if_neg h,MI ap]
  by_cases i:j=l.length
  ·rw [if_pos i];subst i;simp
  ·rw [if_neg i,List.getElem?_eq_none (by simp;omega)];rfl
theorem iT.ok {i:Inp} (hs:cz i) {x:Nat} {m m1:Mst} {s t s1 t1:LSt} {C:Nat} (h:iT i x m s t m1 s1 t1 C) (hm:MOk i x m):MOk i x m1:=by
 cases h with
 | fin=>exact hm
 | own y hy ha=>
  have o:=hm.okAt hs hy ha
  have lG:(eq i m.P m.G (dI i.data (oV i x y.st y.n))).length=i.start.length:=lA _ _ hm.lG
  refine hm.next hs hy ?_ ?_ ?_ ?_ ?_ ?_ ?_<;>unfold jG<;>rcases o.1 with k | k | k | k<;>simp only [k]<;>first | rfl | simp [hm.lP,hm.lM,hm.lG,lG,mZ,m6]
 | send y a hy ha hk=>exact hm.next hs hy rfl rfl hm.lP hm.lM hm.lG (by rw [if_neg ap,if_neg ap]) (by rw [if_neg ap])
 | full=>exact hm
 | recv y a hy ha hk=>exact hm.next hs hy rfl rfl hm.lP hm.lM (by show (j6 _ _ _ _).length=_;rw [pw];exact hm.lG) (by rw [if_neg ap,if_neg ap]) (by rw [if_neg ap])
 | none=>exact hm
 | other=>exact hm
theorem nz (A:Option Addr) (zs:List Int) (c:Nat) (w:World) (hA:Rd w A (aB .i64 zs)) (hl:zs.length<=17592186043904):
  Calls prog 165 #[.slice A zs.length c] w fun e y=>∃x u,e=.returned (.slice x zs.length u)/\y.ownsRow w.heap.size 2 1 (.slice x zs.length u) zs.length (aB .i64 zs)/\aq w y:=by
 go_enter func165,ntmps165
 go_wp2_with (at_builtin;refine dy jW _ rfl (.tmp 3) (.tmp 4) rfl w.heap.size _ 0 [] rfl (ep w 2 1) A zs.length c (aB .i64 zs) rfl (hA.alloc _) (by rw [bU];omega) (cH _ _) ap (by unfold maxLen;omega) (by simp) ?_)
 intro x u B h hb _ _
 have p:=((Me _ w).alloc (Mb _) (.cells #[] 2)).trans hb
 obtain ⟨i,v⟩:=ae h p;clear h hb p
 go_wp2
 go_ret
 exact ⟨_,_,rfl,i.o,v.o⟩
end Go.Proofs.YtgmajkppbhiopaaGreat
namespace Go.Proofs.YtgmajkppbhiopaaGreat
open Go.RowKit Go.ChangeShapes Go.WideShapes Go.ChangeAt
open Tryz
theorem Bu:jE prog 2 1 (Ku .i64):=uk underlying2 (by kernel_rfl)
theorem zI:jE prog 27 1 (Bk .u64):=nF underlying27 underlying253 (by kernel_rfl) (by kernel_rfl) (by kernel_rfl)
theorem Ke {l:List Int} (h:∀z∈l,(Lit.int .u64 z).wf=true):U64 l:=fun k hk=>by
 have:=h _ (vD hk)
 simpa [Lit.wf,IntKind.min,IntKind.max,IntKind.signed,IntKind.bits] using this
theorem Ee {z:Int} (h:(Lit.int .i64 z).wf=true): -9223372036854775808<=z/\z<=9223372036854775807:=by
 simpa [Lit.wf,IntKind.min,IntKind.max,IntKind.signed,IntKind.bits] using h
theorem uN:prog.cellsOf 91=2:=by kernel_rfl
theorem sX:prog.cellsOf 24=12:=by kernel_rfl
theorem sW:prog.cellsOf 29=15:=by kernel_rfl
theorem rM {w:World} {A:Option Addr} {zs:List Int} {c:Nat} (h:zs.length<=c) (o:zs.length<=17592186043904) (p:Rd w A (aB .i64 zs)) (i:∀z∈zs,(Lit.int .i64 z).wf=true):cJ w A zs c:=⟨h,o,p,vb i⟩
theorem FM:jE prog 91 2 rEx:=⟨uN,fun {H L W C I x} h o=>by
 obtain ⟨xs,n,_,v,hl,i,u⟩:=DataW.trod_struct underlying91 h
 rw [uN] at hl
 have p:xs.length=2:=i
 obtain ⟨T,A,c,a1,R,U,N,J,Q⟩:=bY nG underlying91 v o (u 0 _ rfl) ap rfl
 obtain ⟨D,B,d,y,O,b3,b4,b5,b6⟩:=bY nG underlying91 v o (u 1 _ rfl) ap rfl
 clear h u i p v o
 match I,hl with
 | [c0,c1],_=>
  simp at a1 y
  exact ⟨rfl,⟨T,D⟩,A,c,B,d,by simp [a1,y],rM R N J Q,rM O b4 b5 b6⟩⟩
theorem Dk:jE prog 25 1 (rSl rEx 2):=xp underlying25 FM (by kernel_rfl) (of_decide_eq_true (by kernel_rfl))
def LN:ez Cfg:=fun w h k=>∃A c,h=(df A c k).toList/\jZ w A c k/\(-9223372036854775808<=k.rate/\k.rate<=9223372036854775807)/\(-9223372036854775808<=k.mom/\k.mom<=9223372036854775807)/\W64 k.sizes/\W64 [k.shift,k.workers,k.batch,k.micros,k.steps,k.bucket,k.chunk,k.window,k.cap]
theorem Dl:jE prog 24 12 LN:=⟨sX,fun {H a7 W T cs x} h i=>by
 obtain ⟨xs,n,_,p,hl,u,o⟩:=DataW.trod_struct underlying24 h
 rw [sX] at hl
 have v:xs.length=12:=u
 obtain ⟨sz,A,c,a1,a2,a3,a4,a5,a6⟩:=bY rS underlying24 p i (o 0 _ rfl) ap rfl
 obtain ⟨z1,h1,g1⟩:=bY iV underlying24 p i (o 1 _ rfl) ap rfl
 obtain ⟨z2,I,g2⟩:=bY Bu underlying24 p i (o 2 _ rfl) ap rfl
 obtain ⟨z3,R,g3⟩:=bY Bu underlying24 p i (o 3 _ rfl) ap rfl
 obtain ⟨z4,J,g4⟩:=bY iV underlying24 p i (o 4 _ rfl) ap rfl
 obtain ⟨Z,N,g5⟩:=bY iV underlying24 p i (o 5 _ rfl) ap rfl
 obtain ⟨z6,U,g6⟩:=bY iV underlying24 p i (o 6 _ rfl) ap rfl
 obtain ⟨Y,L,g7⟩:=bY iV underlying24 p i (o 7 _ rfl) ap rfl
 obtain ⟨z8,Q,g8⟩:=bY iV underlying24 p i (o 8 _ rfl) ap rfl
 obtain ⟨z9,V,g9⟩:=bY iV underlying24 p i (o 9 _ rfl) ap rfl
 obtain ⟨C,y,a8⟩:=bY iV underlying24 p i (o 10 _ rfl) ap rfl
 obtain ⟨D,B,a0⟩:=bY iV underlying24 p i (o 11 _ rfl) ap rfl
 clear h o u v p i
 match cs,hl with
 | [c0,c1,c2,c3,c4,c5,c6,c7,c8,c9,c10,c11],_=>
  simp at a1 h1 I R J N U L Q V y B
  refine ⟨rfl,⟨sz,z1,z2,z3,z4,Z,z6,Y,z8,z9,C,D⟩,A,c,by simp [df,a1,h1,I,R,J,N,U,L,Q,V,y,B],⟨a2,a3,a4,a5⟩,Ee g2,Ee g3,vb a6,?_⟩
  refine vb fun z O=>?_
  simp only [List.mem_cons,List.not_mem_nil,or_false] at O
  rcases O with rfl | rfl | rfl | rfl | rfl | rfl | rfl | rfl | rfl<;>assumption⟩
def Lo:ez Inp:=fun w u i=>∃A c D h T o R p,u=(aQ A c D h T o R p i).toList/\jF w A c D T o R i/\i.data.length<=h/\h<=9223372036854775807/\i.draws.length<=p/\p<=9223372036854775807/\o<=9223372036854775807/\W64 i.cfg.sizes/\W64 [i.cfg.shift,i.cfg.workers,i.cfg.batch,i.cfg.micros,i.cfg.steps,i.cfg.bucket,i.cfg.chunk,i.cfg.window,i.cfg.cap]
theorem Dj:jE prog 29 15 Lo:=⟨sW,fun {H a0 W I cs x} h i=>by
 obtain ⟨xs,n,_,v,hl,o,u⟩:=DataW.trod_struct underlying29 h
 rw [sW] at hl
 have p:xs.length=4:=o
 obtain ⟨k,A,c,y,k2,k3,k4,k5,k6⟩:=bY Dl underlying29 v i (u 0 _ rfl) ap rfl
 obtain ⟨Z,D,cd,C,J,N,d4,d5⟩:=bY Dk underlying29 v i (u 1 _ rfl) ap rfl
 obtain ⟨st,T,ct,t1,t2,L,Q,t5,U⟩:=bY nG underlying29 v i (u 2 _ rfl) ap rfl
 obtain ⟨dr,R,cr,B,r2,O,Y,r5,V⟩:=bY zI underlying29 v i (u 3 _ rfl) ap rfl
 clear h u o p v i
 match cs,hl with
 | [c0,c1,c2,c3,c4,c5,c6,c7,c8,c9,c10,c11,c12,c13,c14],_=>
  simp [df] at y C t1 B
  exact ⟨rfl,⟨k,Z,st,dr⟩,A,c,D,cd,T,ct,R,cr,by simp [aQ,y,C,t1,B],⟨k2,d5,d4,rM t2 Q t5 U,r5,Y,Ke V,k3,k4⟩,J,N,r2,O,L,k5,k6⟩⟩
theorem FN {H:Type} {B:TypeId×Value->H} {W:World} {base:Nat} {v:Value} {d:DataW H} {p:List MemPlace} (o:Value.okWide prog W .any base 29 v) (h:DataW.Trod B prog W 0 (fun _=>true) true 29 v d p) (z:jX prog 29 d):
  ∃(A:Option Addr) (c:Nat) (D:Option Addr) (u:Nat) (T:Option Addr) (x:Nat) (R:Option Addr) (y:Nat) (i:Inp),v=.agg (aQ A c D u T x R y i)/\jF W A c D T x R i/\i.data.length<=u/\u<=9223372036854775807/\i.draws.length<=y/\y<=9223372036854775807/\x<=9223372036854775807/\W64 i.cfg.sizes/\W64 [i.cfg.shift,i.cfg.workers,i.cfg.batch,i.cfg.micros,i.cfg.steps,i.cfg.bucket,i.cfg.chunk,i.cfg.window,i.cfg.cap]:=by
 obtain ⟨C,rfl,_⟩:=okWide_struct underlying29 o
 obtain ⟨i,⟨A,c,D,u,T,x,R,y,e,h1⟩,_⟩:=qz Dj h z
 refine ⟨A,c,D,u,T,x,R,y,i,?_,h1⟩
 obtain ⟨l⟩:=C
 have I:l=_:=e
 rw [I]
theorem qL {P:Program} {ops:Array Oper} {rest:List Oper} {op:Oper} {a:Act} {w:World} {Q:Exit->Act->World->Prop} {p:TypeId} {x:Operand} {b o:Nat} {xs:Array Value} {t:TypeId} {C:Nat×Nat} (i:Array Value)
  (hb:w.heap[b]?=some (.cells xs t C)) (hr:cW P p i.size) (hw:Region.wanted op (yielded ops a.tmps)=true) (u:op.op=.load p x) (B:a.eval x=.pointer (some (ar b o))) (hcs:(xs.toList.drop o).take i.toList.length=i.toList)
  (h:wpList P ops Q rest (a.put op.dst (.agg i)) w):wpList P ops Q (op::rest) a w:=by
 obtain ⟨⟨d,h1,v⟩,A⟩:=hr
 refine wpList_step fun K y=>?_
 rw [if_pos hw]
 exact wp_load_mid p x u b o B i.toList d (eE hb o hcs) h1 v (by simpa using A) (y _ _ (by simpa using h))
end Go.Proofs.YtgmajkppbhiopaaGreat
namespace Go.Proofs.YtgmajkppbhiopaaGreat
open Go.RowKit
open Tryz
theorem Kg {t:Tg} {h:Acn} {D:Bool} (v:D=true↔t=h.tg) (h1:t.a=h.st) (i:t.b=h.bk) (u:t.c=h.ph) (o:t.d=h.rd) (p:t.e=h.ch):true=D:=by
 obtain ⟨a,b,c,d,e⟩:=t
 simp only at h1 i u o p
 subst h1 i u o p
 exact (v.2 rfl).symm
theorem Lk {t:Tg} {i:Acn} {D:Bool} (o:D=true↔t=i.tg) (h:¬(t.a=i.st/\t.b=i.bk/\t.c=i.ph/\t.d=i.rd/\t.e=i.ch)):false=D:=
 (Bool.eq_false_iff.2 fun e=>h (by rw [o.1 e];exact ⟨rfl,rfl,rfl,rfl,rfl⟩)).symm
theorem BC {H:Nat->Prop} {w:World} {b x:Nat} {i:Inp} {a:MAd} {m:Mst} (h:aU H w b i x a m) (hn:(cI i x m.st).length<=m.nx) (u v:Option Addr):
  Calls prog 217 #[(au b),.pointer u,.pointer v] w fun e D=>e=.returned (.bool false)/\aq w D:=by
 have p:=vE h hn
 have y:=aa p;clear p h hn
 go_enter func217,ntmps217
 go_wp2_with fail
 refine y.o.mono ?_
 rintro e J ⟨rfl,B⟩
 go_wp2_with (refine aI (Mc _ _) kQ rfl rfl rfl rfl rfl rfl rfl ?_;intro N C A;obtain ⟨L,I⟩:=ae C (bt B (aK A));clear C A B)
 go_ret
 exact ⟨rfl,I.o⟩
theorem Bz {H:Nat->Prop} {w:World} {b x:Nat} {i:Inp} {a:MAd} {m:Mst} (h:aU H w b i x a m) {y:Itm} (L:(cI i x m.st)[m.nx]?=some y) (V:y.kind≠3) (T:y.kind≠4) (u v:Option Addr):
  Calls prog 217 #[(au b),.pointer u,.pointer v] w fun e R=>e=.returned (.bool true)/\aq w R:=by
 have p:=jf h L
 obtain ⟨B,Z,D,b0,b1,i0,i1,i2,i3,i4,i5,i6,A⟩:=qQ y
 have O:(y.kind:Int)=B:=by have:=A;simp only [aZ,List.cons.injEq,Value.int.injEq,true_and] at this;exact this.1
 rw [A] at p
 have n3:¬B=3:=ap
 have n4:¬B=4:=ap
 have C:=aa p;clear p h L A O V T
 go_enter func217,ntmps217
 go_wp2_with fail
 refine C.o.mono ?_
 rintro e Q ⟨rfl,I⟩
 go_upto_region 2 with (refine aI (Mc _ _) kQ rfl rfl rfl rfl rfl rfl rfl ?_;intro N J D;obtain ⟨U,Y⟩:=ae J (bt I (aK D));clear J D I)
 have t0:N.cell? (ar Q.heap.size 0)=some (M8 B):=Md N _ 0 _ _ _ U.o
 go_wp2_with fail
 go_ret
 exact ⟨rfl,Y.o⟩
theorem xI {H:Nat->Prop} {w:World} {b x:Nat} {i:Inp} {a:MAd} {m:Mst} (h:aU H w b i x a m) {y:Itm} (hy:(cI i x m.st)[m.nx]?=some y) (h3:y.kind=3) (u:Option Addr) {base l:Nat} {g:Option Nat} {s:LSt} (Y:aV w base l g s) (Q:s.msgs.length<=100000000000):
  Calls prog 217 #[(au b),.pointer u,(au l)] w fun e w'=>e=.returned (.bool (decide (s.msgs.length<s.recv+s.cap)))/\aq w w':=by
 have p:=jf h hy
 obtain ⟨U,k1,T,b0,b1,i0,i1,i2,i3,i4,i5,i6,A⟩:=qQ y
 have e0:(y.kind:Int)=U:=by have:=A;simp only [aZ,List.cons.injEq,Value.int.injEq,true_and] at this;exact this.1
 rw [A] at p
 obtain rfl:U=3:=ap
 obtain ⟨D,L⟩:∃D,decide (s.msgs.length<s.recv+s.cap)=D:=⟨_,rfl⟩
 have C:decide ((s.msgs.length:Int)-s.recv<s.cap)=D:=by rw [<-L];exact decide_eq_decide.2 ap
 rw [L]
 obtain ⟨I,HL,J⟩:=af p Y C;clear p h hy A e0 h3 Y L C
 go_enter func217,ntmps217
 go_wp2_with fail
 refine I.o.mono ?_
 rintro e w1 ⟨rfl,V⟩
 go_upto_region 2 with (refine aI (Mc _ _) kQ rfl rfl rfl rfl rfl rfl rfl ?_;intro W2 Z T;obtain ⟨E2,B2⟩:=ae Z (bt V (aK T));clear Z T V)
 have t0:W2.cell? (ar w1.heap.size 0)=some (M8 3):=Md W2 _ 0 _ _ _ E2.o
 go_wp2_with fail
 obtain ⟨ok,ring,rows,hc,_⟩:=HL.o.below B2.o
 refine (mR l _ _ _ _ _ _ hc ok.rs ap).mono ?_
 rintro e w3 ⟨rfl,n,rfl⟩
 have v:=Mm B2.o n
 obtain ⟨R,ring',rows',B,_⟩:=HL.o.below v
 obtain ⟨N,O⟩:=ae v B;clear ok R hc B v
 go_wp2_with fail
 refine (Jy l _ _ _ _ _ _ O.o).mono ?_
 rintro e w4 ⟨rfl,rfl⟩
 go_wp2_with fail
 go_ret
 exact ⟨congrArg (fun d=>Ending.returned (.bool d)) J.o,N.o⟩
theorem xK {H:Nat->Prop} {w:World} {b x:Nat} {i:Inp} {a:MAd} {m:Mst} (h:aU H w b i x a m) {y:Itm} (hy:(cI i x m.st)[m.nx]?=some y) (V:y.kind=4) {p:Acn} (C:y.a=some p) (v:Option Addr) {base l:Nat} {g:Option Nat} {s:LSt} (hL:aV w base l g s) (B:s.recv<s.msgs.length) (D:Bool) (L:D=true↔(aO s.msgs s.recv).tag=p.tg):
  Calls prog 217 #[(au b),(au l),.pointer v] w fun e I=>e=.returned (.bool D)/\aq w I:=by
 have u:=jf h hy
 rw [vJ C rfl rfl,V] at u
 have A:=fun I (q:aq w I)=>se base l g s I (hL.below q) B
 obtain ⟨t,U⟩:∃t,(aO s.msgs s.recv).tag=t:=⟨_,rfl⟩
 rw [U] at A L
 obtain ⟨J,O,HD⟩:=af u A L;clear u h hy V hL B U A C L
 go_enter func217,ntmps217
 go_wp2_with fail
 refine J.o.mono ?_
 rintro e w1 ⟨rfl,Y⟩
 go_upto_region 2 with (refine aI (Mc _ _) kQ rfl rfl rfl rfl rfl rfl rfl ?_;intro Q e2 k2;obtain ⟨Z,B2⟩:=ae e2 (bt Y (aK k2));clear e2 k2 Y)
 have t0:Q.cell? (ar w1.heap.size 0)=some (M8 4):=Md Q _ 0 _ _ _ Z.o
 go_wp2_with fail
 refine (O.o Q B2.o).mono ?_
 rintro e w3 ⟨rfl,N⟩
 obtain ⟨B3,E3⟩:=ae (bt B2.o N) (sb Z.o _ N);clear N t0
 go_upto_region 8 with (refine aI (Mc _ _) jp rfl rfl rfl rfl rfl rfl rfl ?_;intro W4 e4 T;obtain ⟨E4,B4,R⟩:=af e4 (bt B3.o (aK T)) (sb E3.o _ (aK T));clear e4 T)
 go_wp2_with (first | (refine qL #[M8 t.a,M8 t.b,M8 t.c,M8 t.d,M8 t.e] E4.o jp rfl rfl rfl rfl ?_) | (refine qL #[M8 (p.st:Nat),M8 (p.bk:Nat),M8 (p.ph:Nat),M8 (p.rd:Nat),M8 (p.ch:Nat)] R.o jp rfl rfl rfl rfl ?_))
 all_goals (go_ret;refine ⟨congrArg (fun d=>Ending.returned (.bool d)) ?_,B4.o⟩;first | exact Kg HD.o (by assumption) (by assumption) (by assumption) (by assumption) (by assumption) | exact Lk HD.o (by rintro ⟨z1,z2,z3,z4,z5⟩;contradiction))
theorem DA {H:Nat->Prop} {w:World} {b x:Nat} {i:Inp} {a:MAd} {m:Mst} (h:aU H w b i x a m) {y:Itm} (U:(cI i x m.st)[m.nx]?=some y) (h4:y.kind=4) (v:Option Addr) {base l:Nat} {g:Option Nat} {s:LSt} (R:aV w base l g s) (A:s.recv=s.msgs.length):
  Calls prog 217 #[(au b),(au l),.pointer v] w fun e C=>e=.returned (.bool false)/\aq w C:=by
 have p:=jf h U
 obtain ⟨O,k1,L,b0,b1,i0,i1,i2,i3,i4,i5,i6,u⟩:=qQ y
 have Z:(y.kind:Int)=O:=by have:=u;simp only [aZ,List.cons.injEq,Value.int.injEq,true_and] at this;exact this.1
 rw [u] at p
 obtain rfl:O=4:=ap
 have B:=fun C (q:aq w C)=>nk base l g s C (R.below q) A
 obtain ⟨D,I⟩:=ae p B;clear p h U u Z h4 R A B
 go_enter func217,ntmps217
 go_wp2_with fail
 refine D.o.mono ?_
 rintro e w1 ⟨rfl,Q⟩
 go_upto_region 2 with (refine aI (Mc _ _) kQ rfl rfl rfl rfl rfl rfl rfl ?_;intro J T L;obtain ⟨E2,Y⟩:=ae T (bt Q (aK L));clear T L Q)
 have t0:J.cell? (ar w1.heap.size 0)=some (M8 4):=Md J _ 0 _ _ _ E2.o
 go_wp2_with fail
 refine (I.o J Y.o).mono ?_
 rintro e w3 ⟨rfl,N⟩
 have B3:=aa (bt Y.o N);clear N t0
 go_wp2_with (refine aI (Mc _ _) jp rfl rfl rfl rfl rfl rfl rfl ?_;intro W4 e4 V;have B4:=aa (bt B3.o (aK V));clear e4 V)
 go_ret
 exact ⟨rfl,B4.o⟩
theorem aU.i64 {H:Nat->Prop} {w:World} {b x:Nat} {i:Inp} {a:MAd} {m:Mst} (h:aU H w b i x a m) {j:Nat} {c:Array Value} (o:w.heap[j]?=some (.cells c 2 (0,0))) (hm:Mut b a j):j=a.bp\/j=a.bm\/j=a.bg:=by
 rcases hm with e | e | e | e | e | e
 ·exact absurd e (nS o h.blk (by decide))
 ·exact .inl e
 ·exact .inr (.inl e)
 ·exact .inr (.inr e)
 ·obtain ⟨rows,p,_⟩:=h.re
  exact absurd (show some j=_ by rw [e];rfl) (ax o (by decide) p)
 ·exact absurd e.symm (ax o (by decide) h.oO)
theorem aV.noI64 {w:World} {B l:Nat} {g:Option Nat} {s:LSt} (h:aV w B l g s) {j:Nat} {c:Array Value} (i:w.heap[j]?=some (.cells c 2 (0,0))):¬dJ l g j:=by
 rintro (e | e)
 ·obtain ⟨o,hb⟩:=h.blk
  exact absurd e (nS i hb (by decide))
 ·subst e
  obtain ⟨o,hb⟩:=h.ringBlk
  exact absurd rfl (nS i hb (by decide))
theorem aV.mach {H G:Nat->Prop} {w o:World} {B l b x:Nat} {g:Option Nat} {s:LSt} {i:Inp} {a:MAd} {m:Mst} (v:aV w B l g s) (u:aU H w b i x a m) (p:a.bp<B/\a.bm<B/\a.bg<B) (hn:∀k,dJ l g k->¬(Mut b a k\/G k))
  (y:∀(j:Nat) (c:Array Value),w.heap[j]?=some (.cells c 2 (0,0))->¬G j) (hk:Keep (fun k=>Mut b a k\/G k) w o):aV o B l g s:=
 v.keep hk (hn l (.inl rfl)) (fun j h=>hn j (.inr h)) (fun j c h hb e=>e.elim (fun e=>by rcases u.i64 h e with e | e | e<;>omega) (y j c h))
theorem aV.lt {w:World} {B l:Nat} {g:Option Nat} {s:LSt} (h:aV w B l g s):∀k,dJ l g k->k<w.heap.size:=by
 rintro k (e | e)
 ·rw [e];exact h.blocks.1
 ·exact (h.blocks.2 k e).2
def BE (l:Nat) (g:Option Nat) (i:Nat) (h:Option Nat) (k:Nat):Prop:=dJ l g k\/dJ i h k
def WH (E:Nat->Prop) (l:Nat) (g:Option Nat) (i:Nat) (h:Option Nat) (k:Nat):Prop:=BE l g i h k\/E k
structure Wld (E:Nat->Prop) (B:Nat) (w:World) (b l l':Nat) (i:Inp) (x:Nat) (a:MAd) (m:Mst) (s t:LSt) (g g':Option Nat):Prop where
 mach:aU (WH E l g l' g') w b i x a m
 hn:∀k,Mut b a k->¬WH E l g l' g' k
 lf:aV w B l g s
 lt:aV w B l' g' t
 dj:∀k,dJ l g k->¬dJ l' g' k
 lo:b<B/\a.bp<B/\a.bm<B/\a.bg<B
 hB:B<=w.heap.size
 ne:∀k,BE l g l' g' k->¬E k
 ex:∀k,E k->k<w.heap.size
theorem Wld.below {E:Nat->Prop} {B:Nat} {w p:World} {b l u x:Nat} {i:Inp} {a:MAd} {m:Mst} {s t:LSt} {g o:Option Nat} (h:Wld E B w b l u i x a m s t g o) (hb:aq w p):Wld E B p b l u i x a m s t g o:=
 ⟨h.mach.below hb h.hn,h.hn,h.lf.below hb,h.lt.below hb,h.dj,h.lo,Mh h.hB hb.size,h.ne,fun k e=>Mi (h.ex k e) hb.size⟩
theorem Wld.newL {E:Nat->Prop} {B:Nat} {w:World} {b l o x:Nat} {i:Inp} {a:MAd} {m:Mst} {s t:LSt} {g p:Option Nat} (h:Wld E B w b l o i x a m s t g p):∀k,w.heap.size<=k->¬BE l g o p k:=by
 rintro k hk (e | e)
 ·have:=h.lf.lt k e;omega
 ·have:=h.lt.lt k e;omega
theorem Wld.new {E:Nat->Prop} {B:Nat} {w:World} {b l o x:Nat} {i:Inp} {a:MAd} {m:Mst} {s t:LSt} {g p:Option Nat} (h:Wld E B w b l o i x a m s t g p):∀k,w.heap.size<=k->¬WH E l g o p k:=by
 rintro k hk (e | e)
 ·exact h.newL k hk e
 ·have:=h.ex k e;omega
def JT (b:Nat) (a:MAd) (l:Nat) (g:Option Nat) (i:Nat) (h:Option Nat) (k:Nat):Prop:=Mut b a k\/BE l g i h k
def jD (E:Nat->Prop) (B:Nat) (w:World) (b l h:Nat) (i:Inp) (x:Nat) (a:MAd) (g p:Option Nat) (m1:Mst) (s1 t1:LSt) (o:World):Prop:=
 ∃a1 g1,Wld E B o b l h i x a1 m1 s1 t1 g g1/\Keep (JT b a l g h p) w o/\∀k,JT b a1 l g h g1 k->JT b a l g h p k\/w.heap.size<=k
theorem jD.below {E:Nat->Prop} {B:Nat} {w p:World} {b l u x:Nat} {i:Inp} {a:MAd} {m:Mst} {s t:LSt} {g o:Option Nat} (h:Wld E B w b l u i x a m s t g o) (hb:aq w p):jD E B w b l u i x a g o m s t p:=
 ⟨a,o,h.below hb,Keep.below hb,fun _ h=>.inl h⟩
theorem jD.own {E:Nat->Prop} {B:Nat} {w A:World} {b l v x:Nat} {i:Inp} {a:MAd} {m m1:Mst} {s t:LSt} {g u:Option Nat} (h:Wld E B w b l v i x a m s t g u) {T:World->Mst->Prop} (J:∀w m,T w m->m=m1) (H:yA (WH E l g v u) (fun _=>False) b i x a m T w A):jD E B w b l v i x a g u (adv i x m1) s t A:=by
 obtain ⟨D,R,h1, -, -,p,C,O,L⟩:=H
 rw [J _ _ L] at h1
 obtain ⟨I,N,Q⟩:=O
 have o:=h.lo
 have y:∀k,Mut b D k->¬WH E l g v u k:=fun k hk=>(C k hk).elim (h.hn k) (h.new k)
 exact ⟨D,u,⟨h1,y,h.lf.mach h.mach o.2 (fun k hk e=>e.elim (fun e=>h.hn k e (.inl (.inl hk))) id) (fun _ _ _ h=>h) p,h.lt.mach h.mach o.2 (fun k hk e=>e.elim (fun e=>h.hn k e (.inl (.inr hk))) id) (fun _ _ _ h=>h) p,h.dj,by rw [I,N,Q];exact o,Mh h.hB p.size,h.ne,fun k e=>Mi (h.ex k e) p.size⟩,
  p.mono fun k _ e=>e.elim .inl False.elim,fun k hk=>hk.elim (fun e=>(C k e).imp .inl id) (fun e=>.inl (.inr e))⟩
theorem Jt {E:Nat->Prop} {B:Nat} {w:World} {b l N x:Nat} {i:Inp} {a:MAd} {m m1:Mst} {s t s1 t1:LSt} {g O:Option Nat} {C:Nat} (h:Wld E B w b l N i x a m s t g O) (hs:cz i) (hm:MOk i x m) (Z:IN i x s) (J:t.msgs.length<100000000000)
  (a0: -9223372036854775808<=i.cfg.rate/\i.cfg.rate<=9223372036854775807) (a1: -9223372036854775808<=i.cfg.mom/\i.cfg.mom<=9223372036854775807) (hr:iT i x m s t m1 s1 t1 C):
  Calls prog 216 #[(au b),(au l),(au N)] w fun e H=>e=.returned (M8 (C:Nat))/\jD E B w b l N i x a g O m1 s1 t1 H:=by
 have v:∀{y:Itm} {ac:Acn},(cI i x m.st)[m.nx]?=some y->y.a=some ac->ac.at'.1<ac.at'.2/\ac.at'.2<=i.start.length:=fun o p=>AK hs.ok (dt o).2 p
 cases hr with
 | fin hf=>
  refine (BD h.mach hf _ _).mono ?_
  rintro e H ⟨he,k⟩
  exact ⟨he,jD.below h k⟩
 | own y o p=>
  refine (xM h.mach h.hn h.new hs o (hm.okAt hs o p) a0 a1 _ _).mono ?_
  rintro e H ⟨he,hd⟩
  exact ⟨he,jD.own h (fun _ _ e=>e) hd⟩
 | send y ac o p hk hroom=>
  refine (Gh h.mach h.hn h.new hs o hk p (v o p).1 (v o p).2 _ h.lt hroom J h.hB (fun k e=>.inl (.inr e)) h.lo.1).mono ?_
  rintro e H ⟨he,H1,T,m2,h1,L, -, -, -,D,V,⟨f1,f2,f3⟩,rfl,U,hH,hL,hg⟩
  have u:=h.lo
  have I:∀k,WH E l g N U k->H1 k:=fun k e=>(hH k).2 (by
   rcases e with (e | e | e) | e
   ·exact .inl (.inl (.inl e))
   ·exact .inl (.inl (.inr (.inl e)))
   ·exact .inr e
   ·exact .inl (.inr e))
  have A:∀k,U=some k->dJ N O k\/w.heap.size<=k:=fun k e=>by
   rcases hg with rfl | ⟨j,e1,e2⟩
   ·exact .inl (.inr e)
   ·rw [e1] at e;cases e;exact .inr e2
  have Q:∀k,Mut b T k->¬WH E l g N U k:=fun k hk e=>L k hk (I k e)
  refine ⟨he,T,U,⟨h1.step (Keep.refl _ _) (fun k _ e=>I k e) Q,Q,h.lf.mach h.mach u.2 (fun k hk e=>e.elim (fun e=>h.hn k e (.inl (.inl hk))) (h.dj k hk)) (fun j c hj=>h.lt.noI64 hj) D,hL,fun k hk e=>?_,by rw [f1,f2,f3];exact u,Mh h.hB D.size,fun k hk Y=>?_,fun k e=>Mi (h.ex k e) D.size⟩,
   D.mono fun k _ e=>e.imp id .inr,fun k hk=>?_⟩
  ·rcases e with e | e
   ·exact h.dj k hk (.inl e)
   ·rcases A k e with e | e
    ·exact h.dj k hk e
    ·have:=h.lf.lt k hk;omega
  ·rcases hk with e | e | e
   ·exact h.ne k (.inl e) Y
   ·exact h.ne k (.inr (.inl e)) Y
   ·rcases A k e with e | e
    ·exact h.ne k (.inr e) Y
    ·have:=h.ex k Y;omega
  ·rcases hk with e | e | e | e
   ·exact (V k e).imp .inl id
   ·exact .inl (.inr (.inl e))
   ·exact .inl (.inr (.inr (.inl e)))
   ·exact (A k e).imp (fun e=>.inr (.inr e)) id
 | full y ac o p hk hf=>
  refine (Gj h.mach h.hn h.new hs o hk p (v o p).1 (v o p).2 _ h.lt hf).mono ?_
  rintro e H ⟨he,k⟩
  exact ⟨he,jD.below h k⟩
 | recv y ac o p hk hlt heq=>
  have R:=Z.len hs (dt o).1 (dt o).2 p (pW (dt o).2 p hk) hlt heq
  have u:=h.lo
  refine (Gi h.mach h.hn h.new hs o hk p (v o p).1 (v o p).2 _ h.lf (fun k e=>.inl (.inl e)) u.1 u.2.2.2 hlt heq R.1 R.2).mono ?_
  rintro e H ⟨he,T,m2,h1, -, -,D,V,⟨f1,f2,f3⟩,rfl,hL⟩
  have L:∀k,Mut b T k->¬WH E l g N O k:=fun k hk=>(V k hk).elim (h.hn k) (h.new k)
  exact ⟨he,T,O,⟨h1,L,hL,h.lt.mach h.mach u.2 (fun k hk e=>e.elim (fun e=>h.hn k e (.inl (.inr hk))) (fun e=>h.dj k (.inl e) hk)) (fun j c hj e=>h.lf.noI64 hj (.inl e)) D,h.dj,by rw [f1,f2,f3];exact u,Mh h.hB D.size,h.ne,fun k e=>Mi (h.ex k e) D.size⟩,
   D.mono fun k _ e=>e.imp id (fun e=>.inl (.inl e)),fun k hk=>hk.elim (fun e=>(V k e).imp .inl id) (fun e=>.inl (.inr e))⟩
 | none y ac o p hk h0=>
  refine (rZ h.mach h.hn h.new hs o hk p _ h.lf (.inl h0)).mono ?_
  rintro e H ⟨he,k⟩
  rw [if_pos h0] at he
  exact ⟨he,jD.below h k⟩
 | other y ac o p hk hlt hne=>
  refine (rZ h.mach h.hn h.new hs o hk p _ h.lf (.inr ⟨hlt,hne⟩)).mono ?_
  rintro e H ⟨he,k⟩
  rw [if_neg ap] at he
  exact ⟨he,jD.below h k⟩
theorem Jr {E:Nat->Prop} {B:Nat} {w:World} {b l u x:Nat} {i:Inp} {a:MAd} {m m1:Mst} {s t s1 t1:LSt} {g v:Option Nat} {C:Nat} (h:Wld E B w b l u i x a m s t g v) (hs:cz i) (hm:MOk i x m) (p:t.msgs.length<100000000000) (hr:iT i x m s t m1 s1 t1 C):
  Calls prog 217 #[(au b),(au l),(au u)] w fun e o=>e=.returned (.bool (decide (C=0)))/\aq w o:=by
 cases hr with
 | fin hf=>exact BC h.mach hf _ _
 | own y hy ha=>
  have hk:=jV (dt hy).2 ha
  exact Bz h.mach hy ap ap _ _
 | send y ac hy ha hk hroom=>
  refine (xI h.mach hy hk _ h.lt ap).mono ?_
  rintro e o ⟨he,k⟩
  rw [MX hroom] at he
  exact ⟨he,k⟩
 | full y ac hy ha hk hf=>
  refine (xI h.mach hy hk _ h.lt ap).mono ?_
  rintro e o ⟨he,k⟩
  rw [MY ap] at he
  exact ⟨he,k⟩
 | recv y ac hy ha hk hlt heq=>exact xK h.mach hy hk ha _ h.lf hlt true ⟨fun _=>heq,fun _=>rfl⟩
 | none y ac hy ha hk h0=>exact DA h.mach hy hk _ h.lf h0
 | other y ac hy ha hk hlt hne=>exact xK h.mach hy hk ha _ h.lf hlt false ⟨fun e=>(by cases e),fun e=>absurd e hne⟩
end Go.Proofs.YtgmajkppbhiopaaGreat
