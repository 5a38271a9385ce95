/- No condition. -/
import Derived.Test.YtgmajkppbhiopaaGreatQ11
set_option linter.unusedSimpArgs false
set_option linter.unusedVariables false
set_option maxRecDepth 100000
set_option maxHeartbeats 4000000
namespace Go.Proofs.YtgmajkppbhiopaaGreat
open Go.RowKit
open Tryz
theorem ta (base b:Nat) (g:Option Nat) (s:LSt) (t:Tg) (A:N_) (zs:Qa) (c:Nat) (w:Qd) (h:aY w base b g s) (R:s.msgs.length<s.recv+s.cap) (b5:s.cap<=s.msgs.length) (Y:s.msgs.length<100000000000) (b0:base<=w.heap.size) (hA:Rd w A (aA .i64 zs)) (a9:zs.length<=17592186043904):Calls prog 235 #[.pointer (some ⟨b,0,none⟩),.agg #[OH t.a,OH t.b,OH t.c,OH t.d,OH t.e,.slice A zs.length c]] w fun e T=>e=.returned (OH 0)/\
   ∃g',aY T base b g' {s with msgs:=s.msgs++[⟨t,zs⟩],peak:=max s.peak (s.msgs.length+1-s.recv)}/\Keep (dS b g) w T/\(g'=g\/∃k,g'=some k/\w.heap.size<=k):=by
 obtain ⟨t0,t1,t2,t3,t4⟩:=t;have H:=aa h;obtain ⟨ok,ring,rows,hc,J,hg,hrl,ad,hm⟩:=h;obtain ⟨RA,rc,rfl,b4⟩:=aC J;have bh:=ok.cap1;have bz:=ok.cap2;have aP:=ok.rs;have bG:=ok.pk;have hl:=fun o n=>mz b _ _ _ _ _ _ (show aD ((w.alloc o).drewN n) _ _ _ _ _ _ from hc.alloc o) aP ap;obtain ⟨i,Z⟩:∃i,s.msgs.length%s.cap=i:=⟨_,rfl⟩;obtain ⟨L,hL⟩:∃L,min s.msgs.length s.cap=L:=⟨_,rfl⟩;rw [hL] at b4 J hrl hc;have c1:=hc.c1;have hb:=NE hc;have a7:(((s.msgs.length:Int)-(s.recv:Int))==(s.cap:Int))=false:=by simp;omega
 have a6:=fun W hW=>nh A zs c W hW a9;obtain ⟨D,hD⟩:∃D:Int,D=(s.msgs.length:Int)-(s.recv:Int):=⟨_,rfl⟩;rw [<-hD] at a7 hl;have bw:0<=D/\D<s.cap:=ap;have b3:i<L:=by rw [<-hL,<-Z];have:=Nat.mod_lt s.msgs.length (show 0<s.cap by omega);omega
 obtain ⟨Hl,a0,Hc,N,Hg,aG,av,Hm⟩:=ak hl ok hc J hg hrl ad hm;obtain ⟨a2,HL,b6,HD⟩:=ag Z hL a6 hD;clear hl hc ok J hg hrl ad hm Z hL a6 hD;go_enter func235,ntmps235;go_wp2_with fail
 go_quiet ((go_at_call 104;exact Calls.quiet_of (Hl.o _ _)))
 clear a7;go_wp2_with fail;refine (b6.o _ ((hA.alloc _).drewN _)).mono ?_;rintro e B ⟨v1,rfl,C,V⟩;obtain ⟨A1,a3,rfl,bA⟩:=aC C
 have p:B.heap[w.heap.size]?=some (.cells #[OH t0,OH t1,OH t2,OH t3,OH t4,.slice A zs.length c] 79 (0,0)):=by
  rw [V.block _ (by simp)];exact NG w _
 have bv:=NE p;have p0:B.cell? ⟨w.heap.size,0,none⟩=some (OH t0):=NH B _ 0 _ _ _ p;have p1:B.cell? ⟨w.heap.size,1,none⟩=some (OH t1):=NH B _ 1 _ _ _ p;have p2:B.cell? ⟨w.heap.size,2,none⟩=some (OH t2):=NH B _ 2 _ _ _ p;have p3:B.cell? ⟨w.heap.size,3,none⟩=some (OH t3):=NH B _ 3 _ _ _ p;have p4:B.cell? ⟨w.heap.size,4,none⟩=some (OH t4):=NH B _ 4 _ _ _ p;have p5:B.cell? ⟨w.heap.size,5,none⟩=some (.slice A zs.length c):=NH B _ 5 _ _ _ p;have pf:=fun j=>NS B _ j _ _ p;have a1:aq w B:=(NU ((NI _ w).alloc (NF _) _) _).trans (V.mono (by simp));have y:=Hc.o.same (a1.block b hb);have bl:=NE y;have k0:=y.c0;have k2:=y.c2;have k3:=y.c3;have k4:=y.c4;have f2:=y.free 2;have f4:=y.free 4;have f0:=y.free 0;have b9:¬(b=w.heap.size):=ap;have bd:¬(w.heap.size=b):=ap;have ao:=fun W hW=>j4 b (.slice RA L rc) s.cap s.msgs.length s.recv s.peak s.msgs.length i W hW a0.o.cap1 a0.o.cap2 a2.o;obtain ⟨a5,bs,I,aR⟩:=ag y V C ao;clear y V C ao p;go_wp2_with fail;refine (aR.o _ (a5.o.same (Below.heap_setCell B ⟨w.heap.size,5,none⟩ _ b b9))).mono ?_;rintro e w2 ⟨rfl,rfl⟩;obtain ⟨O,b7,U,bI,bo⟩:=N.o.form ap;obtain ⟨rfl,rfl⟩:RA=some ⟨O,0,none⟩/\rc=b7:=by simp only [Ou] at U;exact ⟨U.1,U.2.2⟩
 clear U;obtain rfl:g=some O:=Hg.o.symm;have u:=ay N.o ((Below.mono a1 (NF _)))
 have v:∀t,t<6->∃x,B.cell? ⟨O,i*6+t,none⟩=some x:=fun t ht=>by
  have h6:i*6+t<L*6:=ap;rw [u.cellAt _ h6];exact ⟨_,Of (by rw [u.1];exact h6)⟩
 obtain ⟨x0,q0⟩:=v 0 ap;obtain ⟨x1,q1⟩:=v 1 ap;obtain ⟨x2,q2⟩:=v 2 ap;obtain ⟨x3,q3⟩:=v 3 ap;obtain ⟨x4,q4⟩:=v 4 ap;obtain ⟨x5,q5⟩:=v 5 ap;rw [Nat.add_zero] at q0;have qf:=fun j=>u.frozenAt j;have bi:¬(O=w.heap.size):=ap;have be:¬(w.heap.size=O):=ap
 have aM:¬(O=b):=fun e=>by
  subst e;have h1:=a5.o.c1;rcases N.o.2 with ⟨h0,_⟩ | ⟨g2,cap,bf,hv,_,Q,_⟩
  ·cases h0
  ·have e2:g2=O:=by simp only [Ou,Option.some.injEq,Addr.mk.injEq] at hv;exact hv.1.1.symm
   subst e2;have h2:=Hc.o;unfold aD at h2;rw [h2] at Q;injection Q with Q
   injection Q with _ Q
   exact absurd Q (by decide)
 have b8:¬(b=O):=fun e=>aM e.symm;clear v;have a4:=aa u;clear u;go_wp2_with fail
 go_region_held3 (fun T=>T.cell? ⟨b,0,none⟩=some (.slice (some ⟨O,0,none⟩) L rc)/\T.cell? ⟨w.heap.size,0,none⟩=some (OH t0)/\T.cell? ⟨w.heap.size,1,none⟩=some (OH t1)/\T.cell? ⟨w.heap.size,2,none⟩=some (OH t2)/\T.cell? ⟨w.heap.size,3,none⟩=some (OH t3)/\
  T.cell? ⟨w.heap.size,4,none⟩=some (OH t4)/\T.cell? ⟨w.heap.size,5,none⟩=some (.slice A1 zs.length a3)) (simp [go_sem, *]) ((fail))
 go_wp2_with fail;have b2:IntKind.i64.wrap ((s.msgs.length:Int)+1)=(s.msgs.length:Int)+1:=NK _ ap
 go_region
 clear b2;go_wp2_with fail;have b1:0<=(s.recv:Int)/\(s.recv:Int)<=(s.msgs.length:Int)+1/\(s.msgs.length:Int)+1<=17592186043904:=ap
 go_region_with ((go_at_call 104;refine (yV b ((s.msgs.length:Int)+1) s.recv _ (by simp [go_sem, *]) (by simp [go_sem, *]) b1).mono ?_;rintro e T ⟨rfl,n',rfl⟩))
 have bb:=I.o
 all_goals go_wp2_with fail
 all_goals go_ret
 all_goals
  have bn:Keep (dS b (some O)) w B:=Keep.below a1;have a8:i<rows.length:=by rw [aG.o];exact b3
  have ab:L=min (s.msgs.length+1) s.cap:=by have:=HL.o;omega
  refine ⟨rfl,some O,?_,by (focus (repeat' (first | (with_reducible exact Keep.refl _ _) | (with_reducible assumption) | (with_reducible refine Keep.setCell ?_ _ ?_ _) | (with_reducible refine Keep.alloc ?_ _) | (with_reducible refine Keep.drewN ?_ _) | (with_reducible refine Keep.drew ?_) | (with_reducible exact Or.inr (iS _ _)) | (with_reducible exact Or.inr (iR _ _)) | (refine Or.inr ?_;first | rfl | (simp;done) | omega) | (refine Or.inl ?_;first | omega | (simp;done) | (simp;omega))))),.inl rfl⟩;refine oh (A1:=A1) (c1:=a3) (g:=some O) (rows':=rows.set i [OH t0,OH t1,OH t2,OH t3,OH t4,.slice A1 zs.length a3]) (ring':=.slice (some ⟨O,0,none⟩) L rc) a0.o Hc.o (HL.o▸N.o) rfl Hm.o R Y ⟨t0,t1,t2,t3,t4⟩ zs a9 (by (focus (repeat' (first | (with_reducible exact Keep.refl _ _) | (with_reducible assumption) | (with_reducible refine Keep.setCell ?_ _ ?_ _) | (with_reducible refine Keep.alloc ?_ _) | (with_reducible refine Keep.drewN ?_ _) | (with_reducible refine Keep.drew ?_) | (with_reducible exact Or.inr (iS _ _)) | (with_reducible exact Or.inr (iR _ _)) | (refine Or.inr ?_;first | rfl | (simp;done) | omega) | (refine Or.inl ?_;first | omega | (simp;done) | (simp;omega)))))) (P:=max s.peak (s.msgs.length+1-s.recv)) rfl (by (focus (repeat' (first | (with_reducible exact a5.o) | (with_reducible refine aD.drew ?_) | (with_reducible refine aD.drewN ?_ _) | (with_reducible refine aD.alloc ?_ _) | (with_reducible refine aD.set0 (ring:=.slice RA L rc) ?_ _) | (with_reducible refine aD.set2 (sent:=s.msgs.length) ?_ _ _ ?_) | (with_reducible refine aD.set4 (peak:=s.peak) ?_ _ _ ?_) | (with_reducible refine aD.far ?_ _ _ ?_) | omega | (push_cast;omega))))) ?_ rfl ?_ ?_ ?_ ?_ ?_
  ·rw [<-ab,<-zg _ _ _ _ _ _ _ rfl rows i av.o a8]
   (focus (repeat' (first | (with_reducible exact a4.o) | (with_reducible refine World.ownsRow.drew ?_) | (with_reducible refine bW ?_ _) | (with_reducible refine World.ownsRow.alloc ?_ _) | (with_reducible refine (World.ownsRow.stored ?_ _ _).1) | (with_reducible refine ownsRow_setCell_other ?_ ?_ _) | (with_reducible assumption) | (simp [Value.ownBlock];done) | (simp [Value.ownBlock];omega))))
  ·rw [List.length_set,aG.o,ab]
  ·intro r hr;rcases List.mem_or_eq_of_mem_set hr with hr | rfl
   ·exact av.o r hr
   ·rfl
  ·intro j h1 h2;exact rC _ _ _ _ fun e=>Mj h1 h2 R (e.symm.trans a2.o.symm)
  ·rw [a2.o];exact sC _ _ _ a8
  ·refine Keep.own (S:=fun k=>k<=w.heap.size) (w:=B) ?_ (aE I.o (by simp;omega)) ?_
   ·(focus (repeat' (first | (with_reducible exact Keep.refl _ _) | (with_reducible assumption) | (with_reducible refine Keep.setCell ?_ _ ?_ _) | (with_reducible refine Keep.alloc ?_ _) | (with_reducible refine Keep.drewN ?_ _) | (with_reducible refine Keep.drew ?_) | (with_reducible exact Or.inr (iS _ _)) | (with_reducible exact Or.inr (iR _ _)) | (refine Or.inr ?_;first | rfl | (simp;done) | omega) | (refine Or.inl ?_;first | omega | (simp;done) | (simp;omega)))))
    all_goals (dsimp only;omega)
   ·intro k hk;have:=(I.o.lt k hk).1;simp at this ⊢;omega
theorem xd (base b:Nat) (g:Option Nat) (s:LSt) (t:Tg) (A:N_) (zs:Qa) (c:Nat) (w:Qd) (h:aY w base b g s) (a2:s.msgs.length<s.recv+s.cap) (a4:s.msgs.length<s.cap) (a0:s.msgs.length<100000000000) (b5:base<=w.heap.size) (hA:Rd w A (aA .i64 zs)) (ab:zs.length<=17592186043904):Calls prog 235 #[(au b),.agg #[OH t.a,OH t.b,OH t.c,OH t.d,OH t.e,.slice A zs.length c]] w fun e w'=>e=.returned (OH 0)/\
   ∃g',aY w' base b g' {s with msgs:=s.msgs++[⟨t,zs⟩],peak:=max s.peak (s.msgs.length+1-s.recv)}/\Keep (dS b g) w w'/\(g'=g\/∃k,g'=some k/\w.heap.size<=k):=by
 obtain ⟨t0,t1,t2,t3,t4⟩:=t;have H:=aa h;obtain ⟨ok,ring,rows,hc,O,hg,hrl,av,hm⟩:=h;obtain ⟨RA,rc,rfl,b8⟩:=aC O;have bi:=ok.cap1;have bO:=ok.cap2;have b2:=ok.rs;have bX:=ok.pk;have hl:=fun o n=>mz b _ _ _ _ _ _ (show aD ((w.alloc o).drewN n) _ _ _ _ _ _ from hc.alloc o) b2 ap;obtain ⟨i,a1⟩:∃i,s.msgs.length%s.cap=i:=⟨_,rfl⟩;obtain ⟨L,hL⟩:∃L,min s.msgs.length s.cap=L:=⟨_,rfl⟩;rw [hL] at b8 O hrl hc hg;have c1:=hc.c1;have hb:=NE hc;have a9:(((s.msgs.length:Int)-(s.recv:Int))==(s.cap:Int))=false:=by simp;omega
 have a8:=fun W hW=>nh A zs c W hW ab;obtain ⟨D,hD⟩:∃D:Int,D=(s.msgs.length:Int)-(s.recv:Int):=⟨_,rfl⟩;rw [<-hD] at a9 hl;have bN:0<=D/\D<s.cap:=ap;obtain rfl:i=L:=by rw [<-hL,<-a1,Nat.mod_eq_of_lt a4];omega
 obtain ⟨Hl,U,Hc,I,Hg,a7,b9,Hm⟩:=ak hl ok hc O hg hrl av hm;obtain ⟨b0,HL,bb,HD⟩:=ag a1 hL a8 hD;clear hl hc ok O hg hrl av hm a1 hL a8 hD;go_enter func235,ntmps235;go_wp2_with fail
 go_quiet ((go_at_call 104;exact Calls.quiet_of (Hl.o _ _)))
 clear a9;go_wp2_with fail;refine (bb.o _ ((hA.alloc _).drewN _)).mono ?_;rintro e y ⟨v1,rfl,J,V⟩;obtain ⟨A1,R,rfl,bV⟩:=aC J
 have p:y.heap[w.heap.size]?=some (.cells #[OH t0,OH t1,OH t2,OH t3,OH t4,.slice A zs.length c] 79 (0,0)):=by
  rw [V.block _ (by simp)];exact NG w _
 have bI:=NE p;have p0:y.cell? (ar w.heap.size 0)=some (OH t0):=NH y _ 0 _ _ _ p;have p1:y.cell? (ar w.heap.size 1)=some (OH t1):=NH y _ 1 _ _ _ p;have p2:y.cell? (ar w.heap.size 2)=some (OH t2):=NH y _ 2 _ _ _ p;have p3:y.cell? (ar w.heap.size 3)=some (OH t3):=NH y _ 3 _ _ _ p;have p4:y.cell? (ar w.heap.size 4)=some (OH t4):=NH y _ 4 _ _ _ p;have p5:y.cell? (ar w.heap.size 5)=some (.slice A zs.length c):=NH y _ 5 _ _ _ p;have pf:=fun j=>NS y _ j _ _ p;have a3:aq w y:=(NU ((NI _ w).alloc (NF _) _) _).trans (V.mono (by simp));have x:=Hc.o.same (a3.block b hb);have bl:=NE x;have k0:=x.c0;have k2:=x.c2;have k3:=x.c3;have k4:=x.c4;have f2:=x.free 2;have f4:=x.free 4;have f0:=x.free 0;have bd:¬(b=w.heap.size):=ap;have be:¬(w.heap.size=b):=ap;have aP:=fun W hW=>j4 b (.slice RA i rc) s.cap s.msgs.length s.recv s.peak s.msgs.length i W hW U.o.cap1 U.o.cap2 b0.o;obtain ⟨b1,bo,Q,b4⟩:=ag x V J aP;clear x V J aP p;go_wp2_with fail;refine (b4.o _ (b1.o.same (Below.heap_setCell y (ar w.heap.size 5) _ b bd))).mono ?_;rintro e w2 ⟨rfl,rfl⟩;have v:=ay I.o (Below.mono a3 (NF _));have a5:=aa v;clear v;have hrb:(Value.slice RA i rc).ownBlock≠some w.heap.size:=fun e=>by have:=(I.o.lt _ e).2;omega
 have aR:=Cy Hc.o I.o;have c7:i<=1048576:=by have:=HL.o;omega
 go_wp2_with fail
 go_region_law ((refine iT kZ rfl (.tmp 47) (.tmp 49) rfl base (.slice RA i rc) i (List.flatten rows) rfl ?_ (some (ar y.heap.size 0)) 1 1 [OH t0,OH t1,OH t2,OH t3,OH t4,.slice A1 zs.length R] rfl ?_ rfl ?_ ?_ ?_ ?_ ?_;((focus (repeat' (first | (with_reducible exact a5.o) | (with_reducible refine World.ownsRow.drew ?_) | (with_reducible refine bW ?_ _) | (with_reducible refine World.ownsRow.alloc ?_ _) | (with_reducible refine (World.ownsRow.stored ?_ _ _).1) | (with_reducible refine ownsRow_setCell_other ?_ ?_ _) | (with_reducible assumption) | (simp [Value.ownBlock];done) | (simp [Value.ownBlock];omega)))));exact Rd.drew (dN _ _ _ _ (by simp));(intro u hu;simp at hu;rcases hu with rfl | rfl | rfl | rfl | rfl | rfl<;>rfl);omega;(unfold maxLen;omega);(simp;omega);(intro A2 c2 w2 v T C Y;have Z:=C.block b (by first | (simp;done) | (simp;omega)) (fun e=>aR e.symm);have B:aD w2 b (.slice RA i rc) s.cap s.msgs.length s.recv s.peak:=(by refine aD.same ?_ Z;(focus (repeat' (first | (with_reducible exact b1.o) | (with_reducible refine aD.drew ?_) | (with_reducible refine aD.drewN ?_ _) | (with_reducible refine aD.alloc ?_ _) | (with_reducible refine aD.set0 (ring:=.slice RA L rc) ?_ _) | (with_reducible refine aD.set2 (sent:=s.msgs.length) ?_ _ _ ?_) | (with_reducible refine aD.set4 (peak:=s.peak) ?_ _ _ ?_) | (with_reducible refine aD.far ?_ _ _ ?_) | omega | (push_cast;omega)))));have bM:=B.c0;have bw:=B.free 0;have bf:=B.c2;have bz:=B.c3;have bA:=B.c4;have bG:=B.free 2;have bh:=B.free 4;obtain ⟨b3,N,aM,ao,aG⟩:=ah T C Y B v;clear T C Y B v Z)))
 all_goals go_wp2_with fail
 all_goals have b7:IntKind.i64.wrap ((s.msgs.length:Int)+1)=(s.msgs.length:Int)+1:=NK _ ap
 all_goals go_region
 all_goals clear b7
 all_goals go_wp2_with fail
 all_goals have b6:0<=(s.recv:Int)/\(s.recv:Int)<=(s.msgs.length:Int)+1/\(s.msgs.length:Int)+1<=17592186043904:=ap
 all_goals go_region_with ((go_at_call 104;refine (yV b ((s.msgs.length:Int)+1) s.recv _ (by simp [go_sem, *]) (by simp [go_sem, *]) b6).mono ?_;rintro e w' ⟨rfl,n',rfl⟩))
 all_goals go_wp2_with fail
 all_goals go_ret
 all_goals
  have bv:=Cy ao.o aG.o;have bn:Keep (dS b g) w y:=Keep.below a3;have c6:Keep (dS b g) w w2:=Keep.grown (by (focus (repeat' (first | (with_reducible exact Keep.refl _ _) | (with_reducible assumption) | (with_reducible refine Keep.setCell ?_ _ ?_ _) | (with_reducible refine Keep.alloc ?_ _) | (with_reducible refine Keep.drewN ?_ _) | (with_reducible refine Keep.drew ?_) | (with_reducible exact Or.inr (iS _ _)) | (with_reducible exact Or.inr (iR _ _)) | (refine Or.inr ?_;first | rfl | (simp;done) | omega) | (refine Or.inl ?_;first | omega | (simp;done) | (simp;omega)))))) N.o (fun k hk=>.inr (.inr (Hg.o.symm.trans hk)));have ad:i+1=min (s.msgs.length+1) s.cap:=by have:=HL.o;omega
  have a6:ep (rows++[[OH t0,OH t1,OH t2,OH t3,OH t4,.slice A1 zs.length R]]) i=[OH t0,OH t1,OH t2,OH t3,OH t4,.slice A1 zs.length R]:=by
   rw [<-a7.o];exact jO _ _
  refine ⟨rfl,(Value.slice A2 (i+1) c2).ownBlock,?_,by (focus (repeat' (first | (with_reducible exact Keep.refl _ _) | (with_reducible assumption) | (with_reducible refine Keep.setCell ?_ _ ?_ _) | (with_reducible refine Keep.alloc ?_ _) | (with_reducible refine Keep.drewN ?_ _) | (with_reducible refine Keep.drew ?_) | (with_reducible exact Or.inr (iS _ _)) | (with_reducible exact Or.inr (iR _ _)) | (refine Or.inr ?_;first | rfl | (simp;done) | omega) | (refine Or.inl ?_;first | omega | (simp;done) | (simp;omega))))),?_⟩
  ·refine oh (A1:=A1) (c1:=R) (g:=g) (rows':=rows++[[OH t0,OH t1,OH t2,OH t3,OH t4,.slice A1 zs.length R]]) (ring':=.slice A2 (i+1) c2) U.o Hc.o (HL.o▸I.o) Hg.o Hm.o a2 a0 ⟨t0,t1,t2,t3,t4⟩ zs ab (by (focus (repeat' (first | (with_reducible exact Keep.refl _ _) | (with_reducible assumption) | (with_reducible refine Keep.setCell ?_ _ ?_ _) | (with_reducible refine Keep.alloc ?_ _) | (with_reducible refine Keep.drewN ?_ _) | (with_reducible refine Keep.drew ?_) | (with_reducible exact Or.inr (iS _ _)) | (with_reducible exact Or.inr (iR _ _)) | (refine Or.inr ?_;first | rfl | (simp;done) | omega) | (refine Or.inl ?_;first | omega | (simp;done) | (simp;omega)))))) (P:=max s.peak (s.msgs.length+1-s.recv)) rfl (by (focus (repeat' (first | (with_reducible exact ao.o) | (with_reducible refine aD.drew ?_) | (with_reducible refine aD.drewN ?_ _) | (with_reducible refine aD.alloc ?_ _) | (with_reducible refine aD.set0 (ring:=.slice RA i rc) ?_ _) | (with_reducible refine aD.set2 (sent:=s.msgs.length) ?_ _ _ ?_) | (with_reducible refine aD.set4 (peak:=s.peak) ?_ _ _ ?_) | (with_reducible refine aD.far ?_ _ _ ?_) | omega | (push_cast;omega))))) ?_ rfl ?_ ?_ ?_ ?_ ?_
   ·rw [<-ad,Oo,List.flatten_cons,List.flatten_nil,List.append_nil]
    (focus (repeat' (first | (with_reducible exact aG.o) | (with_reducible refine World.ownsRow.drew ?_) | (with_reducible refine bW ?_ _) | (with_reducible refine World.ownsRow.alloc ?_ _) | (with_reducible refine (World.ownsRow.stored ?_ _ _).1) | (with_reducible refine ownsRow_setCell_other ?_ ?_ _) | (with_reducible assumption) | (simp [Value.ownBlock];done) | (simp [Value.ownBlock];omega))))
   ·rw [Od,On,a7.o,ad]
   ·intro r hr;rcases Ov.1 hr with hr | hr
    ·exact b9.o r hr
    ·rw [List.mem_singleton.1 hr];rfl
   ·intro j h1 h2;exact jN _ _ _ (by rw [a7.o,<-HL.o];exact sY h1 h2 ap U.o.cap1)
   ·rw [b0.o];exact a6
   ·have bs:Keep (fun k=>k<=w.heap.size) y w2:=Keep.grown (by (focus (repeat' (first | (with_reducible exact Keep.refl _ _) | (with_reducible assumption) | (with_reducible refine Keep.setCell ?_ _ ?_ _) | (with_reducible refine Keep.alloc ?_ _) | (with_reducible refine Keep.drewN ?_ _) | (with_reducible refine Keep.drew ?_) | (with_reducible exact Or.inr (iS _ _)) | (with_reducible exact Or.inr (iR _ _)) | (refine Or.inr ?_;first | rfl | (simp;done) | omega) | (refine Or.inl ?_;first | omega | (simp;done) | (simp;omega)))))) N.o (fun k hk=>.inr (by have:=(I.o.lt k hk).2;omega));refine Keep.own (S:=fun k=>k<=w.heap.size) (w:=y) ?_ (aE Q.o (by simp;omega)) ?_
    ·(focus (repeat' (first | (with_reducible exact Keep.refl _ _) | (with_reducible assumption) | (with_reducible refine Keep.setCell ?_ _ ?_ _) | (with_reducible refine Keep.alloc ?_ _) | (with_reducible refine Keep.drewN ?_ _) | (with_reducible refine Keep.drew ?_) | (with_reducible exact Or.inr (iS _ _)) | (with_reducible exact Or.inr (iR _ _)) | (refine Or.inr ?_;first | rfl | (simp;done) | omega) | (refine Or.inl ?_;first | omega | (simp;done) | (simp;omega)))))
     all_goals (dsimp only;omega)
    ·intro k hk;have:=(Q.o.lt k hk).1;simp at this ⊢;omega
  ·rcases aM.o with h1 | h1
   ·exact .inl (h1.trans Hg.o)
   ·exact .inr ⟨_,h1,by simp;omega⟩
def LSt.send (s:LSt) (m:Msg):LSt:={s with msgs:=s.msgs++[m],peak:=max s.peak (s.msgs.length+1-s.recv)}
def LSt.new (c:Nat):LSt:=⟨c,[],0,0⟩
theorem IP (base b:Nat) (g:Option Nat) (s:LSt) (t:Tg) (A:N_) (zs:Qa) (c:Nat) (w:Qd) (h:aY w base b g s) (p:s.msgs.length<s.recv+s.cap) (o:s.msgs.length<100000000000) (i:base<=w.heap.size) (hA:Rd w A (aA .i64 zs)) (u:zs.length<=17592186043904):Calls prog 235 #[(au b),.agg #[OH t.a,OH t.b,OH t.c,OH t.d,OH t.e,.slice A zs.length c]] w fun e x=>e=.returned (OH 0)/\
   ∃v,aY x base b v (s.send ⟨t,zs⟩)/\Keep (dS b g) w x/\(v=g\/∃k,v=some k/\w.heap.size<=k):=by
 rcases NY s.msgs.length s.cap with hc | hc
 ·exact xd base b g s t A zs c w h p hc o i hA u
 ·exact ta base b g s t A zs c w h p hc o i hA u
theorem aY.blocks {w:Qd} {base b:Nat} {g:Option Nat} {s:LSt} (h:aY w base b g s):b<w.heap.size/\∀i,g=some i->base<=i/\i<w.heap.size:=by
 obtain ⟨ok,ring,rows,hc,o,hg,_⟩:=h;exact ⟨NE hc,fun i p=>o.lt i (hg.trans p)⟩
theorem mR {w:Qd} {b v:Nat} {x p:Qb} {t u:Qf} (h:w.heap[b]?=some (.cells x t (0,0))) (i:w.heap[v]?=some (.cells p u (0,0))) (o:t≠u):b≠v:=by
 rintro rfl;rw [h] at i;injection i with i
 injection i with _ i
 exact o i
theorem aY.blk {w:Qd} {base b:Nat} {g:Option Nat} {s:LSt} (h:aY w base b g s):∃i,w.heap[b]?=some (.cells i 182 (0,0)):=by
 obtain ⟨ok,ring,rows,hc,_⟩:=h;exact ⟨_,hc⟩
theorem aY.ringBlk {w:Qd} {base b i:Nat} {s:LSt} (h:aY w base b (some i) s):∃y,w.heap[i]?=some (.cells y 79 (0,0)):=by
 obtain ⟨ok,ring,rows,hc,o,hg,_⟩:=h;rcases o.2 with ⟨hn,_⟩ | ⟨x,cap2,v,p,_,u,_⟩
 ·rw [hn] at hg;cases hg
 ·rw [p] at hg;obtain rfl:x=i:=by simpa [Value.ownBlock] using hg
  exact ⟨_,u⟩
theorem qz:cY prog 150 9:=⟨⟨_,underlying150,rfl⟩,by kernel_rfl⟩
theorem jM:cY prog 77 5:=⟨⟨_,underlying77,rfl⟩,by kernel_rfl⟩
def Acn.tg (a:Acn):Tg:=⟨a.st,a.bk,a.ph,a.rd,a.ch⟩
theorem xg {y:Itm} {i:Acn} (h:y.a=some i) {lo o:Nat} (h1:i.at'.1=lo) (p:i.at'.2=o):(bj y).toArray=#[OH (y.kind:Nat),OH (y.st:Nat),OH (y.n:Nat),.bool i.send,.bool i.add,OH (i.st:Nat),OH (i.bk:Nat),OH (i.ph:Nat),OH (i.rd:Nat),OH (i.ch:Nat),OH (lo:Nat),OH (o:Nat)]:=by
 subst h1;subst p;unfold bj;rw [h];rfl
theorem vl {H:Nat->Prop} {w:Qd} {b x:Nat} {i:Inp} {a:MAd} {m:Mst} (h:aV H w b i x a m) (a6:i.start.length<=60) (y:Itm) (v:Acn) (Z:y.a=some v) (lo A:Nat) (h1:v.at'.1=lo) (h2:v.at'.2=A) (av:lo<A) (ab:A<=i.start.length) (u l:N_) (C:Int) (L:Nat->Prop) (a1:¬L b) (U:∀k,w.heap.size<=k->¬L k) (Q:Qd->Prop) (B:∀p d,aq w p->Calls prog 235 #[.pointer l,.agg #[OH (v.st:Nat),OH (v.bk:Nat),OH (v.ph:Nat),OH (v.rd:Nat),OH (v.ch:Nat),.slice (some (ar a.bg lo)) (A-lo:Nat) d]] p fun e Y=>e=.returned (OH C)/\Keep L p Y/\Q Y):Calls prog 226 #[(au b),.agg (bj y).toArray,.agg #[.pointer u,.pointer l]] w fun e p=>e=.returned (OH C)/\Keep L w p/\Q p:=by
 rw [xg Z h1 h2];have I:=h.blk
 have ad:i.start.length<=a.cg:=by
  obtain ⟨_,_,e,h⟩:=aC h.oG;simp only [Ou] at e;omega
 obtain ⟨W0,W1,T,O,g0,g1,J,a3⟩:=gn w #[OH (y.kind:Nat),OH (y.st:Nat),OH (y.n:Nat),.bool v.send,.bool v.add,OH (v.st:Nat),OH (v.bk:Nat),OH (v.ph:Nat),OH (v.rd:Nat),OH (v.ch:Nat),OH (lo:Nat),OH (A:Nat)] #[.pointer u,.pointer l] 152 333;have a0:=sb I _ J;obtain ⟨a2,a5,V,G0,G1,K1,N⟩:=aj T O a0 g0 g1 J B;clear T O a0 g0 g1 J I h B Z h1 h2 a3;go_enter func226,ntmps226;go_upto_region 1 with (fail);rw [a2.o,a5.o];go_upto_region 2 with (first | (refine aK #[.bool v.send,.bool v.add,OH (v.st:Nat),OH (v.bk:Nat),OH (v.ph:Nat),OH (v.rd:Nat),OH (v.ch:Nat),OH (lo:Nat),OH (A:Nat)] (b:=w.heap.size) G0.o qz rfl rfl rfl rfl ?_) | (refine aH (NG _ _) qz rfl rfl rfl rfl rfl rfl rfl ?_;intro D e2 k2;obtain ⟨E2,R⟩:=ae e2 (aL k2);clear e2 k2));have q2:Keep L D D.drew:=(Keep.refl _ _).drew;have lx:=NE E2.o;have kx:=fun p (q:Keep L D p)=>(q.block W1.heap.size lx (U _ K1.o.size)).trans E2.o;have a4:∀p,Keep L D p->p.cell? (ar b 13)=some (.slice (some (ar a.bg 0)) i.start.length a.cg):=fun p q=>NH p b 13 _ _ _ ((q.block b (NE (sb V.o _ R.o)) a1).trans (sb V.o _ R.o));have s1:∀p,Keep L D p->p.cell? (ar (w.heap.size+1) 1)=some (.pointer l):=fun p q=>NH p (w.heap.size+1) 1 _ _ _ ((q.block _ (NE (sb G1.o _ R.o)) (U _ ap)).trans (sb G1.o _ R.o));have x7:∀p,Keep L D p->p.cell? (ar W1.heap.size 7)=some (OH (lo:Nat)):=fun p q=>NH p _ 7 _ _ _ (kx p q);have x8:∀p,Keep L D p->p.cell? (ar W1.heap.size 8)=some (OH (A:Nat)):=fun p q=>NH p _ 8 _ _ _ (kx p q);have ao:(lo:Int)<=A:=ap;have aG:(A:Int)<=a.cg:=ap;have a7:lo<=A:=ap;have a8:A<=a.cg:=ap;have a9:¬a.cg=lo:=ap;obtain ⟨BB,KX⟩:=ae (bt K1.o R.o) kx;clear kx lx;dsimp only [Act.put];refine HA.g (fun p:Qd=>Keep L D p) ?_;refine HA.t ?_ [0,1,2] q2 ?_;refine HA.ld 3 #[OH (v.st:Nat),OH (v.bk:Nat),OH (v.ph:Nat),OH (v.rd:Nat),OH (v.ch:Nat)] (fun p q=>KX.o p q) jM q2 ?_;refine HA.t ?_ [4,5,6,7,8,9,10,11,12,13,14,15] q2 ?_;refine HA.c 16 (N.o _ (a.cg-lo) BB.o.drew) ?_;rintro e w3 ⟨rfl,k3,hq⟩;have q3:=q2.trans k3;refine ⟨_,rfl,q3,fun _=>?_⟩;refine HA.t ?_ [17] q3 ?_;refine HA.d ?_;have K3:=aa ((Keep.below (S:=L) BB.o).trans q3);clear q2 q3 k3 a4 s1 x7 x8;go_wp2_with fail;go_ret;exact ⟨rfl,K3.o,hq⟩
theorem Iy {H:Nat->Prop} {w:Qd} {b x:Nat} {i:Inp} {a:MAd} {m:Mst} (h:aV H w b i x a m) (C:i.start.length<=60) (y:Itm) (o:Acn) (O:y.a=some o) (Q:o.at'.1<o.at'.2) (N:o.at'.2<=i.start.length) (u:N_) {base l:Nat} {g:Option Nat} {s:LSt} (J:aY w base l g s) (p:s.msgs.length<s.recv+s.cap) (A:s.msgs.length<100000000000) (v:base<=w.heap.size):Calls prog 226 #[(au b),.agg (bj y).toArray,.agg #[.pointer u,(au l)]] w fun e B=>e=.returned (OH 0)/\Keep (dS l g) w B/\
   ∃D,aY B base l D (s.send ⟨o.tg,(m.G.drop o.at'.1).take (o.at'.2-o.at'.1)⟩)/\(D=g\/∃k,D=some k/\w.heap.size<=k):=by
 obtain ⟨cl,R⟩:=J.blk;have L:=J.blocks;refine vl h C y o O _ _ rfl rfl Q N u (some (ar l 0)) 0 (dS l g) ?_ ?_ _ (fun B d q=>?_)
 ·rintro (e | e)
  ·exact mR h.blk R (by decide) e
  ·subst e;obtain ⟨cg,hg⟩:=J.ringBlk;exact mR h.blk hg (by decide) rfl
 ·rintro k hk (e | e)
  ·omega
  ·have:=(L.2 k e).2;omega
 ·have Z:Rd B (some (ar a.bg o.at'.1)) (aA .i64 ((m.G.drop o.at'.1).take (o.at'.2-o.at'.1))):=by
   have:=((Rd.own (ay h.oG q)).drop o.at'.1).take (o.at'.2-o.at'.1)
   rwa [dz,di,Oz] at this
  have I:((m.G.drop o.at'.1).take (o.at'.2-o.at'.1)).length=o.at'.2-o.at'.1:=by rw [Oi,Om,h.wG.1];omega
  have:=IP base l g s o.tg (some (ar a.bg o.at'.1)) ((m.G.drop o.at'.1).take (o.at'.2-o.at'.1)) d B (J.below q) p A (NN v q.size) Z ap;rw [I] at this;refine this.mono ?_;rintro e Y ⟨he,D,T,k2,U⟩;exact ⟨he,k2,D,T,U.imp id fun ⟨k,e1,V⟩=>⟨k,e1,NN q.size V⟩⟩
theorem Bj {H:Nat->Prop} {w:Qd} {b x:Nat} {i:Inp} {a:MAd} {m:Mst} (h:aV H w b i x a m) (v:i.start.length<=60) (y:Itm) (p:Acn) (B:y.a=some p) (C:p.at'.1<p.at'.2) (D:p.at'.2<=i.start.length) (u:N_) {base l:Nat} {g:Option Nat} {s:LSt} (I:aY w base l g s) (o:s.msgs.length=s.recv+s.cap):Calls prog 226 #[(au b),.agg (bj y).toArray,.agg #[.pointer u,(au l)]] w fun e A=>e=.returned (OH 11)/\aq w A:=by
 refine (vl h v y p B _ _ rfl rfl C D u (some (ar l 0)) 11 (fun _=>False) id (fun _ _ h=>h) (fun _=>True) (fun A d q=>?_)).mono fun e A h=>⟨h.1,h.2.1.toBelow (NF _) (fun _ h=>h.elim)⟩;exact (uj base l g s _ A (I.below q) o).mono fun e J h=>⟨h.1,Keep.below h.2,trivial⟩
def un (G:Qa) (lo:Nat) (v:Qa) (add:Bool) (k:Nat):Qa:=dM G.length fun j=>if lo<=j/\j<lo+k then (if add then wrap64 (nth G j+nth v (j-lo)) else nth v (j-lo)) else nth G j
def lw (G:Qa) (lo:Nat) (v:Qa) (add:Bool):Qa:=un G lo v add v.length
section
variable (G:Qa) (lo:Nat) (v:Qa) (add:Bool)
theorem tJ (k:Nat):(un G lo v add k).length=G.length:=cF _ _
theorem qj:(lw G lo v add).length=G.length:=cF _ _
theorem vF:un G lo v add 0=G:=(fF rfl fun k _=>by rw [if_neg ap]).symm
theorem qi {k j:Nat} (h:j<G.length):nth (un G lo v add k) j=if lo<=j/\j<lo+k then (if add then wrap64 (nth G j+nth v (j-lo)) else nth v (j-lo)) else nth G j:=bU _ h
theorem zy {k:Nat} (hk:lo+k<G.length):(un G lo v add k).set (lo+k) (if add then wrap64 (nth G (lo+k)+nth v k) else nth v k)=un G lo v add (k+1):=by
 refine js (by simp [tJ]) fun j i=>?_;rw [List.length_set,tJ] at i;rw [iQ,qi _ _ _ _ i,qi _ _ _ _ i,tJ];by_cases h1:j=lo+k
 ·subst h1;rw [if_pos (show lo+k=lo+k/\lo+k<G.length from NR rfl hk),if_pos (show lo<=lo+k/\lo+k<lo+(k+1) by omega),Nat.add_sub_cancel_left]
 ·rw [if_neg (show ¬(j=lo+k/\lo+k<G.length) from fun h=>h1 h.1)];by_cases o:lo<=j/\j<lo+k
  ·rw [if_pos o,if_pos (show lo<=j/\j<lo+(k+1) by omega)]
  ·rw [if_neg o,if_neg (show ¬(lo<=j/\j<lo+(k+1)) by omega)]
end
theorem tK {G v:Qa} {lo:Nat} {add:Bool} (o:W64 G) (i:W64 v):W64 (lw G lo v add):=fJ fun k hk=>by
 split
 ·rename_i h
  split
  ·unfold wrap64;omega
  ·exact i _ ap
 ·exact o k hk
theorem Fj {G v:Qa} {lo:Nat} (h:lo+v.length<=G.length):splice G lo v=lw G lo v false:=by
 unfold splice lw un;refine fF (by simp only [Od,Oi,Om];omega) fun k hk=>?_;rw [if_neg (show ¬(false=true) by decide)];by_cases h1:k<lo
 ·rw [if_neg ap];simp only [nth,List.getD_eq_getElem?_getD];rw [Og (by rw [Oi];omega),List.getElem?_take,if_pos h1]
 ·by_cases i:k<lo+v.length
  ·rw [if_pos ⟨by omega,i⟩];simp only [nth,List.getD_eq_getElem?_getD];rw [Oh (by rw [Oi];omega),Oi,Og ap]
   congr 2;omega
  ·rw [if_neg ap];simp only [nth,List.getD_eq_getElem?_getD];rw [Oh (by rw [Oi];omega),Oi,Oh ap,List.getElem?_drop]
   congr 2;omega
theorem Js {G v:Qa} (h:v.length=G.length):lw G 0 v true=fw G v:=by
 unfold lw un fw;refine eZ fun k hk=>?_;rw [if_pos (show 0<=k/\k<0+v.length by omega),if_pos rfl,Nat.sub_zero]
theorem Cb (g c lo n:Nat) (B:N_) (xs ys:Qa) (L Q d:Nat) (w:Qd) (h:w.ownsRow 0 2 1 (.slice (some (ar g 0)) n c) n (aA .i64 xs)) (hB:Rd w B (aA .i64 ys)) (hl:ys.length=L) (hn:lo+L<=n) (hm:n<=17592186043904) (y:∀b,B=some b->b.block≠g):Calls prog 234 #[.slice (some (ar g lo)) L Q,.slice B L d] w fun e J=>e=.returned (.bool true)/\J.ownsRow 0 2 1 (.slice (some (ar g 0)) n c) n (aA .i64 (lw xs lo ys true))/\Keep (fun i=>i=g) w J:=by
 have x:=kQ h;unfold lw;rw [hl];obtain ⟨Y,R,Hn,T,Z⟩:=ah h hB x hl y;clear h hB x hl y;go_enter func234,ntmps234;go_wp2_with fail
 go_loopw [13] (fun i wr=>∃k:Nat,k<=L/\i=OH k/\wr.ownsRow 0 2 1 (.slice (some (ar g 0)) n c) n (aA .i64 (un xs lo ys true k))/\Keep (fun i=>i=g) w wr) (fun i _=>L-(intOf i).toNat)
 ·exact ⟨0,NJ _,rfl,by rw [vF];exact Y.o,Keep.refl _ _⟩
 case round=>
  obtain ⟨k,hk,rfl,h,A⟩:=hrel;by_cases C:k<L
  ·have hg:=(h.lt g rfl).2;have v:lo+k<xs.length:=by rw [Hn.o];omega
   have V:=cH h (show lo+k<n by omega);rw [qi _ _ _ _ v,if_neg ap] at V;have f1:=h.frozenAt (lo+k);obtain ⟨N,U,rfl,O⟩:=R.o.num (show k<ys.length by rw [T.o];exact C);have I:N≠g:=Z.o _ rfl;have p2:wr.cell? (ar N (U+k))=some (OH (nth ys k)):=A.cell O I;have p:=zy xs lo ys true v;rw [if_pos rfl] at p;obtain ⟨H,u,D⟩:=af A h p;clear A h p v O;go_wp2_with fail
   go_region
   all_goals go_wp2_with fail
   all_goals
    go_roundw
    case rel=>
     refine ⟨k+1,by omega,by go_num,?_,?_⟩
     ·rw [<-D.o];exact ed (bW u.o 1) (lo+k) _
     ·exact Keep.setCell (H.o.drewN 1) (ar g (lo+k)) (.inr rfl) _
    case measure=>simp [intOf];omega
  ·obtain rfl:k=L:=ap;obtain ⟨H,u⟩:=ae A h;clear A h;go_wp2_with fail;go_ret;exact ⟨rfl,u.o,H.o⟩
theorem qy:cY prog 79 6:=⟨⟨_,underlying79,rfl⟩,by kernel_rfl⟩
theorem xD {α:Type} {i p:List α} {lo n:Nat} (h:lo+p.length<=n) (hn:n<=i.length):(splice i lo p).take n=splice (i.take n) lo p:=by
 unfold splice;have o:lo<=n:=ap;rw [List.take_append,List.take_append,List.take_take,Oi,List.take_take,List.drop_take,Nat.min_eq_right o,Nat.min_eq_left o,Nat.min_eq_left (show lo<=i.length by omega),List.take_of_length_le (show p.length<=n-lo by omega),Nat.sub_sub]
theorem Ad {α:Type} {i o:List α} {lo:Nat} (h:lo+o.length<=i.length):(splice i lo o).length=i.length:=by
 unfold splice;simp only [Od,Oi,Om];omega
theorem KL {w:Qd} {base:Nat} {e:Qf} {g n cap:Nat} {xs:Qc} (h:w.ownsRow base e 1 (.slice (some ⟨g,0,none⟩) n cap) n xs):
  ∃o:Qc,w.heap[g]?=some (.cells o.toArray e (0,0))/\o.take n=xs/\n<=o.length/\∀(p:Qd) (i:Qc),p.heap[g]?=some (.cells (List.toArray i) e (0,0))->i.length=o.length->p.ownsRow base e 1 (.slice (some ⟨g,0,none⟩) n cap) n (i.take n):=by
 rcases h.2 with ⟨B,_⟩ | ⟨C,v,o,u,hb,hg,h1,y,hs,x⟩
 ·cases B
 ·simp only [Ou,Option.some.injEq,Addr.mk.injEq,and_true,true_and] at u;obtain ⟨rfl,rfl⟩:=u;rw [Nat.mul_one] at hs x;have hl:o.toList.length=cap:=by simpa using hs
  refine ⟨o.toList,by simpa using hg,by simpa using x,by omega,fun p i hw A=>⟨by rw [Oi];omega,.inr ⟨g,cap,i.toArray,rfl,hb,hw,h1,y,?_,?_⟩⟩⟩
  ·simp;omega
  ·simp
theorem IC {w:Qd} {b:Nat} (y:Itm) (h:Acn) (H:y.a=some h) (u v:N_) (C:Int) (hC:C≠0) (p:∀i,aq w i->Calls prog 236 #[.pointer u,.agg #[OH (h.st:Nat),OH (h.bk:Nat),OH (h.ph:Nat),OH (h.rd:Nat),OH (h.ch:Nat)]] i fun e T=>e=.returned (.tuple #[.agg OV,OH C])/\aq i T):Calls prog 227 #[.pointer (some ⟨b,0,none⟩),.agg (bj y).toArray,.agg #[.pointer u,.pointer v]] w fun e i=>e=.returned (OH C)/\aq w i:=by
 obtain ⟨lo,h1⟩:∃lo,h.at'.1=lo:=⟨_,rfl⟩;obtain ⟨I,U⟩:∃I,h.at'.2=I:=⟨_,rfl⟩;rw [xg H h1 U];obtain ⟨W0,W1,B,A,Y,g1,D,O⟩:=gn w #[OH (y.kind:Nat),OH (y.st:Nat),OH (y.n:Nat),.bool h.send,.bool h.add,OH (h.st:Nat),OH (h.bk:Nat),OH (h.ph:Nat),OH (h.rd:Nat),OH (h.ch:Nat),OH (lo:Nat),OH (I:Nat)] #[.pointer u,.pointer v] 152 333;obtain ⟨N,R,G0,G1,K1,x⟩:=ai B A Y g1 D p;clear B A Y g1 D p H h1 U O;go_enter func227,ntmps227;go_upto_region 1 with (fail);rw [N.o,R.o];go_upto_region 2 with (first | (refine aK #[.bool h.send,.bool h.add,OH (h.st:Nat),OH (h.bk:Nat),OH (h.ph:Nat),OH (h.rd:Nat),OH (h.ch:Nat),OH (lo:Nat),OH (I:Nat)] (b:=w.heap.size) G0.o qz rfl rfl rfl rfl ?_) | (refine aH (NG _ _) qz rfl rfl rfl rfl rfl rfl rfl ?_;intro J Z k2;obtain ⟨E2,L⟩:=ae Z (aL k2);clear Z k2));have q2:=br J;have B2:=aa (bt K1.o L.o);have s0:∀i,aq J i->i.cell? ⟨w.heap.size+1,0,none⟩=some (.pointer u):=fun i q=>NH i (w.heap.size+1) 0 _ _ _ (sb (sb G1.o _ L.o) i q);have Q:=fun i (q:aq J i)=>NQ (NE (sb G1.o _ L.o)) q.size;go_wp2_with (refine aK #[OH (h.st:Nat),OH (h.bk:Nat),OH (h.ph:Nat),OH (h.rd:Nat),OH (h.ch:Nat)] (b:=W1.heap.size) E2.o jM rfl rfl rfl rfl ?_);refine (x.o J B2.o).mono ?_;rintro e w3 ⟨rfl,V⟩;have a0:(C != 0)=true:=by rw [bne_iff_ne];exact hC
 have B3:=aa (bt B2.o V);clear q2 s0 Q V;go_wp2_with (refine aH (NG _ _) qy rfl rfl rfl rfl rfl rfl rfl ?_;intro W4 e4 k4;have K4:=aa (bt B3.o (aL k4));clear e4 k4);go_ret;exact ⟨rfl,K4.o⟩
theorem Iz {H:Nat->Prop} {w:Qd} {b x:Nat} {i:Inp} {a:MAd} {m:Mst} (h:aV H w b i x a m) (bA:i.start.length<=60) (y:Itm) (B:Acn) (a5:y.a=some B) (lo C:Nat) (h1:B.at'.1=lo) (h2:B.at'.2=C) (bO:lo<C) (bV:C<=i.start.length) (v:N_) {base l:Nat} {g:Option Nat} {s:LSt} (hL:aY w base l g s) (c6:a.bg<base) (bb:s.recv<s.msgs.length) (ao:(aO s.msgs s.recv).tag=B.tg) (R:(aO s.msgs s.recv).vals.length=C-lo):Calls prog 227 #[.pointer (some ⟨b,0,none⟩),.agg (bj y).toArray,.agg #[.pointer (some ⟨l,0,none⟩),.pointer v]] w fun e p=>e=.returned (OH 0)/\Keep (fun k=>k=l\/k=a.bg) w p/\
   aY p base l g {s with recv:=s.recv+1}/\p.ownsRow 0 2 1 (.slice (some ⟨a.bg,0,none⟩) i.start.length a.cg) i.start.length (aA .i64 (lw m.G lo (aO s.msgs s.recv).vals B.add)):=by
 rw [xg a5 h1 h2];have T:=h.blk;obtain ⟨cl,Q⟩:=hL.blk
 have bN:i.start.length<=a.cg:=by
  obtain ⟨_,_,e,h⟩:=aC h.oG;simp only [Ou] at e;omega
 have b6:b≠l:=mR h.blk Q (by decide);have a8:l≠a.bg:=fun e=>ax Q (by decide) h.oG (by rw [e];rfl);have a3:=h.wG.1;have b7:=h.blk;obtain ⟨u,hu⟩:∃u,(some ⟨l,0,none⟩:N_)=u:=⟨_,rfl⟩;rw [hu];obtain ⟨W0,W1,av,a0,g0,g1,a2,b8⟩:=gn w #[OH (y.kind:Nat),OH (y.st:Nat),OH (y.n:Nat),.bool B.send,.bool B.add,OH (B.st:Nat),OH (B.bk:Nat),OH (B.ph:Nat),OH (B.rd:Nat),OH (B.ch:Nat),OH (lo:Nat),OH (C:Nat)] #[.pointer u,.pointer v] 152 333;rw [<-hu] at g1 a0;rw [<-hu];have b5:=sb T _ a2;obtain ⟨bv,bn,aM,G0,G1,K1,HM,HL⟩:=ak av a0 b5 g0 g1 a2 h hL;obtain ⟨bz,D,bX,bw⟩:=ag ao R Q a3;clear av a0 b5 g0 g1 a2 T b7 h hL a5 h1 h2 b8 hu ao R Q a3;go_enter func227,ntmps227;go_upto_region 1 with (fail);rw [bv.o,bn.o];go_upto_region 2 with (first | (refine aK #[.bool B.send,.bool B.add,OH (B.st:Nat),OH (B.bk:Nat),OH (B.ph:Nat),OH (B.rd:Nat),OH (B.ch:Nat),OH (lo:Nat),OH (C:Nat)] (b:=w.heap.size) G0.o qz rfl rfl rfl rfl ?_) | (refine aH (NG _ _) qz rfl rfl rfl rfl rfl rfl rfl ?_;intro W2 e2 k2;obtain ⟨E2,K2⟩:=ae e2 (aL k2);clear e2 k2));have B2:=aa (bt K1.o K2.o);have a1:=yU base l g s B.tg W2 (HL.o.below B2.o) bb bz.o;rw [D.o] at a1;have a4:=aa a1;have s0:W2.cell? ⟨w.heap.size+1,0,none⟩=some (.pointer (some ⟨l,0,none⟩)):=NH W2 (w.heap.size+1) 0 _ _ _ (sb G1.o _ K2.o);clear a1;go_wp2_with (refine aK #[OH (B.st:Nat),OH (B.bk:Nat),OH (B.ph:Nat),OH (B.rd:Nat),OH (B.ch:Nat)] (b:=W1.heap.size) E2.o jM rfl rfl rfl rfl ?_);refine a4.o.mono ?_;rintro e w3 ⟨A,c,rfl,o3,L3,k3⟩;have bf:l≠W1.heap.size:=by have:=HL.o.blocks.1;have:=K1.o.size;omega
 have e3:=(k3.block W1.heap.size (NE E2.o) (fun e=>bf e.symm)).trans E2.o;have b3:=(k3.block b (NE (sb aM.o _ K2.o)) b6).trans (sb aM.o _ K2.o);have a7:=k3.own (ay HM.o.oG B2.o) (fun j hj e=>a8 (by cases hj;exact e.symm));obtain ⟨O3,bo,K3,E3,bi,bh⟩:=ai o3 L3 ((Keep.below (S:=fun k=>k=l) B2.o).trans k3) e3 b3 a7;clear o3 L3 k3 e3 b3 a7 s0 a4;go_upto_region 5 with (refine aH (NG _ _) qy rfl rfl rfl rfl rfl rfl rfl ?_;intro L e4 k4;obtain ⟨E4,K4⟩:=ae e4 (aL k4);clear e4 k4);have q4:=(br L).drew;have kx:=fun p (q:aq L p)=>sb (sb E3.o _ K4.o) p q;have bl:∀p,aq L p->p.cell? ⟨b,13,none⟩=some (.slice (some ⟨a.bg,0,none⟩) i.start.length a.cg):=fun p q=>NH p b 13 _ _ _ (sb (sb bi.o _ K4.o) p q);have x1:∀p,aq L p->p.cell? ⟨W1.heap.size,1,none⟩=some (.bool B.add):=fun p q=>NH p _ 1 _ _ _ (kx p q);have x7:∀p,aq L p->p.cell? ⟨W1.heap.size,7,none⟩=some (OH (lo:Nat)):=fun p q=>NH p _ 7 _ _ _ (kx p q);have x8:∀p,aq L p->p.cell? ⟨W1.heap.size,8,none⟩=some (OH (C:Nat)):=fun p q=>NH p _ 8 _ _ _ (kx p q);have y5:∀p,aq L p->p.cell? ⟨w3.heap.size,5,none⟩=some (.slice A (C-lo:Nat) c):=fun p q=>NH p _ 5 _ _ _ (sb E4.o p q);have xl:=sl (sb E3.o _ K4.o);have yl:=sl E4.o;have c7:(lo:Int)<=C:=ap;have c8:(C:Int)<=a.cg:=ap;have bG:lo<=C:=ap;have bI:C<=a.cg:=ap;have bM:¬a.cg=lo:=ap;clear kx;refine HA.g (fun p:Qd=>aq L p) ?_;refine HA.t ?_ [0,1,2,3,4,5,6,7,8,9,10,11] q4 ?_;refine HA.d ?_;have N:=aa (K4.o.trans (q4.mono K4.o.size));have o5:=ay O3.o N.o;have L5:=bo.o.below N.o;have Z:=ay bh.o N.o;have K5:=(K3.o.mono (S':=fun k=>k=l\/k=a.bg) fun k _ e=>.inl e).trans (Keep.below N.o)
 have b1:∀z,A=some z->z.block≠a.bg:=fun z hz e=>by
  rcases o5.2 with ⟨e',_⟩ | ⟨r,_,_,e',hb,_⟩
  ·injection e' with e1;rw [e1] at hz;cases hz
  ·injection e' with e1;rw [e1] at hz;cases hz;exact absurd hb (by simp only at e;omega)
 have b4:∀p,Keep (fun k=>k=a.bg) L.drew p->aY p base l g {s with recv:=s.recv+1}:=fun p k=>by
  refine L5.keep k a8 (fun j hj e=>?_) (fun j _ _ hb e=>ap);subst hj;obtain ⟨cg,hg⟩:=L5.ringBlk;exact ax hg (by decide) Z (by rw [e];rfl)
 obtain ⟨O5,a6,aP,bs,aR⟩:=ah o5 Z K5 b1 b4;clear o5 L5 Z K5 b1 b4 bl
 cases hadd:B.add with
 | true=>
  rw [hadd] at x1;obtain ⟨I,be⟩:=ae hadd (Cb a.bg a.cg lo i.start.length A m.G (aO s.msgs s.recv).vals (C-lo) (a.cg-lo) c L.drew a6.o (Rd.own O5.o) D.o ap ap bs.o);clear hadd;go_wp2_with fail;refine be.o.mono ?_;rintro e w6 ⟨rfl,o6,k6⟩;obtain ⟨O6,L6,K6⟩:=af o6 (aR.o w6 k6) (aP.o.trans (k6.mono fun k _ e=>.inr e));clear o6 k6 x1 x7 x8 y5 xl yl q4;go_wp2_with fail;go_ret;exact ⟨rfl,K6.o,L6.o,by first | exact O6.o | (rw [I.o];exact O6.o)⟩
 | false=>
  rw [hadd] at x1;have I:=aa hadd;obtain ⟨Y,V,b0,b2,ab⟩:=KL a6.o;have O:(aA .i64 (aO s.msgs s.recv).vals).length=C-lo:=by rw [bS,D.o]
  have J:lo+(aA .i64 (aO s.msgs s.recv).vals).length<=Y.length:=by rw [O];omega
  have U:∀p:Qd,p.heap[a.bg]?=some (.cells (splice Y lo (aA .i64 (aO s.msgs s.recv).vals)).toArray 2 (0,0))->p.ownsRow 0 2 1 (.slice (some ⟨a.bg,0,none⟩) i.start.length a.cg) i.start.length (aA .i64 (lw m.G lo (aO s.msgs s.recv).vals false)):=fun p hw=>by
   have:=ab p _ hw (Ad J)
   rwa [xD (by rw [O];omega) b2,b0,m9,Fj (by rw [D.o,bw.o];omega)] at this
  obtain ⟨ad,bd,a9,aG,b9⟩:=ah V O J U (Rd.own O5.o);clear hadd V b0 b2 ab O J U;go_wp2_with (refine pE rfl (.tmp 41) (.tmp 43) 139 26 rfl 2 underlying139 (by kernel_rfl) (some ⟨a.bg,lo,none⟩) A (C-lo) (a.cg-lo) c rfl rfl a.bg lo Y 2 ad.o (aA .i64 (aO s.msgs s.recv).vals) bd.o (fun _=>rfl) b9.o a9.o (cJ _ _) ?_;intro w6 g6 k6;obtain ⟨O6,L6,K6⟩:=af (aG.o w6 g6) (aR.o w6 k6) (aP.o.trans (k6.mono fun k _ e=>.inr e));clear g6 k6 x1 x7 x8 y5 xl yl q4);go_ret;exact ⟨rfl,K6.o,L6.o,by first | exact O6.o | (rw [I.o];exact O6.o)⟩
theorem aY.box {w o:Qd} {base l b:Nat} {g:Option Nat} {s:LSt} (h:aY w base l g s) (k:Keep (fun k=>k=b) w o) (h1:l≠b) (u:b<base):aY o base l g s:=
 h.keep k h1 (fun i p e=>by have:=(h.blocks.2 i p).1;omega) (fun i c _ hb e=>ap)
theorem aV.setGH {H:Nat->Prop} {w y:Qd} {b x:Nat} {i:Inp} {a:MAd} {m:Mst} (h:aV H w b i x a m) (hn:∀k,Mut b a k->¬H k) (hk:Keep (fun k=>k=a.bg\/H k) w y) (G:Qa) (oG:y.ownsRow 0 2 1 (.slice (some (ar a.bg 0)) i.start.length a.cg) i.start.length (aA .i64 G)) (wG:G.length=i.start.length/\W64 G):aV H y b i x a {m with G:=G}:=by
 have he:Ext (aF (gE H b a) w) (aF (gE H b a) y):=aX (hk.mono fun k _ e=>e.imp (fun e=>.inr (.inr (.inr (.inl e)))) id) (fun k _ Y=>Y);have nb:b≠a.bg:=fun e=>ax h.blk (by decide) h.oG (by rw [e];rfl);have hb:=(hk.block b (NE h.blk) (fun e=>e.elim nb (hn b (.inl rfl)))).trans h.blk;have u:∀{v:Value} {e size n xs},(∀j,v.ownBlock=some j->j≠a.bg/\Mut b a j)->w.ownsRow 0 e size v n xs->y.ownsRow 0 e size v n xs:=fun p u=>hk.own u (fun j o e=>e.elim (p j o).1 (hn j (p j o).2))
 have D:∀{v:Value} {e:Qf} {size n:Nat} {xs:Qc},e≠2->w.ownsRow 0 e size v n xs->∀j,v.ownBlock=some j->j≠a.bg:=fun p u j o e=>by
  rcases h.oG.2 with ⟨A,_⟩ | ⟨Z,_,_,A,_,hg,_⟩
  ·cases A
  ·simp only [Ou,Option.some.injEq,Addr.mk.injEq] at A;obtain ⟨⟨U,_⟩,_⟩:=A;exact ax hg (Ne.symm p) u (by rw [o,e,U])
 obtain ⟨T,a1,V,L,N,B,O⟩:=h.pl;obtain ⟨rows,C,R,I,J⟩:=h.re
 exact ⟨hb,fA h.sh he,eO cQ h.ex he,iq h.sa he,⟨T,a1,V,L,N,B,ir O he⟩,aQ h.bu he,aQ h.it he,⟨rows,u (fun j o=>⟨D (by decide) C j o,by cases o;exact .inr (.inr (.inr (.inr (.inl rfl))))⟩) C,R,I,fun j x Q=>cQ (J j x Q) he⟩,
  u (fun j o=>by cases o;exact ⟨h.dj.2.1,.inr (.inl rfl)⟩) h.oP,u (fun j o=>by cases o;exact ⟨h.dj.2.2,.inr (.inr (.inl rfl))⟩) h.oM,oG,u (fun j o=>⟨D (by decide) h.oO j o,.inr (.inr (.inr (.inr (.inr o))))⟩) h.oO,h.dj,fun k _ hm=>hn k hm,h.wP,h.wM,wG,h.ox,h.xw⟩
theorem IH {H:Nat->Prop} {w:Qd} {b x:Nat} {i:Inp} {a:MAd} {m:Mst} (h:aV H w b i x a m) (hn:∀k,Mut b a k->¬H k) (B:∀k,w.heap.size<=k->¬H k) (hs:cq i) {y:Itm} (hy:(cK i x m.st)[m.nx]?=some y) (hk:y.kind=3) {p:Acn} (a2:y.a=some p) (a3:p.at'.1<p.at'.2) (Y:p.at'.2<=i.start.length) (u:N_) {base l:Nat} {g:Option Nat} {s:LSt} (V:aY w base l g s) (I:s.msgs.length<s.recv+s.cap) (L:s.msgs.length<100000000000) (J:base<=w.heap.size) (D:∀k,dS l g k->H k) (a0:b<base):Calls prog 216 #[(au b),.pointer u,(au l)] w fun e v=>e=.returned (OH 0)/\
   Ka (dS l g) b i x a m (fun T v m1=>m1=m/\∃o,(∀k,T k↔H k\/o=some k)/\aY v base l o (s.send ⟨p.tg,(m.G.drop p.at'.1).take (p.at'.2-p.at'.1)⟩)/\(o=g\/∃k,o=some k/\w.heap.size<=k)) w v:=by
 have a1:l≠b:=fun e=>hn b (.inl rfl) (D b (.inl e.symm))
 refine (yS h hn B (G:=dS l g) (fun k e=>?_) hs hy u (some (ar l 0)) 226 (fun v=>by rw [hk];kernel_rfl) (fun args w=>by kernel_rfl) (fun _=>False)
  (fun T v m1=>m1=m/\∃o,(∀k,T k↔H k\/o=some k)/\aY v base l o (s.send ⟨p.tg,(m.G.drop p.at'.1).take (p.at'.2-p.at'.1)⟩)/\(o=g\/∃k,o=some k/\w.heap.size<=k)) ?_ (fun v q=>?_)).mono ?_
 ·rcases e with e | e
  ·rw [e];exact V.blocks.1
  ·exact (V.blocks.2 k e).2
 ·rintro T w1 w2 m1 ⟨e,o,h1,h2,h3⟩ kk;exact ⟨e,o,h1,h2.box kk a1 a0,h3⟩
 ·have U:=h.below q hn;refine (Iy U hs.n y p a2 a3 Y u (V.below q) I L (NN J q.size)).mono ?_;rintro e a4 ⟨he,N,o,R,Q⟩
  have A:∀k,o=some k->H k\/v.heap.size<=k:=fun k e=>by
   rcases Q with rfl | ⟨j,e1,Z⟩
   ·exact .inl (D k (.inr e))
   ·rw [e1] at e;cases e;exact .inr Z
  have O:∀k,Mut b a k->¬(H k\/o=some k):=fun k hm e=>by
   rcases e with e | e
   ·exact hn k hm e
   ·rcases A k e with e | e
    ·exact hn k hm e
    ·have:=U.mlt k hm;omega
  refine .inl ⟨he,fun k=>H k\/o=some k,a,m,U.step (N.mono fun k _ e=>D k e) (fun k hl e=>?_) O,O,fun k hl e=>?_,rfl,rfl,N.mono fun k _ e=>.inr e,fun k hm=>.inl hm,⟨rfl,rfl,rfl⟩,rfl,o,fun k=>Iff.rfl,R,?_⟩
  ·rcases e with e | e
   ·exact e
   ·rcases A k e with e | e
    ·exact e
    ·omega
  ·rcases e with e | e
   ·exact B k (NN (NN q.size N.size) hl) e
   ·have:=(R.blocks.2 k e).2;omega
  ·exact Q.imp id fun ⟨k,e1,Z⟩=>⟨k,e1,NN q.size Z⟩
 ·rintro e v (⟨he,hd⟩ | ⟨C,_,hF,_⟩)
  ·exact ⟨he,hd⟩
  ·exact hF.elim
theorem IJ {H:Nat->Prop} {w:Qd} {b x:Nat} {i:Inp} {a:MAd} {m:Mst} (h:aV H w b i x a m) (hn:∀k,Mut b a k->¬H k) (v:∀k,w.heap.size<=k->¬H k) (hs:cq i) {y:Itm} (L:(cK i x m.st)[m.nx]?=some y) (hk:y.kind=3) {p:Acn} (B:y.a=some p) (I:p.at'.1<p.at'.2) (D:p.at'.2<=i.start.length) (u:N_) {base l:Nat} {g:Option Nat} {s:LSt} (O:aY w base l g s) (o:s.msgs.length=s.recv+s.cap):Calls prog 216 #[(au b),.pointer u,(au l)] w fun e A=>e=.returned (OH 11)/\aq w A:=by
 refine (my h hn v (G:=fun _=>False) (fun _ h=>h.elim) hs L u (some (ar l 0)) 226 (fun A=>by rw [hk];kernel_rfl) (fun args w=>by kernel_rfl) (fun C=>C=11) (fun _ _=>False) (fun _ _ _ h _=>h) (fun A q=>?_)).mono ?_
 ·refine (Bj (h.below q hn) hs.n y p B I D u (O.below q) o).mono ?_;rintro e N ⟨he,k⟩;exact .inr ⟨11,by decide,rfl,he,k⟩
 ·rintro e A (⟨_,_,_,_,_,_,_,_,_,J⟩ | ⟨C,_,Q,he,k⟩)
  ·exact J.elim
  ·rw [Q] at he;exact ⟨he,k⟩
theorem II {H:Nat->Prop} {w:Qd} {b x:Nat} {i:Inp} {a:MAd} {m:Mst} (h:aV H w b i x a m) (hn:∀k,Mut b a k->¬H k) (B:∀k,w.heap.size<=k->¬H k) (hs:cq i) {y:Itm} (hy:(cK i x m.st)[m.nx]?=some y) (hk:y.kind=4) {o:Acn} (T:y.a=some o) (U:o.at'.1<o.at'.2) (L:o.at'.2<=i.start.length) (v:N_) {base l:Nat} {g:Option Nat} {s:LSt} (Z:aY w base l g s) (u:∀k,dS l g k->H k) (N:b<base) (Q:a.bg<base) (I:s.recv<s.msgs.length) (J:(aO s.msgs s.recv).tag=o.tg) (A:(aO s.msgs s.recv).vals.length=o.at'.2-o.at'.1) (hw:W64 (aO s.msgs s.recv).vals):Calls prog 216 #[(au b),(au l),.pointer v] w fun e p=>e=.returned (OH 0)/\
   zK H (fun k=>k=l) b i x a m (fun p m1=>m1={m with G:=lw m.G o.at'.1 (aO s.msgs s.recv).vals o.add}/\aY p base l g {s with recv:=s.recv+1}) w p:=by
 have O:l≠b:=fun e=>hn b (.inl rfl) (u b (.inl e.symm))
 refine (my h hn B (G:=fun k=>k=l) (fun k e=>by rw [e];exact Z.blocks.1) hs hy (some (ar l 0)) v 227 (fun p=>by rw [hk];kernel_rfl) (fun args w=>by kernel_rfl) (fun _=>False)
  (fun p m1=>m1={m with G:=lw m.G o.at'.1 (aO s.msgs s.recv).vals o.add}/\aY p base l g {s with recv:=s.recv+1}) (fun w1 w2 m1 V kk=>⟨V.1,V.2.box kk O N⟩) (fun p q=>?_)).mono ?_
 ·have Y:=h.below q hn;refine (Iz Y hs.n y o T _ _ rfl rfl U L v (Z.below q) Q I J A).mono ?_;rintro e a0 ⟨he,D,R,hG⟩;exact .inl ⟨he,a,_,Y.setGH hn (D.mono fun k _ e=>e.elim (fun e=>.inr (u k (.inl e))) .inl) _ hG ⟨by rw [qj];exact h.wG.1,tK h.wG.2 hw⟩,rfl,rfl,D.mono fun k _ e=>e.elim .inr (fun e=>.inl (.inr (.inr (.inr (.inl e))))),fun k hm=>.inl hm,⟨rfl,rfl,rfl⟩,rfl,R⟩
 ·rintro e p (⟨he,hd⟩ | ⟨C,_,hF,_⟩)
  ·exact ⟨he,hd⟩
  ·exact hF.elim
theorem s9 {H:Nat->Prop} {w:Qd} {b x:Nat} {i:Inp} {a:MAd} {m:Mst} (h:aV H w b i x a m) (hn:∀k,Mut b a k->¬H k) (A:∀k,w.heap.size<=k->¬H k) (hs:cq i) {y:Itm} (L:(cK i x m.st)[m.nx]?=some y) (hk:y.kind=4) {u:Acn} (I:y.a=some u) (v:N_) {base l:Nat} {g:Option Nat} {s:LSt} (O:aY w base l g s) (D:s.recv=s.msgs.length\/(s.recv<s.msgs.length/\(aO s.msgs s.recv).tag≠u.tg)):Calls prog 216 #[(au b),(au l),.pointer v] w fun e B=>e=.returned (OH (if s.recv=s.msgs.length then 12 else 10))/\aq w B:=by
 refine (my h hn A (G:=fun _=>False) (fun _ h=>h.elim) hs L (some (ar l 0)) v 227 (fun B=>by rw [hk];kernel_rfl) (fun args w=>by kernel_rfl) (fun C=>C=if s.recv=s.msgs.length then 12 else 10) (fun _ _=>False) (fun _ _ _ h _=>h) (fun B q=>?_)).mono ?_
 ·refine (IC y u I (some (ar l 0)) v (if s.recv=s.msgs.length then 12 else 10) (by split<;>decide) (fun o N=>?_)).mono ?_
  ·have p:=(O.below q).below N;rcases D with e | ⟨e,ne⟩
   ·rw [if_pos e];exact uk base l g s u.tg o p e
   ·rw [if_neg ap];exact xe base l g s u.tg o p e ne
  ·rintro e o ⟨he,k⟩;exact .inr ⟨_,by split<;>decide,rfl,he,k⟩
 ·rintro e B (⟨_,_,_,_,_,_,_,_,_,J⟩ | ⟨C,_,Q,he,k⟩)
  ·exact J.elim
  ·rw [Q] at he;exact ⟨he,k⟩
def ko (i:Inp) (x:Nat) (m:Mst) (y:Itm):Mst:=
 if y.kind=1 then {m with G:=eN i m.P m.G (dR i.data (pZ i x y.st y.n))}
 else if y.kind=2 then {m with op:=m.op++[y.n]}
 else if y.kind=5 then
  {m with P:=apP i.cfg.rate i.cfg.mom i.cfg.shift m.P m.M ((m.G.drop (aS (az i).buks y.n).1).take ((aS (az i).buks y.n).2-(aS (az i).buks y.n).1)) (aS (az i).buks y.n).1 ((aS (az i).buks y.n).2-(aS (az i).buks y.n).1),M:=apM i.cfg.mom i.cfg.shift m.M ((m.G.drop (aS (az i).buks y.n).1).take ((aS (az i).buks y.n).2-(aS (az i).buks y.n).1)) (aS (az i).buks y.n).1 ((aS (az i).buks y.n).2-(aS (az i).buks y.n).1),op:=iw m.op y.n}
 else {m with rc:=m.rc++[(m.P,m.M)],G:=List.replicate i.start.length 0}
def MT (m:Mst) (y:Itm):Prop:=(y.kind=1\/y.kind=2\/y.kind=5\/y.kind=6)/\m.op.length<=1000/\(y.kind=5->0<m.op.length)/\(y.kind=6->m.rc.length<=1000)
def bB (n s k:Nat):Nat:=min ((dD n s-k)*s) n
theorem JB {n s k:Nat} (hs:1<=s) (hk:k<dD n s):aS (pB n s) k=(bB n s (k+1),bB n s k)/\bB n s (k+1)<bB n s k/\bB n s k<=n:=by
 have h1:=jt (n:=n) (size:=s) (k:=dD n s-1-k) ap;have h:dD n s-(k+1)=dD n s-1-k:=ap
 have i:(dD n s-k)*s=(dD n s-1-k)*s+s:=by
  rw [show dD n s-k=(dD n s-1-k)+1 by omega,Ox]
 have hl:k<(pB n s).length:=by rw [lT];exact hk
 refine ⟨?_,?_,?_⟩
 ·rw [cS _ _ hl];simp only [pB,List.getElem_reverse,eP,fC,List.getElem_map,List.getElem_range,List.length_map,List.length_range];unfold bB;rw [h,i];simp only [Prod.mk.injEq,and_true];omega
 ·unfold bB;rw [h,i];omega
 ·unfold bB;omega
theorem Lt (n s:Nat) (hs:1<=s):bB n s 0=n:=by
 unfold bB dD;by_cases h:n=0
 ·simp [h]
 ·rw [if_neg h,Nat.sub_zero,Ox];have h1:=Nat.div_add_mod (n-1) s;have i:=Nat.mod_lt (n-1) (show 0<s from hs);rw [Nat.mul_comm] at h1;omega
theorem Ff (a c:Nat):iw (List.range' a (c+1)) a=List.range' (a+1) c:=by
 unfold iw;rw [List.range'_succ,List.filter_cons,if_neg (by simp)]
 exact List.filter_eq_self.2 fun j h=>by
  rw [List.mem_range'_1] at h;simp only [OD];omega
theorem yR {H:Nat->Prop} {w:Qd} {b x:Nat} {i:Inp} {a:MAd} {m:Mst} (h:aV H w b i x a m) (hn:∀k,Mut b a k->¬H k) (o:∀k,w.heap.size<=k->¬H k) (hs:cq i) {y:Itm} (B:(cK i x m.st)[m.nx]?=some y) (hk:MT m y) (J: -9223372036854775808<=i.cfg.rate/\i.cfg.rate<=9223372036854775807) (O: -9223372036854775808<=i.cfg.mom/\i.cfg.mom<=9223372036854775807) (u v:N_):Calls prog 216 #[(au b),.pointer u,.pointer v] w fun e C=>e=.returned (OH 0)/\zK H (fun _=>False) b i x a m (fun _ m1=>m1=ko i x m y) w C:=by
 obtain ⟨V,Q,Y,Z⟩:=hk;obtain ⟨h1,U⟩:=dC B;have L:=xo B;have I:=hs.ok;rcases V with k | k | k | k
 ·refine (IK h hn o hs B k u v).mono fun e C q=>?_
  have p:ko i x m y={m with G:=eN i m.P m.G (dR i.data (pZ i x m.st y.n))}:=by
   unfold ko;rw [if_pos k,L]
  rw [p];exact q
 ·refine (Br h hn o hs B k Q u v).mono fun e C q=>?_
  have p:ko i x m y={m with op:=m.op++[y.n]}:=by
   unfold ko;rw [if_neg ap,if_pos k]
  rw [p];exact q
 ·obtain ⟨g,hg,g1,g2⟩:=vt U (.inr k);obtain ⟨j,R,rfl⟩:=List.getElem_of_mem hg;have N:=I.grp R;rw [cS _ _ R] at N;have D:y.n<(az i).buks.length:=ap;have A:=D;rw [Pln.buks,lT] at A;obtain ⟨T,b2,b3⟩:=JB I.bu A;have hr:aS (az i).buks y.n=(bB (az i).n (az i).bu (y.n+1),bB (az i).n (az i).bu y.n):=T;refine (KZ h hn o hs B k u v D (Y k) Q J O _ _ hr b2 b3).mono fun e C q=>?_;have p:=ko.eq_1 i x m y;rw [if_neg ap,if_neg ap,if_pos k,hr] at p;rw [p];exact q
 ·refine (Bq h hn o hs B k (Z k) u v).mono fun e C q=>?_
  have p:ko i x m y={m with rc:=m.rc++[(m.P,m.M)],G:=List.replicate i.start.length 0}:=by
   unfold ko;rw [if_neg ap,if_neg ap,if_neg ap]
  rw [p];exact q
theorem Bw {p:Pln} {x st:Nat} {y:Itm} (h:y∈aJ p x st):(y.a=none/\y.kind≠3/\y.kind≠4)\/∃a,y.a=some a/\y.kind=(if a.send then 3 else 4):=by
 unfold aJ at h;simp only [Ov,List.mem_map,List.mem_flatMap,List.mem_singleton] at h;rcases h with (⟨_,_,rfl⟩ | ⟨g,_,h⟩) | rfl
 ·exact .inl ⟨rfl,(fun e=>by cases e),(fun e=>by cases e)⟩
 ·unfold du at h;simp only [Ov,List.mem_map,List.mem_flatMap] at h;rcases h with (⟨_,_,rfl⟩ | ⟨_,_,_,_,_,_,h⟩) | ⟨_,_,rfl⟩
  ·exact .inl ⟨rfl,(fun e=>by cases e),(fun e=>by cases e)⟩
  ·unfold cz at h;obtain ⟨c,_,rfl⟩:=List.mem_map.1 h;exact .inr ⟨c,rfl,rfl⟩
  ·exact .inl ⟨rfl,(fun e=>by cases e),(fun e=>by cases e)⟩
 ·exact .inl ⟨rfl,(fun e=>by cases e),(fun e=>by cases e)⟩
theorem zE {i:Inp} {x k:Nat} {y:Itm} (h:y∈iL i x k):(y.a=none/\y.kind≠3/\y.kind≠4)\/∃a,y.a=some a/\y.kind=(if a.send then 3 else 4):=by
 unfold iL at h;obtain ⟨st,_,h⟩:=List.mem_flatMap.1 h;exact Bw h
def sN (i:Inp) (x p:Nat):Nat:=(iy ((dq i x).take p)).length
def rN (i:Inp) (x p:Nat):Nat:=(iV ((dq i x).take p)).length
def nxW (W x:Nat):Nat:=(x+1)%W
def pvW (W x:Nat):Nat:=(x+W-1)%W
theorem CM {W x:Nat} (h:x<W):nxW W (pvW W x)=x:=by
 unfold nxW pvW;rw [Nat.mod_add_mod,show x+W-1+1=x+W by omega,Nat.add_mod_right,Nat.mod_eq_of_lt h]
theorem Mg {W x:Nat} (h:0<W):nxW W x<W:=Nat.mod_lt _ h
theorem mt {W x:Nat} (h:0<W):pvW W x<W:=Nat.mod_lt _ h
def can (i:Inp) (C:Nat) (pos:Nat->Nat) (x:Nat):Prop:=∃y,(dq i x)[pos x]?=some y/\(y.kind=3->sN i x (pos x)<rN i (nxW (az i).W x) (pos (nxW (az i).W x))+C)/\(y.kind=4->rN i x (pos x)<sN i (pvW (az i).W x) (pos (pvW (az i).W x)))
theorem MK {l:List Itm} {n:Nat} {c:Cor} (h:(iy l)[n]?=some c):∃a∈gY l,a.send=true/\a.cor=c:=by
 have:=List.mem_of_getElem? h;simp only [iy,List.mem_map,List.mem_filter] at this;obtain ⟨a,⟨h1,i⟩,o⟩:=this;exact ⟨a,h1,i,o⟩
theorem D2 {l:List Itm} {n:Nat} {c:Cor} (h:(iV l)[n]?=some c):∃a∈gY l,a.send=false/\a.cor=c:=by
 have:=List.mem_of_getElem? h;simp only [iV,List.mem_map,List.mem_filter] at this;obtain ⟨a,⟨h1,i⟩,o⟩:=this;exact ⟨a,h1,by simpa using i,o⟩
theorem xH (l:List Itm) (k:Nat):l=l.take k++l.drop k:=(List.take_append_drop k l).symm
theorem GV {l:List Itm} {k:Nat} {y:Itm} {a:Acn} (p:l[k]?=some y) (h:y.a=some a) (hs:a.send=false):(iV l)[(iV (l.take k)).length]?=some a.cor:=by
 have o:l.drop k=y::l.drop (k+1):=by
  obtain ⟨h1,i⟩:=Oe.1 p;rw [List.drop_eq_getElem_cons h1,i]
 conv=>lhs;rw [xH l k,uT]
 rw [Oh (by simp),List.take_append_drop,Nat.sub_self,o];unfold iV gY;rw [List.filterMap_cons,h];simp [hs]
theorem Gi {l:List Itm} {k:Nat} {y:Itm} {a:Acn} (p:l[k]?=some y) (h:y.a=some a) (hs:a.send=true):(iy l)[(iy (l.take k)).length]?=some a.cor:=by
 have o:l.drop k=y::l.drop (k+1):=by
  obtain ⟨h1,i⟩:=Oe.1 p;rw [List.drop_eq_getElem_cons h1,i]
 conv=>lhs;rw [xH l k,uE]
 rw [Oh (by simp),List.take_append_drop,Nat.sub_self,o];unfold iy gY;rw [List.filterMap_cons,h];simp [hs]
def opF (s:Nat×Nat) (y:Itm):Nat×Nat:=if y.kind=2 then (s.1,s.2+1) else if y.kind=5 then (s.1+1,s.2) else s
def pr (wi nb:Nat):Nat×Nat->List Itm->Prop
 | _,[]=>True
 | s,y::r=>(y.kind=2->y.n=s.2/\s.2<nb/\s.2+1<=s.1+wi)/\(y.kind=5->y.n=s.1/\s.1<s.2)/\pr wi nb (opF s y) r
theorem jX (wi nb:Nat):∀(l r:List Itm) (s:Nat×Nat),pr wi nb s (l++r)↔pr wi nb s l/\pr wi nb (l.foldl opF s) r
 | [],r,s=>by simp [pr]
 | y::l,r,s=>by
  have:=jX wi nb l r (opF s y);simp only [List.cons_append,pr,List.foldl_cons,this,and_assoc]
theorem wV {wi nb:Nat}:∀{l:List Itm} {s:Nat×Nat} {k:Nat} {y:Itm},pr wi nb s l->l[k]?=some y->(y.kind=2->y.n=((l.take k).foldl opF s).2/\((l.take k).foldl opF s).2<nb/\((l.take k).foldl opF s).2+1<=((l.take k).foldl opF s).1+wi)/\(y.kind=5->y.n=((l.take k).foldl opF s).1/\((l.take k).foldl opF s).1<((l.take k).foldl opF s).2)
 | [],_,_,_,_,h=>by simp at h
 | z::l,s,0,y,hr,h=>by
  simp only [Oa,Option.some.injEq] at h;subst h;exact ⟨hr.1,hr.2.1⟩
 | z::l,s,k+1,y,hr,h=>by
  rw [N9] at h;exact wV (l:=l) hr.2.2 h
theorem yA {wi nb:Nat}:∀{l:List Itm} {s:Nat×Nat},pr wi nb s l->s.1<=s.2->s.2<=nb->s.2<=s.1+wi->∀k,((l.take k).foldl opF s).1<=((l.take k).foldl opF s).2/\((l.take k).foldl opF s).2<=nb/\((l.take k).foldl opF s).2<=((l.take k).foldl opF s).1+wi
 | [],s,_,h1,h2,h3,k=>by simpa using ⟨h1,h2,h3⟩
 | y::l,s,h,h1,h2,h3,0=>⟨h1,h2,h3⟩
 | y::l,s,h,h1,h2,h3,k+1=>by
  have hk:(opF s y).1<=(opF s y).2/\(opF s y).2<=nb/\(opF s y).2<=(opF s y).1+wi:=by
   unfold opF;by_cases i:y.kind=2
   ·rw [if_pos i];have:=h.1 i;exact ⟨by omega,by omega,by omega⟩
   ·rw [if_neg i];by_cases o:y.kind=5
    ·rw [if_pos o];have:=h.2.1 o;exact ⟨by omega,h2,by omega⟩
    ·rw [if_neg o];exact ⟨h1,h2,h3⟩
  exact yA h.2.2 hk.1 hk.2.1 hk.2.2 k
theorem rH {wi nb:Nat}:∀{l:List Itm} (s:Nat×Nat),(∀y∈l,y.kind≠2/\y.kind≠5)->pr wi nb s l/\l.foldl opF s=s
 | [],s,_=>⟨trivial,rfl⟩
 | y::l,s,h=>by
  have i:=h y (by simp);have e:opF s y=s:=by unfold opF;rw [if_neg i.1,if_neg i.2]
  have o:=rH (wi:=wi) (nb:=nb) (l:=l) s fun z p=>h z (by simp [p]);refine ⟨⟨fun k=>absurd k i.1,fun k=>absurd k i.2,?_⟩,?_⟩
  ·rw [e];exact o.1
  ·rw [List.foldl_cons,e];exact o.2
theorem vg {wi nb:Nat} (st u:Nat):∀(k l:Nat),l+k<=nb->l+k<=u+wi->pr wi nb (u,l) ((List.range' l k).map fun j=>(⟨2,st,j,none⟩:Itm))/\((List.range' l k).map fun j=>(⟨2,st,j,none⟩:Itm)).foldl opF (u,l)=(u,l+k)
 | 0,l,_,_=>⟨trivial,rfl⟩
 | k+1,l,h1,h2=>by
  rw [List.range'_succ,List.map_cons];have h:=vg (wi:=wi) (nb:=nb) st u k (l+1) ap ap;refine ⟨⟨fun _=>⟨rfl,by show l<nb;omega,by show l+1<=u+wi;omega⟩,fun i=>(by cases i),h.1⟩,?_⟩;rw [List.foldl_cons]
  show List.foldl opF (u,l+1) _=_
  rw [h.2]
  congr 1;omega
theorem vf {wi nb:Nat} (st l:Nat):∀(k u:Nat),u+k<=l->pr wi nb (u,l) ((List.range' u k).map fun j=>(⟨5,st,j,none⟩:Itm))/\((List.range' u k).map fun j=>(⟨5,st,j,none⟩:Itm)).foldl opF (u,l)=(u+k,l)
 | 0,u,_=>⟨trivial,rfl⟩
 | k+1,u,h1=>by
  rw [List.range'_succ,List.map_cons];have h:=vf (wi:=wi) (nb:=nb) st l k (u+1) ap;refine ⟨⟨fun i=>(by cases i),fun _=>⟨rfl,by show u<l;omega⟩,h.1⟩,?_⟩;rw [List.foldl_cons]
  show List.foldl opF (u+1,l) _=_
  rw [h.2]
  congr 1;omega
theorem Ip {p:Pln} (x st:Nat) (g:Rg) (h1:g.1<=g.2) (v:g.2<=p.buks.length) (A:g.2<=g.1+p.wi):pr p.wi p.buks.length (g.1,g.1) (du p x st g)/\(du p x st g).foldl opF (g.1,g.1)=(g.2,g.2):=by
 have a1:=vg (wi:=p.wi) (nb:=p.buks.length) st g.1 (g.2-g.1) g.1 ap ap;have u:g.1+(g.2-g.1)=g.2:=ap;rw [u] at a1
 have i:=rH (wi:=p.wi) (nb:=p.buks.length) (l:=(List.range 2).flatMap fun ph=>(List.range (p.W-1)).flatMap fun r=>(List.range' g.1 (g.2-g.1)).flatMap fun j=>cz p x st ph r j) (g.1,g.2) (fun y h=>by
  simp only [List.mem_flatMap] at h;obtain ⟨_,_,_,_,_,_,h⟩:=h;unfold cz at h;obtain ⟨c,_,rfl⟩:=List.mem_map.1 h;unfold ip
  split<;>exact ⟨fun e=>(by cases e),fun e=>(by cases e)⟩)
 have o:=vf (wi:=p.wi) (nb:=p.buks.length) st g.2 (g.2-g.1) g.1 ap;rw [u] at o;unfold du;refine ⟨?_,?_⟩
 ·rw [jX,jX,List.foldl_append,a1.2,i.2];exact ⟨⟨a1.1,i.1⟩,o.1⟩
 ·rw [List.foldl_append,List.foldl_append,a1.2,i.2,o.2]
theorem vh {p:Pln} (i:cW p) (x st:Nat):∀k,k<=dD p.buks.length p.wi->pr p.wi p.buks.length (0,0) (((List.range k).map fun j=>((j*p.wi,min (j*p.wi+p.wi) p.buks.length):Rg)).flatMap (du p x st))/\(((List.range k).map fun j=>((j*p.wi,min (j*p.wi+p.wi) p.buks.length):Rg)).flatMap (du p x st)).foldl opF (0,0)=(min (k*p.wi) p.buks.length,min (k*p.wi) p.buks.length)
 | 0,_=>⟨trivial,by simp⟩
 | k+1,hk=>by
  have h:=vh i x st k ap;have u:=jt (n:=p.buks.length) (size:=p.wi) (k:=k) ap;have o:min (k*p.wi) p.buks.length=k*p.wi:=ap;have hg:=Ip (p:=p) x st (k*p.wi,min (k*p.wi+p.wi) p.buks.length) (by show k*p.wi<=_;omega) (by show min _ _<=_;omega) (by show min _ _<=_;omega);rw [Ow,List.map_append,List.flatMap_append,jX,List.foldl_append,h.2,o];simp only [List.map_cons,List.map_nil,List.flatMap_cons,List.flatMap_nil,List.append_nil];rw [Ox];exact ⟨⟨h.1,hg.1⟩,hg.2⟩
theorem jW {p:Pln} (o:cW p) (x st:Nat):pr p.wi p.buks.length (0,0) (aJ p x st)/\(aJ p x st).foldl opF (0,0)=(p.buks.length,p.buks.length):=by
 have a1:=rH (wi:=p.wi) (nb:=p.buks.length) (l:=(List.range p.mi).map fun a=>(⟨1,st,a,none⟩:Itm)) (0,0) (fun y i=>by obtain ⟨_,_,rfl⟩:=List.mem_map.1 i;exact ⟨fun e=>(by cases e),fun e=>(by cases e)⟩);have h:=vh o x st _ (NF _)
 have A:min (dD p.buks.length p.wi*p.wi) p.buks.length=p.buks.length:=by
  have:=Lt p.buks.length p.wi o.wi;unfold bB at this
  rwa [Nat.sub_zero] at this
 rw [A] at h;have u:=rH (wi:=p.wi) (nb:=p.buks.length) (l:=[(⟨6,st,0,none⟩:Itm)]) (p.buks.length,p.buks.length) (fun y i=>by rw [List.mem_singleton.1 i];exact ⟨fun e=>(by cases e),fun e=>(by cases e)⟩);have v:p.grps=(List.range (dD p.buks.length p.wi)).map fun j=>((j*p.wi,min (j*p.wi+p.wi) p.buks.length):Rg):=rfl;unfold aJ;rw [v];refine ⟨?_,?_⟩
 ·rw [jX,jX,List.foldl_append,a1.2,h.2];exact ⟨⟨a1.1,h.1⟩,u.1⟩
 ·rw [List.foldl_append,List.foldl_append,a1.2,h.2];exact u.2
def opP (p:Pln) (x st nx:Nat):Nat×Nat:=((aJ p x st).take nx).foldl opF (0,0)
theorem wU {p:Pln} (h:cW p) (x st nx:Nat):(opP p x st nx).1<=(opP p x st nx).2/\(opP p x st nx).2<=p.buks.length/\(opP p x st nx).2<=(opP p x st nx).1+p.wi:=
 yA (jW h x st).1 (NF _) (NJ _) (NJ _) nx
theorem Iq {p:Pln} {x st nx:Nat} {y:Itm} (h:(aJ p x st)[nx]?=some y):opP p x st (nx+1)=opF (opP p x st nx) y:=by
 unfold opP;rw [List.take_add_one,h,List.foldl_append];rfl
theorem KQ {p:Pln} (i:cW p) {x st nx:Nat} (h:(aJ p x st).length<=nx):opP p x st nx=(p.buks.length,p.buks.length):=by
 unfold opP;rw [List.take_of_length_le h];exact (jW i x st).2
def opL (p:Pln) (x st nx:Nat):List Nat:=List.range' (opP p x st nx).1 ((opP p x st nx).2-(opP p x st nx).1)
theorem CK {p:Pln} (h:cW p) (x st nx:Nat):(opL p x st nx).length<=p.wi/\(opL p x st nx).length<=p.buks.length:=by
 have:=wU h x st nx;unfold opL;rw [List.length_range'];omega
theorem wT (j:Nat):∀(l:List Itm) (s:Nat×Nat) (wi nb:Nat),pr wi nb s l->s.1<=s.2->l.foldl (jd j) (decide (s.1<=j/\j<s.2))=decide ((l.foldl opF s).1<=j/\j<(l.foldl opF s).2)
 | [],s,_,_,_,_=>rfl
 | y::l,s,wi,nb,h,hs=>by
  rw [List.foldl_cons,List.foldl_cons]
  have e:jd j (decide (s.1<=j/\j<s.2)) y=decide ((opF s y).1<=j/\j<(opF s y).2)/\(opF s y).1<=(opF s y).2:=by
   unfold jd opF;by_cases o:y.kind=2
   ·have hn:=h.1 o;rw [if_pos o];refine ⟨?_,by show s.1<=s.2+1;omega⟩;by_cases i:y.n=j
    ·rw [if_neg (show ¬(y.kind=5/\y.n=j) by omega),if_pos ⟨o,i⟩];exact (OA (show s.1<=j/\j<s.2+1 by omega)).symm
    ·rw [if_neg (fun h=>i h.2),if_neg (fun h=>i h.2)];exact decide_eq_decide.2 (show (s.1<=j/\j<s.2)↔(s.1<=j/\j<s.2+1) by omega)
   ·rw [if_neg o];by_cases p:y.kind=5
    ·have hn:=h.2.1 p;rw [if_pos p];refine ⟨?_,by show s.1+1<=s.2;omega⟩;by_cases i:y.n=j
     ·rw [if_pos ⟨p,i⟩];exact (OB (show ¬(s.1+1<=j/\j<s.2) by omega)).symm
     ·rw [if_neg (fun h=>i h.2),if_neg (fun h=>i h.2)];exact decide_eq_decide.2 (show (s.1<=j/\j<s.2)↔(s.1+1<=j/\j<s.2) by omega)
    ·rw [if_neg p];exact ⟨by simp [o,p],hs⟩
  rw [e.1];exact wT j l (opF s y) wi nb h.2.2 e.2
theorem vJ {i:Inp} (u:cW (az i)) {x st nx:Nat} (o:nx<=(aJ (az i) x 0).length):∀{k:Nat},st<k->(iL i x k).take (st*(aJ (az i) x 0).length+nx)=iL i x st++(aJ (az i) x st).take nx
 | 0,h=>absurd h (Nat.not_lt_zero _)
 | k+1,h=>by
  have hl:=lV u x k;rw [gM];rcases NY st k with p | p
  ·have h1:=OF (aJ (az i) x 0).length (Nat.succ_le_of_lt p);rw [Ox] at h1;rw [List.take_append_of_le_length ap];exact vJ u o p
  ·obtain rfl:st=k:=ap;rw [List.take_append,hl,List.take_of_length_le ap,Nat.add_sub_cancel_left]
theorem pz {i:Inp} (o:cW (az i)) (x j:Nat):∀k,(iL i x k).foldl (jd j) false=decide ((az i).buks.length<=j/\j<(az i).buks.length)
 | 0=>(OB ap).symm
 | k+1=>by
  rw [gM,List.foldl_append,pz o x j k];have h:=wT j _ (0,0) _ _ (jW o x k).1 (NF _);rw [(jW o x k).2] at h;have e:decide ((az i).buks.length<=j/\j<(az i).buks.length)=decide ((0:Nat)<=j/\j<0):=decide_eq_decide.2 ap;exact (congrArg (fun b=>(aJ (az i) x k).foldl (jd j) b) e).trans h
theorem Lh {i:Inp} (p:cW (az i)) {x st nx:Nat} (j:Nat) (u:nx<=(aJ (az i) x 0).length) (o:st<i.cfg.steps.toNat):ul (dq i x) (st*(aJ (az i) x 0).length+nx) j=decide ((opP (az i) x st nx).1<=j/\j<(opP (az i) x st nx).2):=by
 unfold ul;rw [vJ p u o,List.foldl_append,pz p];have v:=(jW p x st).1;rw [<-List.take_append_drop nx (aJ (az i) x st),jX] at v;have h:=wT j _ (0,0) _ _ v.1 (NF _);have e:decide ((az i).buks.length<=j/\j<(az i).buks.length)=decide ((0:Nat)<=j/\j<0):=decide_eq_decide.2 ap;rw [e];exact h
theorem qh (u l:Nat) (h:u<=l):∀n,((List.range n).filter fun j=>decide (u<=j/\j<l))=List.range' u (min l n-u)
 | 0=>by simp
 | n+1=>by
  rw [Ow,List.filter_append,qh u l h n];by_cases hc:u<=n/\n<l
  ·rw [show min l (n+1)-u=(min l n-u)+1 by omega,List.range'_concat];simp [hc];omega
  ·have e:min l (n+1)-u=min l n-u:=ap;rw [e,List.filter_cons_of_neg (by simpa using hc)];simp
theorem Me {i:Inp} (p:cW (az i)) {x st nx:Nat} (o:nx<=(aJ (az i) x 0).length) (h:st<i.cfg.steps.toNat):nW (dq i x) (st*(aJ (az i) x 0).length+nx) (az i).buks.length=opL (az i) x st nx:=by
 have u:=wU p x st nx;unfold nW opL;simp only [Lh p _ o h];rw [qh _ _ u.1,show min (opP (az i) x st nx).2 (az i).buks.length=(opP (az i) x st nx).2 by omega]
theorem KO {i:Inp} (h:cW (az i)) (x:Nat):nW (dq i x) (i.cfg.steps.toNat*(aJ (az i) x 0).length) (az i).buks.length=[]:=by
 unfold nW;rw [List.filter_eq_nil_iff];intro j _;unfold ul;rw [List.take_of_length_le (by rw [lV h];exact NF _),pz h];simp
theorem EP {p:Pln} (u:cW p) {x st nx:Nat} {y:Itm} (i:(aJ p x st)[nx]?=some y):(y.kind=6↔nx+1=(aJ p x st).length):=by
 have hn:=(Oe.1 i).1;have e:aJ p x st=((List.range p.mi).map (fun a=>(⟨1,st,a,none⟩:Itm))++p.grps.flatMap (du p x st))++[⟨6,st,0,none⟩]:=rfl;generalize hf:(List.range p.mi).map (fun a=>(⟨1,st,a,none⟩:Itm))++p.grps.flatMap (du p x st)=front at e;have hl:(aJ p x st).length=front.length+1:=by rw [e];simp
 rcases NY nx front.length with h | h
 ·have hm:y∈front:=by
   rw [e,Og h] at i;exact List.mem_of_getElem? i
  have hk:y.kind≠6:=by
   rw [<-hf] at hm;rcases Ov.1 hm with hm | hm
   ·obtain ⟨_,_,rfl⟩:=List.mem_map.1 hm;exact fun e=>by cases e
   ·obtain ⟨g,_,hm⟩:=List.mem_flatMap.1 hm;unfold du at hm;simp only [Ov,List.mem_map,List.mem_flatMap] at hm;rcases hm with (⟨_,_,rfl⟩ | ⟨_,_,_,_,_,_,hm⟩) | ⟨_,_,rfl⟩
    ·exact fun e=>by cases e
    ·unfold cz at hm;obtain ⟨c,_,rfl⟩:=List.mem_map.1 hm;unfold ip
     split<;>exact fun e=>by cases e
    ·exact fun e=>by cases e
  exact ⟨fun e=>absurd e hk,fun e=>ap⟩
 ·have o:nx=front.length:=ap;subst o;rw [e] at i;simp at i;subst i;exact ⟨fun _=>hl.symm,fun _=>rfl⟩
theorem kU {p:Pln} {x st:Nat} {y:Itm} (h:y∈aJ p x st) (hn:y.a=none):y.kind=1\/y.kind=2\/y.kind=5\/y.kind=6:=by
 unfold aJ at h;simp only [Ov,List.mem_map,List.mem_flatMap,List.mem_singleton] at h;rcases h with (⟨_,_,rfl⟩ | ⟨g,_,h⟩) | rfl
 ·exact .inl rfl
 ·unfold du at h;simp only [Ov,List.mem_map,List.mem_flatMap] at h;rcases h with (⟨_,_,rfl⟩ | ⟨_,_,_,_,_,_,h⟩) | ⟨_,_,rfl⟩
  ·exact .inr (.inl rfl)
  ·unfold cz at h;obtain ⟨c,_,rfl⟩:=List.mem_map.1 h
   cases hn
  ·exact .inr (.inr (.inl rfl))
 ·exact .inr (.inr (.inr rfl))
structure MOk (i:Inp) (x:Nat) (m:Mst):Prop where
 op:m.op=opL (az i) x m.st m.nx
 rc:m.rc.length=m.st+1
 rl:∀y∈m.rc,y.1.length=i.start.length/\y.2.length=i.start.length
 lP:m.P.length=i.start.length
 lM:m.M.length=i.start.length
 lG:m.G.length=i.start.length
 ps:(m.st<i.cfg.steps.toNat/\m.nx<(aJ (az i) x 0).length)\/(m.st=i.cfg.steps.toNat/\m.nx=0)
theorem MOk.zero {i:Inp} (x:Nat):MOk i x (fO i):=by
 refine ⟨rfl,rfl,fun y o=>?_,rfl,by simp [fO],by simp [fO],?_⟩
 ·simp only [fO,List.mem_singleton] at o;subst o;exact ⟨rfl,by simp⟩
 ·by_cases h:0<i.cfg.steps.toNat
  ·exact .inl ⟨h,jH _ _ _⟩
  ·exact .inr ⟨by show 0=_;omega,rfl⟩
theorem MOk.opn {i:Inp} (hs:cq i) {x:Nat} {m:Mst} (h:MOk i x m):m.op=nW (dq i x) (bq i x m) (az i).buks.length:=by
 rw [h.op];unfold bq;rcases h.ps with ⟨h1,o⟩ | ⟨h1,o⟩
 ·exact (Me hs.ok (Nat.le_of_lt o) h1).symm
 ·rw [h1,o,Nat.add_zero,KO hs.ok];rfl
theorem MOk.done {i:Inp} (hs:cq i) {x:Nat} {m:Mst} (h:MOk i x m):bq i x m<=(dq i x).length:=by
 rw [lV hs.ok];unfold bq;rcases h.ps with ⟨h1,o⟩ | ⟨h1,o⟩
 ·have:=OF (aJ (az i) x 0).length (Nat.succ_le_of_lt h1);rw [Ox] at this;omega
 ·rw [h1,o];omega
theorem MOk.cur {i:Inp} (hs:cq i) {x:Nat} {m:Mst} (h:MOk i x m):(cK i x m.st)[m.nx]?=(dq i x)[bq i x m]?:=by
 rcases h.ps with ⟨h1,o⟩ | ⟨h1,o⟩
 ·have p:=Of (l:=aJ (az i) x m.st) (i:=m.nx) (by rw [j6 hs.ok];exact o);have:=Da hs.ok p h1;unfold cK bq;rw [if_pos h1,this,p]
 ·unfold cK bq;rw [if_neg ap,List.getElem?_nil,List.getElem?_eq_none (by rw [lV hs.ok,h1];omega)]
theorem MOk.okAt {i:Inp} (hs:cq i) {x:Nat} {m:Mst} (h:MOk i x m) {y:Itm} (o:(cK i x m.st)[m.nx]?=some y) (hn:y.a=none):MT m y:=by
 obtain ⟨h1,v⟩:=dC o;have hc:cK i x m.st=aJ (az i) x m.st:=if_pos h1;rw [hc] at o;have u:=wV (jW hs.ok x m.st).1 o;have B:=(CK hs.ok x m.st m.nx).2;have A:=hs.ok.buks;have p:=hs.s;refine ⟨kU v hn,by rw [h.op];omega,fun C=>?_,fun _=>by rw [h.rc];omega⟩;rw [h.op];have:=(u.2 C).2;unfold opL;rw [List.length_range']
 show 0<(opP (az i) x m.st m.nx).2-(opP (az i) x m.st m.nx).1
 unfold opP;omega
theorem MOk.next {i:Inp} (hs:cq i) {x:Nat} {m m1:Mst} (h:MOk i x m) {y:Itm} (A:(cK i x m.st)[m.nx]?=some y) (h1:m1.st=m.st) (R:m1.nx=m.nx) (hP:m1.P.length=i.start.length) (O:m1.M.length=i.start.length) (Q:m1.G.length=i.start.length) (I:m1.op=if y.kind=2 then m.op++[y.n] else if y.kind=5 then iw m.op y.n else m.op) (v:m1.rc=if y.kind=6 then m.rc++[(m.P,m.M)] else m.rc):MOk i x (adv i x m1):=by
 obtain ⟨g1,Y⟩:=dC A;have hc:cK i x m.st=aJ (az i) x m.st:=if_pos g1;rw [hc] at A;have N:=wV (jW hs.ok x m.st).1 A;have Z:=wU hs.ok x m.st m.nx;have L:=Iq A;have V:=j6 hs.ok x m.st;have u:=EP hs.ok A;have U:=(Oe.1 A).1
 have D:m1.op=opL (az i) x m.st (m.nx+1):=by
  rw [I,h.op];unfold opL;rw [L];unfold opF;change (y.kind=2->y.n=(opP (az i) x m.st m.nx).2/\(opP (az i) x m.st m.nx).2<_/\_)/\(y.kind=5->y.n=(opP (az i) x m.st m.nx).1/\(opP (az i) x m.st m.nx).1<(opP (az i) x m.st m.nx).2) at N;by_cases H:y.kind=2
  ·rw [if_pos H,if_pos H];have:=(N.1 H).1
   show _=List.range' (opP (az i) x m.st m.nx).1 ((opP (az i) x m.st m.nx).2+1-(opP (az i) x m.st m.nx).1)
   rw [show (opP (az i) x m.st m.nx).2+1-(opP (az i) x m.st m.nx).1=((opP (az i) x m.st m.nx).2-(opP (az i) x m.st m.nx).1)+1 by omega,List.range'_concat,this]
   congr 2
   omega
  ·rw [if_neg H,if_neg H];by_cases B:y.kind=5
   ·rw [if_pos B,if_pos B];have T:=N.2 B;rw [T.1]
    show _=List.range' ((opP (az i) x m.st m.nx).1+1) ((opP (az i) x m.st m.nx).2-((opP (az i) x m.st m.nx).1+1))
    rw [show (opP (az i) x m.st m.nx).2-(opP (az i) x m.st m.nx).1=((opP (az i) x m.st m.nx).2-((opP (az i) x m.st m.nx).1+1))+1 by omega,Ff]
   ·rw [if_neg B,if_neg B]
 have p:∀z∈m1.rc,z.1.length=i.start.length/\z.2.length=i.start.length:=by
  rw [v]
  split
  ·intro z C;rcases Ov.1 C with C | C
   ·exact h.rl z C
   ·rw [List.mem_singleton.1 C];exact ⟨h.lP,h.lM⟩
  ·exact h.rl
 unfold adv;rw [R,h1,hc];by_cases o:m.nx+1<(aJ (az i) x m.st).length
 ·rw [if_pos o];refine ⟨by show m1.op=opL _ _ m.st (m.nx+1);exact D,?_,p,hP,O,Q,.inl ⟨by show m.st<_;omega,by show m.nx+1<_;omega⟩⟩
  show m1.rc.length=m.st+1
  rw [v,if_neg (fun e=>by have:=u.1 e;omega)];exact h.rc
 ·rw [if_neg o];have hl:m.nx+1=(aJ (az i) x m.st).length:=ap;refine ⟨?_,?_,p,hP,O,Q,?_⟩
  ·show m1.op=opL _ _ (m.st+1) 0
   rw [D];unfold opL;rw [KQ hs.ok (Nat.le_of_eq hl.symm),Nat.sub_self];rfl
  ·show m1.rc.length=m.st+1+1
   rw [v,if_pos (u.2 hl),Od,h.rc];rfl
  ·by_cases J:m.st+1<i.cfg.steps.toNat
   ·exact .inl ⟨J,jH _ _ _⟩
   ·exact .inr ⟨by show m.st+1=_;omega,rfl⟩
theorem yc {l:List Rg} {j:Nat} (h:l.length<=j):aS l j=(0,0):=by simp [aS,List.getD,h]
theorem Mw {s:Rg} {c:Nat} (hc:1<=c):∀r∈chR s c,s.1<=r.1/\r.1<r.2/\(s.1<=s.2->r.2<=s.2):=by
 intro r hr;simp only [chR,shR,fC,List.map_map,List.mem_map,List.mem_range,Function.comp] at hr;obtain ⟨j,i,rfl⟩:=hr;have:=jt i;refine ⟨by simp only;omega,by simp only;omega,fun h=>by simp only;omega⟩
def L7 (p:Pln) (x:Nat) (t:Tg):Rg:=aS (chR (aS (eh (aS p.buks t.b.toNat) p.W) (fV p.W x t.c.toNat t.d.toNat)) p.ck) t.e.toNat
theorem uM {st bk:Nat} {b:Rg} {W c x ph r:Nat} {a:Acn} (h:a∈dt st bk b W c x ph r):
  ∃i,a.at'=aS (chR (aS (eh b W) i) c) a.ch/\a.ch<(chR (aS (eh b W) i) c).length/\(a.send=false->i=fV W x ph r):=by
 unfold dt jT at h;obtain ⟨k,hk,h⟩:=List.mem_flatMap.1 h;rw [Ov] at h;rcases h with h | h<;>split at h
 ·rename_i hl
  simp only [List.mem_singleton] at h;subst h;exact ⟨eI W x ph r,rfl,hl,fun e=>by cases e⟩
 ·simp at h
 ·rename_i hl
  simp only [List.mem_singleton] at h;subst h;exact ⟨fV W x ph r,rfl,hl,fun _=>rfl⟩
 ·simp at h
theorem jI {p:Pln} {x st:Nat} {y:Itm} (h:y∈aJ p x st) {a:Acn} (i:y.a=some a):y.kind=(if a.send then 3 else 4)/\a.st=st/\a∈dt st a.bk (aS p.buks a.bk) p.W p.ck x a.ph a.rd:=by
 unfold aJ at h;simp only [Ov,List.mem_map,List.mem_flatMap,List.mem_singleton] at h;rcases h with (⟨_,_,rfl⟩ | ⟨g,_,h⟩) | rfl
 ·cases i
 ·unfold du at h;simp only [Ov,List.mem_map,List.mem_flatMap] at h;rcases h with (⟨_,_,rfl⟩ | ⟨ph,_,r,_,j,_,h⟩) | ⟨_,_,rfl⟩
  ·cases i
  ·unfold cz at h;obtain ⟨c,hc,rfl⟩:=List.mem_map.1 h;simp only [ip,Option.some.injEq] at i;subst i;obtain ⟨o,A,u,v,_⟩:=DP hc;refine ⟨rfl,o,?_⟩;rw [A,u,v];exact hc
  ·cases i
 ·cases i
theorem Cg {p:Pln} (u:cW p) {x st:Nat} {y:Itm} (h:y∈aJ p x st) {a:Acn} (B:y.a=some a):a.at'.1<a.at'.2/\a.at'.2<=p.n:=by
 obtain ⟨_,_,C⟩:=jI h B;obtain ⟨o,A,v,_⟩:=uM C;have hm:=List.getElem_mem v;rw [<-cS _ _ v,<-A] at hm;have hc:=Mw u.ck _ hm
 have hb:(aS p.buks a.bk).1<=(aS p.buks a.bk).2/\(aS p.buks a.bk).2<=p.n:=by
  rcases NY a.bk p.buks.length with i | i
  ·have:=C5 _ (List.getElem_mem i);rw [<-cS _ _ i] at this;exact this
  ·have:aS p.buks a.bk=(0,0):=yc i;rw [this];simp
 have hs:(aS (eh (aS p.buks a.bk) p.W) o).1<=(aS (eh (aS p.buks a.bk) p.W) o).2/\(aS (eh (aS p.buks a.bk) p.W) o).2<=(aS p.buks a.bk).2:=by
  rcases NY o (eh (aS p.buks a.bk) p.W).length with i | i
  ·have:=Ct u.W1 hb.1 _ (List.getElem_mem i);rw [<-cS _ _ i] at this;exact this
  ·have:aS (eh (aS p.buks a.bk) p.W) o=(0,0):=yc i;rw [this];simp
 have:=hc.2.2 hs.1;exact ⟨hc.2.1,by omega⟩
theorem JS {p:Pln} {x st:Nat} {y:Itm} (h:y∈aJ p x st) {a:Acn} (u:y.a=some a) (hr:a.send=false):a.at'=L7 p x a.tg:=by
 obtain ⟨_,_,v⟩:=jI h u;obtain ⟨A,i,_,o⟩:=uM v;rw [i,o hr];rfl
def J1 (i:Inp) (x:Nat) (s:LSt):Prop:=∀j,j<s.msgs.length->W64 (aO s.msgs j).vals/\((aO s.msgs j).tag.a=999\/(aO s.msgs j).vals.length=(L7 (az i) x (aO s.msgs j).tag).2-(L7 (az i) x (aO s.msgs j).tag).1)
theorem J1.len {i:Inp} (hs:cq i) {x:Nat} {s:LSt} (h:J1 i x s) {st:Nat} {y:Itm} (B:st<i.cfg.steps.toNat) (A:y∈aJ (az i) x st) {a:Acn} (v:y.a=some a) (hr:a.send=false) (u:s.recv<s.msgs.length) (p:(aO s.msgs s.recv).tag=a.tg): (aO s.msgs s.recv).vals.length=a.at'.2-a.at'.1/\W64 (aO s.msgs s.recv).vals:=by
 obtain ⟨h1,o⟩:=h _ u;refine ⟨?_,h1⟩;rw [JS A v hr,<-p];rcases o with o | o
 ·exfalso;rw [p] at o;have e:a.tg.a=(a.st:Int):=rfl;rw [e,(jI A v).2.1] at o;have:=hs.s;omega
 ·exact o
inductive jm (i:Inp) (x:Nat) (m:Mst) (s t:LSt):Mst->LSt->LSt->Nat->Prop
 | fin:(cK i x m.st).length<=m.nx->jm i x m s t m s t 13
 | own (y:Itm):(cK i x m.st)[m.nx]?=some y->y.a=none->jm i x m s t (adv i x (ko i x m y)) s t 0
 | send (y:Itm) (a:Acn):(cK i x m.st)[m.nx]?=some y->y.a=some a->y.kind=3->t.msgs.length<t.recv+t.cap->jm i x m s t (adv i x m) s (t.send ⟨a.tg,(m.G.drop a.at'.1).take (a.at'.2-a.at'.1)⟩) 0
 | full (y:Itm) (a:Acn):(cK i x m.st)[m.nx]?=some y->y.a=some a->y.kind=3->t.msgs.length=t.recv+t.cap->jm i x m s t m s t 11
 | recv (y:Itm) (a:Acn):(cK i x m.st)[m.nx]?=some y->y.a=some a->y.kind=4->s.recv<s.msgs.length->(aO s.msgs s.recv).tag=a.tg->jm i x m s t (adv i x {m with G:=lw m.G a.at'.1 (aO s.msgs s.recv).vals a.add}) {s with recv:=s.recv+1} t 0
 | none (y:Itm) (a:Acn):(cK i x m.st)[m.nx]?=some y->y.a=some a->y.kind=4->s.recv=s.msgs.length->jm i x m s t m s t 12
 | other (y:Itm) (a:Acn):(cK i x m.st)[m.nx]?=some y->y.a=some a->y.kind=4->s.recv<s.msgs.length->(aO s.msgs s.recv).tag≠a.tg->jm i x m s t m s t 10
theorem Di (i:Inp) (x:Nat) (m:Mst) (s t:LSt) (hs:s.recv<=s.msgs.length) (u:t.msgs.length<=t.recv+t.cap):∃m1 s1 t1 C,jm i x m s t m1 s1 t1 C:=by
 cases hy:(cK i x m.st)[m.nx]? with
 | none=>exact ⟨_,_,_,_,.fin (by rw [List.getElem?_eq_none_iff] at hy;exact hy)⟩
 | some y=>
  cases ha:y.a with
  | none=>exact ⟨_,_,_,_,.own y hy ha⟩
  | some a=>
   have hk:=(jI (dC hy).2 ha).1;by_cases h:a.send=true
   ·rw [if_pos h] at hk;by_cases o:t.msgs.length<t.recv+t.cap
    ·exact ⟨_,_,_,_,.send y a hy ha hk o⟩
    ·exact ⟨_,_,_,_,.full y a hy ha hk ap⟩
   ·rw [if_neg h] at hk;by_cases p:s.recv=s.msgs.length
    ·exact ⟨_,_,_,_,.none y a hy ha hk p⟩
    ·by_cases he:(aO s.msgs s.recv).tag=a.tg
     ·exact ⟨_,_,_,_,.recv y a hy ha hk ap he⟩
     ·exact ⟨_,_,_,_,.other y a hy ha hk ap he⟩
theorem qI {p:Pln} {x st:Nat} {y:Itm} (h:y∈aJ p x st) {a:Acn} (i:y.a=some a) (hk:y.kind=4):a.send=false:=by
 have:=(jI h i).1
 cases hse:a.send with
 | true=>rw [hse,hk] at this;cases this
 | false=>rfl
theorem Bi (l:List Msg) (y:Msg) (j:Nat):aO (l++[y]) j=if j<l.length then aO l j else if j=l.length then y else Msg.zero:=by
 unfold aO;simp only [List.getD_eq_getElem?_getD];by_cases h:j<l.length
 ·rw [if_pos h,Og h]
 ·rw [if_neg h,Oh ap];by_cases i:j=l.length
  ·rw [if_pos i];subst i;simp
  ·rw [if_neg i,List.getElem?_eq_none (by simp;omega)];rfl
theorem jm.ok {i:Inp} (hs:cq i) {x:Nat} {m m1:Mst} {s t s1 t1:LSt} {C:Nat} (h:jm i x m s t m1 s1 t1 C) (hm:MOk i x m):MOk i x m1:=by
 cases h with
 | fin=>exact hm
 | own y hy ha=>
  have o:=hm.okAt hs hy ha;have lG:(eN i m.P m.G (dR i.data (pZ i x y.st y.n))).length=i.start.length:=mJ _ _ hm.lG;refine hm.next hs hy ?_ ?_ ?_ ?_ ?_ ?_ ?_<;>unfold ko<;>rcases o.1 with k | k | k | k<;>simp only [k]<;>first | rfl | simp [hm.lP,hm.lM,hm.lG,lG,nS,nT]
 | send y a hy ha hk=>exact hm.next hs hy rfl rfl hm.lP hm.lM hm.lG (by rw [if_neg ap,if_neg ap]) (by rw [if_neg ap])
 | full=>exact hm
 | recv y a hy ha hk=>exact hm.next hs hy rfl rfl hm.lP hm.lM (by show (lw _ _ _ _).length=_;rw [qj];exact hm.lG) (by rw [if_neg ap,if_neg ap]) (by rw [if_neg ap])
 | none=>exact hm
 | other=>exact hm
theorem AV {w:Qd} {vs:Qb} {i:Inp} {x:Nat} {m:Mst} {s t:LSt} {u v:Qb} {S:Nat->Prop} (hS:∀k,S k->k<w.heap.size) (h:fG (aF S w) vs i x m) (hu:RL (aF S w) u s) (hv:RL (aF S w) v t) (hs:cq i) {y:Itm} (hy:(dq i x)[bq i x m]?=some y) (k1 k2:Int) (b0 b1:Bool) (i0 i1 i2 i3 i4 i5 i6:Int) (a3:bj y=[OH 2,OH k1,OH k2,.bool b0,.bool b1,OH i0,OH i1,OH i2,OH i3,OH i4,OH i5,OH i6]) (m1:Mst) (h1:m1.P=m.P/\m1.M=m.M/\m1.G=m.G/\m1.rc=m.rc) (L:bq i x m1=bq i x m+1):Calls prog 89 #[.agg vs,.agg u,.agg v] w (fun e w'=>oC S i x m1 (s) (t) 0 w e w'):=by
 obtain ⟨A,c,D,cd,T,ct,R,cr,PA,pc,MA,mc,GA,gc,SA,sc,bI,oI,ic,B1,c1,B2,c2,dn,il,W0,rfl,rfl,rfl,H⟩:=kO hS h hu hv hs hy;have J:=H.rw';rw [a3] at J;rw [H.dn'] at L;obtain ⟨ao,H1,a7⟩:=af J h1 L;obtain ⟨b9,b8,tl,aR,a8,b7,ab⟩:=H.loc;have q0:=br W0;clear h hu hv hs hy a3 hS h1 L J;go_enter func89,ntmps89;go_upto_region 1 with (fail);rw [H.eW];go_upto_region 4 with (first | (refine eD ao.o iU rfl rfl rfl ?_) | (refine aH (NG _ _) iU rfl rfl rfl rfl rfl rfl rfl ?_;intro W3 e3 k3;obtain ⟨E3,K3⟩:=ae e3 (aL k3);clear e3 k3));clear b9 b8 tl q0 aR a8 b7 ab;go_upto_region 5 with (first | (refine aK #[OH i5,OH i6] (b:=W0.heap.size) E3.o gj rfl rfl rfl rfl ?_) | (refine aH (NG _ _) gj rfl rfl rfl rfl rfl rfl rfl ?_;intro W4 e4 k4;obtain ⟨E4,K4⟩:=ae e4 (aL k4);clear e4 k4));have y0:W4.cell? (ar W0.heap.size 0)=some (OH 2):=NH W4 _ 0 _ _ _ (sb E3.o _ K4.o);have a4:=aa (bt K3.o K4.o);go_upto_region 28 with (fail);obtain ⟨p,I,Q,C,N,U⟩:=H.bx _ a4.o;have O:=H.K.trans (a4.o.mono H.K.size);obtain ⟨V,hV⟩:∃V,W4=V:=⟨_,rfl⟩;rw [hV] at p I Q C N U O ⊢;clear hV y0;have aG:=NH V w.heap.size 21 _ _ _ p;have a6:=NS V w.heap.size 21 _ _ p;have lM:=NE p;have aM:=H.wd;have e9:=ss (i:=21) (v:=OH ((dn:Int)+1)) p rfl;have k9:Keep (fun k=>k=w.heap.size) V (V.setCell (ar w.heap.size 21) (OH ((dn:Int)+1))):=Keep.setCell (S:=fun k=>k=w.heap.size) (Keep.refl _ _) _ (.inr rfl) _;obtain ⟨E9,K9,ad,av,b6,aP,a9,bb⟩:=ak e9 k9 I Q C N U O;clear e9 k9 I Q C N U O p;go_upto_region 29 with (fail);obtain ⟨Y,a0⟩:∃Y,V.setCell (ar w.heap.size 21) (OH ((dn:Int)+1))=Y:=⟨_,rfl⟩;rw [a0] at E9 K9 ⊢;clear a0 aG a6 lM aM;obtain ⟨b1,b2,b3,b4,b5⟩:=vq K9.o ad.o av.o b6.o aP.o a9.o;have hq:aq Y Y.drew:=(br Y).drew;refine HA.g (KB3 w.heap.size Y) ?_;refine HA.ld3 (vs:=#[.slice A i.cfg.sizes.length c,OH i.cfg.shift,OH i.cfg.rate,OH i.cfg.mom,OH i.cfg.workers,OH i.cfg.batch,OH i.cfg.micros,OH i.cfg.steps,OH i.cfg.bucket,OH i.cfg.chunk,OH i.cfg.window,OH i.cfg.cap,.slice D i.data.length cd,.slice T i.start.length ct,.slice R i.draws.length cr,OH (x:Nat),.slice PA i.start.length pc,.slice MA i.start.length mc,.slice GA i.start.length gc,.slice SA m.rc.length sc,.slice (some (ar bI oI)) il ic,OH (dn+1)]) E9.o b1 b2 dX bQ bQ (Keep.below hq) ?_;refine HA.st3 3 4 5 b3 b4 b5 dX bQ bQ hq (fun w8 r3 r4 e8 q8=>?_);refine HA.t ?_ [6] q8 ?_;refine HA.d ?_;obtain ⟨R3,R4,R5⟩:=af r3 r4 e8;have F:=kK K9.o q8 bb.o;obtain ⟨bd,QW⟩:=ae F.1 F.2;clear b1 b2 b3 b4 b5 e8 q8 r3 r4 hq F;go_wp2_with fail;refine NX (fz rfl rfl rfl rfl R3.o R4.o R5.o dX bQ bQ) rfl ?_;have B:Ext (aF S w) (aF S w8):=aX (Keep.below QW.o) (fun _ _ h=>h);obtain ⟨Z,a2,a5,a1⟩:=H1.o;exact ⟨_,_,_,rfl,rfl,rfl,⟨A,c,D,cd,T,ct,R,cr,PA,pc,MA,mc,GA,gc,SA,sc,some (ar bI oI),ic,by rw [H.il',a7.o,a1];push_cast;rfl,eg H.I0 B,by rw [Z];exact bJ H.P0 B,by rw [a2];exact bJ H.M0 B,by rw [a5];exact bJ H.G0 B,by rw [a1];exact eO cQ H.R0 B,aQ H.It0 B,by rw [Z];exact H.Pl,by rw [a2];exact H.Ml,by rw [a5];exact H.Gl⟩,⟨B1,c1,rfl,cZ H.s0 B,H.s2⟩,⟨B2,c2,rfl,cZ H.t0 B,H.t2⟩,QW.o⟩
theorem Cw:cY prog 128 4:=⟨⟨_,underlying128,rfl⟩,by kernel_rfl⟩
theorem sy (A:N_) (l:Qa) (c k i:Nat) (w:Qd) (hA:Rd w A (aA .i64 l)) (hc:l.length<=c) (hl:l.length<=1048576) (hn:0<l.length) (hk:1<=k) (O:k<=1048576) (N:i<k):Calls prog 163 #[.slice A l.length c,OH i,OH k] w (zJ (cX l k i) (cX l k i).length w):=by
 have u:=uO l.length k w hk O hl;obtain ⟨b,o,rfl,_⟩:=hA.num hn;have x:=jS l hk N;have L:cX l k i=(l.drop (bdN l.length k i)).take (bdN l.length k (i+1)-bdN l.length k i):=rfl;have h1:=qm l.length k (Nat.le_succ i);have Y:=gh l.length k (i+1) hk N;have hg:=ez (l:=fX l.length k) (j:=i) (by rw [fP];exact N)
 have hr:aS (fX l.length k) i=(bdN l.length k i,bdN l.length k (i+1)):=by
  rw [cS _ _ (by rw [fP];exact N)];simp [fX]
 rw [hr] at hg;rw [x];obtain ⟨P,hP⟩:∃P,cX l k i=P:=⟨_,rfl⟩;obtain ⟨lo,H⟩:∃lo,bdN l.length k i=lo:=⟨_,rfl⟩;obtain ⟨h,y⟩:∃h,bdN l.length k (i+1)=h:=⟨_,rfl⟩;simp only [Nat.succ_eq_add_one] at h1;rw [hP] at L ⊢;rw [H,y] at L h1 hg ⊢;rw [y] at Y;obtain ⟨V,hV⟩:∃V,aT (fX l.length k)=V:=⟨_,rfl⟩;rw [hV] at u hg;obtain ⟨n,D⟩:∃n,l.length=n:=⟨_,rfl⟩;rw [D] at u hc hl hn Y ⊢;have a4:(i:Int)<k:=ap;have a3:¬(i:Int)<0:=ap;obtain ⟨R,Q,Z,HP⟩:=ag u hA hg L;clear u hA hg L hr x hP H y D hV;go_enter func163,ntmps163;go_wp2_with fail;refine R.o.mono ?_;rintro e C ⟨v,rfl,ov,U⟩;obtain ⟨g,cv,rfl,_⟩:=ov.form ap;have c0:=ov.cellAt (i*2) ap;have c1:=ov.cellAt (i*2+1) ap;rw [Z.o.1] at c0;rw [Z.o.2] at c1;have lg:=(ov.lt g rfl).2;have t0:∀p,aq C p->p.cell? (ar g (i*2))=some (OH (lo:Nat)):=fun p q=>aw q c0;have t1:∀p,aq C p->p.cell? (ar g (i*2+1))=some (OH (h:Nat)):=fun p q=>aw q c1;have J:=aa U;have B:=(br C).drew;have a5:(lo:Int)<=h:=ap;have a6:(h:Int)<=c:=ap;have a0:lo<=h:=ap;have a1:h<=c:=ap;have a2:¬(k:Int)<=i:=ap;clear ov U c0 c1;go_upto_region 4 with (fail);by_cases T:c=lo
 ·subst T;obtain rfl:h=c:=ap;refine HA.g (fun p:Qd=>aq C p) ?_;refine HA.t ?_ [0,1,2,3,4,5,6,7,8,9,10,11,12] B ?_;refine HA.d ?_;have I:=aa (J.o.trans (B.mono J.o.size));clear B t0 t1;go_wp2_with fail;go_ret;refine ⟨some (ar b o),0,by rw [Nat.sub_self];rfl,by omega,?_,I.o⟩;rw [HP.o,Nat.sub_self,List.take_zero];exact Rd.nil _ _
 ·refine HA.g (fun p:Qd=>aq C p) ?_;refine HA.t ?_ [0,1,2,3,4,5,6,7,8,9,10,11,12] B ?_;refine HA.d ?_;have I:=aa (J.o.trans (B.mono J.o.size));clear B t0 t1;go_wp2_with fail;go_ret;refine ⟨_,_,rfl,by omega,?_,I.o⟩;have:=((Q.o.below I.o).drop lo).take (h-lo)
  rwa [dz,di,<-HP.o] at this
theorem AA (n b steps t W x E c:Nat) (A:N_) (l:Qa) (w:Qd) (hA:de Ba 1 w A (jp l n E)) (Y:E=epN n b steps) (hb:1<=b) (C:b<=n) (hn:n<=1048576) (J:steps<=1048576) (ht:t<steps) (hW:1<=W) (a0:W<=b) (hx:x<W):Calls prog 164 #[.agg #[OH n,OH b,OH steps,.slice A E c],OH t,OH x,OH W] w (zJ (cX (dH l n b t) W x) (cX (dH l n b t) W x).length w):=by
 have i:=iK l (t:=t) (Nat.div_pos C hb);have p:=fun v (q:aq w v)=>AY n b steps t E c A l v (hA.below uz q) hb C hn J ht Y;obtain ⟨B,hB⟩:∃B,dH l n b t=B:=⟨_,rfl⟩;rw [hB] at i p ⊢;have h:=fun A c v (hA:Rd v A (aA .i64 B)) (hc:B.length<=c)=>sy A B c W x v hA hc ap ap hW ap hx;obtain ⟨Q,T⟩:∃Q,cX B W x=Q:=⟨_,rfl⟩;rw [T] at h ⊢;rw [i] at h;obtain ⟨H,u⟩:∃H,Q.length=H:=⟨_,rfl⟩;rw [u] at h ⊢;have U:=NG w (.cells #[OH n,OH b,OH steps,.slice A E c] 128);have L:=(br w).alloc (NF _) (.cells #[OH n,OH b,OH steps,.slice A E c] 128);obtain ⟨N,I,G0,V⟩:=ag (p _ L) h U L;clear p h U L hA u T hB i Y;go_enter func164,ntmps164;go_wp2_with (refine aK #[OH n,OH b,OH steps,.slice A E c] (b:=w.heap.size) G0.o Cw rfl rfl rfl rfl ?_);refine N.o.mono ?_;rintro e w1 ⟨A1,c1,rfl,D,R,O⟩;obtain ⟨H1,K1⟩:=ae (I.o A1 c1 w1 R D) (V.o.trans (O.mono V.o.size));clear D R O;go_wp2_with fail;refine H1.o.mono ?_;rintro e w2 ⟨A2,c2,rfl,y,Z,k2⟩;have HF:=aa (⟨A2,c2,rfl,y,Z,bt K1.o k2⟩:zJ Q H w (.returned (.slice A2 H c2)) w2);clear y Z k2;go_wp2_with fail;go_ret;exact HF.o
theorem AI (n b steps t W x mi a E c:Nat) (A:N_) (l:Qa) (w:Qd) (hA:de Ba 1 w A (jp l n E)) (hE:E=epN n b steps) (hb:1<=b) (I:b<=n) (hn:n<=1048576) (R:steps<=1048576) (ht:t<steps) (T:1<=W) (a0:W<=b) (hx:x<W) (hm:1<=mi) (V:mi<=1048576) (ha:a<mi):Calls prog 133 #[.agg #[OH n,OH b,OH steps,.slice A E c],OH t,OH x,OH W,OH a,OH mi] w (zJ (iI (dH l n b t) W x mi a) (iI (dH l n b t) W x mi a).length w):=by
 have a1:1<=n/b:=Nat.div_pos I hb;have u:=iK l (t:=t) a1;have i:=fun v (q:aq w v)=>AA n b steps t W x E c A l v (hA.below uz q) hE hb I hn R ht T a0 hx;obtain ⟨B,hB⟩:∃B,dH l n b t=B:=⟨_,rfl⟩;rw [hB] at u i ⊢;have hP:=jS B T hx
 have N:bdN B.length W x+1<=bdN B.length W (x+1):=by
  rw [ql];have:1<=B.length/W:=Nat.div_pos ap ap;unfold szE;omega
 obtain ⟨Q,O⟩:∃Q,cX B W x=Q:=⟨_,rfl⟩;have C:iI B W x mi a=cX Q mi a:=by unfold iI;rw [O]
 rw [O] at hP i;have y:Q.length<=1048576:=by have:=gh B.length W (x+1) T hx;omega
 have h:=fun A c v (hA:Rd v A (aA .i64 Q)) (hc:Q.length<=c)=>sy A Q c mi a v hA hc y ap hm V ha;rw [C];obtain ⟨M,hM⟩:∃M,cX Q mi a=M:=⟨_,rfl⟩;rw [hM] at h ⊢;obtain ⟨qn,p⟩:∃qn,Q.length=qn:=⟨_,rfl⟩;rw [p] at i h;obtain ⟨L,H⟩:∃L,M.length=L:=⟨_,rfl⟩;rw [H] at h ⊢;have g0:=NG w (.cells #[OH n,OH b,OH steps,.slice A E c] 128);have U:=(br w).alloc (NF _) (.cells #[OH n,OH b,OH steps,.slice A E c] 128);obtain ⟨Z,Y,G0,B0⟩:=ag (i _ U) h g0 U;clear h i g0 U hA hE H p hM C O hB y N hP u;go_enter func133,ntmps133;go_wp2_with (refine aK #[OH n,OH b,OH steps,.slice A E c] (b:=w.heap.size) G0.o Cw rfl rfl rfl rfl ?_);refine Z.o.mono ?_;rintro e w1 ⟨A1,c1,rfl,J,r1,k1⟩;obtain ⟨H1,K1⟩:=ae (Y.o A1 c1 w1 r1 J) (B0.o.trans (k1.mono B0.o.size));clear J r1 k1;go_wp2_with fail;refine H1.o.mono ?_;rintro e w2 ⟨A2,c2,rfl,D,r2,k2⟩;have HF:=aa (⟨A2,c2,rfl,D,r2,bt K1.o k2⟩:zJ M L w (.returned (.slice A2 L c2)) w2);clear D r2 k2;go_wp2_with fail;go_ret;exact HF.o
theorem oT (A:N_) (zs:Qa) (c:Nat) (w:Qd) (hA:Rd w A (aA .i64 zs)) (hl:zs.length<=17592186043904):Calls prog 165 #[.slice A zs.length c] w fun e y=>∃x u,e=.returned (.slice x zs.length u)/\y.ownsRow w.heap.size 2 1 (.slice x zs.length u) zs.length (aA .i64 zs)/\aq w y:=by
 go_enter func165,ntmps165;go_wp2_with (at_builtin;refine dJ le _ rfl (.tmp 3) (.tmp 4) rfl w.heap.size _ 0 [] rfl (eK w 2 1) A zs.length c (aA .i64 zs) rfl (hA.alloc _) (by rw [bS];omega) (cJ _ _) ap (by unfold maxLen;omega) (by simp) ?_);intro x u B h hb _ _;have p:=((NI _ w).alloc (NF _) (.cells #[] 2)).trans hb;obtain ⟨i,v⟩:=ae h p;clear h hb p;go_wp2;go_ret;exact ⟨_,_,rfl,i.o,v.o⟩
theorem ym (A B:N_) (G v:Qa) (n m cg cv lo:Nat) (add:Bool) (w:Qd) (hA:Rd w A (aA .i64 G)) (hB:Rd w B (aA .i64 v)) (hn:G.length=n) (hm:v.length=m) (hb:n<=1048576) (a6:lo+m<=n):Calls prog 134 #[.slice A n cg,OH (lo:Nat),.slice B m cv,.bool add] w fun e C=>∃A' Z,e=.returned (.slice A' n Z)/\C.ownsRow w.heap.size 2 1 (.slice A' n Z) n (aA .i64 (lw G lo v add))/\aq w C:=by
 have u:=oT A G cg w hA ap;rw [hn] at u;unfold lw;rw [hm];obtain ⟨N,HB,Hn,Hm⟩:=ag u hB hn hm;clear u hA hB hn hm;go_enter func134,ntmps134;go_wp2_with fail;refine N.o.mono ?_;rintro e w1 ⟨A1,c1,rfl,o1,J⟩;obtain ⟨T,Y,K1⟩:=af (HB.o.below J) o1 J;clear o1 J;go_wp2_with fail
 go_loopw [10] (fun z wr=>∃k:Nat,k<=m/\z=OH k/\wr.ownsRow w.heap.size 2 1 (.slice A1 n c1) n (aA .i64 (un G lo v add k))/\Keep (fun j=>(Value.slice A1 n c1).ownBlock=some j) w1 wr) (fun z _=>m-(intOf z).toNat)
 ·exact ⟨0,NJ _,rfl,by rw [vF];exact Y.o,Keep.refl _ _⟩
 case round=>
  obtain ⟨k,hk,rfl,o,y⟩:=hrel;by_cases x:k<m
  ·obtain ⟨g,d,hv,hg,a7⟩:=o.form ap;simp only [Ou] at hv;obtain ⟨rfl,O,rfl⟩:=hv;clear O;have i:lo+k<G.length:=by rw [Hn.o];omega
   have Q:=cH o (show lo+k<n by omega);rw [qi _ _ _ _ i,if_neg ap] at Q;have f1:=o.frozenAt (lo+k);have H:=T.o;obtain ⟨R,o2,rfl,p0⟩:=H.num (show k<v.length by rw [Hm.o];exact x)
   have U:R≠g:=fun e=>by
    have h1:w.heap.size<=g:=(Y.o.lt g rfl).1;obtain ⟨b3,o3,e3,p3⟩:=HB.o.num (show k<v.length by rw [Hm.o];exact x);have h3:b3<w.heap.size:=aB p3
    cases e3
    omega
   have p2:wr.cell? (ar R (o2+k))=some (OH (nth v k)):=y.cell p0 (by simp [Value.ownBlock];exact fun e=>U e.symm);have p:=zy G lo v add i;have L:(k:Int)<m:=ap;obtain ⟨j,V⟩:∃j,lo+k=j:=⟨_,rfl⟩;rw [V] at Q f1 p i;have a1:(lo:Int)+k=(j:Int):=ap;have a2:j<n:=ap;have a0:(j:Int)<n:=ap;have a5:¬(j:Int)<0:=ap;have a4:IntKind.i64.wrap (j:Int)=j:=NK _ ap;have a3:IntKind.i64.wrap ((k:Int)+1)=((k+1:Nat):Int):=by rw [NK _ ap];push_cast;rfl
   obtain ⟨I,D,h⟩:=af y o p;clear y o p i p0 H
   cases add with
   | true=>
    rw [if_pos rfl] at h;go_upto_region 6 with (fail);refine XA.g 16 (fun C:Qd=>C.cell? (ar g j)=some (OH (nth G j))/\C.cell? (ar R (o2+k))=some (OH (nth v k))) ?_;refine XA.t ?_ [0,1,2,3,4,5,6,7,8,9,10,11,12,13,14,15] ⟨Q,p2⟩ ?_;refine XA.e ?_;simp only [Ob,Oc];go_wp2_with fail;go_roundw
    case rel=>
     refine ⟨k+1,by omega,by go_num,?_,?_⟩
     ·rw [<-h.o];exact ed (bW D.o 1) j _
     ·exact Keep.setCell (I.o.drewN 1) (ar g j) (.inr rfl) _
    case measure=>simp [intOf];omega
   | false=>
    rw [if_neg (by decide)] at h;go_wp2_with fail;go_roundw
    case rel=>
     refine ⟨k+1,by omega,by go_num,?_,?_⟩
     ·rw [<-h.o];exact ed D.o j _
     ·exact Keep.setCell I.o (ar g j) (.inr rfl) _
    case measure=>simp [intOf];omega
  ·obtain rfl:k=m:=ap;have L:¬(k:Int)<k:=ap;obtain ⟨HO,I⟩:=ae o (K1.o.trans (y.toBelow K1.o.size (fun j V=>(Y.o.lt j V).1)));clear o y;go_wp2_with fail;go_ret;exact ⟨_,_,rfl,HO.o,I.o⟩
theorem Cd {a b c:Qa} (h:b.length=a.length):fw (fw a b) c=fw a (fw b c):=by
 have e:(fw a b).length=a.length:=iZ _ _;unfold fw at e ⊢;rw [e];refine eZ fun k hk=>?_;rw [bU _ hk,bU _ ap];unfold wrap64;omega
theorem Cc {a:Qa} (h:W64 a) (n:Nat):fw a (List.replicate n 0)=a:=by
 refine (fF rfl fun k hk=>?_).symm
 have e:nth (List.replicate n (0:Int)) k=0:=by
  simp only [nth,List.getD_eq_getElem?_getD,List.getElem?_replicate]
  split<;>rfl
 have:=h k hk;rw [e,Int.add_zero];unfold wrap64;omega
theorem KW {i:Inp} (hg:mU i) (x st a:Nat):(pZ i x st a).length<=1048576:=by
 have o:=iK i.draws (n:=i.data.length) (b:=i.cfg.batch.toNat) (t:=st) (Nat.div_pos (by have:=hg.b.1;omega) (by have:=hg.c.ba;have:=hg.c.w;omega));have h1:∀(l:Qa) (k j:Nat),(cX l k j).length<=l.length:=fun l k j=>by simp only [cX,Oi,Om];omega
 have h:=h1 (cX (dH i.draws i.data.length i.cfg.batch.toNat st) i.cfg.workers.toNat x) i.cfg.micros.toNat a;have p:=h1 (dH i.draws i.data.length i.cfg.batch.toNat st) i.cfg.workers.toNat x;have:=hg.c.ba;unfold pZ iI;omega
theorem BF {i:Inp} {P G:Qa} (o:W64 G) (hl:G.length=cnt i) (l:Qg):eN i P G l=fw G (eE i P l):=by
 have h:∀(l:Qg) (A:Qa),A.length=G.length->eN i P (fw G A) l=fw G (l.foldl (fun a x=>fw a (iA i.cfg.sizes P i.cfg.shift x.1 x.2)) A):=by
  intro l
  induction l with
  | nil=>intro A _;rfl
  | cons x l ih=>
   intro A hA
   show eN i P (fw (fw G A) _) l=_
   rw [Cd hA,List.foldl_cons];exact ih _ (by rw [iZ];exact hA)
 have:=h l (List.replicate (cnt i) 0) (by rw [Ol,hl]);rw [Cc o] at this;exact this
theorem Es {ra h q:Int} {ps ms g:Qa} {lo n k:Nat} (hk:k<n) (i:lo+n<=ps.length) (hm:lo+n<=ms.length):nth (sU ra h q ((ps.drop lo).take n) ((ms.drop lo).take n) g) k=mV ra q (nth ps (lo+k)) (fm h q (nth ms (lo+k)) (nth g k)):=by
 unfold sU;rw [bU _ (by simp only [Oi,Om];omega),fq hk,fq hk,ft,ft]
theorem vi {h q:Int} {ms g:Qa} {lo n k:Nat} (hk:k<n) (hm:lo+n<=ms.length):nth (sW h q ((ms.drop lo).take n) g) k=fm h q (nth ms (lo+k)) (nth g k):=by
 unfold sW;rw [bU _ (by simp only [Oi,Om];omega),fq hk,ft]
theorem H9 {w:Qd} {vs:Qb} {i:Inp} {x:Nat} {m:Mst} {s t:LSt} {u v:Qb} {S:Nat->Prop} (hS:∀k,S k->k<w.heap.size) (h:fG (aF S w) vs i x m) (hu:RL (aF S w) u s) (hv:RL (aF S w) v t) (hs:cq i) {y:Itm} (hy:(dq i x)[bq i x m]?=some y) (k1 k2:Int) (b0 b1:Bool) (i0 i1 i2 i3 i4 i5 i6:Int) (bo:bj y=[OH 1,OH k1,OH k2,.bool b0,.bool b1,OH i0,OH i1,OH i2,OH i3,OH i4,OH i5,OH i6]) (st a:Nat) (bv:k1=(st:Nat)) (b8:k2=(a:Nat)) (cO:st<i.cfg.steps.toNat) (ha:a<i.cfg.micros.toNat) (dp:x<i.cfg.workers.toNat) (m1:Mst) (h1:m1.P=m.P/\m1.M=m.M/\m1.G=eN i m.P m.G (dR i.data (pZ i x st a))/\m1.rc=m.rc) (aG:bq i x m1=bq i x m+1):Calls prog 89 #[.agg vs,.agg u,.agg v] w (fun e p=>oC S i x m1 (s) (t) 0 w e p):=by
 obtain ⟨d9,dT⟩:=ae bv b8;clear bv b8;obtain ⟨A,c,D,cd,T,ct,R,cr,PA,pc,MA,mc,GA,gc,SA,sc,bI,oI,ic,B1,c1,B2,c2,dn,il,L,rfl,rfl,rfl,H⟩:=kO hS h hu hv hs hy;have ad:=H.rw';rw [bo] at ad;rw [H.dn'] at aG;obtain ⟨cM,H1,cb⟩:=af ad h1 aG;obtain ⟨dv,dr,tl,d3,cj,dc,cs⟩:=H.loc;have q0:=br L;clear h hu hv hs hy bo hS h1 aG ad;go_enter func89,ntmps89;go_upto_region 1 with (fail);rw [H.eW];go_upto_region 4 with (first | (refine eD cM.o iU rfl rfl rfl ?_) | (refine aH (NG _ _) iU rfl rfl rfl rfl rfl rfl rfl ?_;intro W3 e3 k3;obtain ⟨E3,K3⟩:=ae e3 (aL k3);clear e3 k3));clear dv dr tl q0 d3 cj dc cs;go_upto_region 5 with (first | (refine aK #[OH i5,OH i6] (b:=L.heap.size) E3.o gj rfl rfl rfl rfl ?_) | (refine aH (NG _ _) gj rfl rfl rfl rfl rfl rfl rfl ?_;intro W4 e4 k4;obtain ⟨E4,K4⟩:=ae e4 (aL k4);clear e4 k4));have y0:W4.cell? (ar L.heap.size 0)=some (OH 1):=NH W4 _ 0 _ _ _ (sb E3.o _ K4.o);have bs:=aa (bt K3.o K4.o);have bf:=aa (H.bx _ bs.o).1;have dk:=aa (sb E3.o _ K4.o);go_upto_region 8 with (first | (refine aK #[.slice A i.cfg.sizes.length c,OH i.cfg.shift,OH i.cfg.rate,OH i.cfg.mom,OH i.cfg.workers,OH i.cfg.batch,OH i.cfg.micros,OH i.cfg.steps,OH i.cfg.bucket,OH i.cfg.chunk,OH i.cfg.window,OH i.cfg.cap] (b:=w.heap.size) bf.o Ax rfl rfl rfl rfl ?_) | (refine aH (NG _ _) Ax rfl rfl rfl rfl rfl rfl rfl ?_;intro O e5 k5;obtain ⟨E5,K5⟩:=ae e5 (aL k5);clear e5 k5));have a9:=aa (bt bs.o K5.o);have a2:=H.K.trans (a9.o.mono H.K.size);have q5:=(br O).drew;have kM:=fun p (q:aq O p)=>sb (sb bf.o _ K5.o) p q;have kX:=fun p (q:aq O p)=>sb (sb dk.o _ K5.o) p q;have cy:∀p,aq O p->p.cell? (ar w.heap.size 15)=some (OH (x:Nat)):=fun p q=>NH p _ 15 _ _ _ (kM p q);have x1:∀p,aq O p->p.cell? (ar L.heap.size 1)=some (OH (st:Nat)):=fun p q=>by rw [<-d9.o];exact NH p _ 1 _ _ _ (kX p q)
 have x2:∀p,aq O p->p.cell? (ar L.heap.size 2)=some (OH (a:Nat)):=fun p q=>by rw [<-dT.o];exact NH p _ 2 _ _ _ (kX p q)
 have c4:∀p,aq O p->p.cell? (ar W4.heap.size 4)=some (OH i.cfg.workers):=fun p q=>NH p _ 4 _ _ _ (sb E5.o p q);have c6:∀p,aq O p->p.cell? (ar W4.heap.size 6)=some (OH i.cfg.micros):=fun p q=>NH p _ 6 _ _ _ (sb E5.o p q);have hg:=H.s'.g;have ef:1<=i.cfg.batch:=by have:=hg.c.w;have:=hg.c.ba;omega
 have eW:((i.cfg.workers.toNat:Nat):Int)=i.cfg.workers:=by have:=hg.c.w;omega
 have eM:((i.cfg.micros.toNat:Nat):Int)=i.cfg.micros:=by have:=hg.c.mi;omega
 have eB:((i.cfg.batch.toNat:Nat):Int)=i.cfg.batch:=ap;have eS:((i.cfg.steps.toNat:Nat):Int)=i.cfg.steps:=by have:=hg.c.st;omega
 have U:=fun p (q:aq O p)=>H.hI.below (a2.trans (q.mono a2.size));have bn:=fun p (q:aq O p)=>xV A c D cd T ct R cr i p hg (U p q).r (U p q).rl (U p q).ru;have Z:=fun p A' c' (hA:de Ba 1 p A' (jp i.draws i.data.length (epI i)))=>AI i.data.length i.cfg.batch.toNat i.cfg.steps.toNat st i.cfg.workers.toNat x i.cfg.micros.toNat a (epI i) c' A' i.draws p hA rfl ap (by have:=hg.b;omega) hg.b.2 (by have:=hg.c.st;omega) cO (by have:=hg.c.w;omega) (by have:=hg.c.ba;omega) dp (by have:=hg.c.mi;omega) (by have:=hg.c.mi;omega) ha;rw [eW,eM,eB,eS] at Z;have C:=yO hg x st a;have a5:iI (dH i.draws i.data.length i.cfg.batch.toNat st) i.cfg.workers.toNat x i.cfg.micros.toNat a=pZ i x st a:=rfl;rw [a5] at Z;have Q:=KW hg x st a;obtain ⟨B,I⟩:∃B,pZ i x st a=B:=⟨_,rfl⟩;rw [I] at Z C Q;obtain ⟨e0,cw,av,bh,ds,aR,KM,N⟩:=ak bn Z C I U Q kM a2;clear bn Z C I a5 U Q kM kX eW eM eB eS a2 y0;refine HA.g (fun p:Qd=>aq O p) ?_;refine HA.t ?_ [0,3,4,5,6,7,8,9,10,11,12] q5 ?_;refine HA.ld 1 (aN A c D cd T ct R cr i) (fun p q=>KM.o p q) dY q5 ?_;refine HA.c 2 (e0.o _ q5) ?_;rintro e w6 ⟨A6,cn,rfl,⟨ee,o6⟩,k6⟩;have q6:=q5.trans (k6.mono q5.size);refine ⟨_,rfl,q6,fun _=>?_⟩;refine HA.c 13 (cw.o w6 A6 cn (o6.rd hg.b.2)) ?_;rintro e w7 ⟨A7,c7,rfl, -,r7,k7⟩;have q7:=q6.trans (k7.mono q6.size);refine ⟨_,rfl,q7,fun _=>?_⟩;refine HA.t ?_ [14] q7 ?_;refine HA.d ?_;have q8:aq O w7.drew:=q7.drew;have a1:=ds.o w7 q7;have a4:=N.o.trans (q7.mono N.o.size);have ao:=H.hP.below a4;have bN:=x6 A c D cd T ct R cr i PA A7 m.P B i.start.length pc c7 w7 a1.c.hr (by have:=a1.c;exact this.hc) a1.d hg ao.hr H.Pl hg.s.symm ao.hw r7 (by have:=aR.o;omega);have a3:=KM.o w7 q7;have d6:=NH w7 w.heap.size 16 _ _ _ a3;have e7:=NE a3;obtain ⟨cv,bM,Q7⟩:=af bN a3 q7;clear q5 q6 q7 q8 k6 k7 o6 r7 cy x1 x2 c4 c6 bN a3 a1 ao a4;go_wp2_with (refine aK (aN A c D cd T ct R cr i) (b:=w.heap.size) bM.o dY rfl rfl rfl rfl ?_);refine cv.o.mono ?_;rintro e w8 ⟨k8,⟨-,v8,rfl,o8⟩ | ⟨cA, -⟩⟩;rotate_left
 ·exact absurd av.o cA
 obtain ⟨A8,c8,rfl, -⟩:=aC o8;have a0:=sb bM.o _ k8;have cx:=NH w8 w.heap.size 18 _ _ _ a0;have bl:=NS w8 w.heap.size 18 _ _ a0;have d5:=NE a0;have q8:=Q7.o.trans (k8.mono Q7.o.size);have a7:=N.o.trans (q8.mono N.o.size);have ab:(eE i m.P (dR i.data B)).length=i.start.length:=by rw [iY,hg.s]
 rw [<-hg.s] at o8 ⊢;have aM:=ym GA A8 m.G (eE i m.P (dR i.data B)) i.start.length i.start.length gc c8 0 true w8 (H.hG.below a7).hr (Rd.own o8) H.Gl ab (by have:=H.s'.n;omega) ap;rw [show ((0:Nat):Int)=0 from rfl] at aM;obtain ⟨da,d8,Q8,e2⟩:=ag aM a0 q8 ab;clear aM a0 o8 k8 q8 a7 d6 e7 ab;go_wp2_with fail;refine da.o.mono ?_;rintro e w9 ⟨A9,c9,rfl,o9,k9⟩;have Y:=sb d8.o _ k9;have cf:=NH w9 w.heap.size 18 _ _ _ Y;have bl:=NS w9 w.heap.size 18 _ _ Y;have e1:=NE Y;have aP:=Q8.o.trans (k9.mono Q8.o.size);have a6:=N.o.trans (aP.mono N.o.size);have bO:=a6;have eG:lw m.G 0 (eE i m.P (dR i.data B)) true=eN i m.P m.G (dR i.data B):=by rw [Js (by rw [e2.o,H.Gl]),BF H.hG.hw (by rw [H.Gl,hg.s])]
 rw [eG] at o9;obtain ⟨O9,d4,bb,e6,ea⟩:=ah o9 Y bO aP eG;clear o9 Y bO a6 cx d5 k9 aP eG;go_upto_region 28 with (fail);have J:=ss (i:=18) (v:=.slice A9 i.start.length c9) d4.o rfl;have kk:Keep (fun k=>k=w.heap.size) w9 (w9.setCell (ar w.heap.size 18) (.slice A9 i.start.length c9)):=Keep.setCell (S:=fun k=>k=w.heap.size) (Keep.refl _ _) _ (.inr rfl) _;obtain ⟨V,hV⟩:∃V,w9.setCell (ar w.heap.size 18) (.slice A9 i.start.length c9)=V:=⟨_,rfl⟩;rw [hV] at J kk ⊢;have a8:=bt a9.o e6.o;have hb:=fun {b:Nat} {o:Obj} (h:L.heap[b]?=some o) (hne:b≠w.heap.size)=>(kk.block b (NE (sb h _ a8)) hne).trans (sb h _ a8);have bd:=hb (H.bx _ (br L)).2.1 ap;have bG:=hb (H.bx _ (br L)).2.2.1 ap;have b9:=hb (H.bx _ (br L)).2.2.2.1 ap;have bz:=hb (H.bx _ (br L)).2.2.2.2.1 ap;have bV:=hb (H.bx _ (br L)).2.2.2.2.2 ap;have bA:=bb.o.trans (kk.toBelow bb.o.size (fun j hj=>by rw [hj];exact NF _));have cc:=aa kk;have eb:w.heap.size+6<=L.heap.size:=by have:=NE (H.bx _ (br L)).2.2.2.2.2;omega
 have HO:=aa (aE O9.o (show w.heap.size+6<=w8.heap.size by have:=a9.o.size;have:=Q8.o.size;omega));clear hV cf bl e1 kk hb a8;have d0:=NH V w.heap.size 21 _ _ _ J;have bX:=NS V w.heap.size 21 _ _ J;have lM:=NE J;have d1:=H.wd;have e9:=ss (i:=21) (v:=OH ((dn:Int)+1)) J rfl;have k9:Keep (fun k=>k=w.heap.size) V (V.setCell (ar w.heap.size 21) (OH ((dn:Int)+1))):=Keep.setCell (S:=fun k=>k=w.heap.size) (Keep.refl _ _) _ (.inr rfl) _;obtain ⟨E9,K9,cL,cP,d7,d2,cl,dw⟩:=ak e9 k9 bd bG b9 bz bV bA;clear e9 k9 bd bG b9 bz bV bA J;go_upto_region 29 with (fail);obtain ⟨V9,b7⟩:∃V9,V.setCell (ar w.heap.size 21) (OH ((dn:Int)+1))=V9:=⟨_,rfl⟩;rw [b7] at E9 K9 ⊢;clear b7 d0 bX lM d1;obtain ⟨b1,b2,b3,b4,b5⟩:=vq K9.o cL.o cP.o d7.o d2.o cl.o;have hq:aq V9 V9.drew:=(br V9).drew;refine HA.g (KB3 w.heap.size V9) ?_;refine HA.ld3 (vs:=#[.slice A i.cfg.sizes.length c,OH i.cfg.shift,OH i.cfg.rate,OH i.cfg.mom,OH i.cfg.workers,OH i.cfg.batch,OH i.cfg.micros,OH i.cfg.steps,OH i.cfg.bucket,OH i.cfg.chunk,OH i.cfg.window,OH i.cfg.cap,.slice D i.data.length cd,.slice T i.start.length ct,.slice R i.draws.length cr,OH (x:Nat),.slice PA i.start.length pc,.slice MA i.start.length mc,.slice A9 i.start.length c9,.slice SA m.rc.length sc,.slice (some (ar bI oI)) il ic,OH (dn+1)]) E9.o b1 b2 dX bQ bQ (Keep.below hq) ?_;refine HA.st3 3 4 5 b3 b4 b5 dX bQ bQ hq (fun w8 r3 r4 e8 q8=>?_);refine HA.t ?_ [6] q8 ?_;refine HA.d ?_;obtain ⟨R3,R4,R5⟩:=af r3 r4 e8;have F:=kK K9.o q8 dw.o;obtain ⟨co,QW⟩:=ae F.1 F.2;clear b1 b2 b3 b4 b5 e8 q8 r3 r4 hq F;go_wp2_with fail;refine NX (fz rfl rfl rfl rfl R3.o R4.o R5.o dX bQ bQ) rfl ?_;have oF:=co.o.own (cc.o.own HO.o (fun j hj e=>by have:=(HO.o.lt j hj).1;omega)) (fun j hj e=>by have:=(HO.o.lt j hj).1;omega);have ci:=aC oF
 have dG:cB (aF S w8) A9 (eN i m.P m.G (dR i.data B)) c9:=by
  obtain ⟨A',c',e',ec⟩:=ci;simp only [Ou] at e';have hl:=mJ (i:=i) (P:=m.P) (n:=i.start.length) (dR i.data B) m.G H.Gl;have:=H.s'.n;exact ⟨by omega,by omega,iW oF (fun k hk=>by have:=H.S' k hk;omega),tr _ _ _ H.hG.hw _⟩
 have hX:Ext (aF S w) (aF S w8):=aX (Keep.below QW.o) (fun _ _ h=>h);obtain ⟨b6,bi,bw,be⟩:=H1.o;exact ⟨_,_,_,rfl,rfl,rfl,⟨A,c,D,cd,T,ct,R,cr,PA,pc,MA,mc,A9,c9,SA,sc,some (ar bI oI),ic,by rw [H.il',cb.o,be];push_cast;rfl,eg H.I0 hX,by rw [b6];exact bJ H.P0 hX,by rw [bi];exact bJ H.M0 hX,by rw [bw];exact bh.o▸dG,by rw [be];exact eO cQ H.R0 hX,aQ H.It0 hX,by rw [b6];exact H.Pl,by rw [bi];exact H.Ml,by rw [bw];exact (mJ (i:=i) (P:=m.P) (n:=i.start.length) _ m.G H.Gl)⟩,⟨B1,c1,rfl,cZ H.s0 hX,H.s2⟩,⟨B2,c2,rfl,cZ H.t0 hX,H.t2⟩,QW.o⟩
end Go.Proofs.YtgmajkppbhiopaaGreat
