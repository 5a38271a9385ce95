/- No condition. -/
import Derived.Test.YtgmajkppbhiopaaGreatQ13
set_option linter.unusedSimpArgs false
set_option linter.unusedVariables false
set_option maxRecDepth 100000
set_option maxHeartbeats 4000000
namespace Go.Proofs.YtgmajkppbhiopaaGreat
open Go.RowKit
open Tryz
theorem Jc:dB prog 36 106 (.agg ON) 22 320:=⟨underlying36,info_parts (by kernel_rfl),rfl,by decide⟩
theorem Jd:dB prog 37 75 (.agg #[OH 0,OJ,OH 0,OH 0]) 4 48:=⟨underlying37,info_parts (by kernel_rfl),rfl,by decide⟩
section
variable {P:Program} {ops:Qh} {Q:Exit->Qi->Qd->Prop} {S:Qd->Prop} {n:Nat}
theorem XA.sole {L:List Nat} {a:Qi} {w:Qd} (i:Nat) (p:XAS P ops Q S n i L a w) (hr:db ops L=[i]:=by decide +kernel):XA P ops Q S n L a w:=by
 obtain ⟨o,u,h⟩:=p;exact XA.one i u hr h
theorem XA.three {L:List Nat} {a:Qi} {w:Qd} (i j k:Nat) (B:XAS P ops Q S n i L a w) (y:XAS P ops Q S n j L a w) (hk:XAS P ops Q S n k L a w) (hr:db ops L=[i,j,k]:=by decide +kernel):XA P ops Q S n L a w:=by
 obtain ⟨N,A,B⟩:=B;obtain ⟨O,x,y⟩:=y;obtain ⟨ok,v,hk⟩:=hk;have D:unl (bH ops.size L)=unl (bH ops.size (i::L))+1:=cN (by rw [hr];simp);have I:unl (bH ops.size L)=unl (bH ops.size (j::L))+1:=cN (by rw [hr];simp);have J:unl (bH ops.size L)=unl (bH ops.size (k::L))+1:=cN (by rw [hr];simp);have H:unl (bH ops.size (j::L))=unl (bH ops.size (i::L)):=ap;have C:unl (bH ops.size (k::L))=unl (bH ops.size (i::L)):=ap;refine ⟨?_⟩;rw [D];refine cD (by rw [dW];exact hr) (by simp) (aU.cons A (λu p=>B u λa w o hw=>p.out a w o λh=>(hw h).out) (aU.cons x (λu p=>y u λa w o hw=>p.out a w o λh=>?_) (aU.cons v (λu p=>hk u λa w o hw=>p.out a w o λh=>?_) aU.nil)))
 .have:=(hw h).out;rw [H] at this;exact this
 .have:=(hw h).out;rw [C] at this;exact this
end
def Na (S:Nat->Prop) (R:Qb->Qb->Qb->Qd->Prop) (vs:Qb) (n:Nat) (mv u:Nat->Qb) (cnt x p:Nat) (C:Int) (w:Qd) (e:Ending) (i:Qd):Prop:= (C≠0/\e=.returned (.tuple #[.agg vs,.bool false])/\aq w i)\/(C=0/\∃m1 o v1 h:Qb,e=.returned (.tuple #[.agg h,.bool true])/\RWv (aF S i) h n (bC mv x m1) (if 1<n then bC (bC u p o) x v1 else u) (cnt+1)/\R m1 o v1 i/\aq w i)
theorem DN {w:Qd} {vs:Qb} {n cnt:Nat} {mv T:Nat->Qb} {z:Int} (h:RWv w vs n mv T cnt) (Y:z<0\/(n:Int)<=z):Calls prog 16 #[.agg vs,OH z] w λe H=>e=.returned (.tuple #[.agg vs,.bool false])/\aq w H:=by
 obtain ⟨⟨D,cm,v,C,rfl, -, -, -, -⟩, -, -⟩:=h;obtain ⟨u,i⟩:∃u,(w.alloc (.cells #[.slice D n cm,.slice v n C,OH (cnt:Nat)] 39)).alloc (.cells #[OJ,OJ,OH 0] 39)=u:=⟨_,rfl⟩;have J:u.heap[w.heap.size]?=some (.cells #[.slice D n cm,.slice v n C,OH (cnt:Nat)] 39 (0,0)):=by rw [<-i];exact sb (NG w _) _ ((br _).alloc (NF _) _)
 have g1:u.heap[w.heap.size+1]?=some (.cells #[OJ,OJ,OH 0] 39 (0,0)):=by rw [<-i];have:=NG (w.alloc (.cells #[.slice D n cm,.slice v n C,OH (cnt:Nat)] 39)) (.cells #[OJ,OJ,OH 0] 39);rwa [NZ] at this
 have N:aq w u:=by rw [<-i];exact ((br w).alloc (NF _) _).alloc (by rw [NZ];omega) _
 have tl:=sl g1;have t0:=λH q=>bx3 (sb J H q);have V:=br u;obtain ⟨y,Q,R,G0⟩:=ag i g1 N J;clear i J g1 N;have p:∀x,Keep (λj=>j=w.heap.size+1) u x->aq w x:=λx k=>R.o.trans (k.toBelow R.o.size (λj e=>ap));have O:=aa p;clear p;by_cases h1:z<0
 .go_enter func16,ntmps16;go_upto_region 1 with (fail);rw [y.o];go_wp2_with (first | (refine aK #[.slice D n cm,.slice v n C,OH (cnt:Nat)] (b:=w.heap.size) G0.o bE rfl rfl rfl rfl ?_) | (refine aH (b:=w.heap.size+1) Q.o bE rfl rfl rfl rfl rfl rfl rfl ?_;intro x A B;obtain ⟨L,I⟩:=ae A B;clear A B))
  try simp only [Exit.inBlock,Exit.then]
  refine NX (dg rfl rfl L.o bE) rfl ?_;exact ⟨rfl,O.o _ I.o⟩
 .have U:(n:Int)<=z:=ap;go_enter func16,ntmps16;go_upto_region 1 with (fail);rw [y.o];go_wp2_with (first | (refine aK #[.slice D n cm,.slice v n C,OH (cnt:Nat)] (b:=w.heap.size) G0.o bE rfl rfl rfl rfl ?_) | (refine aH (b:=w.heap.size+1) Q.o bE rfl rfl rfl rfl rfl rfl rfl ?_;intro x A B;obtain ⟨L,I⟩:=ae A B;clear A B))
  try simp only [Exit.inBlock,Exit.then]
  refine NX (dg rfl rfl L.o bE) rfl ?_;exact ⟨rfl,O.o _ I.o⟩
theorem yr {S:Nat->Prop} {R:Qb->Qb->Qb->Qd->Prop} {w B i W h:Qd} {n cnt I C cm A b:Nat} {mv u:Nat->Qb} {m1 p v1:Qb} (Y:∀k,S k->k<w.heap.size) (L:aq w B) (Q:aq B i) (q:aq i W) (k:Keep (λj=>j=b) W h) (hb:w.heap.size<=b/\b<w.heap.size+2) (V:b<i.heap.size) (oM:W.ownsRow i.heap.size 106 22 (.slice (some (ar I 0)) n cm) n (dQ mv n)) (oL:W.ownsRow i.heap.size 75 4 (.slice (some (ar C 0)) n A) n (dQ u n)) (hm:∀x,x<n->(mv x).size=22/\(mv x).toList.all (·.oneCell')=true) (hl:∀x,x<n->(u x).size=4/\(u x).toList.all (·.oneCell')=true) (hr:R m1 p v1 B) (Z:∀m1 p v1 D T,R m1 p v1 D->Keep (λk=>w.heap.size<=k/\k<w.heap.size+6) D T->R m1 p v1 T):
  RWv (aF S h) #[.slice (some (ar I 0)) n cm,.slice (some (ar C 0)) n A,OH ((cnt+1:Nat):Int)] n mv u (cnt+1)/\R m1 p v1 h/\aq w h:=by
 have hz:=L.size;have U:=Q.size;have y:=k.own oM (λj h1 H=>by have:=(oM.lt j h1).1;omega);have v:=k.own oL (λj h1 H=>by have:=(oL.lt j h1).1;omega)
 have hc:n<=cm/\n<=A:=by
  obtain ⟨_,_,O,h1⟩:=aC oM;obtain ⟨_,_,J,H⟩:=aC oL;injection O with _ _ O;injection J with _ _ J
  omega
 have o:∀k,S k->k<i.heap.size:=λk e=>by have:=Y k e;omega
 have N:=bt Q q;exact ⟨⟨⟨_,_,_,_,rfl,ik y o,ik v o,hc⟩,hm,hl⟩,Z _ _ _ _ _ hr ((Keep.below N).trans (k.mono λj _ e=>ap)),(bt L N).trans (k.toBelow (by have:=q.size;omega) (λj e=>ap))⟩
theorem RWv.upd {mv:Nat->Qb} {n k x:Nat} {u:Qb} (h:∀x,x<n->(mv x).size=k/\(mv x).toList.all (·.oneCell')=true) (p:u.size=k) (i:u.toList.all (·.oneCell')=true):∀y,y<n->(bC mv x u y).size=k/\(bC mv x u y).toList.all (·.oneCell')=true:=λy o=>by
 by_cases e:y=x
 .subst e;rw [bK];exact ⟨p,i⟩
 .rw [bF _ _ e];exact h y o
theorem qA {mv:Nat->Qb} {n k x:Nat} {u:Qb} (h:∀x,x<n->(mv x).size=k/\(mv x).toList.all (·.oneCell')=true) (v:u.size=k) (p:u.toList.all (·.oneCell')=true) (o:x<n):DB (dQ mv n) (x*k) u.toList=dQ (bC mv x u) n:=by
 have:=DO (mv:=mv) (mv':=bC mv x u) (λx o=>(h x o).1) (λy i=>(RWv.upd h v p y i).1) o (λy i=>bF _ _ i)
 rwa [bK] at this
theorem GC {S:Nat->Prop} {R:Qb->Qb->Qb->Qd->Prop} {w:Qd} {vs:Qb} {n cnt x p:Nat} {mv lv:Nat->Qb} {C:Int} (hS:∀k,S k->k<w.heap.size) (h:RWv w vs n mv lv cnt) (Z:x<n) (hn:n<=1000) (hp:(x+n-1)%n=p) (f6:cnt<=1000000000) (bX:∀u,w.heap.size+6<=u.heap.size->aq w u->Calls prog 89 #[.agg (mv x),.agg (lv p),.agg (lv x)] u (LB R C u)) (hR:∀m1 I v1 w1 w2,R m1 I v1 w1->Keep (λk=>w.heap.size<=k/\k<w.heap.size+6) w1 w2->R m1 I v1 w2):Calls prog 16 #[.agg vs,OH (x:Nat)] w (Na S R vs n mv lv cnt x p C w):=by
 have bG:p<n:=by rw [<-hp];exact Nat.mod_lt _ ap
 have b4:=λu (q:aq w u) (hz:u.heap.size=w.heap.size+2)=>xT (R:=R) (C:=C) (show RWv u vs n mv lv cnt from by
  obtain ⟨⟨AM,cm,AL,cl,h1,L,h3,h4⟩,h5,h6⟩:=h
  exact ⟨⟨AM,cm,AL,cl,h1,L.below q,h3.below q,h4⟩,h5,h6⟩) Z hn hp (λeG h1 q'=>bX eG ap (bt q q')) (λm1 I v1 w1 w2 hr k=>hR m1 I v1 w1 w2 hr (k.mono λj _ e=>ap))
 obtain ⟨⟨AM,cm,AL,cl,rfl,hM,hL,fd,fr⟩,aR,b1⟩:=h;obtain ⟨W0,a5⟩:∃W0,(w.alloc (.cells #[.slice AM n cm,.slice AL n cl,OH (cnt:Nat)] 39)).alloc (.cells #[OJ,OJ,OH 0] 39)=W0:=⟨_,rfl⟩;have g0:W0.heap[w.heap.size]?=some (.cells #[.slice AM n cm,.slice AL n cl,OH (cnt:Nat)] 39 (0,0)):=by rw [<-a5];exact sb (NG w _) _ ((br _).alloc (NF _) _)
 have g1:W0.heap[w.heap.size+1]?=some (.cells #[OJ,OJ,OH 0] 39 (0,0)):=by rw [<-a5];have:=NG (w.alloc (.cells #[.slice AM n cm,.slice AL n cl,OH (cnt:Nat)] 39)) (.cells #[OJ,OJ,OH 0] 39);rwa [NZ] at this
 have q0:aq w W0:=by rw [<-a5];exact ((br w).alloc (NF _) _).alloc (by rw [NZ];omega) _
 have cO:W0.heap.size=w.heap.size+2:=by rw [<-a5];simp
 have tl:=sl g1;have t0:=λu q=>bx3 (sb g0 u q);have q1:=br W0;have fb:(x:Int)<n:=ap;have f9:¬((x:Int)<0):=ap;have cy:∀u,aq w u->Rd u AM (dQ mv n):=λu q=>hM.below q;have hrl:∀u,aq w u->Rd u AL (dQ lv n):=λu q=>hL.below q;have d6:=lH (λx Z=>(aR x Z).1);have dT:=lH (λx Z=>(b1 x Z).1);have cb:=uK (λx Z=>(aR x Z).2);have cA:=uK (λx Z=>(b1 x Z).2);obtain ⟨f1,G1,Q0,G0,dc,HR,ej,ea⟩:=ak a5 g1 q0 g0 b4 hR cO aR;obtain ⟨bw,cj,e2,f2,eY,ef,ee,HS⟩:=ak b1 cy hrl d6 dT cb cA hS;have Hp:=aa hp;clear a5 g0 g1 q0 b4 hR cO aR b1 hM hL cy hrl d6 dT cb cA bX hS hp;go_enter func16,ntmps16;go_upto_region 1 with (fail);rw [f1.o];go_wp2_with (refine aK #[.slice AM n cm,.slice AL n cl,OH (cnt:Nat)] (b:=w.heap.size) G0.o bE rfl rfl rfl rfl ?_);refine (dc.o _ Q0.o (by rw [ej.o])).mono ?_;rintro e D ⟨m1,I,v1,rfl,⟨z1,z2,z3⟩,⟨a1,a2,a3⟩,hr,k5⟩;have q5:=bt q1 k5;obtain ⟨Z1,Z2,J,O1,O2,O3,e3⟩:=aj z1 z2 z3 a1 a2 a3 hr;clear z1 z2 z3 a1 a2 a3 hr k5 q1;have b5:aq D (((D.alloc (.cells ON 106)).alloc (.cells #[OH 0,OJ,OH 0,OH 0] 75)).alloc (.cells #[OH 0,OJ,OH 0,OH 0] 75)):=et [Obj.cells ON 106,.cells #[OH 0,OJ,OH 0,OH 0] 75,.cells #[OH 0,OJ,OH 0,OH 0] 75] D;obtain ⟨bO,bs,aP,B5⟩:=ag (show (((D.alloc (.cells ON 106)).alloc (.cells #[OH 0,OJ,OH 0,OH 0] 75)).alloc (.cells #[OH 0,OJ,OH 0,OH 0] 75)).heap[D.heap.size]?=_ from bY [Obj.cells ON 106,.cells #[OH 0,OJ,OH 0,OH 0] 75,.cells #[OH 0,OJ,OH 0,OH 0] 75] D 0 rfl) (show (((D.alloc (.cells ON 106)).alloc (.cells #[OH 0,OJ,OH 0,OH 0] 75)).alloc (.cells #[OH 0,OJ,OH 0,OH 0] 75)).heap[D.heap.size+1]?=_ from bY [Obj.cells ON 106,.cells #[OH 0,OJ,OH 0,OH 0] 75,.cells #[OH 0,OJ,OH 0,OH 0] 75] D 1 rfl) (show (((D.alloc (.cells ON 106)).alloc (.cells #[OH 0,OJ,OH 0,OH 0] 75)).alloc (.cells #[OH 0,OJ,OH 0,OH 0] 75)).heap[D.heap.size+1+1]?=_ from bY [Obj.cells ON 106,.cells #[OH 0,OJ,OH 0,OH 0] 75,.cells #[OH 0,OJ,OH 0,OH 0] 75] D 2 rfl) b5;clear b5
 go_upto_region 5 with (first
  | (refine aH (b:=D.heap.size) bO.o jc rfl rfl rfl rfl Z1.o (by rw [Z1.o];rfl) O1.o ?_;intro w6 e6 k6;obtain ⟨E6,K6⟩:=ae e6 k6;clear e6 k6)
  | (refine aH (b:=D.heap.size+1) ((K6.o.block _ (NE bs.o) ap).trans bs.o) gC rfl rfl rfl rfl Z2.o (by rw [Z2.o];rfl) O2.o ?_;intro w7 e7 k7;obtain ⟨E7,K7⟩:=ae e7 k7;clear e7 k7)
  | (refine aH (b:=D.heap.size+1+1) ((K7.o.block _ (NQ (NE aP.o) K6.o.size) ap).trans ((K6.o.block _ (NE aP.o) ap).trans aP.o)) gC rfl rfl rfl rfl J.o (by rw [J.o];rfl) O3.o ?_;intro y e8 k8;obtain ⟨E8,K8⟩:=ae e8 k8;clear e8 k8))
 have bf:aq D y:=B5.o.trans (((K6.o.toBelow B5.o.size (λj e=>ap)).trans (K7.o.toBelow (NN B5.o.size K6.o.size) (λj e=>ap))).trans (K8.o.toBelow (NN (NN B5.o.size K6.o.size) K7.o.size) (λj e=>ap)));have e4:y.heap[D.heap.size]?=_:=(K8.o.block _ (NQ (NE E6.o) K7.o.size) ap).trans ((K7.o.block _ (NE E6.o) ap).trans E6.o);have dG:y.heap[D.heap.size+1]?=_:=(K8.o.block _ (NE E7.o) ap).trans E7.o;obtain ⟨ew,cn⟩:=ae e4 dG;have q8:=bt q5 bf;obtain ⟨Q5,d7⟩:=ae q5 bf;clear e4 dG bf B5 bO bs aP E6 E7 K6 K7 K8 q5;by_cases hC:C=0;rotate_left
 .have fe:(C != 0)=true:=by rw [bne_iff_ne];exact hC
  have HC:=aa hC;have h1:=sb G1.o _ q8;obtain ⟨H1,Q8⟩:=ae h1 q8;clear h1 hC;go_wp2_with (first | (refine aK #[.slice AM n cm,.slice AL n cl,OH (cnt:Nat)] (b:=w.heap.size) (sb G0.o _ Q8.o) bE rfl rfl rfl rfl ?_) | (refine aH (b:=w.heap.size+1) H1.o bE rfl rfl rfl rfl rfl rfl rfl ?_;intro w9 e9 k9;obtain ⟨E9,K9⟩:=ae e9 k9;clear e9 k9))
  try simp only [Exit.inBlock,Exit.then]
  refine NX (dg rfl rfl E9.o bE) rfl ?_;exact .inl ⟨HC.o,rfl,(Q0.o.trans (Q8.o.mono Q0.o.size)).trans (K9.o.toBelow (NN Q0.o.size Q8.o.size) (λj e=>ap))⟩
 subst hC;go_upto_region 7 with (fail);have cv:=sb G0.o _ q8;have dw:=sb G1.o _ q8;obtain ⟨ct,a7,Q8⟩:=af cv dw q8;have bh:IntKind.i64.wrap ((cnt:Int)+1)=((cnt+1:Nat):Int):=by rw [NK _ ap];push_cast;rfl
 have en:=aa bh;clear cv dw q8 t0 tl bh
 go_cut [11] (λv wx=>∃N A3 c3 A7 c7,v=(au N)/\wx.heap[N]?=some (.cells #[.slice A3 n c3,.slice A7 n c7,OH ((cnt+1:Nat):Int)] 39 (0,0))/\y.heap.size<=N/\wx.ownsRow y.heap.size 106 22 (.slice A3 n c3) n (dQ mv n)/\wx.ownsRow y.heap.size 75 4 (.slice A7 n c7) n (dQ lv n)/\aq y wx)
 case first=>
  have t8:=λu q=>bx3 (sb ct.o u q);obtain ⟨ek,eo⟩:=ae (λu (q:aq y u)=>cj.o u (Q0.o.trans ((bt Q8.o q).mono Q0.o.size))) (λu (q:aq y u)=>e2.o u (Q0.o.trans ((bt Q8.o q).mono Q0.o.size)));have bh:=en.o;have tl:=λu (q:aq y u)=>NQ (NE ct.o) q.size;have q:=(br y).drew;refine XA.g 13 (λu:Qd=>aq y u) ?_;refine XA.t ?_ [1,2,5,6,8,9,10] q ?_;obtain ⟨U,hU⟩:∃U,y.drew=U:=⟨_,rfl⟩;rw [hU] at q |-;clear hU
  repeat' first
   | (refine XA.three 0 4 12 ?_ ?_ ?_)
   | (refine XA.three 3 4 12 ?_ ?_ ?_)
   | (refine XA.two 0 4 ?_ ?_)
   | (refine XA.two 0 12 ?_ ?_)
   | (refine XA.two 3 4 ?_ ?_)
   | (refine XA.two 3 12 ?_ ?_)
   | (refine XA.two 4 12 ?_ ?_)
   | (refine XA.two 7 12 ?_ ?_)
   | (refine XA.sole 0 ?_)
   | (refine XA.sole 3 ?_)
   | (refine XA.sole 4 ?_)
   | (refine XA.sole 7 ?_)
   | (refine XA.sole 12 ?_)
   | (refine XAS.v (i:=0) (U.alloc (.cells #[] 106)) (.slice (some (ar U.heap.size 0)) 0 0) (q.alloc q.size _) ?_;have nM:(U.alloc (.cells #[] 106)).ownsRow y.heap.size 106 22 (.slice (some (ar U.heap.size 0)) 0 0) 0 []:=aE (eK U 106 22) q.size;have B:=(br U).alloc (NF _) (.cells #[] 106);obtain ⟨V,hv⟩:∃V,U.alloc (.cells #[] 106)=V:=⟨_,rfl⟩;rw [hv] at nM B |-;clear hv;(try replace oM:=ay oM B);(try replace oL:=ay oL B);(try replace A:=sb A _ B);replace q:=bt q B;have oM:=nM;obtain ⟨bM,d0⟩:∃b,U.heap.size=b:=⟨_,rfl⟩;rw [d0] at oM |-;clear nM B d0;obtain ⟨U,rfl⟩:∃U,U=V:=⟨_,rfl⟩)
   | (refine XAS.v (i:=4) (U.alloc (.cells #[] 75)) (.slice (some (ar U.heap.size 0)) 0 0) (q.alloc q.size _) ?_;have nL:(U.alloc (.cells #[] 75)).ownsRow y.heap.size 75 4 (.slice (some (ar U.heap.size 0)) 0 0) 0 []:=aE (eK U 75 4) q.size;have B:=(br U).alloc (NF _) (.cells #[] 75);obtain ⟨V,hv⟩:∃V,U.alloc (.cells #[] 75)=V:=⟨_,rfl⟩;rw [hv] at nL B |-;clear hv;(try replace oM:=ay oM B);(try replace oL:=ay oL B);(try replace A:=sb A _ B);replace q:=bt q B;have oL:=nL;obtain ⟨bL,dp⟩:∃b,U.heap.size=b:=⟨_,rfl⟩;rw [dp] at oL |-;clear nL B dp;obtain ⟨U,rfl⟩:∃U,U=V:=⟨_,rfl⟩)
   | (refine XAS.v (i:=12) (U.alloc (.cells #[OJ,OJ,OH 0] 39)) ((au U.heap.size)) (q.alloc q.size _) ?_;have nN:=NG U (.cells #[OJ,OJ,OH 0] 39);have lN:=q.size;have B:=(br U).alloc (NF _) (.cells #[OJ,OJ,OH 0] 39);obtain ⟨V,hv⟩:∃V,U.alloc (.cells #[OJ,OJ,OH 0] 39)=V:=⟨_,rfl⟩;rw [hv] at nN B |-;clear hv;(try replace oM:=ay oM B);(try replace oL:=ay oL B);(try replace A:=sb A _ B);replace q:=bt q B;have A:=nN;obtain ⟨N,hN⟩:∃b,U.heap.size=b:=⟨_,rfl⟩;rw [hN] at A lN |-;clear nN B hN;obtain ⟨U,rfl⟩:∃U,U=V:=⟨_,rfl⟩)
   | (refine XAS.o (i:=3) (λK' hK=>?_);refine bT Jc (.tmp 34) (.tmp 36) rfl rfl y.heap.size (.slice (some (ar bM 0)) 0 0) 0 [] rfl oM AM n cm (dQ mv n) rfl (ek.o _ q) f2.o ef.o ap (by unfold maxLen;omega) q.size ?_;intro A3 c3 V o3 b3 g3 n3;rw [Oz,List.nil_append] at o3;have kG:Keep (λj=>(Value.slice (some (ar bM 0)) 0 0).ownBlock=some j) U V:=(Keep.refl _ U).grown g3 (λk hk=>.inr hk);(try replace oL:=kG.own oL (λj h1 L=>fN oL oM (by decide) j h1 L));(try replace A:=(kG.block _ (NE A) (λe=>ax A (by decide) oM e.symm)).trans A);rw [Oz];refine hK.out _ _ (q.trans b3) λ_=>?_;replace q:=q.trans b3;clear hK K' n3 g3 b3 kG oM;have oM:=o3;clear o3;obtain ⟨U,rfl⟩:∃U,U=V:=⟨_,rfl⟩)
   | (refine XAS.o (i:=7) (λK' hK=>?_);refine bT Jd (.tmp 38) (.tmp 40) rfl rfl y.heap.size (.slice (some (ar bL 0)) 0 0) 0 [] rfl oL AL n cl (dQ lv n) rfl (eo.o _ q) eY.o ee.o ap (by unfold maxLen;omega) q.size ?_;intro A7 c7 V o7 b7 g7 n7;rw [Oz,List.nil_append] at o7;have kG:Keep (λj=>(Value.slice (some (ar bL 0)) 0 0).ownBlock=some j) U V:=(Keep.refl _ U).grown g7 (λk hk=>.inr hk);(try replace oM:=kG.own oM (λj h1 L=>fN oM oL (by decide) j h1 L));(try replace A:=(kG.block _ (NE A) (λe=>ax A (by decide) oL e.symm)).trans A);rw [Oz];refine hK.out _ _ (q.trans b7) λ_=>?_;replace q:=q.trans b7;clear hK K' n7 g7 b7 kG oL;have oL:=o7;clear o7;obtain ⟨U,rfl⟩:∃U,U=V:=⟨_,rfl⟩)
   | (refine XA.t ?_ [11] q ?_)
   | fail
  all_goals
   refine XA.e ?_;simp only [Ob,Oc];obtain ⟨GN,OM,OL,QQ⟩:=ag A oM oL q;clear A oM oL q t8;go_wp2_with (refine aH (b:=N) GN.o bE rfl rfl rfl rfl rfl rfl rfl ?_;intro w9 e9 k9;obtain ⟨E9,K9⟩:=ae e9 k9;clear e9 k9);go_meet;exact ⟨N,_,_,_,_,rfl,E9.o,lN,K9.o.own OM.o (λj h1 L=>ax GN.o (by decide) OM.o (by rw [h1,L])),K9.o.own OL.o (λj h1 L=>ax GN.o (by decide) OL.o (by rw [h1,L])),QQ.o.trans (K9.o.toBelow QQ.o.size (λj e=>ap))⟩
 case rest=>
  obtain ⟨N,A3,c3,A7,c7,rfl,A,lN,oM,oL,kc⟩:=hcut;obtain ⟨gm,cM,eM,_⟩:=oM.form ap;injection eM with eM _ eM2
  subst eM;subst eM2;obtain ⟨gl,cL,eL,_⟩:=oL.form ap;injection eL with eL _ eL2
  subst eL;subst eL2;have tm:=nG oM Z;have d5:=sb ew.o _ kc;have d2:=sb cn.o _ kc;have da:=sb E8.o _ kc;have cc:=sb a7.o _ kc;have tN:=bx3 A;have e1:=oM.lt gm rfl;have cd:=oL.lt gl rfl;have fi:¬(n=0):=ap;have h1:0<=(x:Int):=ap;have dv:(m1.toList.drop 0).take m1.toList.length=m1.toList:=by rw [Oc,Oq]
  have d8:(I.toList.drop 0).take I.toList.length=I.toList:=by rw [Oc,Oq]
  have c6:(v1.toList.drop 0).take v1.toList.length=v1.toList:=by rw [Oc,Oq]
  obtain ⟨f3,ei,f8,f7,fn,bz,a9,bd⟩:=ak tm d5 d2 da cc A oM oL;obtain ⟨KC,el,es,eX,dn,ci⟩:=ai kc dv d8 c6 e1 cd;clear tm d5 d2 da cc A oM oL kc dv d8 c6 e1 cd;have hI:(prog.info? 106).map (·.size)=some m1.size:=by rw [Z1.o];exact jc.s
  have hJ:m1.all (·.oneCell')=true:=by rw [<-Array.all_toList];exact O1.o
  obtain ⟨HI,HJ⟩:=ae hI hJ;clear hI hJ;go_upto_region 9 with (first | (refine aK m1 ei.o (by rw [Z1.o];exact jc) rfl rfl rfl el.o ?_) | (refine wpList_store_mid rfl 106 _ _ rfl gm (x*22) m1 rfl rfl (by rw [Z1.o];exact f3.o) HI.o HJ.o ?_));have H:=iO m1.toList wc gm (x*22);have b0:=pU m1.toList (o:=x*22) a9.o;have bl:=H.own bd.o (λj h1 L=>fN bd.o a9.o (by decide) j h1 (by rw [L];rfl));have b2:=(H.block N (NE bz.o) (λe=>(ax bz.o (by decide) a9.o) (by rw [e];rfl))).trans bz.o;obtain ⟨W9,dr⟩:∃W9,wc.setCells gm (x*22) m1.toList=W9:=⟨_,rfl⟩;rw [dr] at H b0 bl b2 |-;have eV:Keep (λj=>y.heap.size<=j) y W9:=(Keep.below KC.o).trans (H.mono λj _ e=>by have:=dn.o.1;omega);rw [qA ea.o Z1.o O1.o Z] at b0;have d9:=RWv.upd (x:=x) ea.o Z1.o O1.o;have q9:aq y W9:=KC.o.trans (H.toBelow KC.o.size (λj e=>by have:=dn.o.1;omega));have co:=sb cn.o _ q9;have cf:=sb E8.o _ q9;have cr:=sb a7.o _ q9;have eb:=bx3 b2;obtain ⟨bi,a0,a4,Q9,ec,fc,eu,e0⟩:=ak b0 bl b2 q9 co cf cr d9;clear dr H b0 bl b2 eV q9 co cf cr d9 tN;by_cases cx:1<n
  .have d4:(1:Int)<n:=ap;have dk:(prog.info? 75).map (·.size)=some I.size:=by rw [Z2.o];exact gC.s
   have cP:I.all (·.oneCell')=true:=by rw [<-Array.all_toList];exact O2.o
   have d3:(prog.info? 75).map (·.size)=some v1.size:=by rw [J.o];exact gC.s
   have e5:v1.all (·.oneCell')=true:=by rw [<-Array.all_toList];exact O3.o
   have c8:=nG a0.o bG;obtain ⟨ev,eq,eB,f0,fa⟩:=ah dk cP d3 e5 c8;clear dk cP d3 e5 c8;go_upto_region 10 with (fail)
   have ab:((x:Int)+(n:Int)-1).tmod (n:Int)=(p:Int):=by
    rw [<-Hp.o,Int.tmod_eq_emod_of_nonneg ap,Int.natCast_emod,show ((x+n-1:Nat):Int)=(x:Int)+n-1 by omega]
   have cs:((x:Int)+(n:Int)-1)%(n:Int)=(p:Int):=by rw [<-Int.tmod_eq_emod_of_nonneg ap];exact ab
   have h3:0<=(p:Int):=ap;have h4:(p:Int)<(n:Int):=ap;have w1:IntKind.i64.wrap ((x:Int)+n)=(x:Int)+n:=NK _ ap;have w2:IntKind.i64.wrap ((x:Int)+n-1)=(x:Int)+n-1:=NK _ ap;have w3:IntKind.i64.wrap (p:Int)=(p:Int):=NK _ ap;have em:IntKind.i64.wrap (((x:Int)+n-1).tmod n)=(p:Int):=by rw [ab];exact w3
   have w6:IntKind.i64.wrap (((x:Int)+n-1)%n)=(p:Int):=by rw [cs];exact w3
   have tq:=λu q=>bx3 (sb a4.o u q);have tl:=sl a4.o;have q:=(br W9).drew;refine XA.g 10 (λu:Qd=>aq W9 u) ?_;refine XA.t ?_ [0,1,2,3,4,5,6,7] q ?_;refine XA.ld 8 I (λu q=>sb ec.o u q) (by rw [Z2.o];exact gC) q ?_ (hcs:=es.o);refine XA.t ?_ [9] q ?_;refine XA.e ?_;simp only [Ob,Oc];clear tq tl q ab cs h3 h4 w1 w2 w3 em w6 eb;go_upto_region 11 with (refine wpList_store_mid rfl 75 _ _ rfl gl (p*4) I rfl rfl (by rw [Z2.o];exact nG a0.o.drew bG) ev.o eq.o ?_);have H:=(Keep.refl (λj=>j=gl) W9).drew.trans (iO I.toList W9.drew gl (p*4));have Y:=pU I.toList (o:=p*4) a0.o.drew;have av:=H.own bi.o (λj h1 L=>fN bi.o a0.o (by decide) j h1 (by rw [L];rfl));have Q:=(H.block N (NE a4.o) (λe=>(ax a4.o (by decide) a0.o) (by rw [e];rfl))).trans a4.o;obtain ⟨aM,b6⟩:∃aM,W9.drew.setCells gl (p*4) I.toList=aM:=⟨_,rfl⟩;rw [b6] at H av Y Q |-;rw [qA bw.o Z2.o O2.o bG] at Y;have cw:=RWv.upd (x:=p) bw.o Z2.o O2.o;have bN:aq y aM:=Q9.o.trans (H.toBelow Q9.o.size (λj e=>by have:=ci.o.1;omega));have bb:=sb E8.o _ bN;have c9:=bx3 Q;obtain ⟨b8,O,a8,bV,ds,d1⟩:=ai av Y Q bN bb cw;clear b6 H av Y Q bN bb cw;go_upto_region 12 with (first | (refine aK v1 ds.o (by rw [J.o];exact gC) rfl rfl rfl eX.o ?_) | (refine wpList_store_mid rfl 75 _ _ rfl gl (x*4) v1 rfl rfl (by rw [J.o];exact nG O.o Z) eB.o f0.o ?_));have H:=iO v1.toList aM gl (x*4);have T:=pU v1.toList (o:=x*4) O.o;have ad:=H.own b8.o (λj h1 L=>fN b8.o O.o (by decide) j h1 (by rw [L];rfl));have a6:=(H.block N (NE a8.o) (λe=>(ax a8.o (by decide) O.o) (by rw [e];rfl))).trans a8.o;obtain ⟨bn,b9⟩:∃bn,aM.setCells gl (x*4) v1.toList=bn:=⟨_,rfl⟩;rw [b9] at H ad T a6 |-;rw [qA d1.o J.o O3.o Z] at T;have bA:aq y bn:=bV.o.trans (H.toBelow bV.o.size (λj e=>by have:=ci.o.1;omega));obtain ⟨be,bv,eS,f4,Qe⟩:=ah (sb a7.o _ bA) a6 ad T bA;clear b9 H ad T a6 bA c9;go_wp2_with (first | (refine aK #[.slice (some (ar gm 0)) n c3,.slice (some (ar gl 0)) n c7,OH ((cnt+1:Nat):Int)] (b:=N) bv.o bE rfl rfl rfl rfl ?_) | (refine aH (b:=w.heap.size+1) be.o bE rfl rfl rfl rfl rfl rfl rfl ?_;intro f5 ao aG;obtain ⟨bI,bo⟩:=ae ao aG;clear ao aG))
   try simp only [Exit.inBlock,Exit.then]
   refine NX (dg rfl rfl bI.o bE) rfl ?_
   exact .inr ⟨rfl,m1,I,v1,_,rfl,by
    rw [if_pos cx]
    exact yr HS.o (Q0.o.trans ((show aq W0 D from Q5.o).mono Q0.o.size)) d7.o Qe.o bo.o ap (NE a7.o) eS.o f4.o e0.o (RWv.upd d1.o J.o O3.o) e3.o HR.o⟩
  .have d4:¬((1:Int)<n):=ap;obtain ⟨be,bv⟩:=ae eu.o a4.o;clear eb;go_wp2_with (first | (refine aK #[.slice (some (ar gm 0)) n c3,.slice (some (ar gl 0)) n c7,OH ((cnt+1:Nat):Int)] (b:=N) bv.o bE rfl rfl rfl rfl ?_) | (refine aH (b:=w.heap.size+1) be.o bE rfl rfl rfl rfl rfl rfl rfl ?_;intro f5 ao aG;obtain ⟨bI,bo⟩:=ae ao aG;clear ao aG))
   try simp only [Exit.inBlock,Exit.then]
   refine NX (dg rfl rfl bI.o bE) rfl ?_
   exact .inr ⟨rfl,m1,I,v1,_,rfl,by
    rw [if_neg cx]
    exact yr HS.o (Q0.o.trans ((show aq W0 D from Q5.o).mono Q0.o.size)) d7.o Q9.o bo.o ap (NE a7.o) bi.o a0.o e0.o bw.o e3.o HR.o⟩
section
variable {P:Program} {ops:Qh} {Q:Exit->Qi->Qd->Prop} {S:Qd->Prop} {n:Nat}
end
theorem D3 {w:Qd} {vs:Qb} {n cnt:Nat} {mv lv:Nat->Qb} {dn il:Nat->Nat} {B:Bool} (h:RWv w vs n mv lv cnt) (hn:n<=1000) (hc:∀x,x<n->∃I c,(mv x)[20]?=some (.slice I (il x) c)/\(mv x)[21]?=some (OH (dn x:Nat))) (hB:B=true↔∀x,x<n->il x<=dn x):Calls prog 33 #[.agg vs] w λe i=>e=.returned (.bool B)/\aq w i:=by
 obtain ⟨⟨Z,cm,AL,cl,rfl,hM,hL, -, -⟩,J,U⟩:=h;obtain ⟨u,y⟩:∃u,w.alloc (.cells #[.slice Z n cm,.slice AL n cl,OH (cnt:Nat)] 39)=u:=⟨_,rfl⟩;have V:u.heap[w.heap.size]?=some (.cells #[.slice Z n cm,.slice AL n cl,OH (cnt:Nat)] 39 (0,0)):=by rw [<-y];exact NG w _
 have C:aq w u:=by rw [<-y];exact (br w).alloc (NF _) _
 have t0:=λi q=>bx3 (sb V i q);have tl:=sl V
 have p:∀x,x<n->∃b o I c,Z=some (ar b o)/\(∀i,aq u i->i.cell? (ar b (o+x*22+20))=some (.slice I (il x) c))/\∀i,aq u i->i.cell? (ar b (o+x*22+21))=some (OH (dn x:Nat)):=λx O=>by
  obtain ⟨b,o,e,hr⟩:=gH hM (λx O=>(J x O).1) (by decide) O;obtain ⟨I,c,h1,h2⟩:=hc x O;have c1:=hr 20 _ (by rw [Array.getElem?_toList];exact h1);have c2:=hr 21 _ (by rw [Array.getElem?_toList];exact h2);exact ⟨b,o,I,c,e,λi q=>(World.cell?_of_block ((C.trans (q.mono C.size)).block _ (aB c1))).trans c1,λi q=>(World.cell?_of_block ((C.trans (q.mono C.size)).block _ (aB c2))).trans c2⟩
 obtain ⟨HC,HB,T,Q⟩:=ag p hB y C;have q:=br u;clear p hB y C V hM hL J U hc;go_enter func33,ntmps33;go_wp2_with fail;rw [T.o]
 go_loopw [3] (λv wr=>∃k:Nat,k<=n/\v=OH k/\(∀j,j<k->il j<=dn j)/\aq u wr) (λv _=>n-(intOf v).toNat)
 .exact ⟨0,NJ _,rfl,λj hj=>absurd hj (Nat.not_lt_zero j),q⟩
 case round=>
  clear q;obtain ⟨k,hk,rfl,A,q⟩:=hrel;have N:=aa A;clear A;by_cases D:k<n
  .have R:(k:Int)<n:=ap;have a0:0<=(k:Int):=ap;obtain ⟨b,o,I,c,rfl,c1,c2⟩:=HC.o k D;by_cases L:il k<=dn k
   .have hd:¬((dn k:Int)<il k):=ap;go_upto_region 4 with (fail);refine HA.g (λi:Qd=>aq u i) ?_;refine HA.t ?_ [0,1,2,3,4,5,6,7,8,9,10,11,12,13] q.drew ?_;refine HA.d ?_;have H:=aa q.drew;clear c1 c2 q;go_wp2_with fail;go_roundw
    case rel=>
     refine ⟨k+1,by omega,by go_num,λj hj=>?_,H.o⟩;rcases NY j k with h1 | h1
     .exact N.o j h1
     .obtain rfl:j=k:=ap;exact L
    case measure=>simp [intOf];omega
   .have hd:(dn k:Int)<il k:=ap;go_upto_region 4 with (fail);refine HA.g (λi:Qd=>aq u i) ?_;refine HA.t ?_ [0,1,2,3,4,5,6,7,8,9,10,11,12,13] q.drew ?_;refine HA.d ?_;have H:=aa q.drew;clear c1 c2 q;go_wp2_with fail;go_ret
    have Y:B=false:=by
     cases hBB:B with
     | false=>rfl
     | true=>exact absurd (HB.o.1 hBB k D) L
    exact ⟨by rw [Y];rfl,Q.o.trans (H.o.mono Q.o.size)⟩
  .obtain rfl:k=n:=ap;have H:=aa q;have R:¬((k:Int)<k):=ap;go_wp2_with fail;go_ret;exact ⟨by rw [HB.o.2 N.o];rfl,Q.o.trans (H.o.mono Q.o.size)⟩
def JV {σ:Type} (J:Qd->Qb->σ->Prop) (S:Nat->Prop) (s:σ) (b:Bool) (w:Qd) (e:Ending) (i:Qd):Prop:=
 ∃h:Qb,e=.returned (.tuple #[.agg h,.bool b])/\h.size=3/\h.toList.all (·.oneCell')=true/\J (aF S i) h s/\aq w i
theorem wt:cY prog 29 15:=⟨⟨_,underlying29,rfl⟩,by kernel_rfl⟩
theorem M5 {m:Qb} (h:m.size=22):∃U a1 V N Q O T L J R v x D I p y u A o C H B,m=#[U,a1,V,N,Q,O,T,L,J,R,v,x,D,I,p,y,u,A,o,C,H,B]:=by
 obtain ⟨l⟩:=m;have i:l.length=22:=h;clear h;obtain _ | ⟨U,l⟩:=l
 .simp at i
 obtain _ | ⟨a1,l⟩:=l
 .simp at i
 obtain _ | ⟨V,l⟩:=l
 .simp at i
 obtain _ | ⟨N,l⟩:=l
 .simp at i
 obtain _ | ⟨Q,l⟩:=l
 .simp at i
 obtain _ | ⟨O,l⟩:=l
 .simp at i
 obtain _ | ⟨T,l⟩:=l
 .simp at i
 obtain _ | ⟨L,l⟩:=l
 .simp at i
 obtain _ | ⟨J,l⟩:=l
 .simp at i
 obtain _ | ⟨R,l⟩:=l
 .simp at i
 obtain _ | ⟨v,l⟩:=l
 .simp at i
 obtain _ | ⟨x,l⟩:=l
 .simp at i
 obtain _ | ⟨D,l⟩:=l
 .simp at i
 obtain _ | ⟨I,l⟩:=l
 .simp at i
 obtain _ | ⟨p,l⟩:=l
 .simp at i
 obtain _ | ⟨y,l⟩:=l
 .simp at i
 obtain _ | ⟨u,l⟩:=l
 .simp at i
 obtain _ | ⟨A,l⟩:=l
 .simp at i
 obtain _ | ⟨o,l⟩:=l
 .simp at i
 obtain _ | ⟨C,l⟩:=l
 .simp at i
 obtain _ | ⟨H,l⟩:=l
 .simp at i
 obtain _ | ⟨B,l⟩:=l
 .simp at i
 obtain _ | ⟨b,l⟩:=l
 .exact ⟨U,a1,V,N,Q,O,T,L,J,R,v,x,D,I,p,y,u,A,o,C,H,B,rfl⟩
 .simp at i
theorem fj {S T:Nat->Prop} {a b c:Qd} (h:Keep S a b) (k:Keep T b c) (hs:∀j,j<a.heap.size->T j->S j):Keep S a c:=
 ⟨k.os.trans h.os,k.tape.trans h.tape,k.output.trans h.output,NN h.size k.size,λi o hn=>(k.block i (NQ o h.size) (λe=>hn (hs i o e))).trans (h.block i o hn)⟩
structure JZ (Rm:Nat->Qb->Qd->Prop) (w:Qd) (X cap k:Nat) (wr:Qd) (mv:Nat->Qb) (AM AL:N_) (cm cl:Nat):Prop where
 box:wr.heap[X]?=some (.cells #[.slice AM k cm,.slice AL k cl,OH 0] 39 (0,0))
 oM:wr.ownsRow (X+1) 106 22 (.slice AM k cm) k (dQ mv k)
 oL:wr.ownsRow (X+1) 75 4 (.slice AL k cl) k (dQ (λ_=>#[OH (cap:Nat),OJ,OH 0,OH 0]) k)
 sm:∀x,x<k->(mv x).size=22/\(mv x).toList.all (·.oneCell')=true
 g:∀x,x<k->∀w2,Keep (λj=>j=w.heap.size+1\/j=X\/mX (.slice AM k cm) (.slice AL k cl) j) wr w2->Rm x (mv x) w2
 lo:w.heap.size+2<=X
 q:aq w wr
def M8 (S:Nat->Prop) (Rm:Nat->Qb->Qd->Prop) (N cap:Nat) (w:Qd) (e:Ending) (h:Qd):Prop:=
 ∃(vs':Qb) (mv:Nat->Qb),e=.returned (.tuple #[.agg vs',OH 0])/\RWv (aF S h) vs' N mv (λ_=>#[OH (cap:Nat),OJ,OH 0,OH 0]) 0/\(∀x,x<N->Rm x (mv x) h)/\aq w h
theorem GF {S:Nat->Prop} {Rm:Nat->Qb->Qd->Prop} {i0 i1 i2 i3 i5 i6 i7 i8 i9 U ab T L:Value} {N cap:Nat} {w:Qd} (hS:∀k,S k->k<w.heap.size) (hN:N<=1000) (cr:cap<=1048576) (c7:∀i,aq w i->Calls prog 18 #[.agg #[i0,i1,i2,i3,OH (N:Nat),i5,i6,i7,i8,i9,U,OH (cap:Nat),ab,T,L]] i λe b5=>e=.returned (OH 0)/\aq i b5) (hm:∀k i,k<N->aq w i->Calls prog 46 #[.agg #[i0,i1,i2,i3,OH (N:Nat),i5,i6,i7,i8,i9,U,OH (cap:Nat),ab,T,L],OH (k:Nat)] i λe b5=>∃m:Qb,e=.returned (.tuple #[.agg m,OH 0])/\(m.size=22/\m.toList.all (·.oneCell')=true)/\aq i b5/\∀p,aq w p->Keep (λj=>j<i.heap.size) b5 p->Rm k m p):Calls prog 14 #[.agg #[i0,i1,i2,i3,OH (N:Nat),i5,i6,i7,i8,i9,U,OH (cap:Nat),ab,T,L]] w (M8 S Rm N cap w):=by
 obtain ⟨W1,ao⟩:∃W1,(w.alloc (.cells #[i0,i1,i2,i3,OH (N:Nat),i5,i6,i7,i8,i9,U,OH (cap:Nat),ab,T,L] 29)).alloc (.cells #[OJ,OJ,OH 0] 39)=W1:=⟨_,rfl⟩;have g0:W1.heap[w.heap.size]?=some (.cells #[i0,i1,i2,i3,OH (N:Nat),i5,i6,i7,i8,i9,U,OH (cap:Nat),ab,T,L] 29 (0,0)):=by rw [<-ao];exact sb (NG w _) _ ((br _).alloc (NF _) _)
 have g1:W1.heap[w.heap.size+1]?=some (.cells #[OJ,OJ,OH 0] 39 (0,0)):=by rw [<-ao];have:=NG (w.alloc (.cells #[i0,i1,i2,i3,OH (N:Nat),i5,i6,i7,i8,i9,U,OH (cap:Nat),ab,T,L] 29)) (.cells #[OJ,OJ,OH 0] 39);rwa [NZ] at this
 have q0:aq w W1:=by rw [<-ao];exact ((br w).alloc (NF _) _).alloc (by rw [NZ];omega) _
 have bN:W1.heap.size=w.heap.size+2:=by rw [<-ao];simp
 have t4:∀i,aq W1 i->i.cell? (ar w.heap.size 4)=some (OH (N:Nat)):=λi q=>NH i w.heap.size 4 _ _ _ (sb g0 i q);have cx:∀i,aq W1 i->i.cell? (ar w.heap.size 11)=some (OH (cap:Nat)):=λi q=>NH i w.heap.size 11 _ _ _ (sb g0 i q);have tl:=sl g1;obtain ⟨co,Hm,bO,G0,G1,Q0,HS,aR⟩:=ak c7 hm ao g0 g1 q0 hS bN;have q1:=br W1;clear c7 hm ao g0 g1 q0 hS bN;go_enter func14,ntmps14;go_wp2_with (refine aK #[i0,i1,i2,i3,OH (N:Nat),i5,i6,i7,i8,i9,U,OH (cap:Nat),ab,T,L] (b:=w.heap.size) (by rw [bO.o];exact G0.o) wt rfl rfl rfl rfl ?_);rw [bO.o];refine (co.o _ Q0.o).mono ?_;rintro e p ⟨rfl,k2⟩;have q2:=bt q1 k2;clear k2;go_wp2_with fail;obtain ⟨X,hX⟩:∃X,p.heap.size=X:=⟨_,rfl⟩;obtain ⟨W3,bd⟩:∃W3,p.alloc (.cells #[OJ,OJ,OH 0] 39)=W3:=⟨_,rfl⟩;have g3:W3.heap[X]?=some (.cells #[OJ,OJ,OH 0] 39 (0,0)):=by rw [<-bd,<-hX];exact NG p _
 have q3:aq W1 W3:=by rw [<-bd];exact q2.alloc q2.size _
 have gX:w.heap.size+2<=X:=by rw [<-hX,<-aR.o];exact q2.size
 have m3:JZ Rm w X cap 0 W3 (λ_=>#[]) none none 0 0:=⟨g3,NV ..,NV ..,λx hx=>absurd hx (Nat.not_lt_zero _),λx hx=>absurd hx (Nat.not_lt_zero _),gX,Q0.o.trans (q3.mono Q0.o.size)⟩;rw [hX,bd];obtain ⟨M3,Q3⟩:=ae m3 q3;clear m3 g3 bd hX q2 q1 q3
 go_loopw [6] (λv wr=>∃k:Nat,k<=N/\v=OH k/\∃mv AM AL cm cl,JZ Rm w X cap k wr mv AM AL cm cl/\aq W1 wr) (λv _=>N-(intOf v).toNat)
 .exact ⟨0,NJ _,rfl,_,_,_,_,_,M3.o,Q3.o⟩
 case round=>
  obtain ⟨k,hk,rfl,mv,AM,AL,cm,cl,m,q⟩:=hrel;have h:=aa m;have tb:=bx3 m.box;have bv:=NE m.box;have QR:=aa q;clear m;by_cases cb:k<N
  .have d0:(k:Int)<N:=ap;have cs:IntKind.i64.wrap ((k:Int)+1)=(k:Int)+1:=NK _ ap;go_wp2_with (refine aK #[i0,i1,i2,i3,OH (N:Nat),i5,i6,i7,i8,i9,U,OH (cap:Nat),ab,T,L] (b:=w.heap.size) (sb G0.o _ QR.o) wt rfl rfl rfl rfl ?_);refine (Hm.o k wr cb h.o.q).mono ?_;rintro e w5 ⟨m1,rfl,⟨z,o⟩,k5,hR⟩;obtain ⟨a0,a1,a2,a3,a4,a5,a6,a7,a8,a9,D,I,H,Z,B,Y,C,V,A,Q,R,J,rfl⟩:=M5 z;obtain ⟨O,K5,HR⟩:=af o k5 hR;clear z o hR k5 tb q;go_upto_region 9 with (refine aH (NG _ _) jc rfl rfl rfl rfl rfl rfl O.o ?_;intro w6 e6 k6;obtain ⟨E6,K6⟩:=ae e6 (aL k6);clear e6 k6);have k6:=bt K5.o K6.o;have b6:=sb h.o.box w6 k6;have ci:=bx3 b6;obtain ⟨B6,bo,bG⟩:=af b6 (ay h.o.oM k6) (ay h.o.oL k6);have cw:=k6.size;have b4:=aa k6;clear b6 k6;go_wp2_with (first | (refine aK #[a0,a1,a2,a3,a4,a5,a6,a7,a8,a9,D,I,H,Z,B,Y,C,V,A,Q,R,J] E6.o jc rfl rfl rfl rfl ?_) | (at_builtin;refine dJ Jc _ rfl (.tmp 29) (.tmp 31) rfl (X+1) (.slice AM k cm) k _ rfl (bo.o.alloc _) (some (ar w6.heap.size 0)) 1 1 #[a0,a1,a2,a3,a4,a5,a6,a7,a8,a9,D,I,H,Z,B,Y,C,V,A,Q,R,J].toList rfl (dN w6 _ _ w6.heap.size rfl) rfl (λu hu=>List.all_eq_true.1 O.o u hu) ap (by unfold maxLen;omega) (by simp;omega) ?_));intro A2 c2 w7 o7 b7 g7 n7;have kA:aq w6 (w6.alloc (.cells #[a0,a1,a2,a3,a4,a5,a6,a7,a8,a9,D,I,H,Z,B,Y,C,V,A,Q,R,J] 106)):=(br w6).alloc (NF _) _;have bb:w7.heap[X]?=_:=(b7.block X ap).trans (sb B6.o _ kA);have kM:Keep (λj=>(Value.slice AM k cm).ownBlock=some j) w6 w7:=((Keep.refl _ w6).alloc _).grown g7 (λk hk=>.inr hk);have bV:=kM.own bG.o (λj h1 h2=>fN bG.o bo.o (by decide) j h1 h2);have cM:=kM.size;have cj:=bx3 bb;have cL:=NE bb;obtain ⟨cc,KM,bX,O7,N7⟩:=ah bb kM bV o7 n7;clear kA bb kM bV o7 n7 b7 g7 ci;go_upto_region 10 with (fail);obtain ⟨W8,be⟩:∃W8,w7.setCell (ar X 0) (.slice A2 (k+1) c2)=W8:=⟨_,rfl⟩;have k8:Keep (λj=>j=X) w7 W8:=by rw [<-be];exact Keep.setCell (S:=λj=>j=X) (Keep.refl _ _) _ (.inr rfl) _
   have b8:W8.heap[X]?=some (.cells #[.slice A2 (k+1) c2,.slice AL k cl,OH 0] 39 (0,0)):=by rw [<-be];exact ss cc.o
   have bM:=k8.own O7.o (λj h1 h2=>by have:=(O7.o.lt j h1).1;omega);have bz:=k8.own bX.o (λj h1 h2=>by have:=(bX.o.lt j h1).1;omega);rw [be];have q8:aq W1 W8:=(bt QR.o b4.o).trans ((KM.o.toBelow (by have:=QR.o.size;omega) (λj e=>by have:=(bo.o.lt j e).1;have:=h.o.lo;have:=aR.o;omega)).trans (k8.toBelow (by have:=QR.o.size;omega) (λj e=>by have:=h.o.lo;have:=aR.o;omega)));have cA:=k8.size;have cP:=NE b8;have cd:=bx3 b8;obtain ⟨cn,K8,c8,c6,Q8⟩:=ah b8 k8 bM bz q8;clear b8 k8 bM bz be cj;go_wp2_with (at_builtin;refine dJ Jd _ rfl (.tmp 35) (.tmp 40) rfl (X+1) (.slice AL k cl) k _ rfl (c6.o.alloc _) (some (ar W8.heap.size 0)) 1 1 #[OH (cap:Nat),OJ,OH 0,OH 0].toList rfl (dN W8 _ _ W8.heap.size rfl) rfl (by simp [Value.oneCell']) ap (by unfold maxLen;omega) (by simp;omega) ?_);intro A3 c3 w9 o9 b9 g9 n9;have kA:aq W8 (W8.alloc (.cells #[OH (cap:Nat),OJ,OH 0,OH 0] 75)):=(br W8).alloc (NF _) _;have bf:w9.heap[X]?=_:=(b9.block X ap).trans (sb cn.o _ kA);have kL:Keep (λj=>(Value.slice AL k cl).ownBlock=some j) W8 w9:=((Keep.refl _ W8).alloc _).grown g9 (λk hk=>.inr hk);have bn:=kL.own c8.o (λj h1 h2=>fN c8.o c6.o (by decide) j h1 h2);have cO:=bx3 bf;have cv:=NE bf;have av:Keep (λj=>j=X) w9 (w9.setCell (ar X 1) (.slice A3 (k+1) c3)):=Keep.setCell (S:=λj=>j=X) (Keep.refl _ _) _ (.inr rfl) _;have bh:(w9.setCell (ar X 1) (.slice A3 (k+1) c3)).heap[X]?=some (.cells #[.slice A2 (k+1) c2,.slice A3 (k+1) c3,OH 0] 39 (0,0)):=ss bf;have b3:=av.own bn (λj h1 h2=>by have:=(bn.lt j h1).1;omega);have bi:=av.own o9 (λj h1 h2=>by have:=(o9.lt j h1).1;omega)
   have b0:dQ mv k++(#[a0,a1,a2,a3,a4,a5,a6,a7,a8,a9,D,I,H,Z,B,Y,C,V,A,Q,R,J]:Qb).toList=dQ (bC mv k #[a0,a1,a2,a3,a4,a5,a6,a7,a8,a9,D,I,H,Z,B,Y,C,V,A,Q,R,J]) (k+1):=by
    rw [mq,bK,xX λy hy=>(bF (f:=mv) (v:=#[a0,a1,a2,a3,a4,a5,a6,a7,a8,a9,D,I,H,Z,B,Y,C,V,A,Q,R,J]) (show y≠k by omega)).symm]
   have ad:dQ (λ_=>#[OH (cap:Nat),OJ,OH 0,OH 0]) k++(#[OH (cap:Nat),OJ,OH 0,OH 0]:Qb).toList=dQ (λ_=>#[OH (cap:Nat),OJ,OH 0,OH 0]) (k+1):=(mq _ _).symm
   have aP:Keep (λj=>j=w.heap.size+1\/j=X\/mX (.slice AM k cm) (.slice AL k cl) j) wr (w9.setCell (ar X 1) (.slice A3 (k+1) c3)):=
    fj (Keep.below b4.o) (fj (S:=(λj=>j=w.heap.size+1\/j=X\/mX (.slice AM k cm) (.slice AL k cl) j)) (KM.o.mono λj _ e=>.inr (.inr (.inl e))) (fj (S:=(λj=>j=w.heap.size+1\/j=X\/mX (.slice AM k cm) (.slice AL k cl) j)) (K8.o.mono λj _ e=>.inr (.inl e)) (fj (S:=(λj=>j=w.heap.size+1\/j=X\/mX (.slice AM k cm) (.slice AL k cl) j)) (kL.mono λj _ e=>.inr (.inr (.inr e))) (av.mono λj _ (e:j=X)=>(.inr (.inl e):(λj=>j=w.heap.size+1\/j=X\/mX (.slice AM k cm) (.slice AL k cl) j) j)) (λ_ _ e=>e)) (λ_ _ e=>e)) (λ_ _ e=>e)) (λ_ _ e=>e)
   have b2:∀j,j<wr.heap.size->(λj=>j=w.heap.size+1\/j=X\/mX (.slice A2 (k+1) c2) (.slice A3 (k+1) c3) j) j->(λj=>j=w.heap.size+1\/j=X\/mX (.slice AM k cm) (.slice AL k cl) j) j:=λj hj e=>by
    rcases e with e | e | e | e
    .exact .inl e
    .exact .inr (.inl e)
    .rcases N7.o with h1 | h1
     .rw [h1] at e;exact .inr (.inr (.inl e))
     .rw [h1] at e;simp at e;have:=b4.o.size;omega
    .rcases n9 with h1 | h1
     .rw [h1] at e;exact .inr (.inr (.inr e))
     .rw [h1] at e;simp at e;have:=b4.o.size;omega
   have aM:∀p,Keep (λj=>j=w.heap.size+1\/j=X\/mX (.slice A2 (k+1) c2) (.slice A3 (k+1) c3) j) (w9.setCell (ar X 1) (.slice A3 (k+1) c3)) p->aq w p:=λp kk=>by
    have h1:=fj aP kk b2
    exact h.o.q.trans (h1.toBelow h.o.q.size (λj e=>by
     rcases e with e | e | e | e
     .omega
     .have:=h.o.lo;omega
     .have:=(h.o.oM.lt j e).1;have:=h.o.lo;omega
     .have:=(h.o.oL.lt j e).1;have:=h.o.lo;omega))
   have hg:∀x,x<k+1->∀p,Keep (λj=>j=w.heap.size+1\/j=X\/mX (.slice A2 (k+1) c2) (.slice A3 (k+1) c3) j) (w9.setCell (ar X 1) (.slice A3 (k+1) c3)) p->Rm x (bC mv k #[a0,a1,a2,a3,a4,a5,a6,a7,a8,a9,D,I,H,Z,B,Y,C,V,A,Q,R,J] x) p:=λx hx p kk=>by
    by_cases aG:x=k
    .subst aG;rw [bK];refine HR.o p (aM p kk) ?_
     have cf:Keep (λj=>j<wr.heap.size) w5 (w9.setCell (ar X 1) (.slice A3 (x+1) c3)):=
      fj (Keep.below K6.o) (fj (S:=λj=>j<wr.heap.size) (KM.o.mono λj _ e=>(h.o.oM.lt j e).2) (fj (S:=λj=>j<wr.heap.size) (K8.o.mono λj _ (e:j=X)=>by rw [e];exact bv) (fj (S:=λj=>j<wr.heap.size) (kL.mono λj _ e=>(h.o.oL.lt j e).2) (av.mono λj _ (e:j=X)=>by rw [e];exact bv) (λ_ _ e=>e)) (λ_ _ e=>e)) (λ_ _ e=>e)) (λ_ _ e=>e)
     refine fj cf kk λj hj e=>?_;refine Classical.byContradiction λhc=>?_;rcases e with e | e | e | e
     .have:=h.o.q.size;have:=h.o.lo;omega
     .omega
     .rcases N7.o with h1 | h1
      .rw [h1] at e;exact hc (h.o.oM.lt j e).2
      .rw [h1] at e;simp at e;have:=K6.o.size;omega
     .rcases n9 with h1 | h1
      .rw [h1] at e;exact hc (h.o.oL.lt j e).2
      .rw [h1] at e;simp at e;have:=K6.o.size;omega
    .rw [bF _ _ aG];exact h.o.g x ap p (fj aP kk b2)
   rw [b0] at b3;have bl:=bi;rw [ad] at bl
   have b1:JZ Rm w X cap (k+1) (w9.setCell (ar X 1) (.slice A3 (k+1) c3)) (bC mv k #[a0,a1,a2,a3,a4,a5,a6,a7,a8,a9,D,I,H,Z,B,Y,C,V,A,Q,R,J]) A2 A3 c2 c3:=⟨bh,b3,bl,λx hx=>by
    by_cases aG:x=k
    .subst aG;rw [bK];exact ⟨rfl,O.o⟩
    .rw [bF _ _ aG];exact h.o.sm x ap,hg,h.o.lo,aM _ (Keep.refl _ _)⟩
   have qn:=Q8.o.trans ((kL.toBelow (by have:=Q8.o.size;omega) (λj e=>by have:=(h.o.oL.lt j e).1;have:=h.o.lo;have:=aR.o;omega)).trans (av.toBelow (by have:=Q8.o.size;have:=kL.size;omega) (λj e=>by have:=h.o.lo;have:=aR.o;omega)));obtain ⟨bs,QN⟩:=ae b1 qn;clear b1 qn hg aM b2 aP b0 ad bl b3 bi bh av bn kL bf kA n9 g9 b9 o9 cd;go_wp2_with fail;go_roundw
   .exact ⟨k+1,by omega,by go_num,_,_,_,_,_,bs.o,QN.o⟩
   .simp [intOf];omega
  .obtain rfl:k=N:=ap;have ct:¬((k:Int)<k):=ap;obtain ⟨GX,c9⟩:=ae h.o.box (sb G1.o _ q);go_wp2_with (first | (refine aK #[.slice AM k cm,.slice AL k cl,OH 0] (b:=X) GX.o bE rfl rfl rfl rfl ?_) | (refine aH (b:=w.heap.size+1) c9.o bE rfl rfl rfl rfl rfl rfl rfl ?_;intro w9 e9 k9;obtain ⟨E9,K9⟩:=ae e9 k9;clear e9 k9))
   try simp only [Exit.inBlock,Exit.then]
   refine NX (dg rfl rfl E9.o bE) rfl ?_;have cy:=h.o.lo;have bA:=K9.o.own h.o.oM (λj h1 h2=>by have:=(h.o.oM.lt j h1).1;omega);have bI:=K9.o.own h.o.oL (λj h1 h2=>by have:=(h.o.oL.lt j h1).1;omega)
   have hc:k<=cm/\k<=cl:=by
    obtain ⟨_,_,e1,h1⟩:=aC bA;obtain ⟨_,_,e2,h2⟩:=aC bI;injection e1 with _ _ e1;injection e2 with _ _ e2
    omega
   have bw:∀j,S j->j<X+1:=λj e=>by have:=HS.o j e;omega
   exact ⟨_,mv,rfl,⟨⟨AM,cm,AL,cl,rfl,ik bA bw,ik bI bw,hc⟩,h.o.sm,λx hx=>⟨rfl,rfl⟩⟩,λx hx=>h.o.g x hx _ (K9.o.mono λj _ e=>.inl e),h.o.q.trans (K9.o.toBelow h.o.q.size (λj e=>ap))⟩
end Go.Proofs.YtgmajkppbhiopaaGreat
namespace Go.Proofs.YtgmajkppbhiopaaGreat
open Go.RowKit Go.ChangeShapes Go.WideShapes Go.ChangeAt
open Tryz
theorem CJ:kl prog 2 1 (Ma .i64):=ve underlying2 (by kernel_rfl)
theorem Bh:kl prog 27 1 (CD .u64):=pd underlying27 underlying253 (by kernel_rfl) (by kernel_rfl) (by kernel_rfl)
theorem LP {l:Qa} (h:∀z∈l,(Lit.int .u64 z).wf=true):U64 l:=λk hk=>by
 have:=h _ (wY hk);simpa [Lit.wf,IntKind.min,IntKind.max,IntKind.signed,IntKind.bits] using this
theorem FC {z:Int} (h:(Lit.int .i64 z).wf=true): -9223372036854775808<=z/\z<=9223372036854775807:=by
 simpa [Lit.wf,IntKind.min,IntKind.max,IntKind.signed,IntKind.bits] using h
theorem vG:prog.cellsOf 91=2:=by kernel_rfl
theorem tQ:prog.cellsOf 24=12:=by kernel_rfl
theorem tO:prog.cellsOf 29=15:=by kernel_rfl
theorem sK {w:Qd} {A:N_} {zs:Qa} {c:Nat} (h:zs.length<=c) (o:zs.length<=17592186043904) (p:Rd w A (aA .i64 zs)) (i:∀z∈zs,(Lit.int .i64 z).wf=true):cB w A zs c:=⟨h,o,p,vT i⟩
theorem Io:kl prog 91 2 rEx:=⟨vG,λ{H L W C I x} h o=>by
 obtain ⟨xs,n,_,v,hl,i,u⟩:=DataW.trod_struct underlying91 h;rw [vG] at hl;have p:xs.length=2:=i;obtain ⟨T,A,c,a1,R,U,N,J,Q⟩:=cu pq underlying91 v o (u 0 _ rfl) ap rfl;obtain ⟨D,B,d,y,O,b3,b4,b5,b6⟩:=cu pq underlying91 v o (u 1 _ rfl) ap rfl;clear h u i p v o
 match I,hl with
 | [c0,c1],_=>
  simp at a1 y
  exact ⟨rfl,⟨T,D⟩,A,c,B,d,by simp [a1,y],sK R N J Q,sK O b4 b5 b6⟩⟩
theorem En:kl prog 25 1 (rSl rEx 2):=yz underlying25 Io (by kernel_rfl) (of_decide_eq_true (by kernel_rfl))
def Nn:eQ Cfg:=λw h k=>∃A c,h=(dx A c k).toList/\lj w A c k/\(-9223372036854775808<=k.rate/\k.rate<=9223372036854775807)/\(-9223372036854775808<=k.mom/\k.mom<=9223372036854775807)/\W64 k.sizes/\W64 [k.shift,k.workers,k.batch,k.micros,k.steps,k.bucket,k.chunk,k.window,k.cap]
theorem Eo:kl prog 24 12 Nn:=⟨tQ,λ{H a7 W T cs x} h i=>by
 obtain ⟨xs,n,_,p,hl,u,o⟩:=DataW.trod_struct underlying24 h;rw [tQ] at hl;have v:xs.length=12:=u;obtain ⟨sz,A,c,a1,a2,a3,a4,a5,a6⟩:=cu sR underlying24 p i (o 0 _ rfl) ap rfl;obtain ⟨z1,h1,g1⟩:=cu jq underlying24 p i (o 1 _ rfl) ap rfl;obtain ⟨z2,I,g2⟩:=cu CJ underlying24 p i (o 2 _ rfl) ap rfl;obtain ⟨z3,R,g3⟩:=cu CJ underlying24 p i (o 3 _ rfl) ap rfl;obtain ⟨z4,J,g4⟩:=cu jq underlying24 p i (o 4 _ rfl) ap rfl;obtain ⟨Z,N,g5⟩:=cu jq underlying24 p i (o 5 _ rfl) ap rfl;obtain ⟨z6,U,g6⟩:=cu jq underlying24 p i (o 6 _ rfl) ap rfl;obtain ⟨Y,L,g7⟩:=cu jq underlying24 p i (o 7 _ rfl) ap rfl;obtain ⟨z8,Q,g8⟩:=cu jq underlying24 p i (o 8 _ rfl) ap rfl;obtain ⟨z9,V,g9⟩:=cu jq underlying24 p i (o 9 _ rfl) ap rfl;obtain ⟨C,y,a8⟩:=cu jq underlying24 p i (o 10 _ rfl) ap rfl;obtain ⟨D,B,a0⟩:=cu jq underlying24 p i (o 11 _ rfl) ap rfl;clear h o u v p i
 match cs,hl with
 | [c0,c1,c2,c3,c4,c5,c6,c7,c8,c9,c10,c11],_=>
  simp at a1 h1 I R J N U L Q V y B;refine ⟨rfl,⟨sz,z1,z2,z3,z4,Z,z6,Y,z8,z9,C,D⟩,A,c,by simp [dx,a1,h1,I,R,J,N,U,L,Q,V,y,B],⟨a2,a3,a4,a5⟩,FC g2,FC g3,vT a6,?_⟩;refine vT λz O=>?_;simp only [List.mem_cons,List.not_mem_nil,or_false] at O
  rcases O with rfl | rfl | rfl | rfl | rfl | rfl | rfl | rfl | rfl<;>assumption⟩
def MQ:eQ Inp:=λw u i=>∃A c D h T o R p,u=(aN A c D h T o R p i).toList/\km w A c D T o R i/\i.data.length<=h/\h<=9223372036854775807/\i.draws.length<=p/\p<=9223372036854775807/\o<=9223372036854775807/\W64 i.cfg.sizes/\W64 [i.cfg.shift,i.cfg.workers,i.cfg.batch,i.cfg.micros,i.cfg.steps,i.cfg.bucket,i.cfg.chunk,i.cfg.window,i.cfg.cap]
theorem Em:kl prog 29 15 MQ:=⟨tO,λ{H a0 W I cs x} h i=>by
 obtain ⟨xs,n,_,v,hl,o,u⟩:=DataW.trod_struct underlying29 h;rw [tO] at hl;have p:xs.length=4:=o;obtain ⟨k,A,c,y,k2,k3,k4,k5,k6⟩:=cu Eo underlying29 v i (u 0 _ rfl) ap rfl;obtain ⟨Z,D,cd,C,J,N,d4,d5⟩:=cu En underlying29 v i (u 1 _ rfl) ap rfl;obtain ⟨st,T,ct,t1,t2,L,Q,t5,U⟩:=cu pq underlying29 v i (u 2 _ rfl) ap rfl;obtain ⟨dr,R,cr,B,r2,O,Y,r5,V⟩:=cu Bh underlying29 v i (u 3 _ rfl) ap rfl;clear h u o p v i
 match cs,hl with
 | [c0,c1,c2,c3,c4,c5,c6,c7,c8,c9,c10,c11,c12,c13,c14],_=>
  simp [dx] at y C t1 B
  exact ⟨rfl,⟨k,Z,st,dr⟩,A,c,D,cd,T,ct,R,cr,by simp [aN,y,C,t1,B],⟨k2,d5,d4,sK t2 Q t5 U,r5,Y,LP V,k3,k4⟩,J,N,r2,O,L,k5,k6⟩⟩
theorem sS {H:Type} {B:Qf×Value->H} {W:Qd} {base:Nat} {v:Value} {d:DataW H} {p:List MemPlace} (o:Value.okWide prog W .any base 29 v) (h:DataW.Trod B prog W 0 (λ_=>true) true 29 v d p) (z:fH prog 29 d):
  ∃(A:N_) (c:Nat) (D:N_) (u:Nat) (T:N_) (x:Nat) (R:N_) (y:Nat) (i:Inp),v=.agg (aN A c D u T x R y i)/\km W A c D T x R i/\i.data.length<=u/\u<=9223372036854775807/\i.draws.length<=y/\y<=9223372036854775807/\x<=9223372036854775807/\W64 i.cfg.sizes/\W64 [i.cfg.shift,i.cfg.workers,i.cfg.batch,i.cfg.micros,i.cfg.steps,i.cfg.bucket,i.cfg.chunk,i.cfg.window,i.cfg.cap]:=by
 obtain ⟨C,rfl,_⟩:=okWide_struct underlying29 o;obtain ⟨i,⟨A,c,D,u,T,x,R,y,e,h1⟩,_⟩:=rr Em h z;refine ⟨A,c,D,u,T,x,R,y,i,?_,h1⟩;obtain ⟨l⟩:=C;have I:l=_:=e;rw [I]
theorem jn {P:Program} {ops:Qh} {rest:List Oper} {op:Oper} {a:Qi} {w:Qd} {Q:Exit->Qi->Qd->Prop} {p:Qf} {x:Operand} {b o:Nat} {xs:Qb} {t:Qf} {C:Nat×Nat} (i:Qb) (hb:w.heap[b]?=some (.cells xs t C)) (hr:cY P p i.size) (hw:Region.wanted op (yielded ops a.tmps)=true) (u:op.op=.load p x) (B:a.eval x=.pointer (some (ar b o))) (hcs:(xs.toList.drop o).take i.toList.length=i.toList) (h:wpList P ops Q rest (a.put op.dst (.agg i)) w):wpList P ops Q (op::rest) a w:=by
 obtain ⟨⟨d,h1,v⟩,A⟩:=hr;refine wpList_step λK y=>?_;rw [if_pos hw];exact wp_load_mid p x u b o B i.toList d (eU hb o hcs) h1 v (by simpa using A) (y _ _ (by simpa using h))
end Go.Proofs.YtgmajkppbhiopaaGreat
namespace Go.Proofs.YtgmajkppbhiopaaGreat
open Go.RowKit
open Tryz
theorem LR {t:Tg} {h:Acn} {D:Bool} (v:D=true↔t=h.tg) (h1:t.a=h.st) (i:t.b=h.bk) (u:t.c=h.ph) (o:t.d=h.rd) (p:t.e=h.ch):true=D:=by
 obtain ⟨a,b,c,d,e⟩:=t;simp only at h1 i u o p;subst h1 i u o p;exact (v.2 rfl).symm
theorem MO {t:Tg} {i:Acn} {D:Bool} (o:D=true↔t=i.tg) (h:¬(t.a=i.st/\t.b=i.bk/\t.c=i.ph/\t.d=i.rd/\t.e=i.ch)):false=D:= (Bool.eq_false_iff.2 λe=>h (by rw [o.1 e];exact ⟨rfl,rfl,rfl,rfl,rfl⟩)).symm
theorem CR {H:Nat->Prop} {w:Qd} {b x:Nat} {i:Inp} {a:MAd} {m:Mst} (h:aV H w b i x a m) (hn:(cK i x m.st).length<=m.nx) (u v:N_):Calls prog 217 #[(au b),.pointer u,.pointer v] w λe D=>e=.returned (.bool false)/\aq w D:=by
 have p:=wZ h hn;have y:=aa p;clear p h hn;go_enter func217,ntmps217;go_wp2_with fail;refine y.o.mono ?_;rintro e J ⟨rfl,B⟩;go_wp2_with (refine aH (NG _ _) mh rfl rfl rfl rfl rfl rfl rfl ?_;intro N C A;obtain ⟨L,I⟩:=ae C (bt B (aL A));clear C A B);go_ret;exact ⟨rfl,I.o⟩
theorem CQ {H:Nat->Prop} {w:Qd} {b x:Nat} {i:Inp} {a:MAd} {m:Mst} (h:aV H w b i x a m) {y:Itm} (L:(cK i x m.st)[m.nx]?=some y) (V:y.kind≠3) (T:y.kind≠4) (u v:N_):Calls prog 217 #[(au b),.pointer u,.pointer v] w λe R=>e=.returned (.bool true)/\aq w R:=by
 have p:=jD h L;obtain ⟨B,Z,D,b0,b1,i0,i1,i2,i3,i4,i5,i6,A⟩:=rI y;have O:(y.kind:Int)=B:=by have:=A;simp only [bj,List.cons.injEq,Value.int.injEq,true_and] at this;exact this.1
 rw [A] at p;have n3:¬B=3:=ap;have n4:¬B=4:=ap;have C:=aa p;clear p h L A O V T;go_enter func217,ntmps217;go_wp2_with fail;refine C.o.mono ?_;rintro e Q ⟨rfl,I⟩;go_upto_region 2 with (refine aH (NG _ _) mh rfl rfl rfl rfl rfl rfl rfl ?_;intro N J D;obtain ⟨U,Y⟩:=ae J (bt I (aL D));clear J D I);have t0:N.cell? (ar Q.heap.size 0)=some (OH B):=NH N _ 0 _ _ _ U.o;go_wp2_with fail;go_ret;exact ⟨rfl,Y.o⟩
theorem yP {H:Nat->Prop} {w:Qd} {b x:Nat} {i:Inp} {a:MAd} {m:Mst} (h:aV H w b i x a m) {y:Itm} (hy:(cK i x m.st)[m.nx]?=some y) (h3:y.kind=3) (u:N_) {base l:Nat} {g:Option Nat} {s:LSt} (Y:aY w base l g s) (Q:s.msgs.length<=100000000000):Calls prog 217 #[(au b),.pointer u,(au l)] w λe w'=>e=.returned (.bool (decide (s.msgs.length<s.recv+s.cap)))/\aq w w':=by
 have p:=jD h hy;obtain ⟨U,k1,T,b0,b1,i0,i1,i2,i3,i4,i5,i6,A⟩:=rI y;have e0:(y.kind:Int)=U:=by have:=A;simp only [bj,List.cons.injEq,Value.int.injEq,true_and] at this;exact this.1
 rw [A] at p;obtain rfl:U=3:=ap;obtain ⟨D,L⟩:∃D,decide (s.msgs.length<s.recv+s.cap)=D:=⟨_,rfl⟩;have C:decide ((s.msgs.length:Int)-s.recv<s.cap)=D:=by rw [<-L];exact decide_eq_decide.2 ap
 rw [L];obtain ⟨I,HL,J⟩:=af p Y C;clear p h hy A e0 h3 Y L C;go_enter func217,ntmps217;go_wp2_with fail;refine I.o.mono ?_;rintro e w1 ⟨rfl,V⟩;go_upto_region 2 with (refine aH (NG _ _) mh rfl rfl rfl rfl rfl rfl rfl ?_;intro W2 Z T;obtain ⟨E2,B2⟩:=ae Z (bt V (aL T));clear Z T V);have t0:W2.cell? (ar w1.heap.size 0)=some (OH 3):=NH W2 _ 0 _ _ _ E2.o;go_wp2_with fail;obtain ⟨ok,ring,rows,hc,_⟩:=HL.o.below B2.o;refine (mz l _ _ _ _ _ _ hc ok.rs ap).mono ?_;rintro e w3 ⟨rfl,n,rfl⟩;have v:=NU B2.o n;obtain ⟨R,ring',rows',B,_⟩:=HL.o.below v;obtain ⟨N,O⟩:=ae v B;clear ok R hc B v;go_wp2_with fail;refine (Ld l _ _ _ _ _ _ O.o).mono ?_;rintro e w4 ⟨rfl,rfl⟩;go_wp2_with fail;go_ret;exact ⟨congrArg (λd=>Ending.returned (.bool d)) J.o,N.o⟩
theorem yQ {H:Nat->Prop} {w:Qd} {b x:Nat} {i:Inp} {a:MAd} {m:Mst} (h:aV H w b i x a m) {y:Itm} (hy:(cK i x m.st)[m.nx]?=some y) (V:y.kind=4) {p:Acn} (C:y.a=some p) (v:N_) {base l:Nat} {g:Option Nat} {s:LSt} (hL:aY w base l g s) (B:s.recv<s.msgs.length) (D:Bool) (L:D=true↔(aO s.msgs s.recv).tag=p.tg):Calls prog 217 #[(au b),(au l),.pointer v] w λe I=>e=.returned (.bool D)/\aq w I:=by
 have u:=jD h hy;rw [xg C rfl rfl,V] at u;have A:=λI (q:aq w I)=>tc base l g s I (hL.below q) B;obtain ⟨t,U⟩:∃t,(aO s.msgs s.recv).tag=t:=⟨_,rfl⟩;rw [U] at A L;obtain ⟨J,O,HD⟩:=af u A L;clear u h hy V hL B U A C L;go_enter func217,ntmps217;go_wp2_with fail;refine J.o.mono ?_;rintro e w1 ⟨rfl,Y⟩;go_upto_region 2 with (refine aH (NG _ _) mh rfl rfl rfl rfl rfl rfl rfl ?_;intro Q e2 k2;obtain ⟨Z,B2⟩:=ae e2 (bt Y (aL k2));clear e2 k2 Y);have t0:Q.cell? (ar w1.heap.size 0)=some (OH 4):=NH Q _ 0 _ _ _ Z.o;go_wp2_with fail;refine (O.o Q B2.o).mono ?_;rintro e w3 ⟨rfl,N⟩;obtain ⟨B3,E3⟩:=ae (bt B2.o N) (sb Z.o _ N);clear N t0;go_upto_region 8 with (refine aH (NG _ _) jM rfl rfl rfl rfl rfl rfl rfl ?_;intro W4 e4 T;obtain ⟨E4,B4,R⟩:=af e4 (bt B3.o (aL T)) (sb E3.o _ (aL T));clear e4 T);go_wp2_with (first | (refine jn #[OH t.a,OH t.b,OH t.c,OH t.d,OH t.e] E4.o jM rfl rfl rfl rfl ?_) | (refine jn #[OH (p.st:Nat),OH (p.bk:Nat),OH (p.ph:Nat),OH (p.rd:Nat),OH (p.ch:Nat)] R.o jM rfl rfl rfl rfl ?_))
 all_goals (go_ret;refine ⟨congrArg (λd=>Ending.returned (.bool d)) ?_,B4.o⟩;first | exact LR HD.o (by assumption) (by assumption) (by assumption) (by assumption) (by assumption) | exact MO HD.o (by rintro ⟨z1,z2,z3,z4,z5⟩;contradiction))
theorem EG {H:Nat->Prop} {w:Qd} {b x:Nat} {i:Inp} {a:MAd} {m:Mst} (h:aV H w b i x a m) {y:Itm} (U:(cK i x m.st)[m.nx]?=some y) (h4:y.kind=4) (v:N_) {base l:Nat} {g:Option Nat} {s:LSt} (R:aY w base l g s) (A:s.recv=s.msgs.length):Calls prog 217 #[(au b),(au l),.pointer v] w λe C=>e=.returned (.bool false)/\aq w C:=by
 have p:=jD h U;obtain ⟨O,k1,L,b0,b1,i0,i1,i2,i3,i4,i5,i6,u⟩:=rI y;have Z:(y.kind:Int)=O:=by have:=u;simp only [bj,List.cons.injEq,Value.int.injEq,true_and] at this;exact this.1
 rw [u] at p;obtain rfl:O=4:=ap;have B:=λC (q:aq w C)=>oq base l g s C (R.below q) A;obtain ⟨D,I⟩:=ae p B;clear p h U u Z h4 R A B;go_enter func217,ntmps217;go_wp2_with fail;refine D.o.mono ?_;rintro e w1 ⟨rfl,Q⟩;go_upto_region 2 with (refine aH (NG _ _) mh rfl rfl rfl rfl rfl rfl rfl ?_;intro J T L;obtain ⟨E2,Y⟩:=ae T (bt Q (aL L));clear T L Q);have t0:J.cell? (ar w1.heap.size 0)=some (OH 4):=NH J _ 0 _ _ _ E2.o;go_wp2_with fail;refine (I.o J Y.o).mono ?_;rintro e w3 ⟨rfl,N⟩;have B3:=aa (bt Y.o N);clear N t0;go_wp2_with (refine aH (NG _ _) jM rfl rfl rfl rfl rfl rfl rfl ?_;intro W4 e4 V;have B4:=aa (bt B3.o (aL V));clear e4 V);go_ret;exact ⟨rfl,B4.o⟩
theorem aV.i64 {H:Nat->Prop} {w:Qd} {b x:Nat} {i:Inp} {a:MAd} {m:Mst} (h:aV H w b i x a m) {j:Nat} {c:Qb} (o:w.heap[j]?=some (.cells c 2 (0,0))) (hm:Mut b a j):j=a.bp\/j=a.bm\/j=a.bg:=by
 rcases hm with e | e | e | e | e | e
 .exact absurd e (mR o h.blk (by decide))
 .exact .inl e
 .exact .inr (.inl e)
 .exact .inr (.inr e)
 .obtain ⟨rows,p,_⟩:=h.re;exact absurd (show some j=_ by rw [e];rfl) (ax o (by decide) p)
 .exact absurd e.symm (ax o (by decide) h.oO)
theorem aY.noI64 {w:Qd} {B l:Nat} {g:Option Nat} {s:LSt} (h:aY w B l g s) {j:Nat} {c:Qb} (i:w.heap[j]?=some (.cells c 2 (0,0))):¬dS l g j:=by
 rintro (e | e)
 .obtain ⟨o,hb⟩:=h.blk;exact absurd e (mR i hb (by decide))
 .subst e;obtain ⟨o,hb⟩:=h.ringBlk;exact absurd rfl (mR i hb (by decide))
theorem aY.mach {H G:Nat->Prop} {w o:Qd} {B l b x:Nat} {g:Option Nat} {s:LSt} {i:Inp} {a:MAd} {m:Mst} (v:aY w B l g s) (u:aV H w b i x a m) (p:a.bp<B/\a.bm<B/\a.bg<B) (hn:∀k,dS l g k->¬(Mut b a k\/G k)) (y:∀(j:Nat) (c:Qb),w.heap[j]?=some (.cells c 2 (0,0))->¬G j) (hk:Keep (λk=>Mut b a k\/G k) w o):aY o B l g s:=
 v.keep hk (hn l (.inl rfl)) (λj h=>hn j (.inr h)) (λj c h hb e=>e.elim (λe=>by rcases u.i64 h e with e | e | e<;>omega) (y j c h))
theorem aY.lt {w:Qd} {B l:Nat} {g:Option Nat} {s:LSt} (h:aY w B l g s):∀k,dS l g k->k<w.heap.size:=by
 rintro k (e | e)
 .rw [e];exact h.blocks.1
 .exact (h.blocks.2 k e).2
def CT (l:Nat) (g:Option Nat) (i:Nat) (h:Option Nat) (k:Nat):Prop:=dS l g k\/dS i h k
def WH (E:Nat->Prop) (l:Nat) (g:Option Nat) (i:Nat) (h:Option Nat) (k:Nat):Prop:=CT l g i h k\/E k
structure Wld (E:Nat->Prop) (B:Nat) (w:Qd) (b l l':Nat) (i:Inp) (x:Nat) (a:MAd) (m:Mst) (s t:LSt) (g g':Option Nat):Prop where
 mach:aV (WH E l g l' g') w b i x a m
 hn:∀k,Mut b a k->¬WH E l g l' g' k
 lf:aY w B l g s
 lt:aY w B l' g' t
 dj:∀k,dS l g k->¬dS l' g' k
 lo:b<B/\a.bp<B/\a.bm<B/\a.bg<B
 hB:B<=w.heap.size
 ne:∀k,CT l g l' g' k->¬E k
 ex:∀k,E k->k<w.heap.size
theorem Wld.below {E:Nat->Prop} {B:Nat} {w p:Qd} {b l u x:Nat} {i:Inp} {a:MAd} {m:Mst} {s t:LSt} {g o:Option Nat} (h:Wld E B w b l u i x a m s t g o) (hb:aq w p):Wld E B p b l u i x a m s t g o:=
 ⟨h.mach.below hb h.hn,h.hn,h.lf.below hb,h.lt.below hb,h.dj,h.lo,NN h.hB hb.size,h.ne,λk e=>NQ (h.ex k e) hb.size⟩
theorem Wld.newL {E:Nat->Prop} {B:Nat} {w:Qd} {b l o x:Nat} {i:Inp} {a:MAd} {m:Mst} {s t:LSt} {g p:Option Nat} (h:Wld E B w b l o i x a m s t g p):∀k,w.heap.size<=k->¬CT l g o p k:=by
 rintro k hk (e | e)
 .have:=h.lf.lt k e;omega
 .have:=h.lt.lt k e;omega
theorem Wld.new {E:Nat->Prop} {B:Nat} {w:Qd} {b l o x:Nat} {i:Inp} {a:MAd} {m:Mst} {s t:LSt} {g p:Option Nat} (h:Wld E B w b l o i x a m s t g p):∀k,w.heap.size<=k->¬WH E l g o p k:=by
 rintro k hk (e | e)
 .exact h.newL k hk e
 .have:=h.ex k e;omega
def Lz (b:Nat) (a:MAd) (l:Nat) (g:Option Nat) (i:Nat) (h:Option Nat) (k:Nat):Prop:=Mut b a k\/CT l g i h k
def ki (E:Nat->Prop) (B:Nat) (w:Qd) (b l h:Nat) (i:Inp) (x:Nat) (a:MAd) (g p:Option Nat) (m1:Mst) (s1 t1:LSt) (o:Qd):Prop:=
 ∃a1 g1,Wld E B o b l h i x a1 m1 s1 t1 g g1/\Keep (Lz b a l g h p) w o/\∀k,Lz b a1 l g h g1 k->Lz b a l g h p k\/w.heap.size<=k
theorem ki.below {E:Nat->Prop} {B:Nat} {w p:Qd} {b l u x:Nat} {i:Inp} {a:MAd} {m:Mst} {s t:LSt} {g o:Option Nat} (h:Wld E B w b l u i x a m s t g o) (hb:aq w p):ki E B w b l u i x a g o m s t p:=
 ⟨a,o,h.below hb,Keep.below hb,λ_ h=>.inl h⟩
theorem ki.own {E:Nat->Prop} {B:Nat} {w A:Qd} {b l v x:Nat} {i:Inp} {a:MAd} {m m1:Mst} {s t:LSt} {g u:Option Nat} (h:Wld E B w b l v i x a m s t g u) {T:Qd->Mst->Prop} (J:∀w m,T w m->m=m1) (H:zK (WH E l g v u) (λ_=>False) b i x a m T w A):ki E B w b l v i x a g u (adv i x m1) s t A:=by
 obtain ⟨D,R,h1, -, -,p,C,O,L⟩:=H;rw [J _ _ L] at h1;obtain ⟨I,N,Q⟩:=O;have o:=h.lo;have y:∀k,Mut b D k->¬WH E l g v u k:=λk hk=>(C k hk).elim (h.hn k) (h.new k)
 exact ⟨D,u,⟨h1,y,h.lf.mach h.mach o.2 (λk hk e=>e.elim (λe=>h.hn k e (.inl (.inl hk))) id) (λ_ _ _ h=>h) p,h.lt.mach h.mach o.2 (λk hk e=>e.elim (λe=>h.hn k e (.inl (.inr hk))) id) (λ_ _ _ h=>h) p,h.dj,by rw [I,N,Q];exact o,NN h.hB p.size,h.ne,λk e=>NQ (h.ex k e) p.size⟩,
  p.mono λk _ e=>e.elim .inl False.elim,λk hk=>hk.elim (λe=>(C k e).imp .inl id) (λe=>.inl (.inr e))⟩
theorem La {E:Nat->Prop} {B:Nat} {w:Qd} {b l N x:Nat} {i:Inp} {a:MAd} {m m1:Mst} {s t s1 t1:LSt} {g O:Option Nat} {C:Nat} (h:Wld E B w b l N i x a m s t g O) (hs:cq i) (hm:MOk i x m) (Z:J1 i x s) (J:t.msgs.length<100000000000) (a0: -9223372036854775808<=i.cfg.rate/\i.cfg.rate<=9223372036854775807) (a1: -9223372036854775808<=i.cfg.mom/\i.cfg.mom<=9223372036854775807) (hr:jm i x m s t m1 s1 t1 C):Calls prog 216 #[(au b),(au l),(au N)] w λe H=>e=.returned (OH (C:Nat))/\ki E B w b l N i x a g O m1 s1 t1 H:=by
 have v:∀{y:Itm} {ac:Acn},(cK i x m.st)[m.nx]?=some y->y.a=some ac->ac.at'.1<ac.at'.2/\ac.at'.2<=i.start.length:=λo p=>Cg hs.ok (dC o).2 p
 cases hr with
 | fin hf=>
  refine (CS h.mach hf _ _).mono ?_;rintro e H ⟨he,k⟩;exact ⟨he,ki.below h k⟩
 | own y o p=>
  refine (yR h.mach h.hn h.new hs o (hm.okAt hs o p) a0 a1 _ _).mono ?_;rintro e H ⟨he,hd⟩;exact ⟨he,ki.own h (λ_ _ e=>e) hd⟩
 | send y ac o p hk hroom=>
  refine (IH h.mach h.hn h.new hs o hk p (v o p).1 (v o p).2 _ h.lt hroom J h.hB (λk e=>.inl (.inr e)) h.lo.1).mono ?_;rintro e H ⟨he,H1,T,m2,h1,L, -, -, -,D,V,⟨f1,f2,f3⟩,rfl,U,hH,hL,hg⟩;have u:=h.lo
  have I:∀k,WH E l g N U k->H1 k:=λk e=>(hH k).2 (by
   rcases e with (e | e | e) | e
   .exact .inl (.inl (.inl e))
   .exact .inl (.inl (.inr (.inl e)))
   .exact .inr e
   .exact .inl (.inr e))
  have A:∀k,U=some k->dS N O k\/w.heap.size<=k:=λk e=>by
   rcases hg with rfl | ⟨j,e1,e2⟩
   .exact .inl (.inr e)
   .rw [e1] at e;cases e;exact .inr e2
  have Q:∀k,Mut b T k->¬WH E l g N U k:=λk hk e=>L k hk (I k e)
  refine ⟨he,T,U,⟨h1.step (Keep.refl _ _) (λk _ e=>I k e) Q,Q,h.lf.mach h.mach u.2 (λk hk e=>e.elim (λe=>h.hn k e (.inl (.inl hk))) (h.dj k hk)) (λj c hj=>h.lt.noI64 hj) D,hL,λk hk e=>?_,by rw [f1,f2,f3];exact u,NN h.hB D.size,λk hk Y=>?_,λk e=>NQ (h.ex k e) D.size⟩,
   D.mono λk _ e=>e.imp id .inr,λk hk=>?_⟩
  .rcases e with e | e
   .exact h.dj k hk (.inl e)
   .rcases A k e with e | e
    .exact h.dj k hk e
    .have:=h.lf.lt k hk;omega
  .rcases hk with e | e | e
   .exact h.ne k (.inl e) Y
   .exact h.ne k (.inr (.inl e)) Y
   .rcases A k e with e | e
    .exact h.ne k (.inr e) Y
    .have:=h.ex k Y;omega
  .rcases hk with e | e | e | e
   .exact (V k e).imp .inl id
   .exact .inl (.inr (.inl e))
   .exact .inl (.inr (.inr (.inl e)))
   .exact (A k e).imp (λe=>.inr (.inr e)) id
 | full y ac o p hk hf=>
  refine (IJ h.mach h.hn h.new hs o hk p (v o p).1 (v o p).2 _ h.lt hf).mono ?_;rintro e H ⟨he,k⟩;exact ⟨he,ki.below h k⟩
 | recv y ac o p hk hlt heq=>
  have R:=Z.len hs (dC o).1 (dC o).2 p (qI (dC o).2 p hk) hlt heq;have u:=h.lo;refine (II h.mach h.hn h.new hs o hk p (v o p).1 (v o p).2 _ h.lf (λk e=>.inl (.inl e)) u.1 u.2.2.2 hlt heq R.1 R.2).mono ?_;rintro e H ⟨he,T,m2,h1, -, -,D,V,⟨f1,f2,f3⟩,rfl,hL⟩;have L:∀k,Mut b T k->¬WH E l g N O k:=λk hk=>(V k hk).elim (h.hn k) (h.new k)
  exact ⟨he,T,O,⟨h1,L,hL,h.lt.mach h.mach u.2 (λk hk e=>e.elim (λe=>h.hn k e (.inl (.inr hk))) (λe=>h.dj k (.inl e) hk)) (λj c hj e=>h.lf.noI64 hj (.inl e)) D,h.dj,by rw [f1,f2,f3];exact u,NN h.hB D.size,h.ne,λk e=>NQ (h.ex k e) D.size⟩,
   D.mono λk _ e=>e.imp id (λe=>.inl (.inl e)),λk hk=>hk.elim (λe=>(V k e).imp .inl id) (λe=>.inl (.inr e))⟩
 | none y ac o p hk h0=>
  refine (s9 h.mach h.hn h.new hs o hk p _ h.lf (.inl h0)).mono ?_;rintro e H ⟨he,k⟩;rw [if_pos h0] at he;exact ⟨he,ki.below h k⟩
 | other y ac o p hk hlt hne=>
  refine (s9 h.mach h.hn h.new hs o hk p _ h.lf (.inr ⟨hlt,hne⟩)).mono ?_;rintro e H ⟨he,k⟩;rw [if_neg ap] at he;exact ⟨he,ki.below h k⟩
theorem KY {E:Nat->Prop} {B:Nat} {w:Qd} {b l u x:Nat} {i:Inp} {a:MAd} {m m1:Mst} {s t s1 t1:LSt} {g v:Option Nat} {C:Nat} (h:Wld E B w b l u i x a m s t g v) (hs:cq i) (hm:MOk i x m) (p:t.msgs.length<100000000000) (hr:jm i x m s t m1 s1 t1 C):Calls prog 217 #[(au b),(au l),(au u)] w λe o=>e=.returned (.bool (decide (C=0)))/\aq w o:=by
 cases hr with
 | fin hf=>exact CR h.mach hf _ _
 | own y hy ha=>
  have hk:=kU (dC hy).2 ha;exact CQ h.mach hy ap ap _ _
 | send y ac hy ha hk hroom=>
  refine (yP h.mach hy hk _ h.lt ap).mono ?_;rintro e o ⟨he,k⟩;rw [OA hroom] at he;exact ⟨he,k⟩
 | full y ac hy ha hk hf=>
  refine (yP h.mach hy hk _ h.lt ap).mono ?_;rintro e o ⟨he,k⟩;rw [OB ap] at he;exact ⟨he,k⟩
 | recv y ac hy ha hk hlt heq=>exact yQ h.mach hy hk ha _ h.lf hlt true ⟨λ_=>heq,λ_=>rfl⟩
 | none y ac hy ha hk h0=>exact EG h.mach hy hk _ h.lf h0
 | other y ac hy ha hk hlt hne=>exact yQ h.mach hy hk ha _ h.lf hlt false ⟨λe=>(by cases e),λe=>absurd e hne⟩
structure WAd where
 X:Nat
 b:Nat->Nat
 l:Nat->Nat
 a:Nat->MAd
 g:Nat->Option Nat
def WAd.mu (D:WAd) (x k:Nat):Prop:=Mut (D.b x) (D.a x) k
def WAd.li (D:WAd) (x k:Nat):Prop:=dS (D.l x) (D.g x) k
def WAd.all (D:WAd) (n k:Nat):Prop:=k=D.X\/∃x,x<n/\(D.mu x k\/D.li x k)
def WAd.oth (D:WAd) (n:Nat) (E:Nat->Prop) (x k:Nat):Prop:=(D.all n k\/E k)/\¬D.mu x k
structure gu (E:Nat->Prop) (i:Inp) (w:Qd) (D:WAd) (B:Nat) (M:WSt):Prop where
 mach:∀x,x<(az i).W->aV (D.oth (az i).W E x) w (D.b x) i x (D.a x) (M.m x)
 lnk:∀x,x<(az i).W->aY w B (D.l x) (D.g x) (M.s x)
 mm:∀x y k,x<(az i).W->y<(az i).W->D.mu x k->D.mu y k->x=y
 ml:∀x y k,x<(az i).W->y<(az i).W->D.mu x k->¬D.li y k
 ll:∀x y k,x<(az i).W->y<(az i).W->D.li x k->D.li y k->x=y
 xm:∀x,x<(az i).W->¬D.mu x D.X/\¬D.li x D.X
 lo:∀x,x<(az i).W->D.b x<B/\(D.a x).bp<B/\(D.a x).bm<B/\(D.a x).bg<B
 hB:B<=w.heap.size
 xl:D.X<w.heap.size
 ne:∀k,E k->¬D.all (az i).W k
 ex:∀k,E k->k<w.heap.size
section
variable {E E':Nat->Prop} {i:Inp} {w w':Qd} {D:WAd} {B:Nat} {M:WSt} {x:Nat}
theorem gu.lt (h:gu E i w D B M):∀k,D.all (az i).W k->k<w.heap.size:=by
 rintro k (rfl | ⟨x,o,e | e⟩)
 .exact h.xl
 .exact (h.mach x o).mlt k e
 .exact (h.lnk x o).lt k e
theorem gu.more (h:gu E i w D B M) (hb:aq w w') (he:∀k,E' k->k<w'.heap.size/\(E k\/w.heap.size<=k)):gu E' i w' D B M:=
 ⟨λx o=>(h.mach x o).step (Keep.below hb) (λk hk e=>⟨e.1.imp id λe=>(he k e).2.elim id λe=>absurd hk ap,e.2⟩) (λk hm e=>e.2 hm),λx o=>(h.lnk x o).below hb,h.mm,h.ml,h.ll,h.xm,h.lo,NN h.hB hb.size,NQ h.xl hb.size,
  λk e=>(he k e).2.elim (h.ne k) λe p=>by have:=h.lt k p;omega,λk e=>(he k e).1⟩
theorem gu.below (h:gu E i w D B M) (hb:aq w w'):gu E i w' D B M:=h.more hb λk e=>⟨NQ (h.ex k e) hb.size,.inl e⟩
theorem gu.keepQ (h:gu E i w D B M) {Q:Nat->Prop} (hk:Keep Q w w') (p:∀k,Q k->k=D.X\/E k) (he:∀(j:Nat) (c:Qb),w.heap[j]?=some (.cells c 2 (0,0))->B<=j->¬Q j):gu E i w' D B M:=
 ⟨λx o=>(h.mach x o).step (hk.mono λk _ e=>⟨(p k e).imp .inl id,λhm=>(p k e).elim (λe=>(h.xm x o).1 (e▸hm)) λe=>h.ne k e (.inr ⟨x,o,.inl hm⟩)⟩) (λk _ e=>e) (λk hm e=>e.2 hm),
  λx o=>(h.lnk x o).keep hk (λe=>(p _ e).elim (λe=>(h.xm x o).2 (e▸.inl rfl)) λe=>h.ne _ e (.inr ⟨x,o,.inr (.inl rfl)⟩)) (λj u e=>(p _ e).elim (λe=>(h.xm x o).2 (e▸.inr u)) λe=>h.ne _ e (.inr ⟨x,o,.inr (.inr u)⟩)) he,
  h.mm,h.ml,h.ll,h.xm,h.lo,NN h.hB hk.size,NQ h.xl hk.size,h.ne,λk e=>NQ (h.ex k e) hk.size⟩
def WAd.rest (D:WAd) (n:Nat) (E:Nat->Prop) (x k:Nat):Prop:=(D.all n k\/E k)/\¬D.mu x k/\¬D.li (pvW n x) k/\¬D.li x k
theorem gu.wld (h:gu E i w D B M) (o:x<(az i).W) (y:2<=(az i).W):Wld (D.rest (az i).W E x) B w (D.b x) (D.l (pvW (az i).W x)) (D.l x) i x (D.a x) (M.m x) (M.s (pvW (az i).W x)) (M.s x) (D.g (pvW (az i).W x)) (D.g x):=by
 have p:pvW (az i).W x<(az i).W:=mt ap;have v:=Ib o y;refine ⟨(h.mach x o).step (Keep.refl _ _) ?_ ?_,?_,h.lnk _ p,h.lnk x o,λk e u=>v (h.ll _ _ k p o e u),h.lo x o,h.hB,?_,?_⟩
 .rintro k _ ((e | e) | e)
  .exact ⟨.inl (.inr ⟨_,p,.inr e⟩),λhm=>h.ml _ _ k o p hm e⟩
  .exact ⟨.inl (.inr ⟨_,o,.inr e⟩),λhm=>h.ml _ _ k o o hm e⟩
  .exact ⟨e.1,e.2.1⟩
 .rintro k hm ((e | e) | e)
  .exact h.ml _ _ k o p hm e
  .exact h.ml _ _ k o o hm e
  .exact e.2.1 hm
 .rintro k hm ((e | e) | e)
  .exact h.ml _ _ k o p hm e
  .exact h.ml _ _ k o o hm e
  .exact e.2.1 hm
 .rintro k (e | e) u
  .exact u.2.2.1 e
  .exact u.2.2.2 e
 .rintro k ⟨e | e,_⟩
  .exact h.lt k e
  .exact h.ex k e
def WAd.upd (D:WAd) (x:Nat) (a1:MAd) (g1:Option Nat):WAd:=⟨D.X,D.b,D.l,bC D.a x a1,bC D.g x g1⟩
def Ci (E:Nat->Prop) (i:Inp) (w:Qd) (D:WAd) (B:Nat) (x:Nat) (h:WSt) (w':Qd):Prop:=
 ∃a1 g1,gu E i w' (D.upd x a1 g1) B h/\Keep (λk=>D.all (az i).W k/\k≠D.X) w w'/\∀k,(D.upd x a1 g1).all (az i).W k->D.all (az i).W k\/w.heap.size<=k
theorem gu.did (h:gu E i w D B M) (V:x<(az i).W) {p:Nat} (hp:p<(az i).W) {C:Nat->Prop} (hC:∀k,C k->D.mu x k\/D.li p k\/D.li x k) {a1:MAd} {g1:Option Nat} {m1:Mst} {s1 t1:LSt} {H:Nat->Prop} (hm:aV H w' (D.b x) i x a1 m1) (hH:∀k,(D.upd x a1 g1).oth (az i).W E x k->H k) (hk:Keep C w w') (a5:p≠x->aY w' B (D.l p) (D.g p) s1) (a8:aY w' B (D.l x) g1 t1) (ao:p=x->t1=s1) (U:∀k,Mut (D.b x) a1 k->C k\/w.heap.size<=k) (Y:∀k,dS (D.l x) g1 k->C k\/w.heap.size<=k) (a2:∀k,Mut (D.b x) a1 k->¬dS (D.l x) g1 k/\¬D.li p k/\¬E k) (ab:p≠x->∀k,dS (D.l x) g1 k->¬D.li p k) (a7:∀k,dS (D.l x) g1 k->¬E k) (a9:a1.bp<B/\a1.bm<B/\a1.bg<B):Ci E i w D B x ⟨bC M.m x m1,bC (bC M.s p s1) x t1⟩ w':=by
 have T:∀k,C k->D.all (az i).W k/\k≠D.X:=λk e=>by
  rcases hC k e with e | e | e
  .exact ⟨.inr ⟨x,V,.inl e⟩,λh2=>(h.xm x V).1 (h2▸e)⟩
  .exact ⟨.inr ⟨p,hp,.inr e⟩,λh2=>(h.xm p hp).2 (h2▸e)⟩
  .exact ⟨.inr ⟨x,V,.inr e⟩,λh2=>(h.xm x V).2 (h2▸e)⟩
 have L:∀k,(D.upd x a1 g1).mu x k->Mut (D.b x) a1 k:=λk e=>by
  have:(bC D.a x a1 x)=a1:=bK _ _ _;unfold WAd.mu WAd.upd at e;simp only [this] at e;exact e
 have J:∀y k,y≠x->(D.upd x a1 g1).mu y k->D.mu y k:=λy k A e=>by
  have:(bC D.a x a1 y)=D.a y:=bF _ _ A;unfold WAd.mu WAd.upd at e;simp only [this] at e;exact e
 have R:∀k,(D.upd x a1 g1).li x k->dS (D.l x) g1 k:=λk e=>by
  have:(bC D.g x g1 x)=g1:=bK _ _ _;unfold WAd.li WAd.upd at e;simp only [this] at e;exact e
 have I:∀y k,y≠x->(D.upd x a1 g1).li y k->D.li y k:=λy k A e=>by
  have:(bC D.g x g1 y)=D.g y:=bF _ _ A;unfold WAd.li WAd.upd at e;simp only [this] at e;exact e
 have a3:∀k,(D.upd x a1 g1).all (az i).W k->D.all (az i).W k\/w.heap.size<=k:=by
  rintro k (e | ⟨y,A,e⟩)
  .exact .inl (.inl e)
  .by_cases o:y=x
   .subst o;rcases e with e | e
    .exact (U k (L k e)).imp (λe=>(T k e).1) id
    .exact (Y k (R k e)).imp (λe=>(T k e).1) id
   .exact .inl (.inr ⟨y,A,e.imp (J y k o) (I y k o)⟩)
 -- what is changed or new is none of another worker's
 have N:∀y k,y<(az i).W->y≠x->(C k\/w.heap.size<=k)->¬D.mu y k/\(y≠p->¬D.li y k):=λy k A o e=>by
  rcases e with e | e
  .rcases hC k e with e | e | e
   .exact ⟨λu=>o (h.mm y x k A V u e),λ_ u=>h.ml x y k V A e u⟩
   .exact ⟨λu=>h.ml y p k A hp u e,λhn u=>hn (h.ll y p k A hp u e)⟩
   .exact ⟨λu=>h.ml y x k A V u e,λ_ u=>o (h.ll y x k A V u e)⟩
  .exact ⟨λu=>by have:=h.lt k (.inr ⟨y,A,.inl u⟩);omega,λ_ u=>by have:=h.lt k (.inr ⟨y,A,.inr u⟩);omega⟩
 have a0:∀y k,y<(az i).W->y≠x->dS (D.l x) g1 k->¬D.mu y k/\¬D.li y k:=λy k A o e=>by
  refine ⟨(N y k A o (Y k e)).1,?_⟩;by_cases Q:y=p
  .subst Q;exact ab o k e
  .exact (N y k A o (Y k e)).2 Q
 have a6:∀(j:Nat) (c:Qb),w.heap[j]?=some (.cells c 2 (0,0))->B<=j->¬C j:=λj c hj hb e=>by
  have ad:=h.lo x V;rcases hC j e with e | e | e
  .rcases (h.mach x V).i64 hj e with e | e | e<;>omega
  .exact (h.lnk p hp).noI64 hj e
  .exact (h.lnk x V).noI64 hj e
 refine ⟨a1,g1,⟨λy A=>?_,λy A=>?_,λy z k A Z O u=>?_,λy z k A Z O u=>?_,λy z k A Z O u=>?_,λy A=>?_,λy A=>?_,NN h.hB hk.size,NQ h.xl hk.size,λk e u=>?_,λk e=>NQ (h.ex k e) hk.size⟩,hk.mono λk _ e=>T k e,a3⟩
 .by_cases o:y=x
  .subst o
   show aV _ w' (D.b y) i y (bC D.a y a1 y) (bC M.m y m1 y)
   rw [bK,bK];exact hm.step (Keep.refl _ _) (λk _ e=>hH k e) (λk O u=>u.2 (by unfold WAd.mu WAd.upd;simp only [bK];exact O))
  .show aV _ w' (D.b y) i y (bC D.a x a1 y) (bC M.m x m1 y)
   rw [bF _ _ o,bF _ _ o];refine (h.mach y A).step (hk.mono λk _ e=>⟨.inl (T k e).1,(N y k A o (.inl e)).1⟩) (λk hl e=>⟨e.1.imp (λe=>(a3 k e).elim id λe=>absurd hl ap) id,λu=>e.2 ?_⟩) (λk O u=>u.2 ?_)
   .unfold WAd.mu WAd.upd;simp only [bF _ _ o];exact u
   .unfold WAd.mu WAd.upd;simp only [bF _ _ o];exact O
 .by_cases o:y=x
  .subst o
   show aY w' B (D.l y) (bC D.g y g1 y) (bC (bC M.s p s1) y t1 y)
   rw [bK,bK];exact a8
  .show aY w' B (D.l y) (bC D.g x g1 y) (bC (bC M.s p s1) x t1 y)
   rw [bF _ _ o,bF _ _ o];by_cases Q:y=p
   .subst Q;rw [bK];exact a5 o
   .rw [bF _ _ Q];exact (h.lnk y A).keep hk (λe=>(N y _ A o (.inl e)).2 Q (.inl rfl)) (λj hj e=>(N y _ A o (.inl e)).2 Q (.inr hj)) a6
 .by_cases o:y=x
  .by_cases v:z=x
   .rw [o,v]
   .subst o;exact absurd (J z k v u) (N z k Z v (U k (L k O))).1
  .by_cases v:z=x
   .subst v;exact absurd (J y k o O) (N y k A o (U k (L k u))).1
   .exact h.mm y z k A Z (J y k o O) (J z k v u)
 .by_cases o:y=x
  .subst o;by_cases v:z=y
   .subst v;exact (a2 k (L k O)).1 (R k u)
   .by_cases a4:z=p
    .subst a4;exact (a2 k (L k O)).2.1 (I z k v u)
    .exact (N z k Z v (U k (L k O))).2 a4 (I z k v u)
  .by_cases v:z=x
   .subst v;exact (a0 y k A o (R k u)).1 (J y k o O)
   .exact h.ml y z k A Z (J y k o O) (I z k v u)
 .by_cases o:y=x
  .by_cases v:z=x
   .rw [o,v]
   .subst o;exact absurd (I z k v u) (a0 z k Z v (R k O)).2
  .by_cases v:z=x
   .subst v;exact absurd (I y k o O) (a0 y k A o (R k u)).2
   .exact h.ll y z k A Z (I y k o O) (I z k v u)
 .by_cases o:y=x
  .subst o;refine ⟨λe=>?_,λe=>?_⟩
   .rcases U _ (L _ e) with e | e
    .exact (T _ e).2 rfl
    .have:=h.xl;exact absurd this (Nat.not_lt.2 e)
   .rcases Y _ (R _ e) with e | e
    .exact (T _ e).2 rfl
    .have:=h.xl;exact absurd this (Nat.not_lt.2 e)
  .exact ⟨λe=>(h.xm y A).1 (J y _ o e),λe=>(h.xm y A).2 (I y _ o e)⟩
 .by_cases o:y=x
  .subst o
   show D.b y<B/\(bC D.a y a1 y).bp<B/\(bC D.a y a1 y).bm<B/\(bC D.a y a1 y).bg<B
   rw [bK];exact ⟨(h.lo y A).1,a9⟩
  .show D.b y<B/\(bC D.a x a1 y).bp<B/\(bC D.a x a1 y).bm<B/\(bC D.a x a1 y).bg<B
   rw [bF _ _ o];exact h.lo y A
 .rcases u with u | ⟨y,A,u⟩
  .exact h.ne k e (.inl u)
  .by_cases o:y=x
   .subst o;rcases u with u | u
    .exact (a2 k (L k u)).2.2 e
    .exact a7 k (R k u) e
   .exact h.ne k e (.inr ⟨y,A,u.imp (J y k o) (I y k o)⟩)
end
structure iB (i:Inp) (w:Qd) (lo:Nat) (b l:Nat->Nat) (a:Nat->MAd) (s t:Nat->Nat) (k:Nat):Prop where
 mach:∀y,y<k->aV (λj=>j<s y\/t y<=j) w (b y) i y (a y) (fO i)
 win:∀y,y<k->∀j,Mut (b y) (a y) j->s y<=j/\j<t y
 chain:∀y,y<k->lo<=s y/\s y<=t y/\t y<=l y/\l y<w.heap.size
 next:∀y z,y<z->z<k->l y<s z
 lnk:∀y,y<k->∀B,aY w B (l y) none (LSt.new i.cfg.cap.toNat)
section
variable {i:Inp} {w w':Qd} {lo k:Nat} {b l:Nat->Nat} {a:Nat->MAd} {s t:Nat->Nat}
theorem iB.zero:iB i w lo b l a s t 0:=⟨λ_ h=>absurd h (Nat.not_lt_zero _),λ_ h=>absurd h (Nat.not_lt_zero _),λ_ h=>absurd h (Nat.not_lt_zero _),λ_ _ _ h=>absurd h (Nat.not_lt_zero _),λ_ h=>absurd h (Nat.not_lt_zero _)⟩
theorem kR {l j:Nat} (e:dS l none j):j=l:=e.elim id λe=>by cases e
theorem iB.keep (h:iB i w lo b l a s t k) {Q:Nat->Prop} (hk:Keep Q w w') (u:∀j,j<w.heap.size->Q j->(∀y,y<k->(j<s y\/t y<=j)/\j≠l y)/\∀c,w.heap[j]?≠some (.cells c 2 (0,0))):iB i w' lo b l a s t k:=by
 refine ⟨λy o=>(h.mach y o).step (hk.mono λj p e=>((u j p e).1 y o).1) (λj _ e=>e) (λj hm e=>?_),h.win,λy o=>?_,h.next,λy o B=>(h.lnk y o B).keep (hk.mono λj p e=>((⟨p,e⟩:j<w.heap.size/\Q j))) (λe=>((u _ e.1 e.2).1 y o).2 rfl) (λj e=>by cases e) λj c p _ e=>(u j e.1 e.2).2 c p⟩
 .have:=h.win y o j hm;omega
 .have:=h.chain y o;have:=hk.size;omega
theorem iB.below (h:iB i w lo b l a s t k) (hb:aq w w'):iB i w' lo b l a s t k:=h.keep (Q:=λ_=>False) (Keep.below hb) λ_ _ e=>e.elim
theorem iB.more (h:iB i w lo b l a s t k) {A:Nat} {a1:MAd} {l1:Nat} {u:Qd} (L:lo<=w.heap.size) (x:∀j,Mut A a1 j->w.heap.size<=j) (hm:∀(H:Nat->Prop) w'',Keep (λk=>k<w.heap.size) u w''->(∀k,H k->k<w.heap.size)->aV H w'' A i k a1 (fO i)) (h1:iB i u lo b l a s t k) (C:iB i w' lo b l a s t k) (hs:w.heap.size<=u.heap.size) (hk:Keep (λj=>j<w.heap.size\/u.heap.size<=j) u w') (hl:u.heap.size<=l1) (J:l1<w'.heap.size) (R:∀B,aY w' B l1 none (LSt.new i.cfg.cap.toNat)):
  iB i w' lo (bC b k A) (bC l k l1) (bC a k a1) (bC s k w.heap.size) (bC t k u.heap.size) (k+1):=by
 have D:=hm (λj=>j<w.heap.size) u (Keep.refl _ _) (λ_ e=>e);have v:=λj (e:Mut A a1 j)=>D.mlt j e
 have Q:aV (λj=>j<w.heap.size\/u.heap.size<=j) w' A i k a1 (fO i):=
  (D.step (H':=λj=>j<w.heap.size\/u.heap.size<=j) (Keep.refl _ _) (λj Y e=>e.elim id λe=>absurd Y ap) (λj e T=>by have:=x j e;have:=v j e;omega)).step hk (λ_ _ e=>e) (λj e T=>by have:=x j e;have:=v j e;omega)
 have o:∀y,y<k+1->y=k\/(y≠k/\y<k):=λy I=>ap;refine ⟨λy I=>?_,λy I=>?_,λy I=>?_,λy z N U=>?_,λy I=>?_⟩<;>rcases o y ap with rfl | ⟨e,p⟩
 .simp only [bK];exact Q
 .simp only [bF _ _ e];exact C.mach y p
 .simp only [bK];exact λj e=>⟨x j e,v j e⟩
 .simp only [bF _ _ e];exact C.win y p
 .simp only [bK];exact ⟨L,hs,hl,J⟩
 .simp only [bF _ _ e];exact C.chain y p
 .omega
 .rcases o z U with rfl | ⟨V,O⟩
  .simp only [bK,bF _ _ e];exact (h.chain y p).2.2.2
  .simp only [bF _ _ e,bF _ _ V];exact C.next y z N O
 .simp only [bK];exact R
 .simp only [bF _ _ e];exact C.lnk y p
theorem iB.mem (h:iB i w lo b l a s t (az i).W) {X:Nat} (hX:X<lo) (Q:X<w.heap.size) {E:Nat->Prop} (L:∀j,E j->j<lo/\j≠X) (Y:lo<=w.heap.size):
  gu E i w ⟨X,b,l,a,λ_=>none⟩ w.heap.size ⟨λ_=>fO i,λ_=>LSt.new i.cfg.cap.toNat⟩:=by
 have p:∀y z,y<z->z<(az i).W->t y<=s z/\l y<s z:=λy z O o=>by
  have h1:=h.next y z O o;have h2:=h.chain y ap;omega
 have J:∀y z j,y<(az i).W->z<(az i).W->Mut (b y) (a y) j->Mut (b z) (a z) j->y=z:=λy z j A o D u=>by
  have I:=h.win y A j D;have w2:=h.win z o j u;rcases Nat.lt_trichotomy y z with e | e | e
  .have:=p y z e o;omega
  .exact e
  .have:=p z y e A;omega
 have B:∀y z,y<(az i).W->z<(az i).W->l z<s y\/t y<=l z:=λy z A o=>by
  rcases Nat.lt_trichotomy y z with e | e | e
  .have:=p y z e o;have:=h.chain z o;omega
  .subst e;have:=h.chain y A;omega
  .have:=p z y e A;omega
 refine ⟨λx v=>(h.mach x v).step (Keep.refl _ _) ?_ (λj e u=>u.2 e),λx v=>h.lnk x v _,J,λy z j A o D u=>?_,λy z j A o D u=>?_,λx v=>⟨λe=>?_,λe=>?_⟩,λx v=>?_,NF _,Q,λj e u=>?_,λj e=>by have:=L j e;omega⟩
 .rintro j R ⟨(e | ⟨z,o,e | e⟩) | e,u⟩
  .have U:j=X:=e;have:=h.chain x v;omega
  .have N:z≠x:=λH=>by subst H;exact u e
   have I:=h.win z o j e;rcases Nat.lt_or_gt_of_ne N with H | H
   .have:=p z x H v;omega
   .have:=p x z H o;omega
  .have C:j=l z:=kR e;rw [C];exact B x z v o
  .have:=h.chain x v;have:=L j e;omega
 .have C:j=l z:=kR u;have I:=h.win y A j D;have:=B y z A o;omega
 .have Z:j=l y:=kR D;have T:j=l z:=kR u;rcases Nat.lt_trichotomy y z with e | e | e
  .have:=p y z e o;have:=h.chain z o;omega
  .exact e
  .have:=p z y e A;have:=h.chain y A;omega
 .have I:s x<=X/\X<t x:=h.win x v _ e;have:=h.chain x v;omega
 .have V:X=l x:=kR e;have:=h.chain x v;omega
 .have hl:=λj (e:Mut (b x) (a x) j)=>(h.mach x v).mlt j e;exact ⟨hl _ (.inl rfl),hl _ (.inr (.inl rfl)),hl _ (.inr (.inr (.inl rfl))),hl _ (.inr (.inr (.inr (.inl rfl))))⟩
 .have R:=L j e;rcases u with u | ⟨z,o,u | u⟩
  .exact R.2 u
  .have:=h.win z o j u;have:=h.chain z o;omega
  .have V:j=l z:=kR u;have:=h.chain z o;omega
end
section
variable {E:Nat->Prop} {i:Inp} {w w':Qd} {D:WAd} {B:Nat} {M M1:WSt} {x C:Nat}
theorem gu.oth_lt (h:gu E i w D B M):∀k,w.heap.size<=k->¬D.oth (az i).W E x k:=by
 rintro k hk ⟨e | e,_⟩
 .have:=h.lt k e;omega
 .have:=h.ex k e;omega
theorem gu.restE (h:gu E i w D B M) {k:Nat} (p:x<(az i).W) (u:pvW (az i).W x<(az i).W) (e:E k):D.rest (az i).W E x k:=
 ⟨.inr e,λo=>h.ne k e (.inr ⟨x,p,.inl o⟩),λo=>h.ne k e (.inr ⟨_,u,.inr o⟩),λo=>h.ne k e (.inr ⟨x,p,.inr o⟩)⟩
theorem gu.try (h:gu E i w D B M) (o:x<(az i).W) (N:2<=(az i).W) {m1:Mst} {s1 t1:LSt} (Q:ki (D.rest (az i).W E x) B w (D.b x) (D.l (pvW (az i).W x)) (D.l x) i x (D.a x) (D.g (pvW (az i).W x)) (D.g x) m1 s1 t1 w'):
  Ci E i w D B x ⟨bC M.m x m1,bC (bC M.s (pvW (az i).W x) s1) x t1⟩ w':=by
 have J:pvW (az i).W x<(az i).W:=mt ap;have L:=Ib o N;obtain ⟨a1,g1,hw,hk,hn⟩:=Q;have V:=h.wld o N
 refine h.did o J (C:=Lz (D.b x) (D.a x) (D.l (pvW (az i).W x)) (D.g (pvW (az i).W x)) (D.l x) (D.g x)) (λk e=>e.imp id id) hw.mach ?_ hk (λ_=>hw.lf) hw.lt (λe=>absurd e L) (λk e=>hn k (.inl e)) (λk e=>hn k (.inr (.inr e))) (λk e=>⟨λA=>hw.hn k e (.inl (.inr A)),λA=>hw.hn k e (.inl (.inl A)),λA=>hw.hn k e (.inr ?_)⟩)
  (λ_ k e A=>hw.dj k A e) (λk e A=>?_) hw.lo.2
 .rintro k ⟨e,T⟩;by_cases O:dS (D.l x) g1 k
  .exact .inl (.inr O)
  by_cases I:D.li (pvW (az i).W x) k
  .exact .inl (.inl I)
  refine .inr ?_;rcases e with (e | ⟨y,H,e⟩) | e
  .have U:k=D.X:=e;subst U;exact ⟨.inl (.inl rfl),(h.xm x o).1,I,(h.xm x o).2⟩
  .by_cases v:y=x
   .subst v;rcases e with e | e
    .exact absurd e T
    .refine absurd ?_ O;have R:bC D.g y g1 y=g1:=bK _ _ _;unfold WAd.li WAd.upd at e;simp only [R] at e;exact e
   .have p:D.mu y k\/D.li y k:=by
     unfold WAd.mu WAd.li WAd.upd at e;simp only [bF _ _ v] at e;exact e
    refine ⟨.inl (.inr ⟨y,H,p⟩),λu=>?_,I,λu=>?_⟩
    .rcases p with p | p
     .exact v (h.mm y x k H o p u)
     .exact h.ml x y k o H u p
    .rcases p with p | p
     .exact h.ml y x k H o p u
     .exact v (h.ll y x k H o p u)
  .exact ⟨.inr e,λu=>h.ne k e (.inr ⟨x,o,.inl u⟩),I,λu=>h.ne k e (.inr ⟨x,o,.inr u⟩)⟩
 .exact h.restE o J A
 .exact absurd (h.restE o J A) (hw.ne k (.inr e))
theorem gu.lone (h:gu E i w D B M) (o:x<(az i).W) {a1:MAd} {m1:Mst} (hm:aV (D.oth (az i).W E x) w' (D.b x) i x a1 m1) (hk:Keep (λk=>D.mu x k) w w') (J:∀k,Mut (D.b x) a1 k->D.mu x k\/w.heap.size<=k) (U:Fxd (D.a x) a1):
  Ci E i w D B x ⟨bC M.m x m1,bC (bC M.s x (M.s x)) x (M.s x)⟩ w':=by
 have L:=h.lo x o
 have out:∀k,Mut (D.b x) a1 k->¬D.li x k/\¬E k:=λk e=>by
  rcases J k e with e | e
  .exact ⟨h.ml x x k o o e,λu=>h.ne k u (.inr ⟨x,o,.inl e⟩)⟩
  .exact ⟨λu=>by have:=h.lt k (.inr ⟨x,o,.inr u⟩);omega,λu=>by have:=h.ex k u;omega⟩
 have T:aY w' B (D.l x) (D.g x) (M.s x):=(h.lnk x o).keep hk (λe=>h.ml x x _ o o e (.inl rfl)) (λj N e=>h.ml x x _ o o e (.inr N)) λj c N hb e=>by
  rcases (h.mach x o).i64 N e with e | e | e<;>omega
 refine h.did o o (C:=λk=>D.mu x k\/D.li x k) (H:=D.oth (az i).W E x) (a1:=a1) (g1:=D.g x) (m1:=m1) (s1:=M.s x) (t1:=M.s x) (λk e=>e.imp id .inr) hm ?_ (hk.mono λk _ e=>.inl e) (λe=>absurd rfl e) T (λ_=>rfl) (λk e=>(J k e).imp .inl id) (λk e=>.inl (.inr e)) (λk e=>⟨(out k e).1,(out k e).1,(out k e).2⟩) (λe=>absurd rfl e)
  (λk e u=>h.ne k u (.inr ⟨x,o,.inr e⟩)) (by obtain ⟨R,V,Z⟩:=U;rw [R,V,Z];exact L.2)
 rintro k ⟨e,Y⟩;rcases e with (e | ⟨y,I,e⟩) | e
 .have Q:k=D.X:=e;subst Q;exact ⟨.inl (.inl rfl),(h.xm x o).1⟩
 .by_cases p:y=x
  .subst p;rcases e with e | e
   .exact absurd e Y
   .have O:bC D.g y (D.g y) y=D.g y:=bK _ _ _;unfold WAd.li WAd.upd at e;simp only [O] at e;exact ⟨.inl (.inr ⟨y,I,.inr e⟩),λv=>h.ml y y k I I v e⟩
  .have A:D.mu y k\/D.li y k:=by
    unfold WAd.mu WAd.li WAd.upd at e;simp only [bF _ _ p] at e;exact e
   refine ⟨.inl (.inr ⟨y,I,A⟩),λv=>?_⟩;rcases A with A | A
   .exact p (h.mm y x k I o A v)
   .exact h.ml x y k o I v A
 .exact ⟨.inr e,λv=>h.ne k e (.inr ⟨x,o,.inl v⟩)⟩
theorem Ir (h:x<(az i).W) (h1:(az i).W<2):pvW (az i).W x=x:=by
 unfold pvW;rw [show (az i).W=1 by omega,Nat.mod_one];omega
theorem je (h1:(az i).W<2) {m:Mst} {y:Itm} {h:Acn} (p:(cK i x m.st)[m.nx]?=some y) (o:y.a=some h):False:=by
 have:=Dc (tW (dC p).2 o);omega
theorem gu.pick (h:gu E i w D B M) (hs:cq i) (o:x<(az i).W) (hw:WOk i M) (p:(M.s x).msgs.length<100000000000) (v: -9223372036854775808<=i.cfg.rate/\i.cfg.rate<=9223372036854775807) (u: -9223372036854775808<=i.cfg.mom/\i.cfg.mom<=9223372036854775807) (I:Pk i M x M1 C):Calls prog 216 #[.pointer (some ⟨D.b x,0,none⟩),.pointer (some ⟨D.l (pvW (az i).W x),0,none⟩),.pointer (some ⟨D.l x,0,none⟩)] w λe w'=>e=.returned (OH (C:Nat))/\Ci E i w D B x M1 w':=by
 obtain ⟨m1,s1,t1,hr,rfl⟩:=I;rcases NY (az i).W 2 with h1 | A
 .rw [Ir o h1] at hr |-
  cases hr with
  | fin hf=>
   refine (CS (h.mach x o) hf _ _).mono ?_;rintro e w' ⟨he,k⟩;exact ⟨he,h.lone o ((h.below k).mach x o) (Keep.below k) (λk e=>.inl e) ⟨rfl,rfl,rfl⟩⟩
  | own y hy ha=>
   refine (yR (h.mach x o) (λk e O=>O.2 e) h.oth_lt hs hy ((hw.mok x o).okAt hs hy ha) v u _ _).mono ?_;rintro e w' ⟨he,R,Q,h1, -, -,L,N,J,rfl⟩;exact ⟨he,h.lone o h1 (L.mono λk _ e=>e.elim id False.elim) N J⟩
  | send y ac hy ha=>exact (je h1 hy ha).elim
  | full y ac hy ha=>exact (je h1 hy ha).elim
  | recv y ac hy ha=>exact (je h1 hy ha).elim
  | none y ac hy ha=>exact (je h1 hy ha).elim
  | other y ac hy ha=>exact (je h1 hy ha).elim
 .refine (La (h.wld o A) hs (hw.mok x o) (hw.msgI o) p v u hr).mono ?_;rintro e w' ⟨he,H⟩;exact ⟨he,h.try o A H⟩
theorem gu.enabled (h:gu E i w D B M) (hs:cq i) (p:x<(az i).W) (hw:WOk i M) (o:(M.s x).msgs.length<100000000000) (u:Pk i M x M1 C):Calls prog 217 #[.pointer (some ⟨D.b x,0,none⟩),.pointer (some ⟨D.l (pvW (az i).W x),0,none⟩),.pointer (some ⟨D.l x,0,none⟩)] w λe w'=>e=.returned (.bool (decide (C=0)))/\aq w w':=by
 obtain ⟨m1,s1,t1,hr,rfl⟩:=u;rcases NY (az i).W 2 with h1 | v
 .cases hr with
  | fin hf=>exact CR (h.mach x p) hf _ _
  | own y hy ha=>
   have hk:=kU (dC hy).2 ha;exact CQ (h.mach x p) hy ap ap _ _
  | send y ac hy ha=>exact (je h1 hy ha).elim
  | full y ac hy ha=>exact (je h1 hy ha).elim
  | recv y ac hy ha=>exact (je h1 hy ha).elim
  | none y ac hy ha=>exact (je h1 hy ha).elim
  | other y ac hy ha=>exact (je h1 hy ha).elim
 .exact KY (h.wld p v) hs (hw.mok x p) o hr
end
theorem Du {X z b:Nat} {l D v0 v1:Value} {cnt C:Nat} {w:Qd} {R:Qd->Prop} (u:∀i,aq w i->Calls prog 47 #[(au X),OH (z:Nat)] i λe h=>e=.returned (.tuple #[.iface 97 ((au b)),l,D,.bool true])/\aq i h) (p:∀i,aq w i->Calls prog 216 #[(au b),l,D] i λe h=>e=.returned (OH (C:Nat))/\h.heap[X]?=some (.cells #[v0,v1,OH (cnt:Nat)] 96 (0,0))/\R h) (hc:cnt<=1000000000) (J:C=0):Calls prog 15 #[(au X),OH (z:Nat)] w λe i=>e=.returned (.bool true)/\∃v,R v/\i=v.setCell (ar X 2) (OH ((cnt+1:Nat):Int)):=by
 subst J;obtain ⟨x,A⟩:=ae u p;have hm:∀w:Qd,(method 496 97 ((au b)) "Do").run prog w=.ok (216,(au b)) w:=λ_=>by kernel_rfl
 have H:=br w;clear u p;go_enter func15,ntmps15;go_wp2_with fail;refine (x.o _ H).mono ?_;rintro e v ⟨rfl,I⟩;go_wp2_with fail;refine (A.o _ I).mono ?_;rintro e N ⟨rfl,y,B⟩;have t:=bx3 y;obtain ⟨L,Q⟩:=ae B y;have O:IntKind.i64.wrap ((cnt:Int)+1)=(cnt:Int)+1:=NK _ ap;clear y B;go_wp2_with fail;go_ret;exact ⟨rfl,_,L.o,by push_cast;rfl⟩
theorem FX {X z b:Nat} {l A:Value} {C:Nat} {w:Qd} {R:Qd->Prop} (u:∀h,aq w h->Calls prog 47 #[(au X),OH (z:Nat)] h λe i=>e=.returned (.tuple #[.iface 97 ((au b)),l,A,.bool true])/\aq h i) (p:∀h,aq w h->Calls prog 216 #[(au b),l,A] h λe i=>e=.returned (OH (C:Nat))/\R i) (L:C≠0):Calls prog 15 #[(au X),OH (z:Nat)] w λe h=>e=.returned (.bool false)/\R h:=by
 obtain ⟨v,x⟩:=ae u p;have hm:∀w:Qd,(method 496 97 ((au b)) "Do").run prog w=.ok (216,(au b)) w:=λ_=>by kernel_rfl
 have B:=br w;clear u p;go_enter func15,ntmps15;go_wp2_with fail;refine (v.o _ B).mono ?_;rintro e I ⟨rfl,D⟩;go_wp2_with fail;refine (x.o _ D).mono ?_;rintro e N ⟨rfl,y⟩;have H:=aa y;clear y;have J:¬(C:Int)=0:=ap;go_wp2_with fail;go_ret;exact ⟨rfl,H.o⟩
theorem uA {X:Value} {z:Int} {w:Qd} (i:∀h,aq w h->Calls prog 47 #[X,OH z] h λe u=>e=.returned (.tuple #[.nilIface,.pointer none,.pointer none,.bool false])/\aq h u):Calls prog 15 #[X,OH z] w λe h=>e=.returned (.bool false)/\aq w h:=by
 have p:=aa i;have x:=br w;clear i;go_enter func15,ntmps15;go_wp2_with fail;refine (p.o _ x).mono ?_;rintro e A ⟨rfl,y⟩;have v:=aa y;go_wp2_with fail;go_ret;exact ⟨rfl,v.o⟩
structure lC (i:Inp) (M:WSt):Prop where
 ok:WOk i M
 wG:∀x,x<(az i).W->W64 (M.m x).G
theorem BE (i:Inp) (P:Qa):∀(l:Qg) (G:Qa),W64 G->W64 (eN i P G l):=by
 intro l
 induction l with
 | nil=>intro G h;exact h
 | cons x l ih=>intro G h;exact ih _ (fJ λ_ _=>gF _)
theorem ur (n:Nat):W64 (List.replicate n 0):=λk hk=>by
 rw [Ol] at hk;simp [nth,hk]
theorem IO {i:Inp} {x:Nat} {m:Mst} {y:Itm} (h:W64 m.G):W64 (ko i x m y).G:=by
 unfold ko
 split
 .exact BE i _ _ _ h
 .split
  .exact h
  .split
   .exact h
   .exact ur _
theorem JP {i:Inp} {x:Nat} {m:Mst}:(adv i x m).G=m.G:=by unfold adv;split<;>rfl
theorem jm.w64 {i:Inp} {x:Nat} {m m1:Mst} {s t s1 t1:LSt} {C:Nat} (h:jm i x m s t m1 s1 t1 C) (hw:W64 m.G) (o:∀j,j<s.msgs.length->W64 (aO s.msgs j).vals):W64 m1.G:=by
 cases h with
 | fin=>exact hw
 | full=>exact hw
 | none=>exact hw
 | other=>exact hw
 | own=>rw [JP];exact IO hw
 | send=>rw [JP];exact hw
 | recv y a _ _ _ hlt=>rw [JP];exact tK hw (o _ hlt)
theorem lC.zero {i:Inp} (hs:cq i):lC i (gW i):=⟨WOk.zero i,λx _=>ur _⟩
theorem lC.pick {i:Inp} {M v:WSt} {x C:Nat} (h:lC i M) (hs:cq i) (u:x<(az i).W) (p:Pk i M x v C):lC i v:=by
 have o:pvW (az i).W x<(az i).W:=mt ap;refine ⟨(p.ok h.ok hs u (h.wG x u)).1,λz y=>?_⟩;obtain ⟨m1,s1,t1,B,rfl⟩:=p
 show W64 (bC M.m x m1 z).G
 by_cases e:z=x
 .subst e;rw [bK];exact B.w64 (h.wG z y) λj A=>(h.ok.tg _ o j A).choose_spec.2.2.2
 .rw [bF _ _ e];exact h.wG z y
noncomputable def pkF (i:Inp) (M:WSt) (x:Nat):WSt×Bool:=open Classical in
 if h:∃p:WSt×Nat,Pk i M x p.1 p.2 then ((Classical.choose h).1,decide ((Classical.choose h).2=0)) else (M,false)
theorem qF {i:Inp} {M:WSt} {x:Nat} (h:lC i M) (hs:cq i) (v:x<(az i).W):∃C,Pk i M x (pkF i M x).1 C/\(pkF i M x).2=decide (C=0):=by
 obtain ⟨y,C,u⟩:=h.ok.pick hs v;have o:∃p:WSt×Nat,Pk i M x p.1 p.2:=⟨(y,C),u⟩;unfold pkF;rw [dif_pos o];exact ⟨_,Classical.choose_spec o,rfl⟩
noncomputable def pkZ (i:Inp) (M:WSt) (z:Int):WSt×Bool:=if 0<=z/\z<((az i).W:Int) then pkF i M z.toNat else (M,false)
noncomputable def jL (i:Inp) (M:WSt) (l:Qa):WSt×Nat:=l.foldl (λp z=>((pkZ i p.1 z).1,p.2+if (pkZ i p.1 z).2 then 1 else 0)) (M,0)
def WSt.sum (i:Inp) (M:WSt):Nat:=((List.range (az i).W).map λx=>M.pos i x).sum
def Kg (i:Inp):Nat:=((List.range (az i).W).map λx=>(dq i x).length).sum
def WSt.fin (i:Inp) (M:WSt):Prop:=∀x,x<(az i).W->M.pos i x=(dq i x).length
theorem Kj {f g:Nat->Nat} {W x:Nat} (p:x<W) (h1:g x=f x+1) (h:∀z,z≠x->g z=f z):((List.range W).map g).sum=((List.range W).map f).sum+1:=by
 induction W with
 | zero=>omega
 | succ W ih=>
  rw [Ow,List.map_append,List.map_append,List.sum_append,List.sum_append];simp only [List.map_cons,List.map_nil,List.sum_cons,List.sum_nil,Nat.add_zero];by_cases e:x=W
  .subst e;rw [h1,List.map_congr_left (g:=f) (λz o=>h z (by have:=List.mem_range.1 o;omega))];omega
  .rw [ih ap,h W (λi=>e i.symm)];omega
theorem LT {f g:Nat->Nat}:∀{W:Nat},(∀x,x<W->f x<=g x)->((List.range W).map f).sum<=((List.range W).map g).sum
 | 0,_=>NF _
 | W+1,h=>by
  rw [Ow,List.map_append,List.map_append,List.sum_append,List.sum_append];simp only [List.map_cons,List.map_nil,List.sum_cons,List.sum_nil,Nat.add_zero];have:=LT (W:=W) λx o=>h x ap;have:=h W ap;omega
section
variable {i:Inp} {M:WSt}
theorem lC.pos_le (h:lC i M) (hs:cq i) {x:Nat} (o:x<(az i).W):M.pos i x<=(dq i x).length:=(h.ok.mok x o).done hs
theorem lC.sum_le (h:lC i M) (hs:cq i):M.sum i<=Kg i:=LT λ_ o=>h.pos_le hs o
theorem If (h:lC i M) (hs:cq i) {x:Nat} (o:x<(az i).W):lC i (pkF i M x).1/\((pkF i M x).2=true↔can i i.cfg.cap.toNat (M.pos i) x)/\((pkF i M x).2=true->(pkF i M x).1.pos i x=M.pos i x+1/\(∀z,z≠x->(pkF i M x).1.pos i z=M.pos i z)/\(pkF i M x).1.sum i=M.sum i+1)/\((pkF i M x).2=false->(pkF i M x).1=M):=by
 obtain ⟨C,p,hb⟩:=qF h hs o;obtain ⟨_,B,H,D⟩:=p.ok h.ok hs o (h.wG x o);refine ⟨h.pick hs o p,by rw [hb,<-D];simp,λA=>?_,λu=>H (by rw [hb] at u;simpa using u)⟩;obtain ⟨v,I,_⟩:=B (by rw [hb] at A;simpa using A);have y:∀z,z≠x->(pkF i M x).1.pos i z=M.pos i z:=λz J=>by unfold WSt.pos;rw [I z J]
 exact ⟨v,y,Kj o v y⟩
end
section
variable {i:Inp} {M:WSt}
end
theorem vW {p:Pln} (h:cW p):xC p<=810000:=by
 have h1:=Cn h (NF p.buks.length);have i:=h.W8;have v:=h.mi;have o:=h.buks;have u:p.W*(p.mi+2*p.buks.length+1)<=8*141:=Nat.mul_le_mul i ap;unfold xC;omega
theorem vX {i:Inp} (o:cW (az i)):Kg i=xC (az i)*i.cfg.steps.toNat:=by
 have h:Kg i=bP (az i).W λx=>bP i.cfg.steps.toNat λst=>(aJ (az i) x st).length:=by
  unfold Kg bP dq
  congr 1
  refine List.map_congr_left λx _=>?_
  show (iL i x i.cfg.steps.toNat).length=_
  unfold iL;rw [List.length_flatMap]
 rw [h,iD,dP λst _=>Kf o st,eT,Nat.mul_comm]
def rT (D:WAd) (n:Nat):Qc:=(List.range n).map λy=>.iface 97 (.pointer (some ⟨D.b y,0,none⟩))
def xc (D:WAd) (n:Nat):Qc:=(List.range n).map λy=>.pointer (some ⟨D.l y,0,none⟩)
theorem MM (D:WAd) {n y:Nat} (h:y<n):(rT D n)[y]?=some (.iface 97 (.pointer (some ⟨D.b y,0,none⟩))):=by simp [rT,h]
theorem LL (D:WAd) {n y:Nat} (h:y<n):(xc D n)[y]?=some (.pointer (some ⟨D.l y,0,none⟩)):=by simp [xc,h]
def WAd.hid (D:WAd) (n:Nat) (E:Nat->Prop) (k:Nat):Prop:=D.all n k\/E k
structure WAt (E:Nat->Prop) (i:Inp) (w:Qd) (D:WAd) (B:Nat) (M:WSt):Prop where
 mem:gu E i w D B M
 al:lC i M
 rows:∃AW cw AL cl,w.heap[D.X]?=some (.cells #[.slice AW (az i).W cw,.slice AL (az i).W cl,OH (M.sum i:Nat)] 96 (0,0))/\Rd (aF (D.hid (az i).W E) w) AW (rT D (az i).W)/\Rd (aF (D.hid (az i).W E) w) AL (xc D (az i).W)
section
variable {E:Nat->Prop} {i:Inp} {w w':Qd} {D:WAd} {B x:Nat} {M:WSt}
theorem WAt.more {o:Nat->Prop} (h:WAt E i w D B M) (hb:aq w w') (he:∀k,o k->k<w'.heap.size/\(E k\/w.heap.size<=k)):WAt o i w' D B M:=by
 obtain ⟨x,A,u,v,h1,y,C⟩:=h.rows;have p:Ext (aF (D.hid (az i).W E) w) (aF (D.hid (az i).W o) w'):=aX (Keep.below hb) λk hk e=>e.imp id λe=>(he k e).2.elim id λe=>absurd hk ap;exact ⟨h.mem.more hb he,h.al,x,A,u,v,(hb.block _ h.mem.xl).trans h1,aQ y p,aQ C p⟩
theorem WAt.below (h:WAt E i w D B M) (hb:aq w w'):WAt E i w' D B M:=h.more hb λk e=>⟨NQ (h.mem.ex k e) hb.size,.inl e⟩
theorem WAt.at (h:WAt E i w D B M) (hs:cq i) (o:x<(az i).W):Calls prog 47 #[(au D.X),OH (x:Nat)] w λe w'=>e=.returned (.tuple #[.iface 97 (.pointer (some ⟨D.b x,0,none⟩)),.pointer (some ⟨D.l (pvW (az i).W x),0,none⟩),.pointer (some ⟨D.l x,0,none⟩),.bool true])/\aq w w':=by
 obtain ⟨C,H,y,A,h1,u,v⟩:=h.rows;have p:=hs.ok.W8;exact LV h1 (aQ u (er _ _)) (aQ v (er _ _)) o ap rfl (MM D o) (LL D (mt ap)) (LL D o)
theorem WAt.did (h:WAt E i w D B M) {I:WSt} (L:Ci E i w D B x I w'):∃o,o.X=D.X/\gu E i w' o B I/\Keep (λk=>D.all (az i).W k/\k≠D.X) w w'/\(∀k,o.all (az i).W k->D.all (az i).W k\/w.heap.size<=k)/\
  ∃u A p v,w'.heap[D.X]?=some (.cells #[.slice u (az i).W A,.slice p (az i).W v,OH (M.sum i:Nat)] 96 (0,0))/\Rd (aF (o.hid (az i).W E) w') u (rT o (az i).W)/\Rd (aF (o.hid (az i).W E) w') p (xc o (az i).W):=by
 obtain ⟨a1,g1,h1,y,C⟩:=L;obtain ⟨u,A,p,v,J,N,O⟩:=h.rows;have H:Ext (aF (D.hid (az i).W E) w) (aF ((D.upd x a1 g1).hid (az i).W E) w'):=aX (y.mono λk _ e=>.inl e.1) λk hk e=>e.imp (λe=>(C k e).elim id λe=>absurd hk ap) id;exact ⟨D.upd x a1 g1,rfl,h1,y,C,u,A,p,v,(y.block _ h.mem.xl λe=>e.2 rfl).trans J,aQ N H,aQ O H⟩
theorem WAt.sum_le (h:WAt E i w D B M) (hs:cq i):M.sum i<=1000000000:=by
 have h1:=h.al.sum_le hs;have p:=vX hs.ok;have o:=vW hs.ok;have u:=hs.s;have v:xC (az i)*i.cfg.steps.toNat<=810000*6:=Nat.mul_le_mul o ap;omega
theorem LH (i:Inp) (x p:Nat):sN i x p<=p:=by
 unfold sN iy gY;rw [List.length_map];refine NN (List.length_filter_le _ _) (NN (List.length_filterMap_le _ _) ?_);rw [Oi];omega
theorem CU (f:Nat->Nat):∀{n x:Nat},x<n->f x<=((List.range n).map f).sum
 | 0,_,h=>ap
 | n+1,x,h=>by
  rw [Ow,List.map_append,List.sum_append];simp only [List.map_cons,List.map_nil,List.sum_cons,List.sum_nil,Nat.add_zero];by_cases e:x=n
  .subst e;omega
  .have:=CU f (n:=n) (x:=x) ap;omega
theorem CF (h:x<(az i).W):M.pos i x<=M.sum i:=CU _ h
def M6 (E:Nat->Prop) (i:Inp) (w:Qd) (D:WAd) (B:Nat) (o:WSt) (w':Qd):Prop:=∃h,h.X=D.X/\WAt E i w' h B o/\Keep (λk=>D.all (az i).W k) w w'/\∀k,h.all (az i).W k->D.all (az i).W k\/w.heap.size<=k
theorem qu (h:WAt E i w D B M) (hs:cq i) (Y: -9223372036854775808<=i.cfg.rate/\i.cfg.rate<=9223372036854775807) (a0: -9223372036854775808<=i.cfg.mom/\i.cfg.mom<=9223372036854775807) (z:Int):Calls prog 15 #[(au D.X),OH z] w λe w'=>e=.returned (.bool (pkZ i M z).2)/\M6 E i w D B (pkZ i M z).1 w':=by
 by_cases hz:0<=z/\z<((az i).W:Int)
 .obtain ⟨x,rfl⟩:∃x:Nat,z=x:=⟨z.toNat,by omega⟩;have y:x<(az i).W:=ap;have e1:pkZ i M x=pkF i M x:=by unfold pkZ;rw [if_pos hz,Int.toNat_natCast]
  rw [e1];obtain ⟨C,hp,hb⟩:=qF h.al hs y;obtain ⟨hA, -,O,U⟩:=If h.al hs y
  have v:(M.s x).msgs.length<100000000000:=by
   have h1:=h.al.ok.sn x y;have h2:=h.al.pos_le hs y;have h3:sN i x (M.pos i x)<=M.pos i x:=LH i x _;have h4:M.pos i x<=M.sum i:=CF y;have h5:=h.sum_le hs;omega
  have L:=λw' (q:aq w w')=>(h.below q).at hs y;have I:=λw' (q:aq w w')=>(h.below q).mem.pick hs y h.al.ok v Y a0 hp;by_cases T:C=0
  .have ht:(pkF i M x).2=true:=by rw [hb];simp [T]
   rw [ht];obtain ⟨-, -,J⟩:=O ht;have Z:=h.sum_le hs;obtain ⟨AW,cw,AL,cl,k1,k2,k3⟩:=h.rows;refine (Du (X:=D.X) (v0:=.slice AW (az i).W cw) (v1:=.slice AL (az i).W cl) L (R:=λp=>∃o,aq w o/\Ci E i o D B x (pkF i M x).1 p) (λo q=>(I o q).mono λe p A=>⟨A.1,?_,o,q,A.2⟩) Z T).mono ?_
   .obtain ⟨a1,g1, -,Q, -⟩:=A.2;exact (Q.block _ (NQ h.mem.xl q.size) λe=>e.2 rfl).trans (sb k1 o q)
   .rintro e w3 ⟨he,p,⟨o,q,V⟩,rfl⟩;obtain ⟨N,u,Q,f3,f4,BW,dw,BL,dl,g1,g2,g3⟩:=(h.below q).did V;have hk:Keep (λk=>k=D.X) p (p.setCell (ar D.X 2) (OH ((M.sum i+1:Nat):Int))):=Keep.setCell (S:=λk=>k=D.X) (Keep.refl _ _) _ (.inr rfl) _;have H:Ext (aF (N.hid (az i).W E) p) (aF (N.hid (az i).W E) (p.setCell (ar D.X 2) (OH ((M.sum i+1:Nat):Int)))):=aX (hk.mono λk _ e=>.inl (.inl (e.trans u.symm))) λk _ e=>e;refine ⟨he,N,u,⟨Q.keepQ hk (λk e=>.inl (e.trans u.symm)) (λj c hj _ e=>mR hj g1 (by decide) e),hA,BW,dw,BL,dl,?_,aQ g2 H,aQ g3 H⟩,?_,λk e=>(f4 k e).imp id λe=>NN q.size e⟩
    .rw [u,J];exact ss g1
    .refine (Keep.below q).trans ((f3.mono λk _ e=>e.1).trans (hk.mono λk _ e=>.inl e))
  .have hf:(pkF i M x).2=false:=by rw [hb];simp [T]
   rw [hf];refine (FX L (λw' q=>(I w' q).mono λe p A=>⟨A.1,(⟨w',q,A.2⟩:∃o,aq w o/\Ci E i o D B x (pkF i M x).1 p)⟩) T).mono ?_;rintro e p ⟨he,o,q,V⟩;obtain ⟨N,u,Q,f3,f4,f5⟩:=(h.below q).did V;exact ⟨he,N,u,⟨Q,hA,by rw [U hf,u];exact f5⟩,(Keep.below q).trans (f3.mono λk _ e=>e.1),λk e=>(f4 k e).imp id λe=>NN q.size e⟩
 .have e1:pkZ i M z=(M,false):=by unfold pkZ;rw [if_neg hz]
  rw [e1];obtain ⟨AW,cw,AL,cl,h1, -, -⟩:=h.rows;refine (uA λw' q=>Cu (sb h1 w' q) ap).mono ?_;rintro e p ⟨he,q⟩;exact ⟨he,D,rfl,h.below q,Keep.below q,λk e=>.inl e⟩
end
theorem Bt {w:Qd} {base l c:Nat} (hc:1<=c) (h:c<=1048576) (hb:aD w l (OJ) c 0 0 0):aY w base l none (LSt.new c):=
 ⟨⟨hc,h,NF _,by simp [LSt.new],NJ _,by simp [LSt.new],by simp [LSt.new]⟩,OJ,[],hb,by simpa [LSt.new] using NV _ _ _ _,rfl,by simp [LSt.new],by simp,by simp [LSt.new]⟩
def WMk (i:Inp) (X:Nat) (bs h:List Nat) (rb:Nat->Prop) (w:Qd):Prop:=∃b l a s t,bs=(List.range bs.length).map b/\h=(List.range bs.length).map l/\iB i w (X+1) b l a s t bs.length/\X<w.heap.size/\
 ∀j,rb j->X<j/\j<w.heap.size/\∀y,y<bs.length->(j<s y\/t y<=j)/\j≠l y
theorem yT (b:Nat->Nat) (k v:Nat):(List.range (k+1)).map (bC b k v)=(List.range k).map b++[v]:=by
 rw [Ow,List.map_append]
 congr 1
 .exact List.map_congr_left λx h=>bF _ _ (by have:=List.mem_range.1 h;omega)
 .simp [bK]
theorem WMk.next {i:Inp} {X k D l1 cap:Nat} {bs T:List Nat} {rb u:Nat->Prop} {w I O:Qd} {a1:MAd} (h:WMk i X bs T rb w) (hk:bs.length=k) (v:i.cfg.cap.toNat=cap) (hc:1<=cap/\cap<=1048576) (U:aq w I) (L:∀j,Mut D a1 j->w.heap.size<=j) (hm:∀(H:Nat->Prop) w'',Keep (λk=>k<w.heap.size) I w''->(∀k,H k->k<w.heap.size)->aV H w'' D i k a1 (fO i)) (hs:JW X cap rb u l1 I O):WMk i X (bs++[D]) (T++[l1]) u O:=by
 obtain ⟨b,l,a,s,t,h1,R,A,Z,p⟩:=h;rw [hk] at h1 R A p;have V:=U.size;have x:=A.below U;have Q:∀j,(j=X\/rb j)->j<w.heap.size:=λj e=>e.elim (λe=>ap) λe=>(p j e).2.1
 have J:iB i O (X+1) b l a s t k:=x.keep hs.hk λj _ e=>by
  refine ⟨λy N=>?_,λc=>hs.hty j c e⟩;rcases e with rfl | e
  .have:=A.chain y N;omega
  .exact (p j e).2.2 y N
 have Y:=A.more (l1:=l1) ap L hm x J V (hs.hk.mono λj _ e=>.inl (Q j e)) hs.hl.1 hs.hl.2 (λB=>by
  rw [v];exact Bt hc.1 hc.2 hs.hb)
 have o:(bs++[D]).length=k+1:=by simp [hk]
 refine ⟨_,_,_,_,_,?_,?_,by rw [o];exact Y,by have:=hs.hk.size;omega,λj e=>?_⟩
 .rw [o,yT,<-h1]
 .rw [o,yT,<-R]
 .rw [o];refine ⟨(hs.hrb j e).elim (λe=>(p j e).1) λe=>ap,hs.hrl j e,λy N=>?_⟩;by_cases C:y=k
  .subst C;simp only [bK];rcases hs.hrb j e with e | e
   .have:=(p j e).2.1;have:=hs.hl.1;omega
   .omega
  .simp only [bF _ _ C];rcases hs.hrb j e with e | e
   .exact (p j e).2.2 y ap
   .have:=A.chain y ap;omega
theorem xF (i:Inp):(gW i).sum i=0:=by
 unfold WSt.sum;have:∀x,(gW i).pos i x=0:=λx=>by simp [WSt.pos,gW,bq,fO]
 rw [List.map_congr_left (g:=λ_=>0) λx _=>this x]
 induction (List.range (az i).W) with
 | nil=>rfl
 | cons _ l ih=>simpa using ih
def Ch (E:Nat->Prop) (i:Inp) (w:Qd) (e:Ending) (h:Qd):Prop:=∃D B,e=.returned (.tuple #[(au D.X),OH 0])/\WAt E i h D B (gW i)/\aq w h/\∀j,D.all (az i).W j->w.heap.size<=j
theorem nr {E:Nat->Prop} (A:N_) (c:Nat) (D:N_) (O:Nat) (T:N_) (L:Nat) (R:N_) (N:Nat) (i:Inp) (w:Qd) (h:fY w A c D T L R i) (hs:cq i) (hE:∀j,E j->j<w.heap.size):Calls prog 13 #[.agg (aN A c D O T L R N i)] w (Ch E i w):=by
 obtain ⟨W1,u⟩:∃W1,w.alloc (.cells (aN A c D O T L R N i) 29)=W1:=⟨_,rfl⟩;have V:aq w W1:=by rw [<-u];exact (br w).alloc (NF _) _
 have ad:W1.heap.size=w.heap.size+1:=by rw [<-u];simp
 have hg:=hs.g.c;have a9:=hg.w;have a7:=hg.ca;have ew:((az i).W:Int)=i.cfg.workers:=by simp only [az];omega
 have ec:((i.cfg.cap.toNat:Nat):Int)=i.cfg.cap:=ap;have av:=hs.ok.W8;have hI:=λo (q:aq W1 o)=>(h.below V).below q;have I:=λo (q:aq W1 o)=>qK A c D O T L R N i o (hI o q);have Y:=λ(x:Nat) o (q:aq W1 o) (hx:x<(az i).W)=>EB A c D O T L R N i x o (hI o q) hs hx;have hv:aN A c D O T L R N i=#[.slice A i.cfg.sizes.length c,OH i.cfg.shift,OH i.cfg.rate,OH i.cfg.mom,OH ((az i).W:Nat),OH i.cfg.batch,OH i.cfg.micros,OH i.cfg.steps,OH i.cfg.bucket,OH i.cfg.chunk,OH i.cfg.window,OH (i.cfg.cap.toNat:Nat),.slice D i.data.length O,.slice T i.start.length L,.slice R i.draws.length N]:=by rw [ew,ec]
 rw [qd.2 hs.g] at I;rw [hv] at I Y u |-;refine (FY (J:=λX bs ls rb o=>WMk i X bs ls rb o) u ap ap I (λo=>Lc _ o ap) (λX o _ hX _=>⟨λ_=>0,λ_=>0,λ_=>⟨0,none,0,0,0,none,0,0,0,0,0,0,0,0,0,none,0,OJ⟩,λ_=>0,λ_=>0,rfl,rfl,iB.zero,hX,λj e=>e.elim⟩) (λX k bs ls rb o hk a5 hX q a1 a6 hJ=>?_)).mono ?_
 .refine (Y k o q hk).mono ?_;rintro e w1 ⟨b,a,rfl,a0,a4,hm⟩;exact ⟨b,rfl,a0,λl1 ab w2 a2=>hJ.next a1 rfl ap a0 a4 hm a2⟩
 .rintro e o ⟨X,bs,ls,AW,AL,cw,cl,rfl,m⟩;obtain ⟨b,l,a,s,t,h1,h2,Q,h4,h5⟩:=m.j;rw [m.hb] at h1 h2 Q h5;have hq:=m.q.size;have a5:=m.lo;have Z:gu E i o ⟨X,b,l,a,λ_=>none⟩ o.heap.size (gW i):=Q.mem (Nat.lt_succ_self X) h4 (λj e=>by have:=hE j e;omega) ap
  have H:∀{e:Qf} {v:Value} {xs:Qc},o.ownsRow (X+1) e 1 v (az i).W xs->(∀j,v.ownBlock=some j->mX (.slice AW (az i).W cw) (.slice AL (az i).W cl) j)->∀A n c',v=.slice A n c'->n=(az i).W->Rd (aF ((⟨X,b,l,a,λ_=>none⟩:WAd).hid (az i).W E) o) A xs:=by
   rintro e v xs ho hv A n c' rfl rfl;refine mr (Rd.own ho) λy p C=>?_
   have a8:X+1<=y.block:=by
    rcases ho.2 with ⟨B,_⟩ | ⟨g,_,_,B,_⟩
    .injection B with e1;rw [e1] at p;cases p
    .have U:=(ho.lt g (by rw [B];simp [Value.ownBlock])).1;injection B with e1;rw [e1] at p;cases p;exact U
   have a3:mX (.slice AW (az i).W cw) (.slice AL (az i).W cl) y.block:=by
    rcases ho.2 with ⟨B,_⟩ | ⟨g,_,_,B,_⟩
    .injection B with e1;rw [e1] at p;cases p
    .have U:=hv g (by rw [B];simp [Value.ownBlock]);injection B with e1;rw [e1] at p;cases p;exact U
   have U:=h5 _ a3;rcases C with (C | ⟨z,hz,C | C⟩) | C
   .have ao:y.block=X:=C;omega
   .have:=Q.win z hz _ C;have:=(U.2.2 z hz).1;omega
   .exact (U.2.2 z hz).2 (kR C)
   .have:=hE _ C;omega
  refine ⟨⟨X,b,l,a,λ_=>none⟩,o.heap.size,rfl,⟨Z,lC.zero hs,AW,cw,AL,cl,?_,?_,?_⟩,V.trans (m.q.mono ap),?_⟩
  .have:=m.box;rw [xF];exact this
  .have:=H m.oW (λj e=>.inl e) AW _ cw rfl rfl;rw [h1,List.map_map] at this;exact this
  .have:=H m.oL (λj e=>.inr e) AL _ cl rfl rfl;rw [h2,List.map_map] at this;exact this
  .rintro j (e | ⟨y,p,e | e⟩)
   .have hj:j=X:=e;omega
   .have:=Q.win y p j e;have:=Q.chain y p;omega
   .have hj:j=l y:=kR e;have:=Q.chain y p;omega
end Go.Proofs.YtgmajkppbhiopaaGreat
