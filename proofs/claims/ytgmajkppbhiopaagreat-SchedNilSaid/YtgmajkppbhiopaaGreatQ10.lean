/- No condition. -/
import Derived.Test.YtgmajkppbhiopaaGreatQ09
import Derived.Laws.CopyOwn
import Derived.WalkMore
import Derived.Deep.LoopGhost
set_option linter.unusedSimpArgs false
set_option linter.unusedVariables false
set_option maxRecDepth 100000
set_option maxHeartbeats 4000000
namespace Go.Proofs.YtgmajkppbhiopaaGreat
open Go.RowKit
open Tryz
theorem bE:cY prog 39 3:=⟨⟨_,underlying39,rfl⟩,by kernel_rfl⟩
theorem jc:cY prog 106 22:=⟨⟨_,underlying106,rfl⟩,by kernel_rfl⟩
theorem gC:cY prog 75 4:=⟨⟨_,underlying75,rfl⟩,by kernel_rfl⟩
structure RWv (u:Qd) (vs:Qb) (n:Nat) (mv lv:Nat->Qb) (cnt:Nat):Prop where
 ex:∃AM cm AL cl,vs=#[.slice AM n cm,.slice AL n cl,OH (cnt:Nat)]/\Rd u AM (dQ mv n)/\Rd u AL (dQ lv n)/\n<=cm/\n<=cl
 sm:∀x,x<n->(mv x).size=22/\(mv x).toList.all (·.oneCell')=true
 sl:∀x,x<n->(lv x).size=4/\(lv x).toList.all (·.oneCell')=true
theorem RWv.below {u o:Qd} {vs:Qb} {n:Nat} {mv i:Nat->Qb} {cnt:Nat} (h:RWv u vs n mv i cnt) (hb:aq u o):RWv o vs n mv i cnt:=by
 obtain ⟨⟨B,cm,p,v,h1,y,D,A⟩,C,x⟩:=h;exact ⟨⟨B,cm,p,v,h1,y.below hb,D.below hb,A⟩,C,x⟩
def LB (R:Qb->Qb->Qb->Qd->Prop) (C:Int) (w:Qd) (e:Ending) (i:Qd):Prop:=∃m1 h v1:Qb,e=Ending.returned (.tuple #[.agg m1,.agg h,.agg v1,OH C])/\(m1.size=22/\h.size=4/\v1.size=4)/\(m1.toList.all (·.oneCell')=true/\h.toList.all (·.oneCell')=true/\v1.toList.all (·.oneCell')=true)/\R m1 h v1 i/\aq w i
theorem xT {w:Qd} {vs:Qb} {n x p cnt:Nat} {mv N:Nat->Qb} {C:Int} {R:Qb->Qb->Qb->Qd->Prop} (h:RWv w vs n mv N cnt) (A:x<n) (hn:n<=1000) (hp:(x+n-1)%n=p) (a0:∀i,w.heap.size+4<=i.heap.size->aq w i->Calls prog 89 #[.agg (mv x),.agg (N p),.agg (N x)] i (LB R C (i))) (hR:∀m1 u1 v1 w1 w2,R m1 u1 v1 w1->Keep (fun k=>w.heap.size<=k/\k<w.heap.size+4) w1 w2->R m1 u1 v1 w2):Calls prog 48 #[.agg vs,OH (x:Nat)] w (LB R C (w)):=by
 obtain ⟨⟨AM,cm,AL,cl,rfl,hM,hL, -, -⟩,D,u⟩:=h;have ab:p<n:=by rw [<-hp];exact Nat.mod_lt _ ap
 obtain ⟨L,o1,rfl,r1⟩:=gH hM (fun x A=>(D x A).1) (by decide) A;obtain ⟨V,Z,rfl,r2⟩:=gH hL (fun x A=>(u x A).1) (by decide) ab;obtain ⟨b3,o3,e3,r3⟩:=gH hL (fun x A=>(u x A).1) (by decide) A
 cases e3
 obtain ⟨B,H⟩:∃B,(((w.alloc (.cells #[.slice (some (ar L o1)) n cm,.slice (some (ar V Z)) n cl,OH (cnt:Nat)] 39)).alloc (.cells ON 106)).alloc (.cells #[OH 0,OJ,OH 0,OH 0] 75)).alloc (.cells #[OH 0,OJ,OH 0,OH 0] 75)=B:=⟨_,rfl⟩;have a4:tU w [.cells #[.slice (some (ar L o1)) n cm,.slice (some (ar V Z)) n cl,OH (cnt:Nat)] 39,.cells ON 106,.cells #[OH 0,OJ,OH 0,OH 0] 75,.cells #[OH 0,OJ,OH 0,OH 0] 75]=B:=H;have q0:=et [.cells #[.slice (some (ar L o1)) n cm,.slice (some (ar V Z)) n cl,OH (cnt:Nat)] 39,.cells ON 106,.cells #[OH 0,OJ,OH 0,OH 0] 75,.cells #[OH 0,OJ,OH 0,OH 0] 75] w;have g0:=bY [.cells #[.slice (some (ar L o1)) n cm,.slice (some (ar V Z)) n cl,OH (cnt:Nat)] 39,.cells ON 106,.cells #[OH 0,OJ,OH 0,OH 0] 75,.cells #[OH 0,OJ,OH 0,OH 0] 75] w 0 rfl;have g1:=bY [.cells #[.slice (some (ar L o1)) n cm,.slice (some (ar V Z)) n cl,OH (cnt:Nat)] 39,.cells ON 106,.cells #[OH 0,OJ,OH 0,OH 0] 75,.cells #[OH 0,OJ,OH 0,OH 0] 75] w 1 rfl;have g2:=bY [.cells #[.slice (some (ar L o1)) n cm,.slice (some (ar V Z)) n cl,OH (cnt:Nat)] 39,.cells ON 106,.cells #[OH 0,OJ,OH 0,OH 0] 75,.cells #[OH 0,OJ,OH 0,OH 0] 75] w 2 rfl;have g3:=bY [.cells #[.slice (some (ar L o1)) n cm,.slice (some (ar V Z)) n cl,OH (cnt:Nat)] 39,.cells ON 106,.cells #[OH 0,OJ,OH 0,OH 0] 75,.cells #[OH 0,OJ,OH 0,OH 0] 75] w 3 rfl;have a6:B.heap.size=w.heap.size+4:=by rw [<-H];simp
 rw [a4] at q0 g0 g1 g2 g3;rw [Nat.add_zero] at g0
 have l1:L<w.heap.size:=by
  obtain ⟨v,hv⟩:∃v,(mv x).toList[0]?=some v:=⟨_,Of (by rw [Array.length_toList,(D x A).1];decide)⟩;exact aB (r1 0 v hv)
 have l2:V<w.heap.size:=by
  obtain ⟨v,hv⟩:∃v,(N x).toList[0]?=some v:=⟨_,Of (by rw [Array.length_toList,(u x A).1];decide)⟩;exact aB (r3 0 v hv)
 have rg:∀{b o cs},b<w.heap.size->w.rangeAt b o cs->∀i,Keep (fun k=>w.heap.size<k/\k<w.heap.size+4) B i->i.rangeAt b o cs:=fun hb hr i k j v hv=>by
  have h1:=hr j v hv;exact (World.cell?_of_block ((k.block _ (NQ hb q0.size) (fun e=>ap)).trans (q0.block _ hb))).trans h1
 obtain ⟨R1,R2,R3⟩:=af (fun i q=>rg l1 r1 i q) (fun i q=>rg l2 r2 i q) (fun i q=>rg l2 r3 i q);have t:∀i,Keep (fun k=>w.heap.size<k/\k<w.heap.size+4) B i->_:=fun i q=>bx3 ((q.block _ (NE g0) (fun e=>ap)).trans g0)
 have O:((x:Int)+(n:Int)-1).tmod (n:Int)=(p:Int):=by
  rw [<-hp,Int.tmod_eq_emod_of_nonneg ap,Int.natCast_emod,show ((x+n-1:Nat):Int)=(x:Int)+n-1 by omega]
 have aG:((x:Int)+(n:Int)-1)%(n:Int)=(p:Int):=by rw [<-Int.tmod_eq_emod_of_nonneg ap];exact O
 have b0:¬(n=0):=ap;have h1:0<=(x:Int):=ap;have h2:(x:Int)<(n:Int):=ap;have h3:0<=(p:Int):=ap;have h4:(p:Int)<(n:Int):=ap;have w1:IntKind.i64.wrap ((x:Int)+n)=(x:Int)+n:=NK _ ap;have w2:IntKind.i64.wrap ((x:Int)+n-1)=(x:Int)+n-1:=NK _ ap;have w3:IntKind.i64.wrap (p:Int)=(p:Int):=NK _ ap;have w5:IntKind.i64.wrap (((x:Int)+n-1).tmod n)=(p:Int):=by rw [O];exact w3
 have w6:IntKind.i64.wrap (((x:Int)+n-1)%n)=(p:Int):=by rw [aG];exact w3
 have a8:=D x A;have ad:=u p ab;have a5:=u x A;obtain ⟨aM,HR,aR,Q0,G1,G2,G3,Hm⟩:=ak a0 hR H q0 g1 g2 g3 a8;obtain ⟨Hl,ao⟩:=ae ad a5;have s0:Keep (fun k=>w.heap.size<k/\k<w.heap.size+4) B B.drew:=(Keep.refl _ _).drew;have av:=aa a6;have tl:=sl g3;clear a0 hR H a4 q0 g0 g1 g2 g3 a8 ad a5 D u hM hL r1 r2 r3 rg hp a6;go_enter func48,ntmps48;go_wp2_with fail;rw [aR.o];refine HA.g (fun i:Qd=>Keep (fun k=>w.heap.size<k/\k<w.heap.size+4) B i) ?_;refine HA.t ?_ [0,1,2,3] s0 ?_;refine HA.lr 4 R1.o (by rw [Array.length_toList,Hm.o.1];exact jc) s0 ?_;refine HA.t ?_ [5,6,7,8,9,10,11,12,13] s0 ?_;refine HA.lr 14 R2.o (by rw [Array.length_toList,Hl.o.1];exact gC) s0 ?_;refine HA.t ?_ [15,16,17,18] s0 ?_;refine HA.lr 19 R3.o (by rw [Array.length_toList,ao.o.1];exact gC) s0 ?_;have ea:(mv x).toList.toArray=mv x:=Array.toArray_toList;have eb:(N p).toList.toArray=N p:=Array.toArray_toList;have ec:(N x).toList.toArray=N x:=Array.toArray_toList;rw [ea,eb,ec];refine HA.c 20 (aM.o _ (by rw [Ot,av.o];omega) (Q0.o.drew)) ?_;rintro _ w7 ⟨m1,u1,v1,rfl,⟨z1,z2,z3⟩,⟨a1,a2,a3⟩,hr,k7⟩;have b7:=bt (br B).drew k7;have s1:=s0.trans (Keep.below (S:=fun k=>w.heap.size<k/\k<w.heap.size+4) k7);refine ⟨_,rfl,s1,fun _=>?_⟩;refine HA.t ?_ [21,22,23,24] s1 ?_;refine HA.st 25 (sb G1.o _ b7) jc (fun w8 e8 J=>⟨s1.trans (J.mono fun k _ e=>ap),?_⟩) (hn:=z1) (hs:=by rw [z1];rfl) (h1:=a1);refine HA.st 26 ((J.block _ (NE (sb G2.o _ b7)) ap).trans (sb G2.o _ b7)) gC (fun w9 e9 T=>⟨(s1.trans (J.mono fun k _ e=>ap)).trans (T.mono fun k _ e=>ap),?_⟩) (hn:=z2) (hs:=by rw [z2];rfl) (h1:=a2);have a7:=(T.block _ (NQ (NE (sb G3.o _ b7)) J.size) ap).trans ((J.block _ (NE (sb G3.o _ b7)) ap).trans (sb G3.o _ b7));refine HA.st 27 a7 gC (fun I a9 y=>⟨((s1.trans (J.mono fun k _ e=>ap)).trans (T.mono fun k _ e=>ap)).trans (y.mono fun k _ e=>ap),?_⟩) (hn:=z3) (hs:=by rw [z3];rfl) (h1:=a3);have Y:=((s1.trans (J.mono fun k _ e=>ap)).trans (T.mono fun k _ e=>ap)).trans (y.mono fun k _ (e:k=w.heap.size+3)=>by omega:Keep (fun k=>w.heap.size<k/\k<w.heap.size+4) w9 I);refine HA.t ?_ [28] Y ?_;refine HA.d ?_;have f8:I.heap[w.heap.size+1]?=_:=(y.block _ (by have:=NE e8;have:=T.size;omega) ap).trans ((T.block _ (NE e8) ap).trans e8);have f9:I.heap[w.heap.size+1+1]?=_:=(y.block _ (NE e9) ap).trans e9;have U:=HR.o _ _ _ _ _ hr (((J.mono fun k _ (e:k=w.heap.size+1)=>by omega:Keep (fun k=>w.heap.size<=k/\k<w.heap.size+4) w7 w8).trans (T.mono fun k _ (e:k=w.heap.size+2)=>ap)).trans (y.mono fun k _ (e:k=w.heap.size+3)=>ap));have Q:aq w I:=Q0.o.trans (Y.toBelow Q0.o.size (fun j e=>ap));obtain ⟨HF,F8,F9,aP,Z1,Z2,Z3,A1⟩:=ak (NR U Q) f8 f9 a9 z1 z2 z3 a1;obtain ⟨A2,A3⟩:=ae a2 a3;clear U Q f8 f9 e8 e9 a9 z1 z2 z3 a1 a2 a3 J T y Y s1 b7 a7 k7 hr t;go_wp2_with fail
 try simp only [Exit.inBlock,Exit.then]
 refine NX (fz rfl rfl rfl rfl F8.o F9.o aP.o (by rw [Z1.o];exact jc) (by rw [Z2.o];exact gC) (by rw [Z3.o];exact gC)) rfl ?_;exact ⟨m1,u1,v1,rfl,⟨Z1.o,Z2.o,Z3.o⟩,⟨A1.o,A2.o,A3.o⟩,HF.o.1,HF.o.2⟩
theorem zS (S n b steps t:Nat) (l:Qa) (w:Qd) (h:gi w S n b steps l) (hb:1<=b) (hn:n<=1048576) (y:1<=n/b) (V:steps<=1048576) (ht:t<steps):Calls prog 247 #[(au S),OH t] w fun e w'=>∃A c,e=.returned (.slice A b c)/\b<=c/\Rd w' A (aA .i64 (dH l n b t))/\aq w w':=by
 have u:=Ah S n b steps t l w h hn y V ht;obtain ⟨Ab,cb,Ao,co,vs,h1,Q,h3,h4,h5⟩:=h;have a0:=Nat.div_le_self n b;have he:=zn (n:=n) (b:=b) ht;have hm:=Nat.mod_lt t y;have I:=pG n b _ hm;have N:=Dh n b _ hb hm;have i:=BZ (n-n%b) b hm;rw [N] at i;obtain ⟨A1,c1,k1,k2,R⟩:=h5 _ he;have D:dH l n b t=((fW l n ((t/(n/b))*(n-1))).drop (t%(n/b)*b)).take b:=rfl;rw [D];have a1:epN n b steps<=steps:=fR _ _;obtain ⟨pl,B⟩:∃pl,fW l n ((t/(n/b))*(n-1))=pl:=⟨_,rfl⟩;have a2:pl.length=n:=by rw [<-B];exact jB _ _ _
 rw [B] at R ⊢;obtain ⟨E,hE⟩:∃E,epN n b steps=E:=⟨_,rfl⟩;rw [hE] at he h1 h4 a1;obtain ⟨U,C⟩:∃U,t/(n/b)=U:=⟨_,rfl⟩;obtain ⟨T,O⟩:∃T,t%(n/b)=T:=⟨_,rfl⟩;rw [C] at u he k1;rw [O] at u hm I i ⊢;obtain ⟨nb,x⟩:∃nb,n/b=nb:=⟨_,rfl⟩;rw [x] at h1 Q y hm a0 i;obtain ⟨lo,J⟩:∃lo,T*b=lo:=⟨_,rfl⟩;rw [J] at I i ⊢;obtain ⟨bb,ob,rfl,q0⟩:=Q _ _ i.1;obtain ⟨_,_,e2,q1⟩:=Q _ _ i.2;injection e2 with e2;injection e2 with i1 i2 _;subst i1;subst i2
 obtain ⟨bo,oo,rfl,q2⟩:=h3 _ _ k1;obtain ⟨bg,og,rfl,q3⟩:=R.num (show 0<pl.length by omega);rw [<-Oy] at q1;have a8:(T:Int)<nb:=ap;have aP:(U:Int)<E:=ap;have a5:(lo:Int)<=((lo+b:Nat):Int):=ap;have ad:((lo+b:Nat):Int)<=c1:=ap;have a9:lo<=lo+b:=ap;have ao:lo+b<=c1:=ap;have aM:¬(c1=lo):=ap;have b1:bo<w.heap.size:=aB q2;have b2:bb<w.heap.size:=aB q0;obtain ⟨⟨r0,r1,r2,r3⟩,rf⟩:=bx4 h1;have b3:S<w.heap.size:=NE h1;obtain ⟨H1,Y,K3⟩:=af h1 u R;clear u R h1 Q h3 h4 h5 hE C O x J B a2 i k1 q3 N D;go_enter func247,ntmps247;go_wp2_with fail;refine Y.o.mono ?_;rintro e w' ⟨rfl,d,rfl⟩;have p:aq w (w.drewN d):=NU (NI _ _) d;have v:(w.drewN d).heap.size=w.heap.size:=by simp
 generalize w.drewN d=w1 at p v ⊢;have ab:=aw p q0;have a7:=aw p q1;have b0:=aw p q2;have H:=(p.block _ b3).trans H1.o;obtain ⟨⟨y0,y1,y2,y3⟩,yf⟩:=bx4 H;rw [<-v] at b1 b2 b3;obtain ⟨L,Z⟩:=ae p v;clear q0 q1 q2 r0 r1 r2 r3 rf p v H;go_wp2_with fail;have av:(lo:Int)+b<=c1:=ap;have aG:((lo:Int)+b).toNat=lo+b:=ap;have a4:(0:Int)<=(lo:Int)+b:=ap;have aR:(lo:Int)<=(lo:Int)+b:=ap;have a3:lo+b-lo=b:=ap;have a6:¬(lo+b=lo):=ap
 go_quiet (fail)
 go_wp2_with fail;go_ret;refine ⟨_,_,rfl,NF _,?_,NU (L.o.alloc (by have:=Z.o;omega) _) _⟩;have:=((((K3.o.below L.o).alloc (.cells #[OH (lo:Int),OH ((lo:Int)+b)] 148)).drewN nq).drop lo).take b
 rwa [dz,di] at this
def cX (l:Qa) (k i:Nat):Qa:=(l.drop (bdN l.length k i)).take (bdN l.length k (i+1)-bdN l.length k i)
theorem jS (l:Qa) {k i:Nat} (hk:1<=k) (h:i<k):(cX l k i).length=bdN l.length k (i+1)-bdN l.length k i:=by
 have h1:=gh l.length k (i+1) hk h;simp only [cX,Oi,Om];omega
def iI (l:Qa) (W x mi a:Nat):Qa:=cX (cX l W x) mi a
def zJ (L:Qa) (m:Nat) (w:Qd) (e:Ending) (h:Qd):Prop:=∃i o,e=.returned (.slice i m o)/\m<=o/\Rd h i (aA .i64 L)/\aq w h
theorem uZ (A:N_) (l:Qa) (c k i:Nat) (w:Qd) (hA:Rd w A (aA .i64 l)) (hc:l.length<=c) (hl:l.length<=1048576) (hn:0<l.length) (hk:1<=k) (I:k<=1048576) (H:i<k):Calls prog 248 #[.slice A l.length c,OH i,OH k] w (zJ (cX l k i) (cX l k i).length w):=by
 have p:=zk l.length k w hk I hl;obtain ⟨b,o,rfl,_⟩:=hA.num hn;have u:=jS l hk H;have D:cX l k i=(l.drop (bdN l.length k i)).take (bdN l.length k (i+1)-bdN l.length k i):=rfl;have h1:=qm l.length k (Nat.le_succ i);have N:=gh l.length k (i+1) hk H;have hg:=ez (l:=fX l.length k) (j:=i) (by rw [fP];exact H)
 have hr:aS (fX l.length k) i=(bdN l.length k i,bdN l.length k (i+1)):=by
  rw [cS _ _ (by rw [fP];exact H)];simp [fX]
 rw [hr] at hg;rw [u];obtain ⟨P,hP⟩:∃P,cX l k i=P:=⟨_,rfl⟩;obtain ⟨lo,C⟩:∃lo,bdN l.length k i=lo:=⟨_,rfl⟩;obtain ⟨h,x⟩:∃h,bdN l.length k (i+1)=h:=⟨_,rfl⟩;simp only [Nat.succ_eq_add_one] at h1;rw [hP] at D ⊢;rw [C,x] at D h1 hg ⊢;rw [x] at N;obtain ⟨V,Q⟩:∃V,aT (fX l.length k)=V:=⟨_,rfl⟩;rw [Q] at p hg;obtain ⟨n,B⟩:∃n,l.length=n:=⟨_,rfl⟩;rw [B] at p hc hl hn N ⊢;have Z:(i:Int)<k:=ap;have a0:¬(i:Int)<0:=ap;obtain ⟨J,HA,O,R⟩:=ag p hA hg D;clear p hA hg D hr u hP C x B Q;go_enter func248,ntmps248;go_wp2_with fail;refine J.o.mono ?_;rintro e w1 ⟨v,rfl,ov,L⟩;obtain ⟨g,cv,rfl,_⟩:=ov.form ap;have c0:=ov.cellAt (i*2) ap;have c1:=ov.cellAt (i*2+1) ap;rw [O.o.1] at c0;rw [O.o.2] at c1;have lg:=(ov.lt g rfl).2;have y:=aa L;clear ov L;by_cases U:h=lo
 ·subst U;go_wp2_with fail;go_ret;refine ⟨_,0,by rw [Nat.sub_self];rfl,by omega,?_,y.o.alloc y.o.size _⟩;rw [R.o,Nat.sub_self,List.take_zero];exact Rd.nil _ _
 ·have T:¬(h:Int)=lo:=ap;have Y:¬h-lo=0:=ap;go_wp2_with fail;go_ret;refine ⟨_,_,rfl,NF _,?_,y.o.alloc y.o.size _⟩;have:=(((HA.o.below y.o).alloc (.cells #[OH (lo:Int),OH (h:Int)] 148)).drop lo).take (h-lo)
  rwa [dz,di,<-R.o] at this
theorem EE (S n b steps t W x mi a:Nat) (l:Qa) (w:Qd) (h:gi w S n b steps l) (hb:1<=b) (a5:b<=n) (hn:n<=1048576) (a1:steps<=1048576) (ht:t<steps) (hW:1<=W) (a7:W<=b) (hx:x<W) (hm:1<=mi) (a2:mi<=1048576) (ha:a<mi):Calls prog 232 #[(au S),OH t,OH x,OH W,OH a,OH mi] w (zJ (iI (dH l n b t) W x mi a) (iI (dH l n b t) W x mi a).length w):=by
 have T:1<=n/b:=Nat.div_pos a5 hb;have y:=iK l (t:=t) T;have hv:=fun i (q:aq w i)=>zS S n b steps t l i (h.below q) hb hn T a1 ht;obtain ⟨B,hB⟩:∃B,dH l n b t=B:=⟨_,rfl⟩;rw [hB] at y hv ⊢;have hP:=jS B hW hx
 have V:bdN B.length W x+1<=bdN B.length W (x+1):=by
  rw [ql];have:1<=B.length/W:=Nat.div_pos ap ap;unfold szE;omega
 have p:=fun A c i (hA:Rd i A (aA .i64 B)) (hc:B.length<=c)=>uZ A B c W x i hA hc ap ap hW ap hx;obtain ⟨Q,Z⟩:∃Q,cX B W x=Q:=⟨_,rfl⟩;have J:iI B W x mi a=cX Q mi a:=by unfold iI;rw [Z]
 rw [Z] at hP p;have H:Q.length<=1048576:=by have:=gh B.length W (x+1) hW hx;omega
 have u:=fun A c i (hA:Rd i A (aA .i64 Q)) (hc:Q.length<=c)=>uZ A Q c mi a i hA hc H ap hm a2 ha;have R:=jS Q hm ha;have Y:=gh Q.length mi (a+1) hm ha;rw [J];obtain ⟨M,hM⟩:∃M,cX Q mi a=M:=⟨_,rfl⟩;rw [hM] at u R ⊢;have C:=fun A c i (hA:Rd i A (aA .i64 M))=>mG A M c i hA ap;rw [y] at p;obtain ⟨qn,D⟩:∃qn,Q.length=qn:=⟨_,rfl⟩;rw [D] at p u;obtain ⟨U,O⟩:∃U,M.length=U:=⟨_,rfl⟩;rw [O] at u C ⊢;obtain ⟨Hv,a0,a3,a4⟩:=ag hv p u C;clear hv p u C h R Y hP V y H O D hM J Z hB;go_enter func232,ntmps232;go_wp2_with fail;refine (Hv.o w (br w)).mono ?_;rintro e w1 ⟨A1,c1,rfl,I,r1,k1⟩;obtain ⟨H1,K1⟩:=ae (a0.o A1 c1 w1 r1 I) k1;clear I r1 k1;go_wp2_with fail;refine H1.o.mono ?_;rintro e w2 ⟨A2,c2,rfl,N,r2,k2⟩;obtain ⟨H2,K2⟩:=ae (a3.o A2 c2 w2 r2 N) (bt K1.o k2);clear N r2 k2;go_wp2_with fail;refine H2.o.mono ?_;rintro e w3 ⟨A3,c3,rfl,a6,r3,k3⟩;obtain ⟨H3,K3⟩:=ae (a4.o A3 c3 w3 r3) (bt K2.o k3);clear a6 r3 k3;go_wp2_with fail;refine H3.o.mono ?_;rintro e w4 ⟨v,rfl,o4,k4⟩;obtain ⟨A4,c4,rfl,L⟩:=aC o4;have HP:=aa (⟨A4,c4,rfl,L,Rd.own o4,bt K3.o k4⟩:zJ M U w (.returned (.slice A4 U c4)) w4);clear o4 k4 L;go_wp2_with fail;go_ret;exact HP.o
theorem CS {H:Nat->Prop} {w:Qd} {b x:Nat} {i:Inp} {a:MAd} {m:Mst} (h:aV H w b i x a m) (hn:(cK i x m.st).length<=m.nx) (u v:Value):Calls prog 216 #[(au b),u,v] w fun e B=>e=.returned (OH 13)/\aq w B:=by
 have A:=aa (wZ h hn);clear h hn;go_enter func216,ntmps216;go_wp2_with fail;refine A.o.mono ?_;rintro e C ⟨rfl,p⟩;have y:=aa (p.alloc p.size (.cells OS 152));clear p;go_wp2_with fail;go_ret;exact ⟨rfl,y.o⟩
theorem yk {w:Qd} {b:Nat} {xs:Qc} {e:Qf} (h:w.heap[b]?=some (.cells xs.toArray e (0,0))):Rd w (some (ar b 0)) xs:=fun k u i=>⟨b,0,rfl,by
 rw [Oz,NH w b k _ _ _ h];simpa using i⟩
theorem vU {l:Qa} (h:∀z∈l,0<=z/\z<=1048576):W64 l:=fun k hk=>by
 have:=h _ (wY hk);omega
theorem tT {w:Qd} {b:Nat} {u x y:Value} {t:Qf} (i p o:Value) (h:w.heap[b]?=some (.cells #[u,x,y] t (0,0))): (((w.setCell (ar b 0) i).setCell (ar b 1) p).setCell (ar b 2) o).heap[b]?=some (.cells #[i,p,o] t (0,0)):=by
 have h1:=OE w b 0 _ _ i h;have v:=OE _ b 1 _ _ p h1;exact OE _ b 2 _ _ o v
theorem qN {w:Qd} {b:Nat} (h o p:Value):Keep (fun i=>i=b) w (((w.setCell (ar b 0) h).setCell (ar b 1) o).setCell (ar b 2) p):=
 Keep.setCell (S:=fun i=>i=b) (Keep.setCell (S:=fun i=>i=b) (Keep.setCell (S:=fun i=>i=b) (Keep.refl _ w) (ar b 0) (.inr rfl) h) (ar b 1) (.inr rfl) o) (ar b 2) (.inr rfl) p
theorem ID (r c:Nat) (w:Qd) (hr:1<=r/\r<=1048576) (hc:1<=c/\c<=1048576) (hm:r*c<=1048576):Calls prog 258 #[OH r,OH c] w fun e y=>∃A,e=.returned (.agg #[OH r,OH c,.slice A (r*c) (r*c)])/\y.ownsRow w.heap.size 2 1 (.slice A (r*c) (r*c)) (r*c) (aA .i64 (List.replicate (r*c) 0))/\aq w y:=by
 have e1:(r:Int)*(c:Int)=((r*c:Nat):Int):=(Int.natCast_mul r c).symm;have hs:=fun y=>uD r c y ⟨by omega,by omega⟩ ⟨by omega,by omega⟩;obtain ⟨p,J⟩:∃p,r*c=p:=⟨_,rfl⟩;rw [J] at e1 hm ⊢;clear J;have x:(8:Nat)*p<=281474976710656:=ap;obtain ⟨D,Q⟩:=ae x hs;clear x hs;go_enter func258,ntmps258;go_wp2_with fail;refine (Q.o _).mono ?_;rintro e w1 ⟨rfl,C⟩;subst C;go_wp2_with (at_make;refine uv mL _ rfl (.tmp 20) (.tmp 20) rfl rfl p rfl rfl D.o (by unfold maxLen;omega) ?_);intro H i hb;rw [fp] at i;have h:=(hb.block w.heap.size (by simp)).trans (NG w _);obtain ⟨⟨T,O,r2⟩,V⟩:=bx3 h;have Z:w.heap.size<H.heap.size:=NE h;obtain ⟨HO,R,Y⟩:=af i hb h;clear i hb h;go_wp2_with fail;have L:=tT (OH r) (OH c) (.slice (some (ar (w.heap.size+1) 0)) p p) Y.o;have B:=qN (w:=H) (b:=w.heap.size) (OH r) (OH c) (.slice (some (ar (w.heap.size+1) 0)) p p);obtain ⟨I,u⟩:∃I,I=(((H.setCell (ar w.heap.size 0) (OH r)).setCell (ar w.heap.size 1) (OH c)).setCell (ar w.heap.size 2) (.slice (some (ar (w.heap.size+1) 0)) p p)):=⟨_,rfl⟩;rw [<-u] at L B ⊢;clear u T O r2 V;obtain ⟨⟨N,U,q2⟩,qf⟩:=bx3 L;refine NX (v:=.agg #[OH r,OH c,.slice (some (ar (w.heap.size+1) 0)) p p]) (by simp [results,results258,go_sem,N,U,q2]) rfl ⟨_,rfl,?_,?_⟩
 ·refine aE (base:=w.heap.size+1) (B.own HO.o (fun k hk e=>?_)) ap;simp [Value.ownBlock] at hk;omega
 ·exact (Below.trans ((NI _ w).alloc (NF _) _) (R.o.mono (by simp))).trans (B.toBelow ap (fun k hk=>ap))
end Go.Proofs.YtgmajkppbhiopaaGreat
namespace Go.Proofs.YtgmajkppbhiopaaGreat
open Go.RowKit Go.Shelf
open Tryz
attribute [local go_sem] Oper.semAt_some
def MF (r c:Nat) (ys xs:Qa) (A B:N_) (h d e:Nat) (q:Int) (w:Qd) (G N M:Nat) (i:List (Fin r)) (W:Qd):Prop:= (W.ownsRow w.heap.size 2 1 (.slice (some (ar G 0)) h h) h (aA .i64 (nV r c ys xs q (i.map (·.1)) 0 0))/\Boxed W w.heap.size 139 (.slice A r d)/\Boxed W (w.heap.size+1) 139 (.slice B c e)/\Boxed W (w.heap.size+1+1) 3 (OH q)/\
  W.heap[w.heap.size+1+1+1]?=some (.cells #[OH 0,OH 0,OJ] 354 (0,0))/\W.heap[N]?=some (.cells #[OH r,OH c,.slice (some (ar G 0)) h h] 354 (0,0))/\
  W.heap[M]?=some (.cells #[OH r,OH c,.slice (some (ar G 0)) h h] 354 (0,0)))/\aq w W
theorem Im (r c:Nat) (ys xs:Qa) (A B:N_) (C d e:Nat) (q:Int) (w:Qd) (G N M K:Nat) (v:w.heap.size<=K):OwnFrom K (MF r c ys xs A B C d e q w G N M):=by
 intro s W H row hs hg hr;obtain ⟨⟨h1,o,D,p,x,u,i⟩,h⟩:=hs;have y:=ownFrom_below (β:=Unit) (NF _) v () W H row h hg hr;exact ⟨⟨yv h1 hg hr,eC rfl o hg hr,eC rfl D hg hr,eC rfl p hg hr,eC rfl x hg hr,eC rfl u hg hr,eC rfl i hg hr⟩,y⟩
theorem Ei (r c:Nat) (A B:N_) (ys xs:Qa) (d e:Nat) (q:Int) (w:Qd) (hr:1<=r/\r<=1048576) (hc:1<=c/\c<=1048576) (hm:r*c<=1048576) (hA:Rd w A (aA .i64 ys)) (wy:W64 ys) (cb:ys.length=r) (hB:Rd w B (aA .i64 xs)) (bz:xs.length=c) (wx:W64 xs):Calls prog 250 #[.slice A r d,.slice B c e,OH q] w fun e J=>∃A',e=.returned (.agg #[OH r,OH c,.slice A' (r*c) (r*c)])/\J.ownsRow w.heap.size 2 1 (.slice A' (r*c) (r*c)) (r*c) (aA .i64 (mx r c ys xs q))/\aq w J:=by
 obtain ⟨C,a8⟩:∃C,r*c=C:=⟨_,rfl⟩;have cO:1<=C:=by rw [<-a8];exact Nat.mul_pos hr.1 hc.1
 have b4:=fun J=>ID r c J hr hc hm;have bw:=fun A' J=>ny r c A' C C J hr hc a8.symm ap;have c6:=fun cs J=>sB cs J;rw [a8] at b4 hm ⊢;obtain ⟨cn,ct,cw,a9,co,cx,HA,HB⟩:=ak b4 bw c6 a8 bz cb hA hB;obtain ⟨WX,WY⟩:=ae wx wy;clear b4 bw c6 a8 bz cb hA hB wx wy;refine (callsIn_wide (n:=3)).1 ?_;refine callsIn_of_wp_marks func250 rfl trivial ?_ rfl;simp only [ntmps250,List.size_toArray,List.length_cons,List.length_nil,Nat.reduceAdd,Nat.reduceSub,Array.replicate_succ,Array.replicate_zero,List.push_toArray,List.append_toArray,List.nil_append,List.cons_append]
 gi_wp2_with fail
 refine ⟨trivial,?_⟩;refine (callsIn_wide.2 (cn.o _)).mono ?_;rintro e w1 ⟨A',rfl,L,a0⟩;have aP:aq w w1:=Below.trans (((((NI _ w).alloc (NF _) _).alloc (by simp) _).alloc (by simp;omega) _).alloc (by simp;omega) _) (a0.mono (by first | (simp;done) | (simp;omega)))
 have h2:Boxed w1 w.heap.size 139 (.slice A r d):=by
  refine (a0.block w.heap.size (by first | (simp;done) | (simp;omega))).trans ?_;refine (NW _ _ _ (by first | (simp;done) | (simp;omega))).trans ((NW _ _ _ (by first | (simp;done) | (simp;omega))).trans ((NW _ _ _ (by simp)).trans (NG w _)))
 have h3:Boxed w1 (w.heap.size+1) 139 (.slice B c e):=by
  refine (a0.block (w.heap.size+1) (by first | (simp;done) | (simp;omega))).trans ?_;refine (NW _ _ _ (by first | (simp;done) | (simp;omega))).trans ((NW _ _ _ (by simp)).trans ?_);have:=NG (w.alloc (.cells #[.slice A r d] 139)) (.cells #[.slice B c e] 139);simpa using this
 have h4:Boxed w1 (w.heap.size+1+1) 3 (OH q):=by
  refine (a0.block (w.heap.size+1+1) (by first | (simp;done) | (simp;omega))).trans ?_;refine (NW _ _ _ (by simp)).trans ?_;have:=NG ((w.alloc (.cells #[.slice A r d] 139)).alloc (.cells #[.slice B c e] 139)) (.cells #[OH q] 3);simpa using this
 have h5:w1.heap[w.heap.size+1+1+1]?=some (.cells #[OH 0,OH 0,OJ] 354 (0,0)):=by
  refine (a0.block (w.heap.size+1+1+1) (by simp)).trans ?_;have:=NG (((w.alloc (.cells #[.slice A r d] 139)).alloc (.cells #[.slice B c e] 139)).alloc (.cells #[OH q] 3)) (.cells #[OH 0,OH 0,OJ] 354);simpa using this
 obtain ⟨G,dG,bA,hG,bo⟩:=L.form ap;simp only [Ou] at bA;obtain ⟨rfl,_,rfl⟩:=bA;have c7:w.heap.size+1+1+1+1<=G:=by simpa using hG
 have L:=aE L (base':=w.heap.size) (by first | (simp;done) | (simp;omega));obtain ⟨bi,a6,H2,H3,H4,H5,bf,cd⟩:=ak L aP h2 h3 h4 h5 c7 bo;clear L aP h2 h3 h4 h5 c7 bo hG a0
 gi_wp2_with fail
 refine ⟨trivial,?_⟩;refine (callsIn_wide.2 (ct.o _ _)).mono ?_;rintro e w2 ⟨rfl,rfl⟩
 gi_wp2_with fail
 refine ⟨trivial,?_⟩;refine (callsIn_wide.2 (cw.o _ _)).mono ?_;rintro e w3 ⟨rfl,rfl⟩
 gi_wp2_with fail
 obtain ⟨U,V⟩:∃U,U=(w1.alloc (.cells #[OH r,OH c,.slice (some (ar G 0)) C C] 354)).alloc (.cells #[OH r,OH c,.slice (some (ar G 0)) C C] 354):=⟨_,rfl⟩;rw [<-V];have ab:U.heap.size=w1.heap.size+1+1:=by rw [V];simp
 have bN:U.heap[w1.heap.size]?=some (.cells #[OH r,OH c,.slice (some (ar G 0)) C C] 354 (0,0)):=by
  rw [V];exact (NW _ _ _ (by simp)).trans (NG w1 _)
 have bM:(U.alloc (.cells #[OH r,OH c,.slice (some (ar G 0)) C C] 354)).heap[U.heap.size]?=some (.cells #[OH r,OH c,.slice (some (ar G 0)) C C] 354 (0,0)):=NG U _
 have hl:∀b o,w1.heap[b]?=some o->(U.alloc (.cells #[OH r,OH c,.slice (some (ar G 0)) C C] 354)).heap[b]?=some o:=fun b o h=>by
  have hb:=NE h;rw [V];exact (NW _ _ _ (by simp;omega)).trans ((NW _ _ _ (by simp;omega)).trans ((NW _ _ _ hb).trans h))
 have R:aq w U:=by rw [V];exact (a6.o.alloc a6.o.size _).alloc (by have:=a6.o.size;simp;omega) _
 have r0:U.ownsRow w.heap.size 2 1 (.slice (some (ar G 0)) C C) C (aA .i64 (List.replicate C 0)):=by rw [V];exact (bi.o.alloc _).alloc _
 rw [<-a9.o,Ej r c ys xs q 0,a9.o] at r0;obtain ⟨N,hN⟩:∃N,N=w1.heap.size:=⟨_,rfl⟩;rw [<-hN] at bN ab ⊢;rw [<-ab];have bO:MF r c ys xs A B C d e q w G N U.heap.size [] (U.alloc (.cells #[OH r,OH c,.slice (some (ar G 0)) C C] 354)):=⟨⟨r0.alloc _,hl _ _ H2.o,hl _ _ H3.o,hl _ _ H4.o,hl _ _ H5.o,(NW U _ _ (NE bN)).trans bN,bM⟩,R.alloc R.size _⟩;obtain ⟨bv,aM,cL,HN,cM⟩:=ah ab R bM hN bO;clear ab R bM bN r0 hN V hl bO
 refine' wpIn_rangeFunc_ownG (F:=Fence.wide) (n:=3) rfl ap (gf:=268) (lb:=#[(au U.heap.size)]) rfl trivial (enters_of func268 (by kernel_rfl) rfl)
  (oK _ U.heap.size w.heap.size G 0 r c C C hr.2 hc a9.o.symm (NF _) _ cL.o) mj (mp (by have:=aM.o.size;simp;omega) (by simp)) (NI _ _) (fun _=>rfl)
  (MF r c ys xs A B C d e q w G N U.heap.size)
  (fun _ _ _=>False)
  (Im r c ys xs A B C d e q w G N U.heap.size _ (by have:=aM.o.size;simp;omega))
  (fun _ _ _ _ _ hs _ _=>hs)
  cM.o
  _ ?assign ?body ?done ?stop
 case assign=>
  intro l x W K Q;unfold qC
  gi_wp2
  exact Q
 case body=>
  rintro l b9 x W ⟨⟨O,aR,b8,b3,a1,ad,b6⟩,a2⟩ a3;have O:W.ownsRow w.heap.size 2 1 (.slice (some (ar G 0)) C C) C (aA .i64 (nV r c ys xs q (b9.map (·.1)) x.1 0)):=by rw [Bg x.1 0];exact O
  obtain ⟨av,H2,H3,H4,H5,cj,be,ao⟩:=ak O aR b8 b3 a1 ad b6 a2;have d1:=aa a3;clear O aR b8 b3 a1 ad b6 a2 a3
  gi_wp2_with fail
  gi_loopw [26] (fun i wr=>∃j:Nat,j<=c/\i=OH j/\wr.ownsRow w.heap.size 2 1 (.slice (some (ar G 0)) C C) C (aA .i64 (nV r c ys xs q (b9.map (·.1)) x.1 j))/\Keep (fun i=>i=G) W wr) (fun i _=>c-(intOf i).toNat)
  ·exact ⟨0,NJ _,rfl,av.o,Keep.refl _ _⟩
  case round=>
   obtain ⟨j,hj,rfl,a7,Q⟩:=hrel;by_cases a3:j<c
   ·have b0:x.1<ys.length:=by rw [cx.o];exact x.2
    have bn:j<xs.length:=by rw [co.o];exact a3
    have d0:=bf.o;obtain ⟨b1,o1,cA,bb⟩:=HA.o.num b0;obtain ⟨b2,o2,cl,b7⟩:=HB.o.num bn;have l1:b1<w.heap.size:=aB bb;have l2:b2<w.heap.size:=aB b7;subst cA;subst cl;have hk:∀b v,b≠G->∀o,W.cell? (ar b o)=some v->wr.cell? (ar b o)=some v:=fun b v hb o h=>Q.cell h hb;have H:(fun J:Qd=>J.cell? (ar w.heap.size 0)=some (.slice (some (ar b1 o1)) r d)/\J.cell? (ar (w.heap.size+1) 0)=some (.slice (some (ar b2 o2)) c e)/\J.cell? (ar (w.heap.size+1+1) 0)=some (OH q)/\J.cell? (ar b1 (o1+x.1))=some (OH (nth ys x.1))/\J.cell? (ar b2 (o2+j))=some (OH (nth xs j))) wr.drew:=⟨hk _ _ ap _ (Boxed.cell H2.o),hk _ _ ap _ (Boxed.cell H3.o),hk _ _ ap _ (Boxed.cell H4.o),hk _ _ ap _ ((ao.o.cell (p:=(ar b1 (o1+x.1))) l1).trans bb),hk _ _ ap _ ((ao.o.cell (p:=(ar b2 (o2+j))) l2).trans b7)⟩;have cP:(x.1:Int)<r:=by have:=x.2;omega
    have a4:x.1*c+j<C:=by rw [<-a9.o];have:=qG (c:=c) x.2;omega
    have c9:=fun J=>tv (nth ys x.1) (nth xs j) q J (WY.o _ b0) (WX.o _ bn);obtain ⟨cr,cf,HK,bl⟩:=ag c9 a7 Q a4;clear c9 a7 Q hk a4 b0 bn bb b7
    gi_wp2_with fail
    refine m7 (fun J:Qd=>J.cell? (ar w.heap.size 0)=some (.slice (some (ar b1 o1)) r d)/\J.cell? (ar (w.heap.size+1) 0)=some (.slice (some (ar b2 o2)) c e)/\J.cell? (ar (w.heap.size+1+1) 0)=some (OH q)/\J.cell? (ar b1 (o1+x.1))=some (OH (nth ys x.1))/\J.cell? (ar b2 (o2+j))=some (OH (nth xs j))) (by kernel_rfl) (by kernel_rfl) (by rintro ⟨_,_,h⟩;exact h) ?_;refine wpAnyH_take (i:=0) (v:=?_) rfl (by kernel_rfl) (by kernel_rfl) (by kernel_rfl) (fun _ _ _ h=>h) (Or.inl ⟨by rfl,?_⟩) H ?_;rotate_left
    ·intro w9 y;(try dsimp only at y);obtain ⟨s1,s2,Z,Y,s5⟩:=y;go_simp;(try with_reducible rfl)
    simp only [N0,N1,N2,Act.put,N4,N5,N6];refine wpAnyH_take (i:=1) (v:=?_) rfl (by kernel_rfl) (by kernel_rfl) (by kernel_rfl) (fun _ _ _ h=>h) (Or.inl ⟨by rfl,?_⟩) H ?_;rotate_left
    ·intro w9 y;(try dsimp only at y);obtain ⟨s1,s2,Z,Y,s5⟩:=y;go_simp;(try with_reducible rfl)
    simp only [N0,N1,N2,Act.put,N4,N5,N6];refine wpAnyH_take (i:=2) (v:=?_) rfl (by kernel_rfl) (by kernel_rfl) (by kernel_rfl) (fun _ _ _ h=>h) (Or.inl ⟨by rfl,?_⟩) H ?_;rotate_left
    ·intro w9 y;(try dsimp only at y);obtain ⟨s1,s2,Z,Y,s5⟩:=y;go_simp;(try with_reducible rfl)
    simp only [N0,N1,N2,Act.put,N4,N5,N6];refine wpAnyH_take (i:=3) (v:=?_) rfl (by kernel_rfl) (by kernel_rfl) (by kernel_rfl) (fun _ _ _ h=>h) (Or.inl ⟨by rfl,?_⟩) H ?_;rotate_left
    ·intro w9 y;(try dsimp only at y);obtain ⟨s1,s2,Z,Y,s5⟩:=y;go_simp;(try with_reducible rfl)
    simp only [N0,N1,N2,Act.put,N4,N5,N6];refine wpAnyH_take (i:=4) (v:=?_) rfl (by kernel_rfl) (by kernel_rfl) (by kernel_rfl) (fun _ _ _ h=>h) (Or.inl ⟨by rfl,?_⟩) H ?_;rotate_left
    ·intro w9 y;(try dsimp only at y);obtain ⟨s1,s2,Z,Y,s5⟩:=y;go_simp;(try with_reducible rfl)
    simp only [N0,N1,N2,Act.put,N4,N5,N6];refine wpAnyH_take (i:=5) (v:=?_) rfl (by kernel_rfl) (by kernel_rfl) (by kernel_rfl) (fun _ _ _ h=>h) (Or.inl ⟨by rfl,?_⟩) H ?_;rotate_left
    ·intro w9 y;(try dsimp only at y);obtain ⟨s1,s2,Z,Y,s5⟩:=y;go_simp;(try with_reducible rfl)
    simp only [N0,N1,N2,Act.put,N4,N5,N6];refine wpAnyH_take (i:=6) (v:=?_) rfl (by kernel_rfl) (by kernel_rfl) (by kernel_rfl) (fun _ _ _ h=>h) (Or.inl ⟨by rfl,?_⟩) H ?_;rotate_left
    ·intro w9 y;(try dsimp only at y);obtain ⟨s1,s2,Z,Y,s5⟩:=y;go_simp;(try with_reducible rfl)
    simp only [N0,N1,N2,Act.put,N4,N5,N6];refine wpAnyH_take (i:=7) (v:=?_) rfl (by kernel_rfl) (by kernel_rfl) (by kernel_rfl) (fun _ _ _ h=>h) (Or.inl ⟨by rfl,?_⟩) H ?_;rotate_left
    ·intro w9 y;(try dsimp only at y);obtain ⟨s1,s2,Z,Y,s5⟩:=y;go_simp;(try with_reducible rfl)
    simp only [N0,N1,N2,Act.put,N4,N5,N6];refine wpAnyH_take (i:=8) (v:=?_) rfl (by kernel_rfl) (by kernel_rfl) (by kernel_rfl) (fun _ _ _ h=>h) (Or.inl ⟨by rfl,?_⟩) H ?_;rotate_left
    ·intro w9 y;(try dsimp only at y);obtain ⟨s1,s2,Z,Y,s5⟩:=y;go_simp;(try with_reducible rfl)
    simp only [N0,N1,N2,Act.put,N4,N5,N6];refine wpAnyH_take (i:=9) (v:=?_) rfl (by kernel_rfl) (by kernel_rfl) (by kernel_rfl) (fun _ _ _ h=>h) (Or.inl ⟨by rfl,?_⟩) H ?_;rotate_left
    ·intro w9 y;(try dsimp only at y);obtain ⟨s1,s2,Z,Y,s5⟩:=y;go_simp;(try with_reducible rfl)
    simp only [N0,N1,N2,Act.put,N4,N5,N6];refine wpAnyH_take (i:=10) (v:=?_) rfl (by kernel_rfl) (by kernel_rfl) (by kernel_rfl) (fun _ _ _ h=>h) (Or.inl ⟨by rfl,?_⟩) H ?_;rotate_left
    ·intro w9 y;(try dsimp only at y);obtain ⟨s1,s2,Z,Y,s5⟩:=y;go_simp;(try with_reducible rfl)
    simp only [N0,N1,N2,Act.put,N4,N5,N6];refine wpAnyH_ready (rs:=[11]) (by kernel_rfl) (by simp) ?_;refine AllReadyH.cons rfl (fun K Q=>?_) AllReadyH.nil;simp only [N0,N1,N2];go_simp;refine (cr.o _).mono ?_;rintro e w3 ⟨rfl,T⟩;dsimp only;have b5:(fun J:Qd=>J.cell? (ar w.heap.size 0)=some (.slice (some (ar b1 o1)) r d)/\J.cell? (ar (w.heap.size+1) 0)=some (.slice (some (ar b2 o2)) c e)/\J.cell? (ar (w.heap.size+1+1) 0)=some (OH q)/\J.cell? (ar b1 (o1+x.1))=some (OH (nth ys x.1))/\J.cell? (ar b2 (o2+j))=some (OH (nth xs j))) w3:=⟨aw T H.1,aw T H.2.1,aw T H.2.2.1,aw T H.2.2.2.1,aw T H.2.2.2.2⟩;refine Q.out _ _ b5 (fun _=>?_);clear Q K H;have H:=b5;clear b5;have I:=ay (w:=wr.drew) cf.o T;have cy:∃u,w3.cell? (ar G (x.1*c+j))=some u:=⟨_,cH I bl.o⟩;obtain ⟨u3,p3⟩:=cy;have f3:=I.frozenAt (x.1*c+j);obtain ⟨bd,cv⟩:=ae I T;clear I T;refine wpAnyH_take (i:=12) (v:=?_) rfl (by kernel_rfl) (by kernel_rfl) (by kernel_rfl) (fun _ _ _ h=>h) (Or.inl ⟨by rfl,?_⟩) H ?_;rotate_left
    ·intro w9 y;(try dsimp only at y);obtain ⟨s1,s2,Z,Y,s5⟩:=y;go_simp;(try with_reducible rfl)
    simp only [N0,N1,N2,Act.put,N4,N5,N6];refine wpAnyH_ready (rs:=[13]) (by kernel_rfl) (by simp) ?_;refine AllReadyH.cons rfl (fun K Q=>?_) AllReadyH.nil;simp only [N0,N1,N2];go_simp;refine Q.out _ _ ?_ (fun _=>?_)
    ·obtain ⟨s1,s2,Z,Y,s5⟩:=H;exact ⟨(World.cell?_setCell_far _ _ _ _ (show G≠w.heap.size by omega)).trans s1,(World.cell?_setCell_far _ _ _ _ (show G≠w.heap.size+1 by omega)).trans s2,(World.cell?_setCell_far _ _ _ _ (show G≠w.heap.size+1+1 by omega)).trans Z,(World.cell?_setCell_far _ _ _ _ (show G≠b1 by omega)).trans Y,(World.cell?_setCell_far _ _ _ _ (show G≠b2 by omega)).trans s5⟩
    refine wpAnyH_done (by kernel_rfl) ?_ _;clear H p3 f3 Q K
    gi_wp2_with fail
    refine ⟨⟨j+1,by omega,by go_num,?_,?_⟩,by simp [intOf];omega⟩
    ·rw [<-Ik x.2 a3];exact ed bd.o _ _
    ·exact Keep.setCell (HK.o.drew.trans (Keep.below cv.o)) (ar G _) (.inr rfl) _
   ·obtain rfl:j=c:=ap
    gi_wp2_with fail
    have ci:=bf.o;have bX:=cd.o;have bG:=bv.o;have bV:=HN.o;have cc:Below w.heap.size W wr:=Q.toBelow ao.o.size (fun k hk=>ap);have bs:=(Q.block _ (NE be.o) ap).trans be.o;refine ⟨(m8 Q fun k o hk ho=>?_).from _,⟨cc,fun _=>bs.trans be.o.symm⟩,⟨⟨?_,?_,?_,?_,?_,?_,bs⟩,ao.o.trans cc⟩⟩
    ·subst hk;exact vc av.o ho
    ·rw [List.map_append,List.map_singleton,<-Il hc.1];exact a7
    ·exact (Q.block _ (NE H2.o) ap).trans H2.o
    ·exact (Q.block _ (NE H3.o) ap).trans H3.o
    ·exact (Q.block _ (NE H4.o) ap).trans H4.o
    ·exact (Q.block _ (NE H5.o) ap).trans H5.o
    ·exact (Q.block _ (NE cj.o) ap).trans cj.o
 case done=>
  rintro D zs W hD rfl ⟨⟨O,aR,b8,b3,a1,ad,b6⟩,a2⟩ Q;obtain ⟨⟨n0,n1,n2⟩,nf⟩:=bx3 ad;obtain ⟨⟨m0,m1,m2⟩,mf⟩:=bx3 a1
  gi_wp2
  have aG:(List.finRange r).map (·.1)=List.range r:=List.ext_getElem (by simp) (by simp);rw [aG,Ek hc.1] at O;have h3:=tT (OH r) (OH c) (.slice (some (ar G 0)) C C) a1;have k3:=qN (w:=W) (b:=w.heap.size+1+1+1) (OH r) (OH c) (.slice (some (ar G 0)) C C);have ci:=bf.o;have bX:=cd.o;have bG:=bv.o;have bV:=HN.o;simp only [NZ] at hD;obtain ⟨W3,c8⟩:∃W3,W3=(((W.setCell (ar (w.heap.size+1+1+1) 0) (OH r)).setCell (ar (w.heap.size+1+1+1) 1) (OH c)).setCell (ar (w.heap.size+1+1+1) 2) (.slice (some (ar G 0)) C C)):=⟨_,rfl⟩;rw [<-c8] at h3 k3 ⊢;clear c8;have bh:W3.heap[D]?=some (.deferred (some [])):=(k3.block D (NE Q) ap).trans Q;refine ⟨by simp,.inl ⟨_,_,rfl,run_takeDeferred bh,?_⟩⟩;have h4:(W3.putObj D (.deferred none)).heap[w.heap.size+1+1+1]?=some (.cells #[OH r,OH c,.slice (some (ar G 0)) C C] 354 (0,0)):=(World.putObj_heap_other ap).trans h3;have I:=ownsRow_putObj (k3.own O (fun k hk e=>by simp [Value.ownBlock] at hk;omega)) (.deferred none) bh rfl;have a5:aq w (W3.putObj D (.deferred none)):=(a2.trans (k3.toBelow a2.size (fun k hk=>ap))).trans (belowK_b (w:=w) (NF _) W3 D _ _ ap bh rfl rfl);obtain ⟨W4,bI⟩:∃W4,W4=W3.putObj D (.deferred none):=⟨_,rfl⟩;rw [<-bI] at h4 I a5 ⊢;clear bI ci bX bG bV aG;obtain ⟨⟨q0,q1,q2⟩,qf⟩:=bx3 h4;refine ⟨.agg #[OH r,OH c,.slice (some (ar G 0)) C C],by simp [results,results250,go_sem,q0,q1,q2],_,rfl,I,a5⟩
 case stop=>
  rintro D c b9 W _ _ h _;exact h.elim
end Go.Proofs.YtgmajkppbhiopaaGreat
namespace Go.Proofs.YtgmajkppbhiopaaGreat
open Go.RowKit
open Tryz
theorem pE {P:Program} {w:Qd} {ops:Qh} {rest:List Oper} {o:Oper} {a:Qi} {Q:Exit->Qi->Qd->Prop} (p:o.guard=none) (d s:Operand) (y C:Qf) (D:o.op=.call {callee:=.builtin .copy,args:=#[d,s],argTypes:=#[y,C]}) (elem:Qf) (hu:P.underlying y=some (.slice elem)) (hsz:(P.info? elem).map (·.size)=some 1) (dp sp:N_) (n dCap sCap:Nat) (hd:a.eval d=.slice dp n dCap) (hs:a.eval s=.slice sp n sCap) (g off:Nat) (cur:Qc) (t:Qf) (hg:w.heap[g]?=some (.cells cur.toArray t (0,0))) (cs:Qc) (hn:cs.length=n) (hdp:0<n->dp=some (ar g off)) (hr:Rd w sp cs) (hfit:off+cs.length<=cur.length) (h1:∀v∈cs,v.oneCell'=true) (h:∀B,an (B.heap[g]?=some (.cells (splice cur off cs).toArray t (0,0)))->Keep (fun i=>i=g) w B->wpList P ops Q rest (a.put o.dst (goInt cs.length)) B):
  wpList P ops Q (o::rest) a w:=by
 by_cases I:cs.length=0
 ·obtain rfl:cs=[]:=List.eq_nil_of_length_eq_zero I;refine wpList_copy_nothing p d s y C D elem hu hsz dp sp n dCap n sCap hd hs (by simp at hn;subst hn;rfl) ?_;exact h w (show _=_ by simpa [splice] using hg) (Keep.refl _ _)
 ·obtain rfl:=hdp ap
  have J:∃A,sp=some A/\∀j v,cs[j]?=some v->w.cell? (A.add j)=some v:=by
   obtain ⟨b,O,u,_⟩:=hr 0 cs[0] (Of ap);refine ⟨_,u,fun j v H=>?_⟩;obtain ⟨L,N,e,hc⟩:=hr j v H;rw [u] at e;injection e with e
   injection e with e1 e2 _
   subst e1;subst e2;rw [Addr.add_lit];exact hc
  obtain ⟨A,rfl,x⟩:=J;refine wpList_copy_own p d s y C D elem hu hsz g off n dCap A n sCap hd hs cur.toArray t hg cs (by rw [hn];exact (Nat.min_self n).symm) x (by simpa using hfit) h1 ?_;exact h _ (show _=_ by simpa [splice] using setRow_heap w g _ _ t _ hg) ⟨rfl,rfl,rfl,by simp [World.setRow],fun k hk hn=>setRow_other w g k _ hn⟩
theorem zW {P:Program} {w:Qd} {ops:Qh} {I:Qb} {o:Oper} {a:Qi} {K:Qi->Qd->Prop} {Q:Exit->Qi->Qd->Prop} {E:Prop} (d s:Operand) (y D:Qf) (B:o.guard=none) (H:o.op=.call {callee:=.builtin .copy,args:=#[d,s],argTypes:=#[y,D]}) (elem:Qf) (hu:P.underlying y=some (.slice elem)) (hsz:(P.info? elem).map (·.size)=some 1) (dp sp:N_) (n dCap sCap:Nat) (hd:a.eval d=.slice dp n dCap) (hs:a.eval s=.slice sp n sCap) (g off:Nat) (cur:Qc) (t:Qf) (hg:w.heap[g]?=some (.cells cur.toArray t (0,0))) (cs:Qc) (hn:cs.length=n) (hdp:0<n->dp=some (ar g off)) (hr:Rd w sp cs) (hfit:off+cs.length<=cur.length) (h1:∀v∈cs,v.oneCell'=true) (h:∀C,an (C.heap[g]?=some (.cells (splice cur off cs).toArray t (0,0)))->Keep (fun i=>i=g) w C->K (a.put o.dst (goInt cs.length)) C):
  if Region.wanted o (yielded ops I)=true then Oper.wp P o a w K Q else E:=by
 rw [if_pos (by simp [Region.wanted,B])];by_cases L:cs.length=0
 ·obtain rfl:cs=[]:=List.eq_nil_of_length_eq_zero L;have p:=run_copy_none (P:=P) w y D o.type elem dp sp n dCap n sCap hu hsz (by simp at hn;subst hn;rfl);unfold Oper.wp;simp [execOp,H,resolve,invoke,builtin,hd,hs,p,Result.andThen];exact h w (show _=_ by simpa [splice] using hg) (Keep.refl _ _)
 ·obtain rfl:=hdp ap
  have N:∃A,sp=some A/\∀j v,cs[j]?=some v->w.cell? (A.add j)=some v:=by
   obtain ⟨b,T,u,_⟩:=hr 0 cs[0] (Of ap);refine ⟨_,u,fun j v J=>?_⟩;obtain ⟨O,R,e,hc⟩:=hr j v J;rw [u] at e;injection e with e
   injection e with e1 e2 _
   subst e1;subst e2;rw [Addr.add_lit];exact hc
  obtain ⟨A,rfl,x⟩:=N;have p:=run_copy_row (P:=P) w y D o.type elem g off n dCap A n sCap cur.toArray t cs hu hsz hg (by rw [hn];exact (Nat.min_self n).symm) x (by simpa using hfit) h1;unfold Oper.wp;simp [execOp,H,resolve,invoke,builtin,hd,hs,p,Result.andThen];exact h _ (show _=_ by simpa [splice] using setRow_heap w g _ _ t _ hg) ⟨rfl,rfl,rfl,by simp [World.setRow],fun k hk hn=>setRow_other w g k _ hn⟩
theorem Ij {w:Qd} {base:Nat} {e:Qf} {g n:Nat} {xs:Qc} (h:w.ownsRow base e 1 (.slice (some (ar g 0)) n n) n xs):w.heap[g]?=some (.cells xs.toArray e (0,0)):=by
 rcases h.2 with ⟨u,_⟩ | ⟨v,cap,i,o,_,hg,_,_,hs,p⟩
 ·cases u
 ·simp only [Ou,Option.some.injEq,Addr.mk.injEq,and_true,true_and] at o;obtain ⟨rfl,rfl⟩:=o;rw [Nat.mul_one] at hs p
  have:i=xs.toArray:=by
   rw [<-p,List.take_of_length_le (by simp [hs])]
  rw [<-this];exact hg
theorem m9 (q:IntKind) (a b:Qa) (off:Nat):splice (aA q a) off (aA q b)=aA q (splice a off b):=by
 unfold splice;rw [di,bS,dz,<-cT,<-cT]
theorem sI {w:Qd} {g:Nat} {e:Qf} {xs:Qc} (h:w.heap[g]?=some (.cells xs.toArray e (0,0))):Rd w (some (ar g 0)) xs:=fun k u i=>by
 refine ⟨g,0,rfl,?_⟩;rw [Oz,NH w g k xs.toArray e (0,0) h];simpa using i
theorem IZ {w:Qd} {base:Nat} {e:Qf} {g:Nat} {xs:Qc} (h:w.heap[g]?=some (.cells xs.toArray e (0,0))) (hb:base<=g) (hm:xs.length<=maxLen):w.ownsRow base e 1 (.slice (some (ar g 0)) xs.length xs.length) xs.length xs:=
 ⟨by simp,.inr ⟨g,xs.length,xs.toArray,rfl,hb,h,NF _,hm,by simp,by simp⟩⟩
theorem vY {o W D:Qa} {lo:Nat} (h:lo+W.length+D.length<=o.length):(splice (splice o lo W) (lo+W.length) D).drop lo=W++(D++o.drop (lo+W.length+D.length)):=by
 have p:splice o lo W=(o.take lo++W)++o.drop (lo+W.length):=by unfold splice;rw [Oj]
 have l1:(o.take lo++W).length=lo+W.length:=by rw [Od,Oi];omega
 have u:(splice o lo W).take (lo+W.length)=o.take lo++W:=by rw [p,<-l1,List.take_left]
 have x:(splice o lo W).drop (lo+W.length+D.length)=o.drop (lo+W.length+D.length):=by
  rw [p,List.drop_append,l1,List.drop_of_length_le (by rw [l1];omega),List.nil_append,List.drop_drop]
  congr 1
  omega
 have v:splice (splice o lo W) (lo+W.length) D=o.take lo++(W++(D++o.drop (lo+W.length+D.length))):=by
  show (splice o lo W).take (lo+W.length)++(D++(splice o lo W).drop (lo+W.length+D.length))=_
  rw [u,x,Oj]
 have i:(o.take lo).length=lo:=by rw [Oi];omega
 rw [v]
 conv=>lhs;rw [<-i]
 rw [i,List.drop_append_of_le_length (by rw [i];exact NF _),List.drop_of_length_le (by rw [i];exact NF _),List.nil_append]
def Nf (sz ps:Qa) (q:Int) (x y:Qa) (G:Nat) (k:Nat) (D:Value) (h i w:Qd):Prop:=
 ∃A c o,D=.slice A (szN sz (k+1)) c/\w.ownsRow h.heap.size 2 1 (.slice A (szN sz (k+1)) c) (szN sz (k+1)) (aA .i64 (ge sz ps q x y (sz.length-2-k)))/\
  w.heap[G]?=some (.cells (aA .i64 o).toArray 2 (0,0))/\o.length=bR sz (sz.length-1)/\o.drop (bR sz (k+1))=qg sz ps q x y (sz.length-2-k)/\(∀a,A=some a->a.block≠G)/\aq i w
theorem Gu:cY prog 148 2:=⟨⟨_,underlying148,rfl⟩,by kernel_rfl⟩
theorem Lj (b:Nat) (sz ps:Qa) (q:Int) (A B:N_) (x y:Qa) (c d:Nat) (w:Qd) (h:lY 212 352 w b sz ps q) (hg:dO sz) (wp:W64 ps) (hA:Rd w A (aA .i64 x)) (hx:x.length=szN sz 0) (wx:W64 x) (hB:Rd w B (aA .i64 y)) (hy:y.length=szN sz (sz.length-1)):Calls prog 233 #[.pointer (some ⟨b,0,none⟩),.slice A x.length c,.slice B y.length d] w fun e u=>∃A' c',e=.returned (.tuple #[.slice A' (bR sz (sz.length-1)) c',.bool true])/\u.ownsRow w.heap.size 2 1 (.slice A' (bR sz (sz.length-1)) c') (bR sz (sz.length-1)) (aA .i64 (iA sz ps q x y))/\aq w u:=by
 have hm:=KU b sz ps q A B x y c d w h hg wp hA hx wx hB hy;have ea:=h.lt;obtain ⟨S,Ap,cp,Al,cl,rows,h0,h1,h2,h3,h4,h5,h6⟩:=h;have cb:=fun u (k:aq w u)=>ky S sz u (h1.below k);have cy:=fun u (k:aq w u)=>kw S sz u (h1.below k);have d4:=fun j u (k:aq w u)=>nZ S sz j u (h1.below k) (by have:=hg.1.1.2;omega);have d1:=fun j u (k:aq w u)=>pM S sz j u (h1.below k) (by have:=hg.1.1.2;omega);have es:=hg.2;have d9:iA sz ps q x y=qg sz ps q x y (sz.length-1):=rfl;obtain ⟨n,hn⟩:∃n,sz.length-1=n:=⟨_,rfl⟩;obtain ⟨N,hN⟩:∃N,bR sz n=N:=⟨_,rfl⟩;have f8:oc (dy sz ps q x n) y=ge sz ps q x y 0:=by show _=oc _ _;rw [hn]
 rw [hn] at h0 cy d4 d1 h4 h6 cb es d9 hm hy ⊢;rw [hN] at cb es ⊢;rw [f8] at hm;have i4:1<=n/\n<=15:=by have:=hg.1.1;omega
 obtain ⟨Hm,h9,gm,gR,hq,H0,H3,H4⟩:=ak hm cb cy d4 d1 h0 h3 h4;obtain ⟨H5,H6,HG,WP,Hx,WX,Hy,Hn⟩:=ak h5 h6 hg wp hx wx hy hn;obtain ⟨HN,gs⟩:=ae hN d9;clear hm cb cy d4 d1 h0 h1 h2 h3 h4 h5 h6 hg wp hA hx wx hB hy hn hN d9 f8;go_enter func233,ntmps233;go_wp2_with fail;go_step3;go_wp2_with fail;refine Hm.o.mono ?_;rintro e R ⟨A',c',D,dc,vals,rfl,hr,ec,hc,ho,hb⟩;have bM:=(hb.block b ea).trans H0.o;obtain ⟨⟨r0,r1,r2,r3⟩,rf⟩:=bx4 bM;have g6:b<R.heap.size:=NE bM;have aP:=hb.size;obtain ⟨Hr,gd,Hc,Ho,Hb,f5⟩:=ai hr ec hc ho hb bM;clear hr ec hc ho hb bM;go_wp2_with fail;refine (h9.o _ Hb.o).mono ?_;rintro e u ⟨rfl,rfl⟩;have e7:(8:Nat)*N<=281474976710656:=ap;have hL:=aa e7;clear e7;go_wp2_with (at_make;refine uv mL _ rfl (.tmp 31) (.tmp 31) rfl rfl N rfl rfl hL.o (by unfold maxLen;omega) ?_);intro w2 fv d7;have c6:=Ij fv;rw [fp] at c6;have bN:=(d7.block b g6).trans f5.o;clear r0 r1 r2 r3 rf;obtain ⟨⟨r0,r1,r2,r3⟩,rf⟩:=bx4 bN;have hT:=NE bN;have i7:=NE c6;obtain ⟨dk,hG,i3⟩:=af d7 c6 bN;clear fv d7 c6 bN;have ct:(n:Int)-1=((n-1:Nat):Int):=ap;have fn:IntKind.i64.wrap ((n:Int)-1)=((n-1:Nat):Int):=by rw [NK _ ap];omega
 rw [ct] at fn;go_wp2_with fail;go_step3;go_wp2_with fail;refine (gm.o _ (Hb.o.trans (dk.o.mono aP))).mono ?_;rintro e u ⟨rfl,rfl⟩;go_wp2_with fail;clear fn ct r0 r1 r2 r3 rf
 go_loopw [9,12] (fun v i wr=>∃k:Nat,k<=n-1/\i=OH k/\Nf sz ps q x y R.heap.size k v w R wr) (fun _ i _=>(intOf i).toNat)
 case atStart=>
  have ee:sz.length-2-(n-1)=0:=by have:=Hn.o;omega
  have dn:n-1+1=n:=ap;refine ⟨n-1,NF _,rfl,D,dc,List.replicate N 0,?_,?_,hG.o,?_,?_,?_,dk.o⟩
  ·rw [dn,<-Hy.o]
  ·rw [ee,dn,<-Hy.o];exact ay Ho.o dk.o
  ·rw [Hn.o,HN.o];simp
  ·rw [ee,dn,HN.o];simp [qg]
  ·intro a ha e;have:=(Ho.o.lt a.block (by rw [ha];rfl)).2;omega
 case round=>
  obtain ⟨k,hk,rfl,A9,c9,o,rfl,ho,e5,b6,f6,f0,hW⟩:=hrel;have cf:=(hW.block b g6).trans f5.o;obtain ⟨⟨r0,r1,r2,r3⟩,rf⟩:=bx4 cf;have f7:aq w wr:=Hb.o.trans (hW.mono aP);have gy:b<wr.heap.size:=NE cf;obtain ⟨cL,hh,bw,hI,g9,ew,HW,bb⟩:=ak cf ho e5 b6 f6 f0 hW f7;clear cf ho e5 b6 f6 f0 hW f7;have fi:=gR.o k;have b3:=hq.o k;obtain ⟨hC,hJ⟩:=ae fi b3;clear fi b3;go_wp2_with fail
  go_cut [13,14] (fun v1 v2 wx=>∃M1 M2,v1=.pointer (some ⟨M1,0,none⟩)/\v2=.pointer (some ⟨M2,0,none⟩)/\wx.heap[M1]?=some (.cells #[OH (bR sz k:Int),OH (dA sz k:Int)] 148 (0,0))/\wx.heap[M2]?=some (.cells #[OH (dA sz k:Int),OH (bR sz (k+1):Int)] 148 (0,0))/\wr.heap.size<=M1/\wr.heap.size<=M2/\aq wr wx)
  case first=>
   have t0:∀u,aq wr u->u.cell? ⟨b,0,none⟩=some (.pointer (some ⟨S,0,none⟩)):=fun u k=>NH u b 0 _ _ _ (sb cL.o u k);have tl:=sl cL.o;have q:aq wr wr.drew:=(br wr).drew;clear r0 r1 r2 r3 rf;refine HA.g (fun u:Qd=>aq wr u) ?_;refine HA.t ?_ [0,1,2,3,4,6,7,8,9,10] q ?_;obtain ⟨U,hU⟩:∃U,wr.drew=U:=⟨_,rfl⟩;rw [hU] at q ⊢;clear hU
   repeat' first
    | (refine HA.three 5 12 13 ?_ ?_ ?_)
    | (refine HA.three 11 12 13 ?_ ?_ ?_)
    | (refine HA.two 5 12 ?_ ?_)
    | (refine HA.two 5 13 ?_ ?_)
    | (refine HA.two 11 12 ?_ ?_)
    | (refine HA.two 11 13 ?_ ?_)
    | (refine HA.two 12 13 ?_ ?_)
    | (refine HA.sole 5 ?_)
    | (refine HA.sole 11 ?_)
    | (refine HA.sole 12 ?_)
    | (refine HA.sole 13 ?_)
    | (refine HAS.c (i:=5) (hC.o U (bb.o.trans (q.mono bb.o.size)) ap) ?_;rintro e V ⟨rfl,kV⟩;(try replace gA:=sb gA _ kV);(try replace gB:=sb gB _ kV);replace q:=q.trans (kV.mono q.size);refine ⟨_,rfl,q,fun _=>?_⟩;clear kV;obtain ⟨U,rfl⟩:∃U,U=V:=⟨_,rfl⟩)
    | (refine HAS.c (i:=11) (hJ.o U (bb.o.trans (q.mono bb.o.size)) ap) ?_;rintro e V ⟨rfl,kV⟩;(try replace gA:=sb gA _ kV);(try replace gB:=sb gB _ kV);replace q:=q.trans (kV.mono q.size);refine ⟨_,rfl,q,fun _=>?_⟩;clear kV;obtain ⟨U,rfl⟩:∃U,U=V:=⟨_,rfl⟩)
    | (have hA:=q.size;have bV:=(br U).alloc (NF _) (.cells #[OH 0,OH 0] 148);have gA:=NG U (.cells #[OH 0,OH 0] 148);(try have nB:=NE gB);(try replace gB:=sb gB _ bV);replace q:=q.alloc q.size (.cells #[OH 0,OH 0] 148);refine HAS.v (i:=12) (U.alloc (.cells #[OH 0,OH 0] 148)) (.pointer (some ⟨U.heap.size,0,none⟩)) q ?_;obtain ⟨V,hv⟩:∃V,U.alloc (.cells #[OH 0,OH 0] 148)=V:=⟨_,rfl⟩;rw [hv] at gA q ⊢;(try rw [hv] at gB);clear hv bV;obtain ⟨mm,hm⟩:∃mm,U.heap.size=mm:=⟨_,rfl⟩;rw [hm] at gA hA ⊢;(try rw [hm] at nB);clear hm;obtain ⟨U,rfl⟩:∃U,U=V:=⟨_,rfl⟩)
    | (have hB:=q.size;have bV:=(br U).alloc (NF _) (.cells #[OH 0,OH 0] 148);have gB:=NG U (.cells #[OH 0,OH 0] 148);(try have nA:=NE gA);(try replace gA:=sb gA _ bV);replace q:=q.alloc q.size (.cells #[OH 0,OH 0] 148);refine HAS.v (i:=13) (U.alloc (.cells #[OH 0,OH 0] 148)) (.pointer (some ⟨U.heap.size,0,none⟩)) q ?_;obtain ⟨V,hv⟩:∃V,U.alloc (.cells #[OH 0,OH 0] 148)=V:=⟨_,rfl⟩;rw [hv] at gB q ⊢;(try rw [hv] at gA);clear hv bV;obtain ⟨mm,hm⟩:∃mm,U.heap.size=mm:=⟨_,rfl⟩;rw [hm] at gB hB ⊢;(try rw [hm] at nA);clear hm;obtain ⟨U,rfl⟩:∃U,U=V:=⟨_,rfl⟩)
    | (refine HA.st 14 gA Gu (fun w8 e8 k8=>?_);refine ⟨JH q k8 q.size hA,?_⟩;refine HA.st 15 ((k8.block _ (NE gB) ap).trans gB) Gu (fun w9 e9 k9=>?_);have F:=KA (w:=wr) ap hA hB q e8 k8 e9 k9;refine ⟨F.2.2.2.2.2,HA.d ?_⟩;have HF:=aa F;clear F e8 k8 e9 k9 t0 tl gA gB q;go_wp2_with fail;go_meet;exact ⟨_,_,rfl,rfl,HF.o.1,HF.o.2.1,HF.o.2.2.2⟩)
  case rest=>
   obtain ⟨M1,M2,rfl,rfl,ao,bi,j0,ib,hB⟩:=hcut;have hR:=HG.o.1;have fc:=Hn.o;have fb:k+1<sz.length:=ap;have z0:=hR.at (k:=k) ap;have z1:=hR.at fb;have cs:=HG.o.mul fb;have e6:1<=szN sz (k+1)*szN sz k:=Nat.mul_pos z1.1 z0.1;have a2:dA sz k=bR sz k+szN sz (k+1)*szN sz k:=rfl;have Z:=fE sz k;have a0:=fS sz (show k+1<=n by omega);have fs:=HN.o;have d0:sz.length-2-k=n-1-k:=ap;have a8:=lQ (sz:=sz) (ps:=ps) (q:=q) (x:=x) (y:=y) Hx.o (n-1-k);rw [show sz.length-1-(n-1-k)=k+1 by omega] at a8;have bs:=tC sz ps q x y (n-1-k);have a7:=fl (sz:=sz) (ps:=ps) (q:=q) Hx.o k;have ci:=pI (sz:=sz) (ps:=ps) (q:=q) WX.o k;obtain ⟨Ak,ck,bO,gg,c7⟩:=gd.o.2 k ap;rw [a7] at bO;obtain ⟨bo,oo,rfl,pv⟩:=Hr.o _ _ bO;have hz:bo<R.heap.size:=aB pv;have bz:aq R wc:=HW.o.trans (hB.mono HW.o.size);have cO:=(bz.cell (p:=⟨bo,oo+k,none⟩) hz).trans pv;have bn:=(hB.block b gy).trans cL.o;have da:=(hB.block R.heap.size (NE bw.o)).trans bw.o;have ab:=ay hh.o hB;rw [d0] at ab;have bf:=c7.below bz;obtain ⟨lo,cA⟩:∃lo,bR sz k=lo:=⟨_,rfl⟩;obtain ⟨r,hr⟩:∃r,szN sz (k+1)=r:=⟨_,rfl⟩;obtain ⟨c0,b0⟩:∃c0,szN sz k=c0:=⟨_,rfl⟩;obtain ⟨H,Y⟩:∃H,r*c0=H:=⟨_,rfl⟩;rw [<-Z,a2] at bi;rw [a2] at ao;rw [<-Z,a2] at a0;rw [cA,hr,b0,Y] at ao bi a0;rw [hr] at a8 z1 ab;rw [b0] at a7 z0 cO;rw [hr,b0,Y] at e6 cs;rw [hr];obtain ⟨ev,dw⟩:∃ev,ge sz ps q x y (n-1-k)=ev:=⟨_,rfl⟩;obtain ⟨vv,cP⟩:∃vv,dy sz ps q x k=vv:=⟨_,rfl⟩;rw [dw] at a8 bs ab;rw [cP] at a7 ci bf c7;have gO:=aa c7;have bG:=fun W (h:aq wc W)=>Ei r c0 A9 Ak ev vv c9 ck q W ⟨z1.1,z1.2.1⟩ ⟨z0.1,z0.2.1⟩ (by rw [Y];exact cs) ((Rd.own ab).below h) bs a8 (bf.below h) a7 ci;rw [Y] at bG;have cM:(mx r c0 ev vv q).length=H:=by rw [Bf,Y]
   obtain ⟨ow,d6⟩:∃ow,mx r c0 ev vv q=ow:=⟨_,rfl⟩;rw [d6] at bG cM;obtain ⟨⟨m0,m1⟩,mf⟩:=bx2 ao;obtain ⟨⟨n0,n1,n2,n3⟩,nf⟩:=bx4 bn;have ih:=NE ao;have hF:R.heap.size<wc.heap.size:=NE da;have hY:b<wc.heap.size:=NE bn;have hQ:bo<wc.heap.size:=ap;have cr:M1≠R.heap.size:=by have:=HW.o.size;have:=NE bw.o;omega
   have fa:M2≠R.heap.size:=by have:=HW.o.size;have:=NE bw.o;omega
   have b6:o.length=N:=by rw [hI.o,fc,fs]
   have gV:lo+H+r<=N:=ap;have hV:k<sz.length:=ap;have j1:¬(N=lo):=ap;have j7:lo+H<=N:=ap;have il:(lo:Int)+H<=N:=ap;have io:((lo:Int)+H).toNat=lo+H:=ap;have jr:(0:Int)<=(lo:Int)+H:=ap;have j2:(lo:Int)<=(lo:Int)+H:=ap;obtain ⟨jA,bh,j9,gf,he,hD,av,gz⟩:=ak ao bi bn da ab bG cM d6;obtain ⟨eo,eG,eS,a6,Q,bA,h8,HB⟩:=ak dw cP cA hr b0 Y bz hB;obtain ⟨O,i6,gv,WV,a5,gN,h7,hX⟩:=ak b6 bf a7 ci a8 bs d0 bO;clear ao bi bn da ab bG cM d6 dw cP cA hr b0 Y bz hB b6 bf a7 ci a8 bs d0 bO gg c7 pv a2 Z a0 fs fc n0 n1 n3 nf mf;go_wp2_with fail;have C:(fun u:Qd=>u.cell? ⟨M1,0,none⟩=some (OH lo)/\u.cell? ⟨M1,1,none⟩=some (OH ((lo:Int)+H))/\u.cell? ⟨bo,oo+k,none⟩=some (.slice Ak c0 ck)/\u.cell? ⟨b,2,none⟩=some (OH q)) wc.drew:=⟨m0,m1,cO,n2⟩;refine HA.g (fun u:Qd=>u.cell? ⟨M1,0,none⟩=some (OH lo)/\u.cell? ⟨M1,1,none⟩=some (OH ((lo:Int)+H))/\u.cell? ⟨bo,oo+k,none⟩=some (.slice Ak c0 ck)/\u.cell? ⟨b,2,none⟩=some (OH q)) ?_;refine HA.t ?_ [0,1,2,3,4,5,6,7,8,9,10,11,12,13,14] C ?_;refine HA.o 15 (fun K hK=>?_);go_simp;refine (hD.o _ ((NI wc.heap.size wc).drew)).mono ?_;rintro e w5 ⟨A5,rfl,b9,a9⟩;have eq:=NR (aw a9 C.1) (NR (aw a9 C.2.1) (NR (aw a9 C.2.2.1) (aw a9 C.2.2.2)));have aG:aq wc w5:=(NI wc.heap.size wc).drew.trans a9;have f2:=(aG.block _ hF).trans gf.o;have b9:=Rd.own b9;obtain ⟨g7,gX,ad⟩:=af f2 b9 aG;clear f2 b9 a9 aG C;dsimp only;refine hK.out _ _ eq (fun C=>?_);clear hK K eq;refine HA.o 16 (fun K hK=>?_);go_simp;refine hK.out _ _ C (fun C=>?_);clear hK K;refine HA.o 17 (fun K hK=>?_);refine zW (.tmp 58) (.tmp 69) 139 139 rfl rfl 2 underlying139 (by kernel_rfl) (some ⟨R.heap.size,lo,none⟩) A5 H (N-lo) H rfl rfl R.heap.size lo (aA .i64 o) 2 g7.o (aA .i64 ow) (by rw [bS,av.o]) (fun _=>rfl) gX.o (by rw [bS,bS,av.o,O.o];omega) (cJ _ _) ?_;intro w6 dG T;rw [m9] at dG;have eX:=NR (T.cell C.1 (by exact cr)) (NR (T.cell C.2.1 (by exact cr)) (NR (T.cell C.2.2.1 (show bo≠_ by omega)) (T.cell C.2.2.2 (show b≠_ by omega))));have a3:=(T.block M2 (NE ((ad.o.block _ (NE bh.o)).trans bh.o)) fa).trans ((ad.o.block _ (NE bh.o)).trans bh.o);obtain ⟨gJ,d3⟩:=ae dG T;clear dG T C;dsimp only;refine hK.out _ _ eX (fun C=>?_);clear hK K eX;refine HA.d ?_
   have eM:w6.ownsRow w.heap.size 2 1 (.slice A9 r c9) r (aA .i64 ev):=d3.o.own (ay he.o ad.o) (fun i hi e=>by
    cases A9 with
    | none=>cases hi
    | some a=>simp [Value.ownBlock] at hi;exact ew.o a rfl (hi.trans e))
   have dT:=C.2.2.2;have ei:=C.2.2.1;obtain ⟨⟨hs,ga⟩,hE⟩:=bx2 a3;have hS:=NE a3;obtain ⟨fr,hO⟩:=ae eM a3;clear eM a3 C m0 m1 cO n2;have i5:¬(N=lo+H):=ap;have i0:lo+H+r<=N:=ap;have id:(lo:Int)+H+r<=N:=ap;have i9:((lo:Int)+H+r).toNat=lo+H+r:=ap;have jj:(0:Int)<=(lo:Int)+H+r:=ap;have j5:(lo:Int)+H<=(lo:Int)+H+r:=ap;have go:=aa (show (aA .i64 ev).length=r by rw [bS,a5.o]);obtain ⟨gb,gx⟩:=ae (show lo+H+(aA .i64 ev).length<=(aA .i64 (splice o lo ow)).length by rw [bS,bS,a5.o,length_splice _ _ _ (by rw [av.o,O.o];omega),O.o];omega) (show (prog.info? 2).map (·.size)=some 1 by kernel_rfl);go_wp2_with (refine pE rfl (.tmp 76) (.tmp 77) 139 139 rfl 2 underlying139 gx.o (some ⟨R.heap.size,lo+H,none⟩) A9 r (N-(lo+H)) c9 rfl rfl R.heap.size (lo+H) (aA .i64 (splice o lo ow)) 2 gJ.o (aA .i64 ev) go.o (fun _=>rfl) (Rd.own fr.o) gb.o (cJ _ _) ?_);intro w7 bI b8;rw [m9] at bI;obtain ⟨o7,bX⟩:∃o7,splice (splice o lo ow) (lo+H) ev=o7:=⟨_,rfl⟩
   have f9:o7.length=N:=by
    have h1:(splice o lo ow).length=N:=by rw [length_splice _ _ _ (by rw [av.o,O.o];omega),O.o]
    rw [<-bX,length_splice _ _ _ (by rw [h1,a5.o];omega),h1]
   have em:o7.drop (bR sz k)=qg sz ps q x y (n-k):=by
    have e1:=Hn.o;have e2:=vY (o:=o) (W:=ow) (D:=ev) (lo:=lo) (by rw [av.o,a5.o,O.o];exact gV);rw [av.o,a5.o,bX] at e2;rw [eS.o,e2,show n-k=(n-1-k)+1 by omega]
    have e3:bR sz (k+1)=lo+H+r:=by
     rw [<-fE sz k,show dA sz k=bR sz k+szN sz (k+1)*szN sz k from rfl,eS.o,a6.o,Q.o,bA.o]
    have e4:=g9.o;rw [e3,h7.o] at e4;rw [qg,show sz.length-1-(n-1-k)=k+1 by omega,show sz.length-2-(n-1-k)=k by omega,a6.o,Q.o,eo.o,eG.o,gz.o,<-e4]
   have co:aq R w7:=h8.o.trans (((ad.o.mono ap).trans (d3.o.toBelow (by have:=ad.o.size;omega) (fun i hi=>ap))).trans (b8.toBelow (by have:=d3.o.size;have:=ad.o.size;omega) (fun i hi=>ap)));rw [bX] at bI
   have fe:=b8.own fr.o (fun i hi e=>by
    cases A9 with
    | none=>cases hi
    | some a=>simp [Value.ownBlock] at hi;exact ew.o a rfl (hi.trans e))
   have gT:=b8.cell dT (show b≠_ by omega);have f4:=b8.cell ei (show bo≠_ by omega);obtain ⟨cx,dv,eu,a1,gG⟩:=ah bI f9 em co fe;clear bI f9 em co fe bX b8 dT ei hs ga hE;by_cases dr:k=0
   ·have cw:((k:Int)==0)=true:=by simp [dr]
    have cn:w7.ownsRow w.heap.size 2 1 (.slice (some ⟨R.heap.size,0,none⟩) N N) N (aA .i64 (iA sz ps q x y)):=by
     have e1:=eu.o;rw [dr] at e1;have e2:o7=iA sz ps q x y:=by rw [gs.o,<-Nat.sub_zero n,<-e1];rfl
     have e3:=IZ (base:=w.heap.size) (xs:=aA .i64 o7) (by exact cx.o) aP (by rw [bS,dv.o];unfold maxLen;omega);rw [bS,dv.o] at e3;rw [<-e2];exact e3
    have eV:=aa cn;clear cn dr;have L:=Hb.o.trans (a1.o.mono aP);have eB:=aa L;clear L;go_wp2_with fail
    try rw [Exit.noGoto_ret]
    go_ret2;exact ⟨_,_,rfl,eV.o,eB.o⟩
   ·have cw:((k:Int)==0)=false:=by simp;omega
    obtain ⟨gl,ol,dl,Bl,el,hcs,hd,eL,hrb⟩:=H6.o k ap;have b5:k<rows.length:=by rw [H4.o];omega
    have cd:∀t,t<4->(List.flatten rows)[k*4+t]?=(bZ rows k)[t]?:=fun t ht=>nl H5.o k t b5 ht;have e0:=cd 0 ap;have e1:=cd 1 ap;have e2:=cd 2 ap;rw [hcs] at e0 e1 e2;simp only [Nat.add_zero,Oa,N9] at e0 e1 e2;obtain ⟨bl,ob,gc,q0⟩:=H3.o _ _ e0;obtain ⟨_,_,b2,q1⟩:=H3.o _ _ e1;obtain ⟨_,_,b4,q2⟩:=H3.o _ _ e2;subst gc;injection b2 with b2;injection b2 with i1 i2 _;subst i1;subst i2
    injection b4 with b4;injection b4 with i1 i2 _;subst i1;subst i2
    have d2:bl<w.heap.size:=aB q0;have L:=Hb.o.trans (a1.o.mono aP);have dp:=(L.cell (p:=⟨bl,ob+k*4,none⟩) d2).trans q0;have bd:=(L.cell (p:=⟨bl,ob+(k*4+1),none⟩) d2).trans q1;have cc:=(L.cell (p:=⟨bl,ob+(k*4+2),none⟩) d2).trans q2;rw [<-Oy] at bd cc;rw [a6.o] at dp;rw [Q.o] at bd;rw [a6.o,Q.o,bA.o] at cc hd;have ef:=(L.block b ea).trans H0.o;obtain ⟨⟨n0,n1,n2,n3⟩,nf⟩:=bx4 ef;have aR:=zM sz ps k;rw [a6.o,Q.o,bA.o] at aR;have b3:=EI r c0 gl ol H dl (wL sz ps k) A9 ev c9 q w7.drew ⟨z1.1,z1.2.1⟩ ⟨z0.1,z0.2.1⟩ bA.o.symm hd ap aR ((eL.below L).drewN 1) (FE WP.o sz k) ((Rd.own gG.o).drewN 1) a5.o gN.o;have i8:k<n:=ap;obtain ⟨hu,eB⟩:=ae b3 L;clear b3 L ef aR eL hrb hcs e0 e1 e2 q0 q1 q2 cd b5 hd;go_wp2_with fail
    go_region_held3 (fun u=>u.cell? ⟨b,3,none⟩=some (.slice (some ⟨bl,ob,none⟩) n cl)/\u.cell? ⟨bl,ob+k*4,none⟩=some (OH r)/\u.cell? ⟨bl,ob+k*4+1,none⟩=some (OH c0)/\u.cell? ⟨bl,ob+k*4+2,none⟩=some (.slice (some ⟨gl,ol,none⟩) H dl)/\u.cell? ⟨b,2,none⟩=some (OH q)) (simp [go_sem, *])
     ((go_at_call 251;refine hu.o.mono ?_;rintro e w8 ⟨A8,c8,rfl,a4,J⟩;have g0:=aw J n3;have g1:=aw J dp;have g2:=aw J bd;have g3:=aw J cc;have g4:=aw J n2;have g5:=aw J f4;obtain ⟨hp,gU⟩:=ae a4 J;clear a4 J))
    go_wp2_with fail;have aM:=qP (wL sz ps k) r c0 ev q;obtain ⟨bk,b1⟩:∃bk,ot (wL sz ps k) r c0 ev q=bk:=⟨_,rfl⟩;have a4:=aE (base':=w7.heap.size) hp.o (by simp);rw [b1] at aM a4;obtain ⟨cv,fd,eY⟩:=af aM a4 b1;have J:=(NI w7.heap.size w7).drew.trans gU.o;have gZ:=aa J;clear aM a4 b1 J g0 g1 g2 g3 g4 g5 n0 n1 n2 n3 nf f4 dp bd cc gT cw
    go_loopw [103] (fun i wx=>∃j:Nat,j<=c0/\i=OH j/\wx.ownsRow w7.heap.size 2 1 (.slice A8 c0 c8) c0 (aA .i64 (kT bk j (fun i=>if 0<nth vv i then nth bk i else 0)))/\aq w7 wx) (fun i _=>c0-(intOf i).toNat)
    ·exact ⟨0,NJ _,rfl,by rw [iH];exact fd.o,gZ.o⟩
    case round=>
     obtain ⟨j,hj,rfl,I,b7⟩:=hrel;by_cases d5:j<c0
     ·obtain ⟨g8,d8,eb,gI,_⟩:=I.form ap;simp only [Ou] at eb;obtain ⟨rfl,gk,rfl⟩:=eb;clear gk;have ds:j<bk.length:=by rw [cv.o];exact d5
      have p1:=cH I d5;rw [gK _ ds,if_neg ap] at p1;have f1:=I.frozenAt j;have f3:=jE (l:=bk) (k:=j) (fun i=>if 0<nth vv i then nth bk i else 0) ds;obtain ⟨bv,ov,rfl,ia⟩:=((gO.o.below a1.o).below b7).num (show j<vv.length by rw [gv.o];exact d5);obtain ⟨HO,be,gp⟩:=af I b7 f3;clear I b7 f3 ds;go_wp2_with fail;refine (IY _ _ _).mono ?_;rintro e w9 ⟨rfl,rfl⟩;go_wp2_with fail;go_roundw
      ·exact ⟨j+1,by omega,by go_num,by rw [<-gp.o];exact ed HO.o j _,be.o.setCell (p:=⟨g8,j,none⟩) gI _⟩
      ·simp [intOf];omega
     ·obtain rfl:j=c0:=ap;obtain ⟨HO,be⟩:=ae I b7;clear I b7;have ej:IntKind.i64.wrap ((k:Int)-1)=((k-1:Nat):Int):=by rw [NK _ ap];omega
      have cj:(k:Int)-1=((k-1:Nat):Int):=ap;rw [cj] at ej;go_wp2_with fail;clear ej cj;go_roundw
      case rel=>
       have ek:k-1+1=k:=ap;have en:=Hn.o;have hf:R.heap.size<w7.heap.size:=NE cx.o
       have hM:ge sz ps q x y (sz.length-2-(k-1))=kT bk j (fun i=>if 0<nth vv i then nth bk i else 0):=by
        rw [show sz.length-2-(k-1)=(n-1-k)+1 by omega,ge,show sz.length-2-(n-1-k)=k by omega,show sz.length-1-(n-1-k)=k+1 by omega,eo.o,eG.o,a6.o,Q.o,eY.o];rw [<-cv.o,jF];rfl
       refine ⟨k-1,by omega,rfl,A8,c8,o7,?_,?_,?_,?_,?_,?_,?_⟩
       ·rw [ek,Q.o]
       ·rw [ek,Q.o,hM];exact aE HO.o ap
       ·exact (be.o.block _ hf).trans cx.o
       ·rw [dv.o,en,HN.o]
       ·rw [ek,eu.o,show sz.length-2-(k-1)=n-k by omega]
       ·intro a ha e9;have:=(HO.o.lt a.block (by rw [ha];rfl)).1;omega
       ·exact a1.o.trans (be.o.mono ap)
      case measure=>simp [intOf];omega
theorem Jf:dB prog 350 358 (.agg #[.int .i64 0,.int .i64 0,.slice none 0 0,.slice none 0 0]) 4 64:=⟨underlying350,info_parts (by kernel_rfl),rfl,by decide⟩
theorem yx {w:Qd} {base n g c:Nat} {xs:Qa} {e:Qf} (h:w.ownsRow base e 1 (.slice (some ⟨g,0,none⟩) n c) n (aA .i64 xs)) {k:Nat} (hk:k<n):w.cell? ⟨g,k,none⟩=some (.int .i64 (nth xs k)):=cH h hk
def Ny (sz ps:Qa) (q:Int) (S h cp b o:Nat) (u:N_) (v:Nat) (k:Nat) (x w:Qd):Prop:=
 ∃p i rows,w.heap[b]?=some (.cells #[.pointer (some ⟨S,0,none⟩),.slice (some ⟨h,0,none⟩) ps.length cp,.int .i64 q,.slice p k i] 352 (0,0))/\
  w.ownsRow b 358 4 (.slice p k i) k (List.flatten rows)/\rows.length=k/\(∀r∈rows,r.length=4)/\
  w.ownsRow o 2 1 (.slice (some ⟨h,0,none⟩) ps.length cp) ps.length (aA .i64 ps)/\
  (∀j,j<k->∃g d,bZ rows j=[.int .i64 (szN sz (j+1):Int),.int .i64 (szN sz j:Int),.slice (some ⟨g,0,none⟩) (szN sz (j+1)*szN sz j) d,.slice (some ⟨h,dA sz j,none⟩) (szN sz (j+1)) (cp-dA sz j)]/\
   szN sz (j+1)*szN sz j<=d/\w.ownsRow o 2 1 (.slice (some ⟨g,0,none⟩) (szN sz (j+1)*szN sz j) d) (szN sz (j+1)*szN sz j) (aA .i64 (wL sz ps j)))/\
  w.ownsRow b 3 1 (.slice u sz.length v) sz.length (aA .i64 sz)/\Below b x w
def MH (w:Qd) (base b:Nat) (ps:Qa):Prop:=∃s h cp q l,w.heap[b]?=some (.cells #[s,.slice h ps.length cp,q,l] 352 (0,0))/\w.ownsRow base 2 1 (.slice h ps.length cp) ps.length (aA .i64 ps)/\base<=b
def ub (w:Qd) (base b S:Nat) (sz ps:Qa) (q:Int):Prop:=∃g cp i h rows,
 w.heap[b]?=some (.cells #[.pointer (some ⟨S,0,none⟩),.slice (some ⟨g,0,none⟩) ps.length cp,.int .i64 q,.slice i (sz.length-1) h] 352 (0,0))/\base<=b/\
  w.ownsRow base 2 1 (.slice (some ⟨g,0,none⟩) ps.length cp) ps.length (aA .i64 ps)/\w.ownsRow base 358 4 (.slice i (sz.length-1) h) (sz.length-1) (List.flatten rows)/\rows.length=sz.length-1/\(∀r∈rows,r.length=4)/\
  ∀j,j<sz.length-1->∃o d,bZ rows j=[.int .i64 (szN sz (j+1):Int),.int .i64 (szN sz j:Int),.slice (some ⟨o,0,none⟩) (szN sz (j+1)*szN sz j) d,.slice (some ⟨g,dA sz j,none⟩) (szN sz (j+1)) (cp-dA sz j)]/\
   szN sz (j+1)*szN sz j<=d/\w.ownsRow base 2 1 (.slice (some ⟨o,0,none⟩) (szN sz (j+1)*szN sz j) d) (szN sz (j+1)*szN sz j) (aA .i64 (wL sz ps j))
theorem ub.keep {w u:Qd} {base b y:Nat} {sz ps:Qa} {q:Int} (h:ub w base b y sz ps q) {S:Nat->Prop} (k:Keep S w u) (p:∀j,S j->j<base):ub u base b y sz ps q:=by
 obtain ⟨g,cp,J,O,rows,A,h1,x,B,I,L,Q⟩:=h;have D:∀{e' size n m:Nat} {v:Value} {xs:Qc},w.ownsRow base e' size v n xs->u.ownsRow base e' size v n xs:=fun hr=>k.own hr (fun i o hs=>by have:=p i hs;have:=(hr.lt i o).1;omega)
 exact ⟨g,cp,J,O,rows,(k.block b (NE A) (fun hs=>by have:=p b hs;omega)).trans A,h1,k.own x (fun i o hs=>by have:=p i hs;have:=(x.lt i o).1;omega),k.own B (fun i o hs=>by have:=p i hs;have:=(B.lt i o).1;omega),I,L,fun j T=>by
  obtain ⟨H,d,R,N,C⟩:=Q j T
  exact ⟨H,d,R,N,k.own C (fun i o hs=>by have:=p i hs;have:=(C.lt i o).1;omega)⟩⟩
theorem ub.below {w i:Qd} {base b o:Nat} {sz ps:Qa} {q:Int} (h:ub w base b o sz ps q) (hb:aq w i):ub i base b o sz ps q:=h.keep (S:=fun _=>False) (Keep.below hb) (fun _ h=>h.elim)
theorem ub.at {w:Qd} {base b S:Nat} {sz ps:Qa} {q:Int} (h:ub w base b S sz ps q) (R:cI 212 w S sz) (hg:dO sz) (hl:ps.length=bR sz (sz.length-1)):lY 212 352 w b sz ps q:=by
 obtain ⟨g,cp,H,N,rows,C,h1,A,J,D,I,O⟩:=h;refine ⟨S,some ⟨g,0,none⟩,cp,H,N,rows,C,R,Rd.own A,Rd.own J,D,I,fun j Q=>?_⟩;obtain ⟨B,T,o,u,p⟩:=O j Q;have v:=NN (fS sz (show j+1<=sz.length-1 by omega)) (Nat.le_of_eq hl.symm);have y:=fE sz j;have x:bL sz ps j=(ps.drop (dA sz j)).take (szN sz (j+1)):=(fF (by rw [Oi,Om];omega) fun i L=>by rw [fq L,ft]).symm;refine ⟨B,0,T,some ⟨g,dA sz j,none⟩,cp-dA sz j,o,u,Rd.own p,?_⟩;have:=((Rd.own A).drop (dA sz j)).take (szN sz (j+1))
 rwa [Oz,dz,di,<-x] at this
theorem yE (S:Nat) (sz ps:Qa) (A:N_) (c:Nat) (q:Int) (w:Qd) (hS:cI 212 w S sz) (hg:dO sz) (hq:0<=q/\q<=62) (hl:ps.length=bR sz (sz.length-1)) (hA:Rd w A (aA .i64 ps)):Calls prog 230 #[.pointer (some ⟨S,0,none⟩),.slice A ps.length c,.int .i64 q] w fun e C=>∃b,e=.returned (.tuple #[.pointer (some ⟨b,0,none⟩),.bool true])/\lY 212 352 C b sz ps q/\MH C w.heap.size b ps/\ub C w.heap.size b S sz ps q/\aq w C:=by
 obtain ⟨q1,q2⟩:=hq;have hc:=ky S sz w hS;have cd:=fI A ps c w hA (by have:=hg.2;omega);have cr:=fun C (k:aq w C)=>mZ S sz C (hS.below k) (by have:=hg.1.1.2;omega);have bs:=fun C (k:aq w C)=>kw S sz C (hS.below k);have c9:=fun j C (k:aq w C)=>nZ S sz j C (hS.below k) (by have:=hg.1.1.2;omega);have bl:=fun j C (k:aq w C)=>pM S sz j C (hS.below k) (by have:=hg.1.1.2;omega);rw [<-hl] at hc;obtain ⟨n,hn⟩:∃n,sz.length-1=n:=⟨_,rfl⟩;obtain ⟨N,hN⟩:∃N,ps.length=N:=⟨_,rfl⟩;rw [hn] at bs c9 bl hl;rw [hN] at hc cd hl ⊢;have Z:1<=n/\n<=15:=by have:=hg.1.1;omega
 have fc:N<=1048576:=by have:=hg.2;rw [hn] at this;omega
 obtain ⟨Hc,eL,e9,eG,ec,eV,HG,Hn⟩:=ak hc cd cr bs c9 bl hg hn;obtain ⟨HN,HS,g7,Hl⟩:=ag hN hS hA hl;clear hc cd cr bs c9 bl hg hn hN hS hA hl;go_enter func230,ntmps230;go_wp2_with fail;refine Hc.o.mono ?_;rintro e C ⟨rfl,rfl⟩;go_wp2_with fail;refine eL.o.mono ?_;rintro e I ⟨A',cp,rfl,cf,be,hb⟩;obtain ⟨bh,Hb,eB⟩:=af be hb cf;clear be hb cf;go_wp2_with fail;refine (e9.o _ ?_).mono ?_
 ·have hb:=Hb.o;have f4:=hb.size;exact am
 rintro e w2 ⟨As,cs,rfl,d3,a1⟩;obtain ⟨el,dr⟩:=ae d3 a1;clear d3 a1;go_wp2_with fail;refine (eG.o _ ?_).mono ?_
 ·have hb:=Hb.o;have a1:=dr.o;exact hb.trans ((((NI _ I).alloc (NF _) _).trans (a1.mono (by simp))).mono hb.size)
 rintro e C ⟨rfl,rfl⟩;go_wp2_with fail
 have ej:1<=N:=by
  have h0:=Hl.o;have h1:=(HG.o.1.at (k:=1) (by have:=HG.o.1.1;omega)).1;have h2:=fS sz (show 1<=n by omega);have h3:dA sz 0+szN sz 1=bR sz 1:=fE sz 0;omega
 obtain ⟨gp,g2,d4,fs,_⟩:=bh.o.form ap;simp only [Ou] at d4;obtain ⟨rfl,eb,rfl⟩:=d4;clear eb
 go_loopw [42] (fun i wr=>∃k:Nat,k<=n/\i=.int .i64 k/\Ny sz ps q S gp cp I.heap.size w.heap.size As cs k I wr) (fun i _=>n-(intOf i).toNat)
 case atStart=>
  have a1:=dr.o;have hk:aq I w2:=((NI _ I).alloc (NF _) _).trans (a1.mono (by simp));have em:=(a1.block I.heap.size (by simp)).trans (NG I _);refine ⟨0,NJ _,rfl,none,0,[],?_,NV _ _ _ _,rfl,by simp,?_,fun j hj=>ap,aE el.o (by simp),hk⟩
  ·rw [HN.o];exact em
  ·rw [HN.o];exact ay bh.o hk
 case round=>
  obtain ⟨k,hk,rfl,Al,cl,rows,av,cA,ct,cj,c8,bd,cw,hW⟩:=hrel;rw [HN.o] at av c8;obtain ⟨⟨x0,x1,x2,x3⟩,xf⟩:=bx4 av;have en:=NE av;have dc:aq w wr:=Hb.o.trans (hW.mono Hb.o.size);obtain ⟨ab,bN,aG,bn,a9,ao,b6,HW⟩:=ak av cA ct cj c8 bd cw hW;have ad:=aa dc;clear av cA ct cj c8 bd cw hW dc;by_cases fa:k<n
  ·have hR:=HG.o.1;have b5:k+1<sz.length:=by have:=Hn.o;have:=hR.1;omega
   have z0:=hR.at (k:=k) ap;have z1:=hR.at b5;have dn:=HG.o.mul b5;have cL:1<=szN sz (k+1)*szN sz k:=Nat.mul_pos z1.1 z0.1;have T:dA sz k=bR sz k+szN sz (k+1)*szN sz k:=rfl;have L:=fE sz k;have a0:=NN (fS sz (show k+1<=n by omega)) (Nat.le_of_eq Hl.o.symm);have a5:=ec.o k;have a6:=eV.o k;have bV:wL sz ps k=(ps.drop (bR sz k)).take (szN sz (k+1)*szN sz k):=(fF (by rw [Oi,Om];have:=HN.o;omega) fun i hi=>by rw [fq hi,ft]).symm;have a7:bL sz ps k=(ps.drop (dA sz k)).take (szN sz (k+1)):=(fF (by rw [Oi,Om];have:=HN.o;omega) fun i hi=>by rw [fq hi,ft]).symm;obtain ⟨g5,c5,d0,gc,_⟩:=b6.o.form ap;simp only [Ou] at d0;obtain ⟨rfl,ee,rfl⟩:=d0;clear ee;have p0:=yx b6.o (show k<sz.length by omega);have p1:=yx b6.o b5;rw [z0.2.2] at p0;rw [z1.2.2] at p1;rw [T,<-L,T] at a6;rw [T] at a5 a7;have b7:=Rd.own a9.o;obtain ⟨lo,b2⟩:∃lo,bR sz k=lo:=⟨_,rfl⟩;obtain ⟨r,hr⟩:∃r,szN sz (k+1)=r:=⟨_,rfl⟩;obtain ⟨c0,a2⟩:∃c0,szN sz k=c0:=⟨_,rfl⟩;obtain ⟨B,Z⟩:∃B,r*c0=B:=⟨_,rfl⟩;rw [<-L,T] at a0;rw [b2,hr,a2,Z] at a6 a5 a0;rw [hr,a2,Z] at cL dn;rw [hr] at p1 z1;rw [a2] at p0 z0;rw [b2,hr,a2,Z] at bV a7
   have d8:Rd wr (some ⟨gp,lo,none⟩) (aA .i64 (wL sz ps k)):=by
    have:=(b7.drop lo).take B
    rwa [Oz,dz,di,<-bV] at this
   have bX:(wL sz ps k).length=B:=by rw [zM,hr,a2,Z]
   have bO:=fun W (h:aq wr W)=>Mf r c0 (some ⟨gp,lo,none⟩) (wL sz ps k) (cp-lo) W ⟨z1.1,z1.2.1⟩ ⟨z0.1,z0.2.1⟩ (bX.trans Z.symm) ap (d8.below h);rw [bX] at bO;obtain ⟨co,cP,ds,eo,Hr,eu,e7,f6⟩:=ak a5 a6 bO b2 hr a2 Z a7;have eX:=eB.o;clear a5 a6 bO T L bV a7 b2 hr a2 Z b7 d8 bX;go_wp2_with fail;refine (co.o _ ad.o ap).mono ?_;rintro e w3 ⟨rfl,d5⟩;have b3:=aa d5;clear d5;go_wp2_with fail;refine (cP.o _ (ad.o.trans (b3.o.mono ad.o.size)) ap).mono ?_;rintro e H ⟨rfl,e6⟩;have J:=b3.o.trans (e6.mono b3.o.size);have dv:=(J.cell (p:=⟨I.heap.size,1,none⟩) en).trans x1;have bo:=(J.cell (p:=⟨g5,k,none⟩) (aB p0)).trans p0;have dp:=(J.cell (p:=⟨g5,k+1,none⟩) (aB p1)).trans p1;have eY:I.heap.size<H.heap.size:=by have:=J.size;omega
   have f0:g5<H.heap.size:=aB bo;have Q:=aa J;clear J e6 b3 x0 x1 x2 x3 xf p0 p1;have fb:(k:Int)+1<sz.length:=ap;have fd:¬(cp=lo):=ap;have fe:lo+B<=cp:=ap;go_wp2_with fail
   go_cut [13,14] (fun v _ wx=>∃M A d,v=.pointer (some ⟨M,0,none⟩)/\wx.heap[M]?=some (.cells #[.int .i64 r,.int .i64 c0,.slice A B d] 354 (0,0))/\B<=d/\wx.ownsRow H.heap.size 2 1 (.slice A B d) B (aA .i64 (wL sz ps k))/\H.heap.size+2<=wx.heap.size/\
    Below (H.heap.size+2) ((H.alloc (.cells #[.int .i64 lo,.int .i64 ((lo:Int)+B)] 148)).alloc (.cells #[.int .i64 ((lo:Int)+B),.int .i64 ((lo:Int)+B+r)] 148)) wx)
   case first=>
    have y:(fun C:Qd=>C.cell? ⟨g5,k+1,none⟩=some (.int .i64 r)/\C.cell? ⟨g5,k,none⟩=some (.int .i64 c0)/\C.cell? ⟨I.heap.size,1,none⟩=some (.slice (some ⟨gp,0,none⟩) N cp)/\C.cell? ⟨H.heap.size,0,none⟩=some (.int .i64 lo)/\C.cell? ⟨H.heap.size,1,none⟩=some (.int .i64 ((lo:Int)+B))) ((H.alloc (.cells #[.int .i64 lo,.int .i64 ((lo:Int)+B)] 148)).alloc (.cells #[.int .i64 ((lo:Int)+B),.int .i64 ((lo:Int)+B+r)] 148)).drew:=
     ⟨aI (aI dp _) _,aI (aI bo _) _,aI (aI dv _) _,aI (NH _ H.heap.size 0 _ _ _ (NG H _)) _,aI (NH _ H.heap.size 1 _ _ _ (NG H _)) _⟩
    have cv:aq wr ((H.alloc (.cells #[.int .i64 lo,.int .i64 ((lo:Int)+B)] 148)).alloc (.cells #[.int .i64 ((lo:Int)+B),.int .i64 ((lo:Int)+B+r)] 148)).drew:=
     (((Q.o.alloc (by have:=Q.o.size;omega) _).alloc (by have:=Q.o.size;simp;omega) _)).drew
    have bG:=aa cv;clear cv;have g4:k<sz.length:=ap;have f7:IntKind.i64.wrap ((k:Int)+1)=(k:Int)+1:=NK _ ap;have f3:(0:Int)<=(k:Int)+1:=ap;have g1:((k:Int)+1).toNat=k+1:=ap;have f2:((lo:Int)+B).toNat=lo+B:=ap;have fr:(0:Int)<=(lo:Int)+B:=ap;have f1:(lo:Int)+B<=cp:=ap;have g8:(lo:Int)<=(lo:Int)+B:=ap;refine kp 23 (fun C:Qd=>C.cell? ⟨g5,k+1,none⟩=some (.int .i64 r)/\C.cell? ⟨g5,k,none⟩=some (.int .i64 c0)/\C.cell? ⟨I.heap.size,1,none⟩=some (.slice (some ⟨gp,0,none⟩) N cp)/\C.cell? ⟨H.heap.size,0,none⟩=some (.int .i64 lo)/\C.cell? ⟨H.heap.size,1,none⟩=some (.int .i64 ((lo:Int)+B))) (by kernel_rfl) ?_;refine wX 0 y ?_;refine wX 1 y ?_;refine wX 2 y ?_;refine wX 3 y ?_;refine wX 4 y ?_;refine wX 5 y ?_;refine wX 6 y ?_;refine wX 7 y ?_;refine wX 8 y ?_;refine wX 9 y ?_;refine wX 10 y ?_;refine wX 11 y ?_;refine wX 12 y ?_;refine wX 13 y ?_;refine wX 14 y ?_;refine wX 15 y ?_;refine wX 16 y ?_;refine wX 17 y ?_;simp only [N0,N1,N2,Act.put,N4,N5,N6];refine cD (rs:=[18,22]) (by kernel_rfl) (by simp) ?_;refine aU.cons rfl (fun K V=>?_) (aU.cons rfl (fun K V=>?_) aU.nil)
    ·simp only [N0,N1,N2];go_simp;refine (ds.o _ bG.o).mono ?_;rintro e w6 ⟨A6,d6,rfl,R,U,D⟩;have b1:=NR (aw D y.1) (NR (aw D y.2.1) (NR (aw D y.2.2.1) (NR (aw D y.2.2.2.1) (aw D y.2.2.2.2))));obtain ⟨aM,a4,aP⟩:=af R U D;clear R U D y;dsimp only;refine V.out _ _ b1 (fun y=>?_);clear V K b1;refine wX 19 y ?_;refine wX 20 y ?_;simp only [N0,N1,N2,Act.put,N4,N5,N6];refine wX0 21 y ?_;simp only [N0,N1,N2,Act.put,N4,N5,N6];refine cD (rs:=[22]) (by kernel_rfl) (by simp) ?_;refine aU.cons rfl (fun K V=>?_) aU.nil;simp only [N0,N1,N2];go_simp;refine V.out _ _ ⟨aI y.1 _,aI y.2.1 _,aI y.2.2.1 _,aI y.2.2.2.1 _,aI y.2.2.2.2 _⟩ (fun y=>?_);clear V K y;refine eR (by rfl) (by kernel_rfl) ?_;simp only [Ob,Oc];go_wp2_with fail;go_meet;have bz:=aP.o.size;simp at bz;refine ⟨w6.heap.size,A6,d6,rfl,NG w6 _,aM.o,aE (a4.o.alloc _) (by first | omega | (simp;done) | (simp;omega)),(by first | omega | (simp;done) | (simp;omega)),?_⟩;exact (((NI _ _).drew).trans (aP.o.mono (by first | omega | (simp;done) | (simp;omega)))).alloc (by first | omega | (simp;done) | (simp;omega)) _
    ·simp only [N0,N1,N2];go_simp;refine V.out _ _ ⟨aI y.1 _,aI y.2.1 _,aI y.2.2.1 _,aI y.2.2.2.1 _,aI y.2.2.2.2 _⟩ (fun y=>?_);clear V K;refine cD (rs:=[18]) (by kernel_rfl) (by simp) ?_;refine aU.cons rfl (fun K V=>?_) aU.nil;simp only [N0,N1,N2];go_simp;refine (ds.o _ (bG.o.alloc bG.o.size _)).mono ?_;rintro e w6 ⟨A6,d6,rfl,R,U,D⟩;have b1:=NR (aw D y.1) (NR (aw D y.2.1) (NR (aw D y.2.2.1) (NR (aw D y.2.2.2.1) (aw D y.2.2.2.2))));have b0:=(D.block _ (by simp)).trans (NG _ _);simp only [NZ,Ot] at b0;obtain ⟨⟨m0,m1,m2⟩,mf⟩:=bx3 b0;have fi:=NE b0;obtain ⟨aM,a4,aP,dk⟩:=ag R U D b0;clear R U D y b0;dsimp only;refine V.out _ _ b1 (fun y=>?_);clear V K b1;refine wX 19 y ?_;refine wX 20 y ?_;simp only [N0,N1,N2,Act.put,N4,N5,N6];refine wX0 21 y ?_;simp only [N0,N1,N2,Act.put,N4,N5,N6];clear y;refine eR (by rfl) (by kernel_rfl) ?_;simp only [Ob,Oc];go_wp2_with fail;go_meet;have bz:=aP.o.size;simp at bz;have k3:=qN (w:=w6) (b:=H.heap.size+1+1) (.int .i64 r) (.int .i64 c0) (.slice A6 B d6);have g0:=k3.size;refine ⟨H.heap.size+1+1,A6,d6,rfl,tT _ _ _ dk.o,aM.o,aE (k3.own a4.o (fun i hi e=>ax dk.o (by decide) a4.o (by rw [hi,e]))) (by first | omega | (simp;done) | (simp;omega)),by first | omega | (simp;omega),?_⟩;exact ((((NI _ _).drew).alloc (by first | omega | (simp;done) | (simp;omega)) _).trans (aP.o.mono (by first | omega | (simp;done) | (simp;omega)))).trans (k3.toBelow (by first | omega | (simp;done) | (simp;omega)) (fun i hi=>by first | omega | (simp;omega)))
   case rest=>
    obtain ⟨M,A6,d6,rfl,hM,R,U,f5,cb⟩:=hcut;have d2:aq H ((H.alloc (.cells #[.int .i64 lo,.int .i64 ((lo:Int)+B)] 148)).alloc (.cells #[.int .i64 ((lo:Int)+B),.int .i64 ((lo:Int)+B+r)] 148)):=((NI _ _).alloc (NF _) _).alloc (by simp) _
    have bb:((H.alloc (.cells #[.int .i64 lo,.int .i64 ((lo:Int)+B)] 148)).alloc (.cells #[.int .i64 ((lo:Int)+B),.int .i64 ((lo:Int)+B+r)] 148)).heap[H.heap.size+1]?=some (.cells #[.int .i64 ((lo:Int)+B),.int .i64 ((lo:Int)+B+r)] 148 (0,0)):=by
     have:=NG (H.alloc (.cells #[.int .i64 lo,.int .i64 ((lo:Int)+B)] 148)) (.cells #[.int .i64 ((lo:Int)+B),.int .i64 ((lo:Int)+B+r)] 148);simpa using this
    have bM:=(cb.block (H.heap.size+1) ap).trans bb;have ci:aq H wc:=d2.trans (cb.mono ap);have a8:=Q.o.trans (ci.mono Q.o.size);have cc:=(a8.block _ (NE ab.o)).trans ab.o;have b8:=ay bN.o a8;have b9:=ay a9.o a8;have bf:=ay b6.o a8;obtain ⟨⟨n0,n1,n2,n3⟩,nf⟩:=bx4 cc;obtain ⟨⟨m0,m1,m2⟩,mf⟩:=bx3 hM;obtain ⟨⟨t0,t1⟩,tf⟩:=bx2 bM;obtain ⟨cy,cn,da,Y,dw,cM,eS,a4⟩:=ak bM a8 cc b8 b9 bf hM U;have aM:=aa R;clear a8 cc b8 b9 bf hM U R ci d2 bb bM cb dv bo dp;have fn:I.heap.size<wc.heap.size:=NE da.o;go_wp2_with fail;have y:(fun C:Qd=>C.cell? ⟨I.heap.size,3,none⟩=some (.slice Al k cl)/\C.cell? ⟨M,0,none⟩=some (.int .i64 r)/\C.cell? ⟨M,1,none⟩=some (.int .i64 c0)/\C.cell? ⟨M,2,none⟩=some (.slice A6 B d6)/\C.cell? ⟨I.heap.size,1,none⟩=some (.slice (some ⟨gp,0,none⟩) N cp)/\C.cell? ⟨H.heap.size+1,0,none⟩=some (.int .i64 ((lo:Int)+B))/\C.cell? ⟨H.heap.size+1,1,none⟩=some (.int .i64 ((lo:Int)+B+r))) wc.drew:=⟨n3,m0,m1,m2,n1,t0,t1⟩;have g3:¬(cp=lo+B):=ap;have fv:(lo:Int)+B+r<=cp:=ap;have f8:(lo:Int)+B<=(lo:Int)+B+r:=ap;have f9:((lo:Int)+B+r).toNat=lo+B+r:=ap;have gb:((lo:Int)+B).toNat=lo+B:=ap;have gd:(0:Int)<=(lo:Int)+B:=ap;have g6:(0:Int)<=(lo:Int)+B+r:=ap;refine XA.g 18 (fun C:Qd=>C.cell? ⟨I.heap.size,3,none⟩=some (.slice Al k cl)/\C.cell? ⟨M,0,none⟩=some (.int .i64 r)/\C.cell? ⟨M,1,none⟩=some (.int .i64 c0)/\C.cell? ⟨M,2,none⟩=some (.slice A6 B d6)/\C.cell? ⟨I.heap.size,1,none⟩=some (.slice (some ⟨gp,0,none⟩) N cp)/\C.cell? ⟨H.heap.size+1,0,none⟩=some (.int .i64 ((lo:Int)+B))/\C.cell? ⟨H.heap.size+1,1,none⟩=some (.int .i64 ((lo:Int)+B+r))) ?_;refine XA.t ?_ [0,1,2,3,4,5,6,7,8,9,10,11,12,13,14,15] y ?_;refine XA.o 16 (fun K V=>?_);go_simp;refine V.out _ _ ⟨aI y.1 _,aI y.2.1 _,aI y.2.2.1 _,aI y.2.2.2.1 _,aI y.2.2.2.2.1 _,aI y.2.2.2.2.2.1 _,aI y.2.2.2.2.2.2 _⟩ (fun y=>?_);clear V K;refine XA.o 17 (fun K V=>?_);refine bT Jf (.tmp 77) (.tmp 89) rfl rfl I.heap.size (.slice Al k cl) k (List.flatten rows) rfl (bW (Y.o.alloc _) 1) (some ⟨wc.heap.size,0,none⟩) 1 1 [.int .i64 r,.int .i64 c0,.slice A6 B d6,.slice (some ⟨gp,lo+B,none⟩) r (cp-(lo+B))] rfl (dN wc _ _ _ rfl) rfl (by simp [Value.oneCell']) ap (by unfold maxLen;omega) (by simp;omega) ?_;intro A7 c7 w7 cO dT a3 ew;have a3:=qe a3;have aR:=dV (o:=.cells #[.int .i64 r,.int .i64 c0,.slice A6 B d6,.slice (some ⟨gp,lo+B,none⟩) r (cp-(lo+B))] 358 (0,0)) da.o (by decide) Y.o a3;have i0:=NH w7 _ 3 _ _ _ aR;have i1:=NH w7 _ 1 _ _ _ aR;have i3:=NS w7 _ 3 _ _ aR;have b4:=dV (o:=.cells #[.int .i64 r,.int .i64 c0,.slice A6 B d6,.slice (some ⟨gp,lo+B,none⟩) r (cp-(lo+B))] 358 (0,0)) eS.o (by decide) Y.o a3;have bA:=dV (o:=.cells #[.int .i64 r,.int .i64 c0,.slice A6 B d6,.slice (some ⟨gp,lo+B,none⟩) r (cp-(lo+B))] 358 (0,0)) cy.o (by decide) Y.o a3;have i4:=NH w7 _ 0 _ _ _ b4;have i5:=NH w7 _ 1 _ _ _ b4;have i6:=NH w7 _ 2 _ _ _ b4;have i7:=NH w7 _ 0 _ _ _ bA;have i8:=NH w7 _ 1 _ _ _ bA;obtain ⟨d1,bI,ea,ef⟩:=ag cO aR a3 dT;clear cO aR a3 ew dT b4 bA;dsimp only;refine V.out _ _ ⟨i0,i4,i5,i6,i1,i7,i8⟩ (fun y=>?_);clear V K y;refine XA.e ?_;simp only [Ob,Oc];go_wp2_with fail;have eq:=OE w7 I.heap.size 3 _ _ (.slice A7 (k+1) c7) bI.o;have es:Keep (fun i=>i=I.heap.size) w7 (w7.setCell ⟨I.heap.size,3,none⟩ (.slice A7 (k+1) c7)):=Keep.setCell (S:=fun i=>i=I.heap.size) (Keep.refl _ _) ⟨I.heap.size,3,none⟩ (.inr rfl) _;have e8:=es.own d1.o (fun i hi e=>ax bI.o (by decide) d1.o (by rw [hi,e]))
    have ev:aq I (w7.setCell ⟨I.heap.size,3,none⟩ (.slice A7 (k+1) c7)):=
     (((HW.o.trans (cn.o.mono HW.o.size)).alloc ap _).drew.trans ef.o).setCell (by simp) _
    have O:∀{b':Nat} {u:Value} {m:Nat} {ys:Qc} {e':Qf},wc.ownsRow b' e' 1 u m ys->358≠e'->352≠e'->(w7.setCell ⟨I.heap.size,3,none⟩ (.slice A7 (k+1) c7)).ownsRow b' e' 1 u m ys:=fun h h1 h2=>yw h Y.o ea.o bI.o h1 h2;go_roundw
    case rel=>
     refine ⟨k+1,by omega,by go_num,A7,c7,rows++[[.int .i64 r,.int .i64 c0,.slice A6 B d6,.slice (some ⟨gp,lo+B,none⟩) r (cp-(lo+B))]],?_,?_,by simp [aG.o],?_,?_,?_,O cM.o (by decide) (by decide),ev⟩
     ·rw [HN.o];exact eq
     ·rw [Oo,List.flatten_cons,List.flatten_nil,List.append_nil];exact e8
     ·intro x hx;rcases Ov.1 hx with hx | hx
      ·exact bn.o x hx
      ·rw [List.mem_singleton.1 hx];rfl
     ·rw [HN.o];exact O dw.o (by decide) (by decide)
     ·intro j hj;rcases NY j k with bw | bw
      ·obtain ⟨g9,d9,bv,bi,c6⟩:=ao.o j bw;refine ⟨g9,d9,?_,bi,O (ay c6 cn.o) (by decide) (by decide)⟩;rw [<-bv];simp [bZ,Og (show j<rows.length by rw [aG.o];exact bw)]
      ·obtain rfl:j=k:=ap;obtain ⟨g9,d9,dG,ga,_⟩:=a4.o.form ap;simp only [Ou] at dG;obtain ⟨rfl,_,rfl⟩:=dG;have e1:=Hr.o;have e2:=eu.o;have e3:=eo.o;have e4:=e7.o;refine ⟨g9,d6,?_,?_,?_⟩
       ·have e5:dA sz j=lo+B:=by unfold dA;rw [e1,e2,e3,e4]
        rw [e5,e1,e2,e4];have:=aG.o;simp [bZ,<-this]
       ·rw [e1,e2,e4];exact aM.o
       ·rw [e1,e2,e4];exact aE (O a4.o (by decide) (by decide)) (by have:=Hb.o.size;omega)
    case measure=>simp [intOf];omega
  ·obtain rfl:k=n:=ap
   have e0:lY 212 352 wr I.heap.size sz ps q:=by
    refine ⟨S,some ⟨gp,0,none⟩,cp,Al,cl,rows,?_,HS.o.below ad.o,Rd.own a9.o,Rd.own bN.o,?_,bn.o,?_⟩
    ·rw [HN.o,Hn.o];exact ab.o
    ·rw [Hn.o];exact aG.o
    ·intro j hj;rw [Hn.o] at hj;obtain ⟨g9,d9,bv,bi,c6⟩:=ao.o j hj;have hR:=HG.o.1;have b5:j+1<sz.length:=by have:=Hn.o;have:=hR.1;omega
     have a0:=NN (fS sz (show j+1<=k by omega)) (Nat.le_of_eq Hl.o.symm);have L:=fE sz j;have a7:bL sz ps j=(ps.drop (dA sz j)).take (szN sz (j+1)):=(fF (by rw [Oi,Om];have:=HN.o;omega) fun i hi=>by rw [fq hi,ft]).symm;refine ⟨g9,0,d9,some ⟨gp,dA sz j,none⟩,cp-dA sz j,bv,bi,Rd.own c6,?_⟩;have:=((Rd.own a9.o).drop (dA sz j)).take (szN sz (j+1))
     rwa [Oz,dz,di,<-a7] at this
   have d7:MH wr w.heap.size I.heap.size ps:=by unfold MH;rw [HN.o];exact ⟨_,_,_,_,_,ab.o,a9.o,Hb.o.size⟩
   have cx:ub wr w.heap.size I.heap.size S sz ps q:=by
    unfold ub;rw [HN.o,Hn.o];exact ⟨gp,cp,Al,cl,rows,ab.o,Hb.o.size,a9.o,aE bN.o Hb.o.size,aG.o,bn.o,ao.o⟩
   obtain ⟨ek,ei,eM⟩:=af e0 d7 cx;clear e0 d7 cx;go_wp2_with fail;go_ret2;exact ⟨_,rfl,ek.o,ei.o,eM.o,ad.o⟩
theorem iu {S:Nat->Prop} {w i:Qd} (hk:Keep S w i):Ext (aF S w) i:=fun k hl=>by
 rw [nJ] at hl;by_cases h:S k
 ·exact .inl (xh h hl)
 ·exact .inr (by rw [gt h];exact hk.block k hl h)
def eN (i:Inp) (P G:Qa) (l:Qg):Qa:=l.foldl (fun a x=>fw a (iA i.cfg.sizes P i.cfg.shift x.1 x.2)) G
theorem za (i:Inp) (P G:Qa) (l:Qg) (x:Ex):eN i P G (l++[x])=fw (eN i P G l) (iA i.cfg.sizes P i.cfg.shift x.1 x.2):=by simp [eN]
def pZ (i:Inp) (x st a:Nat):Qa:=iI (dH i.draws i.data.length i.cfg.batch.toNat st) i.cfg.workers.toNat x i.cfg.micros.toNat a
theorem sM {i:Inp} {l:Qa} (h:jv i l) (k j:Nat):jv i (cX l k j):=fun n hn=>by
 have h1:(cX l k j).length<=l.length-bdN l.length k j:=by simp only [cX,Oi,Om];omega
 have o:(cX l k j).length<=bdN l.length k (j+1)-bdN l.length k j:=by simp only [cX,Oi];omega
 unfold cX;rw [fq ap,ft];exact h _ ap
theorem yO {i:Inp} (hg:mU i) (x st a:Nat):jv i (pZ i x st a):=sM (sM (Ca hg st) _ _) _ _
theorem Ed {i:Inp} (hg:mU i) {l:Qa} (h:jv i l) {k:Nat} {e:Ex} (he:(dR i.data l)[k]?=some e):fu (inN i) (wR i) e:=by
 have hk:=(Oe.1 he).1;rw [nD] at hk;rw [yt _ _ hk] at he;have o:=h k hk;unfold j8 at o;simp only [Option.some.injEq] at he;subst he;have hl:(nth l k).toNat<i.data.length:=ap;simp only [List.getD,Of hl,Option.getD_some];exact hg.f _ (List.getElem_mem hl)
theorem EH {H:Nat->Prop} {w:Qd} {b x:Nat} {i:Inp} {a:MAd} {m:Mst} (h:aV H w b i x a m) (hs:cq i) (y:Itm) (u v:Value) (hu:u.oneCell'=true) (hv:v.oneCell'=true) (b8:y.st<i.cfg.steps.toNat) (hn:y.n<i.cfg.micros.toNat):Calls prog 224 #[(au b),.agg (bj y).toArray,.agg #[u,v]] w fun e p=>e=.returned (OH 0)/\Keep (fun k=>k=a.bg) w p/\
   p.ownsRow 0 2 1 (.slice (some (ar a.bg 0)) i.start.length a.cg) i.start.length (aA .i64 (eN i m.P m.G (dR i.data (pZ i x y.st y.n)))):=by
 have hg:=hs.g;have hc:=hg.c;have a5:bR i.cfg.sizes (i.cfg.sizes.length-1)=i.start.length:=hg.s.symm;have Y:=hc.z.bound (k:=i.cfg.sizes.length-1) (by have:=hc.z.1.1;omega);have hq:0<=i.cfg.shift/\i.cfg.shift<=62:=⟨by have:=hc.s;omega,by have:=hc.s;omega⟩;have ci:b≠a.bg:=fun e=>ax h.blk (by decide) h.oG (by rw [e];rfl);have bs:=NE h.blk;have a9:=(h.oG.lt a.bg rfl).2;have R:=fun p (q:Keep (fun k=>k=a.bg) w p)=>(q.block b bs ci).trans h.blk;have hx:=fun p (q:Keep (fun k=>k=a.bg) w p)=>iu (S:=gE H b a) (q.mono (fun k _ e=>.inl (.inr (.inr (.inr (.inl e))))));have av:=h.wP.1;have a6:m.P.length=bR i.cfg.sizes (i.cfg.sizes.length-1):=av.trans a5.symm;have a2:=fun p (q:Keep (fun k=>k=a.bg) w p)=>yE a.F i.cfg.sizes m.P (some (ar a.bp 0)) a.cp i.cfg.shift p (fA h.sh (hx p q)) hc.z hq a6 (Rd.own (q.own h.oP (fun j hj e=>h.dj.2.1 (by cases hj;exact e))));rw [av] at a2;have eW:((i.cfg.workers.toNat:Nat):Int)=i.cfg.workers:=by have:=hc.w;omega
 have eM:((i.cfg.micros.toNat:Nat):Int)=i.cfg.micros:=by have:=hc.mi;omega
 have D:=fun p (q:Keep (fun k=>k=a.bg) w p)=>EE a.S i.data.length i.cfg.batch.toNat i.cfg.steps.toNat y.st i.cfg.workers.toNat x i.cfg.micros.toNat y.n i.draws p (iq h.sa (hx p q)) (by have:=hc.ba;have:=hc.w;omega) (by have:=hg.b.1;omega) hg.b.2 (by have:=hc.st;omega) b8 (by have:=hc.w;omega) (by have:=hc.ba;omega) h.xw (by have:=hc.mi;omega) (by have:=hc.mi;omega) hn;rw [eW,eM] at D;have A:=yO hg x y.st y.n;obtain ⟨C,I⟩:∃C,pZ i x y.st y.n=C:=⟨_,rfl⟩;rw [I] at A;have O:iI (dH i.draws i.data.length i.cfg.batch.toNat y.st) i.cfg.workers.toNat x i.cfg.micros.toNat y.n=C:=I;rw [O] at D;rw [I]
 have a1:C.length<=1048576:=by
  rw [<-I];have h0:=iK i.draws (n:=i.data.length) (b:=i.cfg.batch.toNat) (t:=y.st) (Nat.div_pos (by have:=hg.b.1;omega) (by have:=hc.ba;have:=hc.w;omega));have h1:∀(l:Qa) (k j:Nat),(cX l k j).length<=l.length:=fun l k j=>by simp only [cX,Oi,Om];omega
  have h2:=h1 (cX (dH i.draws i.data.length i.cfg.batch.toNat y.st) i.cfg.workers.toNat x) i.cfg.micros.toNat y.n;have h3:=h1 (dH i.draws i.data.length i.cfg.batch.toNat y.st) i.cfg.workers.toNat x;have:=hc.ba;unfold pZ iI;omega
 have Z:=fun p (q:Keep (fun k=>k=a.bg) w p) B d (hB:Rd p B (aA .i64 C))=>Ig a.ce d a.E B i.data C p (eO cQ h.ex (hx p q)) hg.b.2 hB a1;have Q:=fun (k:Nat) (e:Ex) (he:(dR i.data C)[k]?=some e)=>Ed hg A he;have V:=nD i.data C;obtain ⟨pl,N⟩:∃pl,dR i.data C=pl:=⟨_,rfl⟩;rw [N] at V Q;simp only [N] at Z ⊢;have a0:=fun aR A1 A2 (e:Ex) c1 c2 p (hN:lY 212 352 p aR i.cfg.sizes m.P i.cfg.shift) (r1:cB p A1 e.1 c1) (r2:cB p A2 e.2 c2) (hf:fu (inN i) (wR i) e)=>Lj aR i.cfg.sizes m.P i.cfg.shift A1 A2 e.1 e.2 c1 c2 p hN hc.z h.wP.2 r1.hr hf.1 r1.hw r2.hr hf.2;have U:=fun (e:Ex) (hf:fu (inN i) (wR i) e)=>vy (sz:=i.cfg.sizes) (ps:=m.P) (q:=i.cfg.shift) (x:=e.1) (y:=e.2) hf.1 (by have:=hc.z.1.1;omega);rw [a5] at a0 U Y;have a4:=fun p (q:Keep (fun k=>k=a.bg) w p)=>fA h.sh (hx p q);obtain ⟨K,hK⟩:∃K,C.length=K:=⟨_,rfl⟩;rw [hK] at D a1 Z V;unfold jv at A;rw [hK] at A;have t0:∀p,Keep (fun k=>k=a.bg) w p->p.cell? (ar b 0)=some (OH (x:Nat)):=fun p q=>NH p b 0 _ _ _ (R p q);have t1:∀p,Keep (fun k=>k=a.bg) w p->p.cell? (ar b 1)=some (OH i.cfg.workers):=fun p q=>NH p b 1 _ _ _ (R p q);have t2:∀p,Keep (fun k=>k=a.bg) w p->p.cell? (ar b 2)=some (OH i.cfg.micros):=fun p q=>NH p b 2 _ _ _ (R p q);have t3:∀p,Keep (fun k=>k=a.bg) w p->p.cell? (ar b 3)=some ((au a.F)):=fun p q=>NH p b 3 _ _ _ (R p q);have t4:∀p,Keep (fun k=>k=a.bg) w p->p.cell? (ar b 4)=some (.slice a.E i.data.length a.ce):=fun p q=>NH p b 4 _ _ _ (R p q);have t5:∀p,Keep (fun k=>k=a.bg) w p->p.cell? (ar b 5)=some ((au a.S)):=fun p q=>NH p b 5 _ _ _ (R p q);have bV:∀p,Keep (fun k=>k=a.bg) w p->p.cell? (ar b 10)=some (OH i.cfg.shift):=fun p q=>NH p b 10 _ _ _ (R p q);have b6:∀p,Keep (fun k=>k=a.bg) w p->p.cell? (ar b 11)=some (.slice (some (ar a.bp 0)) i.start.length a.cp):=fun p q=>NH p b 11 _ _ _ (R p q);have bA:∀p,Keep (fun k=>k=a.bg) w p->p.cell? (ar b 13)=some (.slice (some (ar a.bg 0)) i.start.length a.cg):=fun p q=>NH p b 13 _ _ _ (R p q);have tl:=fun p (q:Keep (fun k=>k=a.bg) w p)=>NQ bs q.size;obtain ⟨n,bd⟩:∃n,i.start.length=n:=⟨_,rfl⟩;have oG:=h.oG;rw [bd] at a2 a0 U Y b6 bA oG ⊢;obtain ⟨W0,W1,bh,bf,g0,g1,aG, -⟩:=gn w (bj y).toArray #[u,v] 152 333;have q1:Keep (fun k=>k=a.bg) w W1:=Keep.below aG;have s1:∀p,aq W1 p->p.cell? (ar w.heap.size 1)=some (OH (y.st:Nat)):=fun p q=>NH p w.heap.size 1 _ _ _ (sb g0 p q);have s2:∀p,aq W1 p->p.cell? (ar w.heap.size 2)=some (OH (y.n:Nat)):=fun p q=>NH p w.heap.size 2 _ _ _ (sb g0 p q);have ct:=sl g0;obtain ⟨K1,co,cl,bv,b5,cj,be,bI⟩:=ak aG bh bf a2 D Z Q a0;obtain ⟨bz,HG,c8,OG,Hz,c9,a7,cM⟩:=ak U A a4 oG hc.z a6 V R;obtain ⟨bN,cf⟩:=ae Y a1;clear bh bf g0 g1 aG R hx av a6 a2 D Z Q a0 U A a4 oG V Y a1 eW eM I O N hK bd hc a5 hq b8 hn h hg hs;go_enter func224,ntmps224;go_wp2_with fail;rw [co.o,cl.o];have b1:=(br W1).drew;refine HA.g (fun p:Qd=>Keep (fun k=>k=a.bg) w p/\aq W1 p) ?_;refine HA.t ?_ [0,1,2,3,4,5,6,7,8,9,10,11,12,13,14,15] ⟨q1.drew,b1⟩ ?_;refine HA.c 16 (bv.o _ q1.drew) ?_;rintro e w2 ⟨nb,rfl, -, -,bn,k2⟩;have q2:=q1.drew.trans (Keep.below (S:=fun k=>k=a.bg) k2);have b2:=b1.trans (k2.mono b1.size);refine ⟨_,rfl,⟨q2,b2⟩,fun _=>?_⟩;refine HA.t ?_ [17,18,19,20,21] ⟨q2,b2⟩ ?_;refine HA.d ?_;have NO:=aa bn;have bw:a.bg<w2.heap.size:=NQ a9 q2.size;have a8:w.heap.size<=W1.drew.heap.size:=q1.drew.size;clear bn k2 q1 b1;go_wp2_with fail;refine HA.g (fun p:Qd=>Keep (fun k=>k=a.bg) w p/\aq W1 p) ?_;refine HA.t ?_ [0,1,2,3,4,5,6,7,8,9,10,11,12,13,14,15,16,17,18,19,20,21,22,23,24,25,26,27,28] ⟨q2.drew,b2.drew⟩ ?_;refine HA.c 29 (b5.o _ q2.drew) ?_;rintro e w3 ⟨B,d,rfl,hd,rB,k3⟩;have q3:=q2.drew.trans (Keep.below (S:=fun k=>k=a.bg) k3);have b3:=b2.drew.trans (k3.mono b2.drew.size);have ad:aq w2 w3:=(br w2).drew.trans k3;refine ⟨_,rfl,⟨q3,b3⟩,fun _=>?_⟩;refine HA.c 30 (cj.o w3 q3 B d rB) ?_;rintro e w4 ⟨k4,bi⟩;rcases bi with ⟨-,A',c',rfl,b0⟩ | ⟨bM, -⟩
 rotate_left
 ·exact absurd HG.o bM
 have q4:=q3.trans (Keep.below (S:=fun k=>k=a.bg) k4);have b4:=b3.trans (k4.mono b3.size);refine ⟨_,rfl,⟨q4,b4⟩,fun _=>?_⟩;refine HA.t ?_ [31,32,33,34,35] ⟨q4,b4⟩ ?_;refine HA.d ?_;obtain ⟨c7,M4,Q4,bG⟩:=ag ((NO.o.below ad).below k4) b0 q4 (ay OG.o (K1.o.trans (b4.mono K1.o.size)));have c6:a.bg<w3.heap.size:=NQ bw ad.size;have cs:a.bg<W1.drew.heap.size:=NQ a9 a8;clear q2 q3 q4 b2 b3 b4 ad k3 k4 b0 rB hd s1 s2 ct t0 t1 t2 t3 t4 t5 bV b6;go_wp2_with fail
 go_loopw [71] (fun z wr=>∃k:Nat,k<=K/\z=OH k/\wr.ownsRow 0 2 1 (.slice (some (ar a.bg 0)) n a.cg) n (aA .i64 (eN i m.P m.G (pl.take k)))/\Keep (fun k=>k=a.bg) w4 wr) (fun z _=>K-(intOf z).toNat)
 ·exact ⟨0,NJ _,rfl,bG.o,Keep.refl _ _⟩
 case round=>
  obtain ⟨k,hk,rfl,og,qk⟩:=hrel;have qw:=Q4.o.trans qk;by_cases cy:k<K
  ·have bO:(k:Int)<K:=ap;have cA:¬(k:Int)<0:=ap;have cx:IntKind.i64.wrap ((k:Int)+1)=((k+1:Nat):Int):=by have:=cf.o;rw [NK _ ap];push_cast;rfl
   obtain ⟨e,he⟩:∃e,pl[k]?=some e:=⟨_,Of (by have:=a7.o;omega)⟩;have hf:=be.o k e he;have b9:=(M4.o.keep qk (fun j hj=>by rw [hj];exact c6)).rd a7.o;obtain ⟨eb,eo,A1,c1,A2,c2,rfl,cL,p1,p2,r1,r2⟩:=fL b9 he;have bX:=(br wr).alloc (NF _) (.cells #[.slice A1 e.1.length c1,.slice A2 e.2.length c2] 91);have a3:=((c7.o.keep qk (fun j hj=>by rw [hj];exact cs)).at (c8.o wr qw) Hz.o c9.o).below bX;have L:=bI.o nb A1 A2 e c1 c2 _ a3 (r1.below bX) (r2.below bX) hf;have ao:=bz.o e hf;have bl:pl.take (k+1)=pl.take k++[e]:=by rw [List.take_add_one,he];rfl
   obtain ⟨gv,J⟩:∃gv,iA i.cfg.sizes m.P i.cfg.shift e.1 e.2=gv:=⟨_,rfl⟩;obtain ⟨n1,aM⟩:∃n1,e.1.length=n1:=⟨_,rfl⟩;obtain ⟨n2,bo⟩:∃n2,e.2.length=n2:=⟨_,rfl⟩;rw [J] at ao L;rw [aM] at bX L p1;rw [bo] at bX L p2;obtain ⟨cc,BX,ab,cn,cd,bb,QK,QW⟩:=ak L bX og ao bl J qk qw;clear L bX og ao bl J qk a3 b9 r1 r2 hf he aM bo;go_wp2_with fail;refine cc.o.mono ?_;rintro e' w6 ⟨A3,c3,rfl,o3,k6⟩;have T:=BX.o.trans (k6.mono BX.o.size);have q6:=QW.o.trans (Keep.below (S:=fun k=>k=a.bg) T);have cv:a.bg<wr.heap.size:=NQ a9 QW.o.size
   have b7:=xu 0 (some (ar a.bg 0)) A3 (eN i m.P m.G (pl.take k)) gv n a.cg c3 w6 (ay ab.o T) (Rd.own o3) cn.o (by have:=bN.o;omega) (fun z1 z2 e1 e2=>by
    cases e1
    have:=(o3.lt z2.block (by rw [e2];rfl)).1;have h2:=BX.o.size;dsimp only
    omega)
   obtain ⟨cb,cr⟩:=ae b7 T;clear b7 T o3 k6 p1 p2 qw;go_wp2_with fail;refine cb.o.mono ?_;rintro cw w7 ⟨rfl,o7,k7⟩;have aP:Keep (fun k=>k=a.bg) w4 w7:=(QK.o.trans (Keep.below cr.o)).trans (k7.mono fun j _ hj=>by cases hj;rfl);rw [<-bb.o,<-za,<-cd.o] at o7;obtain ⟨O7,K7⟩:=ae o7 aP;clear o7 k7 aP q6;go_wp2_with fail;go_roundw
   ·exact ⟨k+1,by omega,by go_num,O7.o,K7.o⟩
   ·simp [intOf];omega
  ·obtain rfl:k=K:=ap;have bO:¬(k:Int)<k:=ap;rw [List.take_of_length_le (by have:=a7.o;omega)] at og;obtain ⟨ab,QW⟩:=ae og qw;clear og qk qw;go_wp2_with fail;go_ret;exact ⟨rfl,QW.o,ab.o⟩
end Go.Proofs.YtgmajkppbhiopaaGreat
