/- No condition. -/
import Derived.Test.YtindmkcnjlgomaaGreatQ03
import Derived.KernelRfl
import Derived.Lib.Mul64
import Derived.Laws.Bits64b
import Derived.StillTailTactics
import Derived.Deep.DeepCutAuto
set_option linter.unusedSimpArgs false
set_option linter.unusedVariables false
set_option maxRecDepth 100000
set_option maxHeartbeats 4000000
namespace Go.Proofs.YtindmkcnjlgomaaGreat
open Go.RowKit
open Tryz
def nV (p:Pln) (m:Nat):Q_:=(List.range m).map λx=>((aE p x 0).length:Int)
theorem Dw (p:Pln) (m:Nat):nV p (m+1)=nV p m++[((aE p m 0).length:Int)]:=by simp [nV,Rx]
theorem xH (p:Pln) (m:Nat):(nV p m).length=m:=by simp [nV]
def ft (w:R8) (P:Nat) (p:Pln) (v a1 x B C y h:Value):Prop:=∃BA bc o A i u,w.heap[P]?=some (.cells #[v,a1,x,B,RI (p.W:Nat),C,RI (p.mi:Nat),y,RI (p.bu:Nat),RI (p.ck:Nat),RI (p.wi:Nat),h,.slice BA p.buks.length bc,.slice o p.grps.length A,.slice i p.W u] 194 (0,0))/\Rd w BA (aS p.buks)/\Rd w o (aS p.grps)/\Rd w i (aA .i64 (nV p p.W))
theorem ft.below {w u:R8} {P:Nat} {p:Pln} {o a1 v y A x i:Value} (h:ft w P p o a1 v y A x i) (hb:aq w u):ft u P p o a1 v y A x i:=by
 obtain ⟨BA,bc,L,I,H,B,h1,C,J,D⟩:=h;exact ⟨BA,bc,L,I,H,B,sb h1 _ hb,C.below hb,J.below hb,D.below hb⟩
theorem ft.agr {B:Nat} {u v:R8} {P:Nat} {p:Pln} {o a1 x A C y i:Value} (h:ft (gE B u) P p o a1 x A C y i) (hb:Agr B u v):ft v P p o a1 x A C y i:=by
 obtain ⟨BA,bc,O,L,J,D,h1,H,N,I⟩:=h;exact ⟨BA,bc,O,L,J,D,tZ (xs:=[_,_,_,_,_,_,_,_,_,_,_,_,_,_]) h1 hb,mH H hb,mH N hb,mH I hb⟩
theorem xu (p:Pln) (R a1 T U Q I A:Value) (w:R8) (hp:bT p) (hn:1<=p.n) (cc:p.bu<=1048576) (c8:p.wi<=1048576) (b7:∀x,aq w x->Calls prog 64 #[.agg #[R,a1,T,U,RI (p.W:Nat),Q,RI (p.mi:Nat),I,RI (p.bu:Nat),RI (p.ck:Nat),RI (p.wi:Nat),A]] x λe a8=>e=.returned (RI 0)/\aq x a8):Calls prog 62 #[.agg #[R,a1,T,U,RI (p.W:Nat),Q,RI (p.mi:Nat),I,RI (p.bu:Nat),RI (p.ck:Nat),RI (p.wi:Nat),A],RI (p.n:Nat)] w λe x=>∃P,e=.returned (.tuple #[(au P),.bool true])/\w.heap.size<=P/\ft (gE w.heap.size x) P p R a1 T U Q I A/\aq w x:=by
 obtain ⟨W0,a4⟩:∃W0,w.alloc (.cells #[R,a1,T,U,RI (p.W:Nat),Q,RI (p.mi:Nat),I,RI (p.bu:Nat),RI (p.ck:Nat),RI (p.wi:Nat),A] 24)=W0:=⟨_,rfl⟩;have g0:W0.heap[w.heap.size]?=some (.cells #[R,a1,T,U,RI (p.W:Nat),Q,RI (p.mi:Nat),I,RI (p.bu:Nat),RI (p.ck:Nat),RI (p.wi:Nat),A] 24 (0,0)):=by rw [<-a4];exact Qy w _
 have a6:aq w W0:=by rw [<-a4];exact (br w).alloc (Qx _) _
 have bl:=λx (q:aq W0 x)=>b7 x (a6.trans (q.mono a6.size));have t0:=λx q=>kw (sb g0 x q);have cr:¬((p.n:Int)<1):=ap;have co:=hp.n;have cL:¬((p.n:Int)>1048576):=ap;have cw:¬(1048576<(p.n:Int)):=ap;have cy:=hp.W1;have cA:=hp.W8;have bo:=hp.bu;have b2:=hp.wi;have ad:p.buks=qx p.n p.bu:=rfl;have ab:p.grps=fv p.buks.length p.wi:=rfl;have cx:=hp.buks;obtain ⟨ci,N,bN,cI,be,bh⟩:=ai a4 a6 bl g0 ad ab;have q0:=br W0;clear a4 g0 a6 bl b7 ad ab;go_enter func62,ntmps62;go_wp2_with fail;rw [ci.o];refine (bN.o _ q0).mono ?_;rintro e w1 ⟨rfl,k1⟩;have q1:=bt q0 k1;go_wp2_with fail;refine (BV p.n p.bu _ ap bo cc).mono ?_;rintro e w2 ⟨v2,rfl,o2,k2⟩;have q2:=bt q1 k2;rw [<-be.o] at o2;obtain ⟨BA,bc,rfl,_⟩:=aD o2;go_wp2_with fail;refine HA.g (λx:R8=>aq W0 x) ?_;refine HA.t ?_ [0,1,2,3,4,5] q2.drew ?_;refine HA.c 6 (DB p.buks.length p.wi _ ap b2 c8) ?_;rintro e C ⟨v3,rfl,o3,k3⟩;have q3:=bt q2.drew k3;rw [<-bh.o] at o3;obtain ⟨GA,gc,rfl,_⟩:=aD o3;refine ⟨_,rfl,q3,λ_=>?_⟩;refine HA.t ?_ [7,8] q3 ?_;obtain ⟨D,O⟩:∃D,C.alloc (.cells #[R,a1,T,U,RI (p.W:Nat),Q,RI (p.mi:Nat),I,RI (p.bu:Nat),RI (p.ck:Nat),RI (p.wi:Nat),A,.slice BA p.buks.length bc,.slice GA p.grps.length gc,RJ] 194)=D:=⟨_,rfl⟩;have k5:aq C D:=by rw [<-O];exact (br C).alloc (Qx _) _
 refine HA.v 9 D ((au C.heap.size)) (bt q3 k5) ?_ (he:=by subst O;go_simp);refine HA.t ?_ [10] (bt q3 k5) ?_;refine HA.d ?_;simp only [Exit.then];have g5:D.heap[C.heap.size]?=some (.cells #[R,a1,T,U,RI (p.W:Nat),Q,RI (p.mi:Nat),I,RI (p.bu:Nat),RI (p.ck:Nat),RI (p.wi:Nat),A,.slice BA p.buks.length bc,.slice GA p.grps.length gc,RJ] 194 (0,0)):=by rw [<-O];exact Qy C _
 have Z:D.heap.size=C.heap.size+1:=by rw [<-O];simp
 have q5:=bt q3 k5;have bf:=(N.o.trans (q2.mono N.o.size));have b9:w.heap.size<=C.heap.size:=QD bf.size (QD (Qx _) k3.size);have aM:=az (az (bZ o2 1) k3) k5;have aR:=az o3 k5;have b6:=Rd.own aM;have bs:=Rd.own aR;have c9:∀y,BA=some y->y.block<D.heap.size:=λy i=>(iT aM y i).2;have bA:∀y,GA=some y->y.block<D.heap.size:=λy i=>(iT aR y i).2;have a9:∀y,BA=some y->w.heap.size<=y.block/\y.block<C.heap.size:=λy i=>⟨QD (QD N.o.size q1.size) (iT o2 y i).1,QE (iT o2 y i).2 k3.size⟩;have ao:∀y,GA=some y->w.heap.size<=y.block/\y.block<C.heap.size:=λy i=>⟨QD bf.size (iT o3 y i).1,(iT o3 y i).2⟩;obtain ⟨b3,bw,J,L,H5,bi,bX,b1⟩:=ak b6 bs a9 ao g5 Z q5 b9;have t5:=λx q=>t0 x (bt q5 q);have bG:=br D;clear O g5 Z aM aR o2 o3 b6 bs c9 bA a9 ao k3 k5 q0 q1 q2 q3 q5 t0 b9;go_wp2_with fail;clear t5 bG
 go_loopw [36] (λy wr=>∃m:Nat,m<=p.W/\y=RI m/\∃v,wr.heap[C.heap.size]?=some (.cells #[R,a1,T,U,RI (p.W:Nat),Q,RI (p.mi:Nat),I,RI (p.bu:Nat),RI (p.ck:Nat),RI (p.wi:Nat),A,.slice BA p.buks.length bc,.slice GA p.grps.length gc,v] 194 (0,0))/\wr.ownsRow D.heap.size 3 1 v m (aA .i64 (nV p m))/\Keep (λj=>j=C.heap.size) D wr) (λy _=>p.W-(intOf y).toNat)
 .exact ⟨0,QB _,rfl,_,H5.o,QI _ _ _ _,Keep.refl _ _⟩
 case round=>
  obtain ⟨m,hm,rfl,v,hP,V,H⟩:=hrel;by_cases bO:m<p.W
  .have cb:(m:Int)<p.W:=ap;have cv:IntKind.i64.wrap ((m:Int)+1)=((m+1:Nat):Int):=by rw [QC _ ap];push_cast;rfl
   have bI:=Qw hP;have kP:=λx (q:Keep (λj=>v.ownBlock=some j) wr x)=>(q.block _ bI (λh=>ay hP (by decide) V h.symm)).trans hP;have tP:=λx q=>kH (kP x q);have Z:=bi.o
   have bb:∀x,Keep (λj=>v.ownBlock=some j) wr x->Calls prog 96 #[.agg #[R,a1,T,U,RI (p.W:Nat),Q,RI (p.mi:Nat),I,RI (p.bu:Nat),RI (p.ck:Nat),RI (p.wi:Nat),A,.slice BA p.buks.length bc,.slice GA p.grps.length gc],RI (m:Nat),RI 0] x λe a8=>∃v,e=.returned v/\a8.ownsRow x.heap.size 135 12 v (aE p m 0).length (cD (aE p m 0))/\aq x a8:=λx q=>
    xM p 0 m R a1 T U Q I (RI (p.bu:Nat)) (RI (p.wi:Nat)) A BA GA bc gc x hp bO
     (q.rd (H.rd b3.o (λy i=>by have:=J.o y i;omega)) (λy i e=>by have:=(V.lt _ e).1;have:=J.o y i;omega))
     (q.rd (H.rd bw.o (λy i=>by have:=L.o y i;omega)) (λy i e=>by have:=(V.lt _ e).1;have:=L.o y i;omega))
     (λy i=>by have:=J.o y i;have:=q.size;have:=H.size;omega) (λy i=>by have:=L.o y i;have:=q.size;have:=H.size;omega)
   have cl:(aE p m 0).length<=8000000:=by
    have h1:=nX hp m 0 (Qx p.grps.length);have h2:=hp.grps;have:(aE p m 0).length=(dS p m 0 p.grps.length).length+1:=by simp [aE,dS];omega
    omega
   have bM:=H.size;obtain ⟨bV,b8,HO,HK⟩:=ag kP bb V H;have q0:Keep (λj=>v.ownBlock=some j) wr wr.drew:=(Keep.refl _ _).drew;obtain ⟨n,hn⟩:∃n,(aE p m 0).length=n:=⟨_,rfl⟩;have b0:=Dw p m;rw [hn] at cl b8 b0;have cd:=aa b0;clear kP bb hP V H hn b0;go_wp2_with fail;refine XA.g 14 (λx:R8=>Keep (λj=>v.ownBlock=some j) wr x) ?_;refine XA.t ?_ [0,1,2,3,4,5,6,7,8,9] q0 ?_;refine XA.c 10 (b8.o _ q0) ?_;rintro e w6 ⟨v6,rfl,o6,k6⟩;obtain ⟨A6,c6,rfl,_⟩:=aD o6;have q6:Keep (λj=>v.ownBlock=some j) wr w6:=q0.trans (Keep.below k6);refine ⟨_,rfl,q6,λ_=>?_⟩;refine XA.t ?_ [11] q6 ?_;refine XA.v 12 (w6.alloc (.cells #[RI (n:Nat)] 3)) (.slice (some (ar w6.heap.size 0)) 1 1) (q6.alloc _) ?_;refine XA.o 13 (λK' bv=>?_);have b4:=(az (HO.o.drew) k6).alloc (.cells #[RI (n:Nat)] 3);have cs:=q6.size;refine bW gq (.tmp 43) (.tmp 51) rfl rfl D.heap.size v m _ rfl b4 (some (ar w6.heap.size 0)) 1 1 [RI (n:Nat)] rfl (λk u hu=>⟨_,_,rfl,by rw [RB,Qz _ w6.heap.size k _ 3 (0,0) (Qy w6 _)];simpa using hu⟩) rfl (by simp [Value.oneCell']) ap (by unfold maxLen;omega) (by simp;omega) ?_;intro A7 c7 w7 aG cn bn _;have Y:Keep (λj=>v.ownBlock=some j) wr w7:=(q6.alloc _).grown bn (λk hk=>.inr hk);refine bv.out _ _ Y λ_=>?_;refine XA.e ?_;simp only [Re,Rf];have aP:=bV.o w7 Y;have e3:=RG w7 C.heap.size 14 _ _ (.slice A7 (m+1) c7) aP;have k1:Keep (λj=>j=C.heap.size) w7 (w7.setCell (ar C.heap.size 14) (.slice A7 (m+1) c7)):=Keep.setCell (S:=λj=>j=C.heap.size) (Keep.refl _ _) (ar C.heap.size 14) (.inr rfl) _;have o8:=k1.own aG (λj hj e=>ay aP (by decide) aG (by rw [hj,e]))
   have kk:Keep (λj=>j=C.heap.size) D (w7.setCell (ar C.heap.size 14) (.slice A7 (m+1) c7)):=by
    refine Keep.trans (b:=w7) ?_ k1;have h1:=HK.o;refine ⟨Y.os.trans h1.os,Y.tape.trans h1.tape,Y.output.trans h1.output,QD h1.size Y.size,λj hj hn=>(Y.block j (QE hj h1.size) (λe=>by have:=(HO.o.lt _ e).1;omega)).trans (h1.block j hj hn)⟩
   rw [show aA .i64 (nV p m)++[Value.int .i64 (n:Nat)]=aA .i64 (nV p (m+1)) by rw [cd.o,db];rfl] at o8;obtain ⟨E3,O8,KK⟩:=af e3 o8 kk;have xP:=tP w7 Y;clear aG cn bn aP e3 k1 o8 kk tP bv K' Y q6 q0 b4 o6 k6;go_wp2_with fail;go_roundw
   .exact ⟨m+1,by omega,by go_num,_,by simpa using E3.o,O8.o,KK.o⟩
   .simp [intOf];omega
  .have cb:¬((m:Int)<p.W):=ap;have b5:m=p.W:=ap;have Z:=bi.o;have bM:=H.size;obtain ⟨LA,lc,rfl,_⟩:=aD V;rw [b5] at V hP
   have bz:ft (gE w.heap.size wr) C.heap.size p R a1 T U Q I A:=by
    have hw:=b1.o;refine ⟨BA,bc,GA,gc,LA,lc,(ja hw).trans hP,(tY _ _).rd (H.rd b3.o (λy i=>by have:=(J.o y i).2;omega)) (λy i=>by have:=(J.o y i).1;omega),(tY _ _).rd (H.rd bw.o (λy i=>by have:=(L.o y i).2;omega)) (λy i=>by have:=(L.o y i).1;omega),Rd.own (fQ V ap)⟩
   have cf:=aa bz;have av:=N.o.trans (bX.o.mono N.o.size);have cj:=aa (av.trans (H.toBelow (B:=w.heap.size) av.size (λj hj=>by have:=b1.o;omega)));clear hP V H bz av b5;go_wp2_with fail;go_ret2;exact ⟨_,rfl,b1.o,cf.o,cj.o⟩
def ug (p:Pln) (k:Nat):Nat:=((p.buks.take k).map λb=>4*(p.W-1)*lC b p.W p.ck).sum
theorem wN {p:Pln} {k:Nat} (hk:k<p.buks.length):ug p (k+1)=ug p k+4*(p.W-1)*lC (aK p.buks k) p.W p.ck:=by
 unfold ug;rw [List.take_succ_eq_append_getElem hk,<-cX _ _ hk];simp
theorem AY {p:Pln} (i:bT p) (k:Nat):lC (aK p.buks k) p.W p.ck<=480:=by
 rw [AZ]
 have h:∀n,bH n (λs=>(chR (aK (dz (aK p.buks k) p.W) s) p.ck).length)<=n*60:=by
  intro n
  induction n with
  | zero=>simp [bH]
  | succ n ih=>
   rw [eP];have:=vJ (c:=p.ck) (s:=n) i.W1 (i.buk k).1 (i.buk k).2;omega
 have:=h p.W;have:=i.W8;omega
theorem tx {p:Pln} (h:bT p):∀{k:Nat},k<=p.buks.length->ug p k<=k*13440
 | 0,_=>by simp [ug]
 | k+1,hk=>by
  rw [wN ap];have h1:=tx h (k:=k) ap;have i:=AY h k;have o:4*(p.W-1)*lC (aK p.buks k) p.W p.ck<=28*480:=Nat.mul_le_mul (by have:=h.W8;omega) i;omega
def jh (p:Pln):Nat:=p.W*(p.mi+2*p.buks.length+1)+ug p p.buks.length
theorem D9 {p:Pln} (h:bT p) (st:Nat):bH p.W (λw=>(aE p w st).length)=jh p:=by
 rw [It p st h.wi,jh,ug,Rt]
noncomputable def iz (k:Cfg) (n:Int):Bool:=decide (cK k=0)&&(decide (1<=n)&&decide (n<=1048576))
theorem yF (A:N_) (c:Nat) (k:Cfg) (n:Int) (w:R8) (h:kF w A c k):Calls prog 126 #[.agg #[.slice A k.sizes.length c,RI k.shift,RI k.rate,RI k.mom,RI k.workers,RI k.batch,RI k.micros,RI k.steps,RI k.bucket,RI k.chunk,RI k.window,RI k.cap,RI n]] w λe N=>e=.returned (.bool (iz k n))/\aq w N:=by
 obtain ⟨H,y⟩:∃H,w.alloc (.cells #[.slice A k.sizes.length c,RI k.shift,RI k.rate,RI k.mom,RI k.workers,RI k.batch,RI k.micros,RI k.steps,RI k.bucket,RI k.chunk,RI k.window,RI k.cap,RI n] 83)=H:=⟨_,rfl⟩;have O:H.heap[w.heap.size]?=some (.cells #[.slice A k.sizes.length c,RI k.shift,RI k.rate,RI k.mom,RI k.workers,RI k.batch,RI k.micros,RI k.steps,RI k.bucket,RI k.chunk,RI k.window,RI k.cap,RI n] 83 (0,0)):=by rw [<-y];exact Qy w _
 have D:aq w H:=by rw [<-y];exact (br w).alloc (Qx _) _
 have hc:=qT A c k H (h.below D);have t0:=λN q=>ww (sb O N q);obtain ⟨x,i,I⟩:=af y D hc;have J:=br H;clear y O D hc h;unfold iz;obtain ⟨v,u⟩:∃v,cK k=v:=⟨_,rfl⟩;rw [u] at I |-;clear u;by_cases h1:v=0
 .by_cases Q:1<=n
  .by_cases R:n<=1048576
   .go_enter func126,ntmps126;go_wp2_with fail;rw [x.o];refine I.o.mono ?_;rintro e L ⟨rfl,p⟩;have C:=bt J p;have B:=aa (i.o.trans (C.mono i.o.size));clear p;go_wp2_with fail;go_ret;exact ⟨by simp [h1,Q,R],B.o⟩
   .go_enter func126,ntmps126;go_wp2_with fail;rw [x.o];refine I.o.mono ?_;rintro e L ⟨rfl,p⟩;have C:=bt J p;have B:=aa (i.o.trans (C.mono i.o.size));clear p;go_wp2_with fail;go_ret;exact ⟨by rw [show decide (n<=1048576)=false from RD ap];simp,B.o⟩
  .go_enter func126,ntmps126;go_wp2_with fail;rw [x.o];refine I.o.mono ?_;rintro e L ⟨rfl,p⟩;have C:=bt J p;have B:=aa (i.o.trans (C.mono i.o.size));clear p;go_wp2_with fail;go_ret;exact ⟨by rw [show decide (1<=n)=false from RD ap];simp,B.o⟩
 .go_enter func126,ntmps126;go_wp2_with fail;rw [x.o];refine I.o.mono ?_;rintro e L ⟨rfl,p⟩;have C:=bt J p;have B:=aa (i.o.trans (C.mono i.o.size));clear p;go_wp2_with fail;go_ret;exact ⟨by simp [h1],B.o⟩
def vT (k:Cfg) (n:Int) (r:Bool):Prop:=r=true->n<=60/\k.workers<=8/\k.micros<=20/\k.steps<=12
def Qs (q:Prop) (w:R8) (e:Ending) (h:R8):Prop:=(∃b:Bool,e=.returned (.bool b)/\(b=true->q))/\aq w h
theorem CY (A:N_) (c:Nat) (k:Cfg) (n:Int) (w:R8) (h:kF w A c k):Calls prog 87 #[.agg #[.slice A k.sizes.length c,RI k.shift,RI k.rate,RI k.mom,RI k.workers,RI k.batch,RI k.micros,RI k.steps,RI k.bucket,RI k.chunk,RI k.window,RI k.cap,RI n]] w (Qs (vT k n (iz k n)) w):=by
 obtain ⟨D,x⟩:∃D,w.alloc (.cells #[.slice A k.sizes.length c,RI k.shift,RI k.rate,RI k.mom,RI k.workers,RI k.batch,RI k.micros,RI k.steps,RI k.bucket,RI k.chunk,RI k.window,RI k.cap,RI n] 83)=D:=⟨_,rfl⟩;have Q:D.heap[w.heap.size]?=some (.cells #[.slice A k.sizes.length c,RI k.shift,RI k.rate,RI k.mom,RI k.workers,RI k.batch,RI k.micros,RI k.steps,RI k.bucket,RI k.chunk,RI k.window,RI k.cap,RI n] 83 (0,0)):=by rw [<-x];exact Qy w _
 have C:aq w D:=by rw [<-x];exact (br w).alloc (Qx _) _
 have hc:=yF A c k n D (h.below C);have t0:=λU q=>ww (sb Q U q);obtain ⟨p,i,B⟩:=af x C hc;have H:=br D;clear x Q C hc h;obtain ⟨r,hr⟩:∃r,iz k n=r:=⟨_,rfl⟩;rw [hr] at B |-;clear hr;obtain ⟨L,R⟩:∃L,k.sizes.length=L:=⟨_,rfl⟩;rw [R] at p B t0 |-;clear R;by_cases hl:(L:Int)<=40
 .have J:¬(40<(L:Int)):=ap
  cases r with
  | false=>
   go_enter func87,ntmps87;go_wp2_with fail;rw [p.o];refine B.o.mono ?_;rintro e I ⟨rfl,u⟩;have y:=bt H u;have v:=aa (i.o.trans (y.mono i.o.size));clear u;go_wp2_with fail;go_ret;exact ⟨⟨_,rfl,λ_ h=>by cases h⟩,v.o⟩
  | true=>
   have fin:∀b:Bool,(b=true->n<=60/\k.workers<=8/\k.micros<=20/\k.steps<=12)->b=true->vT k n true:=λb hb N _=>hb N;have Fin:=aa fin;clear fin;by_cases h1:n<=60
   .by_cases O:k.workers<=8
    .by_cases T:k.micros<=20
     .go_enter func87,ntmps87;go_wp2_with fail;rw [p.o];refine B.o.mono ?_;rintro e I ⟨rfl,u⟩;have y:=bt H u;have v:=aa (i.o.trans (y.mono i.o.size));clear u;go_wp2_with fail;go_ret;exact ⟨⟨_,rfl,Fin.o _ (λhb=>⟨h1,O,T,by simpa using hb⟩)⟩,v.o⟩
     .go_enter func87,ntmps87;go_wp2_with fail;rw [p.o];refine B.o.mono ?_;rintro e I ⟨rfl,u⟩;have y:=bt H u;have v:=aa (i.o.trans (y.mono i.o.size));clear u;go_wp2_with fail;go_ret;exact ⟨⟨_,rfl,λhb=>by simp [T] at hb⟩,v.o⟩
    .go_enter func87,ntmps87;go_wp2_with fail;rw [p.o];refine B.o.mono ?_;rintro e I ⟨rfl,u⟩;have y:=bt H u;have v:=aa (i.o.trans (y.mono i.o.size));clear u;go_wp2_with fail;go_ret;exact ⟨⟨_,rfl,λhb=>by simp [O] at hb⟩,v.o⟩
   .go_enter func87,ntmps87;go_wp2_with fail;rw [p.o];refine B.o.mono ?_;rintro e I ⟨rfl,u⟩;have y:=bt H u;have v:=aa (i.o.trans (y.mono i.o.size));clear u;go_wp2_with fail;go_ret;exact ⟨⟨_,rfl,λhb=>by simp [h1] at hb⟩,v.o⟩
 .have J:40<(L:Int):=ap;go_enter func87,ntmps87;go_wp2_with fail;rw [p.o]
  try go_wp2_with fail
  go_ret;exact ⟨⟨_,rfl,λhb=>by simp at hb⟩,i.o⟩
theorem mj {p:Pln} (h:bT p) (x st:Nat):(aE p x st).length<=8000000:=by
 have h1:=nX h x st (Qx p.grps.length);have i:=h.grps;have:(aE p x st).length=(dS p x st p.grps.length).length+1:=by simp [aE,dS];omega
 omega
def Ext (u v:R8):Prop:=∀k,k<u.heap.size->u.heap[k]?=some (.cells #[] 0 (0,0))\/v.heap[k]?=u.heap[k]?
theorem LR {u v:R8} {a:Addr} {x:Value} (h:u.cell? a=some x) (o:Ext u v):v.cell? a=some x:=by
 rcases o _ (aB h) with i | i
 .rw [World.cell?] at h;simp only [i] at h;simp at h
 .exact (World.cell?_of_block (w:=u) i).trans h
theorem vw {u v:R8} {b:Nat} {x:Value} {xs:R7} {t:R9} {o:Nat×Nat} (h:u.heap[b]?=some (.cells (x::xs).toArray t o)) (p:Ext u v):v.heap[b]?=some (.cells (x::xs).toArray t o):=by
 rcases p _ (Qw h) with i | i
 .rw [i] at h;simp at h
 .rw [i];exact h
theorem aW {u v:R8} {A:N_} {xs:R7} (h:Rd u A xs) (i:Ext u v):Rd v A xs:=λk x p=>by
 obtain ⟨b,o,e,hc⟩:=h k x p;exact ⟨b,o,e,LR hc i⟩
def Qb {α:Type} (R:fq α):Prop:=∀{u v:R8} {cs:R7} {x:α},R u cs x->Ext u v->R v cs x
theorem fj {α:Type} {R:fq α} {size:Nat} {u v:R8} {A:N_} {l:List α} (y:Qb R) (h:dR R size u A l) (i:Ext u v):dR R size v A l:=by
 obtain ⟨rows,h1,o,B,p⟩:=h;exact ⟨rows,aW h1 i,o,B,λj x C=>y (p j x C) i⟩
noncomputable def aH (S:Nat->Prop) (w:R8):R8:=by
 classical exact {w with heap:=w.heap.mapIdx λk o=>if S k then .cells #[] 0 (0,0) else o}
theorem pC (S:Nat->Prop) (w:R8):(aH S w).heap.size=w.heap.size:=by simp [aH]
theorem jo {S:Nat->Prop} {w:R8} {k:Nat} (h:¬S k):(aH S w).heap[k]?=w.heap[k]?:=by
 simp only [aH,Array.getElem?_mapIdx];simp [h]
theorem za {S:Nat->Prop} {w:R8} {k:Nat} (h:S k) (hk:k<w.heap.size):(aH S w).heap[k]?=some (.cells #[] 0 (0,0)):=by
 simp only [aH,Array.getElem?_mapIdx];simp [h,hk]
theorem fk (S:Nat->Prop) (w:R8):Ext (aH S w) w:=λk hk=>by
 rw [pC] at hk;by_cases h:S k
 .exact .inl (za h hk)
 .exact .inr (jo h).symm
theorem bP {S S':Nat->Prop} {w i:R8} (hk:Keep S w i) (hs:∀k,k<w.heap.size->S' k->S k):Ext (aH S w) (aH S' i):=λk hl=>by
 rw [pC] at hl;by_cases h:S k
 .exact .inl (za h hl)
 .exact .inr (by rw [jo h,jo (λe=>h (hs k hl e)),hk.block k hl h])
theorem LQ {B:Nat} {S:Nat->Prop} {u w:R8} (hb:∀k,B<=k->k<u.heap.size->w.heap[k]?=u.heap[k]?) (hs:∀k,B<=k->k<u.heap.size->¬S k):Ext (gE B u) (aH S w):=λk hl=>by
 rw [jX] at hl;rcases QO k B with h | h
 .exact .inl (qM h hl)
 .exact .inr (by rw [jo (hs k h hl),hb k h hl,ja h])
theorem mV {S:Nat->Prop} {w:R8} {A:N_} {xs:R7} (h:Rd w A xs) (hA:∀y,A=some y->¬S y.block):Rd (aH S w) A xs:=λk x i=>by
 obtain ⟨b,o,e,hc⟩:=h k x i;have hl:=aB hc;exact ⟨b,o,e,(World.cell?_of_block (w:=w) (a:=(ar b (o+k))) (jo (show ¬S b from hA _ e))).trans hc⟩
theorem OD (l:List Rg):∀u∈aS l,u.oneCell'=true:=by
 intro u i;simp only [aS,List.mem_flatMap,List.mem_cons,List.not_mem_nil,or_false] at i;obtain ⟨r,_,h | h⟩:=i<;>subst h<;>rfl
theorem DG (A:N_) (l:List Rg) (n c:Nat) (w:R8) (hA:Rd w A (aS l)) (hn:l.length=n) (hl:n<=1048576):Calls prog 115 #[.slice A n c] w λe y=>∃v,e=.returned v/\y.ownsRow w.heap.size 69 2 v n (aS l)/\aq w y:=by
 subst hn;have q:=λ(w:R8)=>Lib.run_eql_slice_nil (P:=prog) w 159 69 A l.length c 0 0 underlying159
 cases A with
 | none=>
  have B:l=[]:=by
   cases l with
   | nil=>rfl
   | cons z l=>obtain ⟨b,o,h,_⟩:=hA 0 (RI (z.1:Int)) (by simp [aS]);cases h
  subst B;clear q;have q:=λ(w:R8)=>Lib.run_eql_slice_nil (P:=prog) w 159 69 none 0 c 0 0 underlying159;simp only [Option.isNone_none] at q;rw [List.length_nil];go_enter func115,ntmps115;go_wp2;go_ret;exact ⟨_,rfl,QI _ _ _ _,QA _ _⟩
 | some a=>
  go_enter func115,ntmps115;go_wp2_with (at_builtin;refine dK nd _ rfl (.tmp 5) (.tmp 6) rfl w.heap.size _ 0 [] rfl (fh w 69 2) _ l.length c (aS l) rfl (hA.alloc _) (qg l) (OD l) ap (by unfold maxLen;omega) (by simp) ?_);intro H D C i hb _ _;have u:=((QA _ w).alloc (Qx _) (.cells #[] 69)).trans hb;obtain ⟨p,x⟩:=ae i u;clear i hb u;go_wp2;go_ret;exact ⟨_,rfl,by simpa using p.o,x.o⟩
theorem Kz (p:Pln) (P:Nat) (U a1 Y H I A h:Value) (w:R8) (N:bT p) (hP:ft w P p U a1 Y H I A h):Calls prog 72 #[(au P)] w λe u=>∃v,e=.returned v/\u.ownsRow w.heap.size 69 2 v p.buks.length (aS p.buks)/\aq w u:=by
 obtain ⟨BA,bc,GA,gc,LA,Z,hb,hB,R,L⟩:=hP;have y:=N.buks;have hc:=DG BA p.buks p.buks.length bc w hB rfl ap;obtain ⟨⟨t0,t1,t2,t3,t4,t5,t6,t7,t8,t9,B,T,Q,J,O⟩,tf⟩:=kH hb;have D:=aa hc;clear hc hb hB R L;go_enter func72,ntmps72;go_wp2_with fail;refine D.o.mono ?_;rintro e w1 ⟨v,rfl,x,i⟩;obtain ⟨V,C⟩:=ae x i;clear x i;go_wp2_with fail;go_ret;exact ⟨_,rfl,V.o,C.o⟩
theorem AA (p:Pln) (P x:Nat) (O a1 Q B D v h:Value) (w:R8) (o:x<p.W) (hP:ft w P p O a1 Q B D v h):Calls prog 116 #[(au P),RI x] w λe u=>e=.returned (RI ((aE p x 0).length:Nat))/\w=u:=by
 obtain ⟨BA,bc,GA,gc,LA,R,hb,hB,L,i⟩:=hP;obtain ⟨lb,lo,rfl,c0⟩:=i.num (k:=x) (by rw [xH];exact o)
 have e:nth (nV p p.W) x=((aE p x 0).length:Int):=by
  rw [dB _ _ (by rw [xH];exact o)];simp [nV]
 rw [e] at c0;obtain ⟨⟨t0,t1,t2,T,U,t5,Y,V,t8,Z,y,N,I,C,H⟩,tf⟩:=kH hb;have A:(x:Int)<p.W:=ap;have J:¬((p.W:Int)<=x):=ap;clear hb hB L i e;go_enter func116,ntmps116;go_wp2;go_ret;exact ⟨rfl,rfl⟩
theorem kp {p:Pln} (i:bT p) (x st:Nat):(aE p x st).length=(aE p x 0).length:=by
 rw [qu p x st i.wi,qu p x 0 i.wi]
 have h:∀j ph r,(cq p x st ph r j).length=(cq p x 0 ph r j).length:=λj ph r=>by
  unfold cq;rw [List.length_map,List.length_map,j8,j8]
 simp only [h]
theorem jU (p:Pln) (x st:Nat):0<(aE p x st).length:=by unfold aE;simp;omega
theorem BR {n s:Nat} (h:1<=n):0<di n s:=by unfold di;rw [if_neg ap];exact Nat.succ_pos _
theorem BU {p:Pln} (hn:1<=p.n):0<p.buks.length:=by rw [Pln.buks,jq];exact BR hn
theorem LF {p:Pln} (hn:1<=p.n):0<p.grps.length:=by rw [Pln.grps,fm];exact BR (BU hn)
theorem Oh {w:R8} {A:N_} {l:List Rg} (h:Rd w A (aS l)) (hl:0<l.length):∀y,A=some y->y.block<w.heap.size:=λy i=>by
 obtain ⟨b,o,e,c⟩:=h _ _ (eA hl).1;rw [i] at e;injection e with e
 subst e;exact aB c
theorem xt (p:Pln) (P x st h:Nat) (C a1 D y A i:Value) (w:R8) (hp:bT p) (hn:1<=p.n) (O:x<p.W) (U:st<h) (hP:ft w P p C a1 D y A (RI (h:Nat)) i):Calls prog 74 #[(au P),RI x,RI (st:Nat)] w λe L=>∃v,e=.returned v/\L.ownsRow w.heap.size 135 12 v (aE p x st).length (cD (aE p x st))/\aq w L:=by
 have hl:=AA p P x C a1 D y A (RI (h:Nat)) i w O hP;obtain ⟨BA,bc,GA,gc,LA,lc,hb,hB,B,hL⟩:=hP;have hc:=xM p st x C a1 D y A (RI (h:Nat)) (RI (p.bu:Nat)) (RI (p.wi:Nat)) i BA GA bc gc w hp O hB B (Oh hB (BU hn)) (Oh B (LF hn));have I:=jU p x 0;obtain ⟨n,u⟩:∃n,(aE p x 0).length=n:=⟨_,rfl⟩;rw [u] at hl I;have H:¬((n:Int)=0):=ap;have R:((n:Int)==0)=false:=by simpa using H
 have a8:¬((h:Int)<=st):=ap;obtain ⟨⟨t0,t1,t2,t3,t4,t5,t6,t7,t8,t9,T,a9,a7,a4,a6⟩,tf⟩:=kH hb;obtain ⟨Z,Y⟩:=ae hc hl;clear hc hl hb hB B hL u;go_enter func74,ntmps74;go_wp2_with fail;refine Y.o.mono ?_;rintro e Q ⟨rfl,rfl⟩;go_wp2_with fail;refine Z.o.mono ?_;rintro e Q ⟨v,rfl,N,J⟩;obtain ⟨O1,V⟩:=ae N J;clear N J;go_wp2_with fail;go_ret;exact ⟨_,rfl,O1.o,V.o⟩
theorem xr (p:Pln) (P x st h:Nat) (C a1 D A B u:Value) (w:R8) (Y:x<p.W) (L:h<=st) (hP:ft w P p C a1 D A B (RI (h:Nat)) u):Calls prog 74 #[(au P),RI x,RI (st:Nat)] w λe H=>e=.returned (RJ)/\w=H:=by
 have hl:=AA p P x C a1 D A B (RI (h:Nat)) u w Y hP;obtain ⟨BA,bc,GA,gc,LA,lc,hb,hB,V,O⟩:=hP;have y:=jU p x 0;obtain ⟨n,i⟩:∃n,(aE p x 0).length=n:=⟨_,rfl⟩;rw [i] at hl y;have v:¬((n:Int)=0):=ap;have I:((n:Int)==0)=false:=by simpa using v
 have U:(h:Int)<=st:=ap;obtain ⟨⟨t0,t1,t2,t3,t4,t5,t6,t7,t8,t9,J,Z,T,Q,R⟩,tf⟩:=kH hb;have N:=aa hl;clear hl hb hB V O i;go_enter func74,ntmps74;go_wp2_with fail;refine N.o.mono ?_;rintro e w1 ⟨rfl,rfl⟩;go_wp2_with fail;go_ret;exact ⟨rfl,rfl⟩
theorem Lo (a:Nat) (i:a<18446744073709551616):bits .and .u64 (a:Int) 4294967295=((a%4294967296:Nat):Int):=by
 have h:=bits_and_u64_nat a 4294967295 i ap;have e:a&&& 4294967295=a%4294967296:=Nat.and_two_pow_sub_one_eq_mod a 32;rw [e] at h;exact h
theorem Qk (a:Nat):(a:Int)/4294967296=((a/4294967296:Nat):Int):=ap
theorem Qj (a b:Nat):(a:Int)*(b:Int)=((a*b:Nat):Int):=(Int.natCast_mul a b).symm
theorem Qm (a b:Nat):(a:Int)+(b:Int)=((a+b:Nat):Int):=(Int.natCast_add a b).symm
theorem sJ (a:Nat) (h:a<18446744073709551616):IntKind.u64.wrap (a:Int)=(a:Int):=by rw [IntKind.wrap_u64];omega
theorem Pz (a:Nat):IntKind.u64.wrap (a:Int)=((a%18446744073709551616:Nat):Int):=by rw [IntKind.wrap_u64];omega
theorem Ib (x y:Nat) (A:x<18446744073709551616) (v:y<18446744073709551616) (w:R8):Calls prog 262 #[.int .u64 x,.int .u64 y] w λe C=>e=.returned (.tuple #[.int .u64 ((x*y/18446744073709551616:Nat):Int),.int .u64 ((x*y%18446744073709551616:Nat):Int)])/\w=C:=by
 obtain ⟨bd,bt,D,p⟩:=Lib.mul64_hi x y A v;have ba:=Lib.half_mul_le (a:=x/4294967296) (b:=y/4294967296) ap ap;have bb:=Lib.half_mul_le (a:=x/4294967296) (b:=y%4294967296) ap ap;have bc:=Lib.half_mul_le (a:=x%4294967296) (b:=y/4294967296) ap ap;have i:x/4294967296*(y/4294967296)<18446744073709551616:=ap;have h:x/4294967296*(y%4294967296)<18446744073709551616:=ap;have u:x%4294967296*(y/4294967296)<18446744073709551616:=ap;have o:x/4294967296*(y/4294967296)+(x/4294967296*(y%4294967296)+x%4294967296*(y%4294967296)/4294967296)/4294967296<18446744073709551616:=ap;have B:x/4294967296*(y/4294967296)+(x/4294967296*(y%4294967296)+x%4294967296*(y%4294967296)/4294967296)/4294967296+((x/4294967296*(y%4294967296)+x%4294967296*(y%4294967296)/4294967296)%4294967296+x%4294967296*(y/4294967296))/4294967296<18446744073709551616:=ap;go_enter func262,ntmps262;go_wp2;simp only [Lo x A,Lo y v,Qk,Qj,Qm,sJ _ bd,sJ _ h,sJ _ bt,Lo _ bt,sJ _ u,sJ _ D,sJ _ i,sJ _ o,sJ _ B,Pz (x*y)];rw [p];go_ret2;exact ⟨rfl,rfl⟩
theorem Ki (a:Int) (w:R8):Calls prog 254 #[RI a] w λe h=>e=.returned (RI (max a 0))/\w=h:=by
 go_enter func254,ntmps254;go_wp2
 all_goals
  go_ret;exact ⟨bj ap,rfl⟩
theorem LH (a g:Int) (w:R8):Calls prog 239 #[RI a,RI g] w λe i=>e=.returned (RI (if 0<a then g else 0))/\w=i:=by
 by_cases h:a<=0
 .rw [if_neg ap];go_enter func239,ntmps239;go_wp2;go_ret;exact ⟨rfl,rfl⟩
 .rw [if_pos ap];go_enter func239,ntmps239;go_wp2;go_ret;exact ⟨rfl,rfl⟩
theorem Ec (a b:Int) (w:R8):Calls prog 244 #[RI a,RI b] w λe h=>e=.returned (RI (wrap64 (a-b)))/\w=h:=by
 go_enter func244,ntmps244;go_wp2;go_ret;exact ⟨rfl,rfl⟩
theorem zN (h lo:Int) (q:Nat) (B:q<=63) (o:0<=lo/\lo<18446744073709551616):
  bits .or .u64 (IntKind.u64.wrap (IntKind.u64.wrap h*2^(64-q))) (lo/2^q)=(uw h%2^q)*2^(64-q)+lo/2^q:=by
 obtain ⟨H,hH,_⟩:=rI h;obtain ⟨L,rfl⟩:=Int.eq_ofNat_of_zero_le o.1;have p:(18446744073709551616:Nat)=2^(64-q)*2^q:=by rw [<-Nat.pow_add,show 64-q+q=64 by omega]
 have hw:IntKind.u64.wrap h=uw h:=by rw [IntKind.wrap_u64];rfl
 have A:IntKind.u64.wrap (uw h*2^(64-q))=((2^(64-q)*(H%2^q):Nat):Int):=by
  rw [IntKind.wrap_u64,hH]
  have:((H*2^(64-q):Nat):Int)%((18446744073709551616:Nat):Int)=((2^(64-q)*(H%2^q):Nat):Int):=by
   rw [<-Int.natCast_emod,Nat.mul_comm H,p,Nat.mul_mod_mul_left]
  simpa using this
 have v:((L:Int)/2^q)=((L/2^q:Nat):Int):=by simp
 have i:0<2^q:=Nat.pow_pos (by decide)
 have u:L/2^q<2^(64-q):=by
  rw [Nat.div_lt_iff_lt_mul i];have:=o.2;omega
 have x:2^(64-q)*(H%2^q)<18446744073709551616:=by
  rw [p];exact Nat.mul_lt_mul_of_pos_left (Nat.mod_lt _ i) (Nat.pow_pos (by decide))
 have y:L/2^q<18446744073709551616:=Nat.lt_of_le_of_lt (Nat.div_le_self _ _) ap;rw [hw,A,v,bits_or_u64_nat _ _ x y,<-Nat.two_pow_add_eq_or_of_lt u,hH,Int.natCast_add,Int.natCast_mul,Int.mul_comm];simp
theorem FL (h lo:Int) (q:Nat) (i:q<=63) (p:0<=lo/\lo<18446744073709551616):
  wrap64 (bits .or .u64 (IntKind.u64.wrap (IntKind.u64.wrap h*2^(64-q))) (lo/2^q))=wrap64 (h*2^(64-q)+lo/2^q):=by
 rw [zN h lo q i p];have u:(18446744073709551616:Int)=2^(64-q)*2^q:=by rw [<-Int.pow_add,show 64-q+q=64 by omega];rfl
 obtain ⟨k,hk⟩:∃k:Int,uw h=h+k*18446744073709551616:=⟨-(h/18446744073709551616),by unfold uw;omega⟩;have x:=Int.emod_add_mul_ediv (uw h) (2^q);refine wE ⟨k*2^(64-q)-uw h/2^q,?_⟩;have e:uw h%2^q=h+k*18446744073709551616-2^q*(uw h/2^q):=ap;rw [e,Int.sub_mul,Int.add_mul,Int.sub_mul]
 have v:2^q*(uw h/2^q)*2^(64-q)=(uw h/2^q)*18446744073709551616:=by
  rw [u,Int.mul_comm (2^q:Int),Int.mul_assoc,Int.mul_comm (2^q:Int)]
 have o:k*18446744073709551616*2^(64-q)=k*2^(64-q)*18446744073709551616:=by rw [Int.mul_assoc,Int.mul_comm 18446744073709551616,<-Int.mul_assoc]
 rw [v,o];omega
def iM (a b:Int):Nat->Int
 | 0=>wrap64 (uw a*uw b/18446744073709551616)
 | 1=>if a<0 then wrap64 (wrap64 (uw a*uw b/18446744073709551616)-b) else wrap64 (uw a*uw b/18446744073709551616)
 | _=>fC a b
theorem Et (a b:Int) (i: -9223372036854775808<=a/\a<=9223372036854775807) (hb: -9223372036854775808<=b/\b<=9223372036854775807):fC a b=if b<0 then wrap64 (iM a b 1-a) else iM a b 1:=by
 rw [<-I4 a b i hb];unfold iM;by_cases h1:a<0
 .by_cases h:b<0
  .simp only [h1,h,if_true,pW]
  .simp only [h1,h,if_true,if_false,pW,Int.sub_zero]
 .by_cases h:b<0
  .simp only [h1,h,if_true,if_false,pW,Int.sub_zero]
  .simp only [h1,h,if_false,Int.sub_zero]
theorem Ks (a b:Int) (w:R8) (N: -9223372036854775808<=a/\a<=9223372036854775807) (hb: -9223372036854775808<=b/\b<=9223372036854775807):Calls prog 257 #[RI a,RI b] w λe U=>e=.returned (.tuple #[RI (fC a b),.int .u64 (iC a b)])/\aq w U:=by
 obtain ⟨X,A,C⟩:=rI a;obtain ⟨Y,B,H⟩:=rI b;have T:IntKind.u64.wrap a=(X:Int):=by rw [IntKind.wrap_u64,<-A];rfl
 have O:IntKind.u64.wrap b=(Y:Int):=by rw [IntKind.wrap_u64,<-B];rfl
 have u:wrap64 ((X*Y/18446744073709551616:Nat):Int)=iM a b 0:=by unfold iM;rw [A,B];simp
 have y:((X*Y%18446744073709551616:Nat):Int)=iC a b:=by rw [<-I3 a b N hb,A,B];unfold uw;simp
 have hm:=Ib X Y C H w;rw [y] at hm;obtain ⟨h,Q⟩:∃h:Int,((X*Y/18446744073709551616:Nat):Int)=h:=⟨_,rfl⟩;rw [Q] at hm u;have I:∀w,(Instr.index 379 (.agg #[RI a,RI b,RI b,RI a]) (RI 0)).run prog w=.ok (.agg #[RI a,RI b]) w:=λw=>by kernel_rfl
 have L:∀w,(Instr.index 379 (.agg #[RI a,RI b,RI b,RI a]) (RI 1)).run prog w=.ok (.agg #[RI b,RI a]) w:=λw=>by kernel_rfl
 obtain ⟨Hm,EX,Z,J,I0,V⟩:=ai hm T O u I L;clear hm T O u y A B Q I L;go_enter func257,ntmps257;go_wp2_with fail;rw [EX.o,Z.o];refine Hm.o.mono ?_;rintro e w1 ⟨rfl,rfl⟩;go_wp2_with fail;rw [J.o]
 go_loopw [4,26] (λs i wr=>∃k:Nat,k<=2/\i=RI k/\s=RI (iM a b k)/\aq w wr) (λ_ i _=>2-(intOf i).toNat)
 .exact ⟨0,by omega,rfl,rfl,QA _ _⟩
 case round=>
  obtain ⟨k,hk,rfl,rfl,p⟩:=hrel;obtain ⟨R,x⟩:=ae (p.trans ((QA _ _).alloc p.size (.cells #[RI a,RI b] 378))) (p.trans ((QA _ _).alloc p.size (.cells #[RI b,RI a] 378)));rcases (show k=0\/k=1\/k=2 by omega) with rfl | rfl | rfl
  .rw [show (((0:Nat):Int))=0 from rfl];have I:=I0.o;by_cases h:a<0
   .have he:wrap64 (iM a b 0-b)=iM a b 1:=by simp only [iM,h,if_true]
    have v:=aa he;clear he p hk;go_wp2_with fail;rw [v.o];go_roundw
    .exact ⟨1,by omega,rfl,rfl,R.o⟩
    .simp [intOf]
   .have he:iM a b 0=iM a b 1:=by simp only [iM,h,if_false]
    have v:=aa he;clear he p hk;go_wp2_with fail;rw [v.o];go_roundw
    .exact ⟨1,by omega,rfl,rfl,R.o⟩
    .simp [intOf]
  .rw [show (((1:Nat):Int))=1 from rfl];have L:=V.o;by_cases h:b<0
   .have he:wrap64 (iM a b 1-a)=iM a b 2:=by rw [show iM a b 2=fC a b from rfl,Et a b N hb,if_pos h]
    have v:=aa he;clear he p hk;go_wp2_with fail;rw [v.o];go_roundw
    .exact ⟨2,by omega,rfl,rfl,x.o⟩
    .simp [intOf]
   .have he:iM a b 1=iM a b 2:=by rw [show iM a b 2=fC a b from rfl,Et a b N hb,if_neg h]
    have v:=aa he;clear he p hk;go_wp2_with fail;rw [v.o];go_roundw
    .exact ⟨2,by omega,rfl,rfl,x.o⟩
    .simp [intOf]
  .rw [show (((2:Nat):Int))=2 from rfl];have D:=aa p;clear p hk;go_wp2_with fail;go_ret2;exact ⟨rfl,D.o⟩
theorem FM (h lo:Int) (q:Nat) (w:R8) (x:q<=62) (h1: -9223372036854775808<=h/\h<=9223372036854775807) (u:0<=lo/\lo<18446744073709551616):Calls prog 258 #[RI h,.int .u64 lo,RI q] w λe p=>e=.returned (RI (wrap64 (h*2^(64-q)+lo/2^q)))/\∃n,p=w.drewN n:=by
 have i:=FL h lo q ap u;have v:=aa i;clear i;go_enter func258,ntmps258;go_wp2_with fail
 go_quiet (fail)
 rw [v.o];go_wp2;go_ret;exact ⟨rfl,_,rfl⟩
theorem Nv (a b:Int) (q:Nat) (h:q<=62):fO a b q=wrap64 (fC a b*2^(64-q)+iC a b/2^q):=by
 rw [JC a b q h];unfold fO;rw [if_neg ap];simp
theorem vq (a b q:Int) (w:R8) (v: -9223372036854775808<=a/\a<=9223372036854775807) (hb: -9223372036854775808<=b/\b<=9223372036854775807):Calls prog 247 #[RI a,RI b,RI q] w λe p=>e=.returned (RI (fO a b q))/\aq w p:=by
 by_cases h1:q<0
 .have h:fO a b q=0:=by unfold fO;rw [if_pos (.inl h1)]
  rw [h];clear h;go_enter func247,ntmps247;go_wp2_with fail;go_ret;exact ⟨rfl,QA _ _⟩
 .by_cases y:62<q
  .have h:fO a b q=0:=by unfold fO;rw [if_pos (.inr y)]
   rw [h];clear h;go_enter func247,ntmps247;go_wp2_with fail;go_ret;exact ⟨rfl,QA _ _⟩
  .obtain ⟨Q,rfl⟩:=Int.eq_ofNat_of_zero_le (show 0<=q by omega);have h:=Nv a b Q ap;rw [h];have u:=Ks a b w v hb;have hs:=λp=>FM (fC a b) (iC a b) Q p ap (jN v hb) (sL _);obtain ⟨B,A⟩:=ae u hs;clear u hs h;go_enter func247,ntmps247;go_wp2_with fail;refine B.o.mono ?_;rintro e C ⟨rfl,i⟩;have x:=aa i;clear i;go_wp2_with fail;refine (A.o _).mono ?_;rintro e D ⟨rfl,n,rfl⟩;go_wp2_with fail;go_ret;exact ⟨rfl,QH x.o _⟩
def wL (sz ps:Q_) (k:Nat):Q_:=dU (szN sz (k+1)*szN sz k) λi=>nth ps (bS sz k+i)
def bL (sz ps:Q_) (k:Nat):Q_:=dU (szN sz (k+1)) λi=>nth ps (dM sz k+i)
theorem Cg (sz ps:Q_) (k:Nat):(wL sz ps k).length=szN sz (k+1)*szN sz k:=cC _ _
theorem MD (sz ps:Q_) (k:Nat):(bL sz ps k).length=szN sz (k+1):=cC _ _
def zy (w:R8) (h:R7) (sz ps:Q_) (k:Nat):Prop:=∃g o d B e,
 h=[RI (szN sz (k+1):Int),RI (szN sz k:Int),.slice (some (ar g o)) (szN sz (k+1)*szN sz k) d,.slice B (szN sz (k+1)) e]/\szN sz (k+1)*szN sz k<=d/\
 Rd w (some (ar g o)) (aA .i64 (wL sz ps k))/\Rd w B (aA .i64 (bL sz ps k))
def mG (u p:R9) (w:R8) (b:Nat) (sz ps:Q_) (q:Int):Prop:=∃S h cp i o rows,
 w.heap[b]?=some (.cells #[(au S),.slice h ps.length cp,RI q,.slice i (sz.length-1) o] p (0,0))/\
 cS u w S sz/\Rd w h (aA .i64 ps)/\Rd w i (List.flatten rows)/\rows.length=sz.length-1/\(∀r∈rows,r.length=4)/\∀j,j<sz.length-1->zy w (cF rows j) sz ps j
theorem zy.below {w i:R8} {p:R7} {sz ps:Q_} {k:Nat} (h:zy w p sz ps k) (hb:aq w i):zy i p sz ps k:=by
 obtain ⟨g,o,d,B,e,h1,u,x,v⟩:=h;exact ⟨g,o,d,B,e,h1,u,x.below hb,v.below hb⟩
theorem mG.below {u o:R9} {w i:R8} {b:Nat} {sz ps:Q_} {q:Int} (h:mG u o w b sz ps q) (hb:aq w i):mG u o i b sz ps q:=by
 obtain ⟨S,I,cp,C,v,rows,p,h1,A,H,B,D,x⟩:=h;exact ⟨S,I,cp,C,v,rows,(hb.block b (Qw p)).trans p,h1.below hb,A.below hb,H.below hb,B,D,λj y=>(x j y).below hb⟩
theorem mG.lt {p i:R9} {w:R8} {b:Nat} {sz ps:Q_} {q:Int} (h:mG p i w b sz ps q):b<w.heap.size:=by
 obtain ⟨S,v,cp,x,u,rows,o,_⟩:=h;exact Qw o
theorem nc:dN prog 73 2 (RI 0) 1 8:=⟨underlying73,info_parts (by kernel_rfl),rfl,by decide⟩
theorem CD (A:N_) (zs:Q_) (c:Nat) (w:R8) (hA:Rd w A (aA .i64 zs)) (hl:zs.length<=17592186043904):Calls prog 81 #[.slice A zs.length c] w λe y=>∃v,e=.returned v/\y.ownsRow w.heap.size 2 1 v zs.length (aA .i64 zs)/\aq w y:=by
 have q:=λ(w:R8)=>Lib.run_eql_slice_nil (P:=prog) w 73 2 A zs.length c 0 0 underlying73
 cases A with
 | none=>
  have B:zs=[]:=by
   cases zs with
   | nil=>rfl
   | cons z l=>obtain ⟨b,o,h,_⟩:=hA 0 _ rfl;cases h
  subst B;clear q;have q:=λ(w:R8)=>Lib.run_eql_slice_nil (P:=prog) w 73 2 none 0 c 0 0 underlying73;simp only [Option.isNone_none] at q;rw [List.length_nil];go_enter func81,ntmps81;go_wp2;go_ret;exact ⟨_,rfl,QI _ _ _ _,QA _ _⟩
 | some a=>
  go_enter func81,ntmps81;go_wp2_with (at_builtin;refine dK nc _ rfl (.tmp 5) (.tmp 6) rfl w.heap.size _ 0 [] rfl (fh w 2 1) _ zs.length c (aA .i64 zs) rfl (hA.alloc _) (by rw [bU];omega) (cH _ _) ap (by unfold maxLen;omega) (by simp) ?_);intro H D C i hb _ _;have u:=((QA _ w).alloc (Qx _) (.cells #[] 2)).trans hb;obtain ⟨p,x⟩:=ae i u;clear i hb u;go_wp2;go_ret;exact ⟨_,rfl,p.o,x.o⟩
theorem fT (A:N_) (zs:Q_) (c:Nat) (w:R8) (hA:Rd w A (aA .i64 zs)) (hl:zs.length<=17592186043904):Calls prog 48 #[.slice A zs.length c] w λe y=>∃x u,e=.returned (.slice x zs.length u)/\zs.length<=u/\y.ownsRow w.heap.size 2 1 (.slice x zs.length u) zs.length (aA .i64 zs)/\aq w y:=by
 have h:=CD A zs c w hA hl;go_enter func48,ntmps48;go_wp2_with fail;refine h.mono ?_;rintro e D ⟨v,rfl,i,hb⟩;obtain ⟨x,u,rfl,hc⟩:=aD i;clear h;obtain ⟨p,C,B⟩:=af i hb hc;clear i hb hc;go_wp2;go_ret;exact ⟨_,_,rfl,B.o,p.o,C.o⟩
theorem NU (A B:N_) (xs ys:Q_) (c d:Nat) (q:Int) (w:R8) (hA:Rd w A (aA .i64 xs)) (hB:Rd w B (aA .i64 ys)) (hl:xs.length=ys.length) (hm:xs.length<=17592186043904) (O:W64 xs) (N:W64 ys):Calls prog 261 #[.slice A xs.length c,.slice B ys.length d,RI q] w λe C=>e=.returned (.tuple #[RI (wt xs ys q),.bool true])/\aq w C:=by
 obtain ⟨n,hn⟩:∃n,ys.length=n:=⟨_,rfl⟩;have p:xs.length=n:=hl.trans hn;have J:wt xs ys q=DN xs ys q n:=by unfold wt;rw [p]
 rw [p,hn,J];have U:n<=17592186043904:=ap;obtain ⟨Q,L,HA,T,Y,R⟩:=ai hn p hA hB O N;clear hn p hA hB O N hl hm J;go_enter func261,ntmps261;go_wp2_with fail
 go_loopw [8,18] (λs i wr=>∃k:Nat,k<=n/\i=RI k/\s=RI (DN xs ys q k)/\aq w wr) (λ_ i _=>n-(intOf i).toNat)
 .exact ⟨0,QB _,rfl,rfl,QA _ _⟩
 case round=>
  obtain ⟨k,hk,rfl,rfl,u⟩:=hrel;by_cases h:k<n
  .obtain ⟨Z,o1,H,p1⟩:=(HA.o.below u).num (show k<xs.length by rw [L.o];exact h);obtain ⟨b2,o2,D,p2⟩:=(T.o.below u).num (show k<ys.length by rw [Q.o];exact h);subst H;subst D;have v:=λC=>vq (nth xs k) (nth ys k) q C (Y.o k (by rw [L.o];exact h)) (R.o k (by rw [Q.o];exact h));obtain ⟨V,y⟩:=ae v u;clear v u;go_wp2_with fail;refine (V.o _).mono ?_;rintro e w3 ⟨rfl,x⟩;have I:=aa (y.o.trans (x.mono y.o.size));clear x;go_wp2_with fail;go_roundw
   .exact ⟨k+1,by omega,by go_num,rfl,I.o⟩
   .simp [intOf];omega
  .obtain rfl:k=n:=ap;have y:=aa u;clear u;go_wp2_with fail;go_ret2;exact ⟨rfl,y.o⟩
theorem cG {w:R8} {base n g c:Nat} {xs:Q_} {e:R9} (h:w.ownsRow base e 1 (.slice (some (ar g 0)) n c) n (aA .i64 xs)) {k:Nat} (hk:k<n):w.cell? (ar g k)=some (RI (nth xs k)):=by
 rw [h.cellAt k ap];have:=h.1;rw [bU] at this;exact nK .i64 xs k ap
theorem lw {w:R8} {base n:Nat} {v:Value} {xs:Q_} {e:R9} (h:w.ownsRow base e 1 v n (aA .i64 xs)):xs.length=n:=by
 have:=h.1;rw [bU] at this;omega
theorem dF {w:R8} {base n g c:Nat} {xs:Q_} {e:R9} (h:w.ownsRow base e 1 (.slice (some (ar g 0)) n c) n (aA .i64 xs)) (k:Nat) (v:Int): (w.setCell (ar g k) (RI v)).ownsRow base e 1 (.slice (some (ar g 0)) n c) n (aA .i64 (xs.set k v)):=by
 have:=(h.stored k (RI v)).1
 rwa [AQ] at this
theorem FU (A:N_) (xs:Q_) (c:Nat) (a q:Int) (w:R8) (hA:Rd w A (aA .i64 xs)) (hm:xs.length<=17592186043904) (wx:W64 xs) (ha: -9223372036854775808<=a/\a<=9223372036854775807):Calls prog 248 #[.slice A xs.length c,RI a,RI q] w λe L=>∃Q N,e=.returned (.slice Q xs.length N)/\L.ownsRow w.heap.size 2 1 (.slice Q xs.length N) xs.length (aA .i64 (rJ xs a q))/\aq w L:=by
 have D:=fT A xs c w hA hm;have y:=jS xs (λk=>fO (nth xs k) a q);obtain ⟨n,hn⟩:∃n,xs.length=n:=⟨_,rfl⟩;rw [hn] at D hm;unfold rJ;rw [<-y,hn];obtain ⟨Hc,WX,Hn⟩:=af D wx hn;clear D wx hA y hn;go_enter func248,ntmps248;go_wp2_with fail;refine Hc.o.mono ?_;rintro e w1 ⟨Q,N,rfl,_,h,hb⟩;obtain ⟨HO,HB⟩:=ae h hb;clear h hb;go_wp2_with fail
 go_loopw [14] (λi wr=>∃k:Nat,k<=n/\i=RI k/\wr.ownsRow w.heap.size 2 1 (.slice Q n N) n (aA .i64 (lD xs k (λk=>fO (nth xs k) a q)))/\aq w wr) (λi _=>n-(intOf i).toNat)
 .exact ⟨0,QB _,rfl,by rw [iU];exact HO.o,HB.o⟩
 case round=>
  obtain ⟨k,hk,rfl,h,O⟩:=hrel;by_cases B:k<n
  .obtain ⟨g,d,hv,hg,a0⟩:=h.form ap;simp only [Rv] at hv;obtain ⟨rfl,Y,rfl⟩:=hv;clear Y;have x:k<xs.length:=by rw [Hn.o];exact B
   have p1:=cG h B;rw [ij _ x,if_neg ap] at p1;have J:=λL=>vq (nth xs k) a q L (WX.o k x) ha;have I:=jR (l:=xs) (k:=k) (λk=>fO (nth xs k) a q) x;obtain ⟨Hm,R,C,T⟩:=ag J O h I;clear J O h I x;go_wp2_with fail;refine (Hm.o _).mono ?_;rintro e w3 ⟨rfl,H⟩;have v:=az C.o H;have Z:∃u,w3.cell? (ar g k)=some u:=⟨_,cG v B⟩;obtain ⟨u3,Z⟩:=Z;have f3:=v.frozenAt k;obtain ⟨V,U⟩:=ae (dF v k (fO (nth xs k) a q)) ((R.o.trans (H.mono R.o.size)).setCell (p:=(ar g k)) hg (RI (fO (nth xs k) a q)));clear H v;go_wp2_with fail;go_roundw
   .exact ⟨k+1,by omega,by go_num,by rw [<-T.o];exact V.o,U.o⟩
   .simp [intOf];omega
  .obtain rfl:k=n:=ap;obtain ⟨R,C⟩:=ae O h;clear O h;go_wp2_with fail;go_ret;exact ⟨_,_,rfl,C.o,R.o⟩
theorem zq (base:Nat) (A B:N_) (xs ys:Q_) (n c d:Nat) (w:R8) (h:w.ownsRow base 2 1 (.slice A n c) n (aA .i64 xs)) (hB:Rd w B (aA .i64 ys)) (hl:ys.length=n) (hm:n<=17592186043904) (C:∀a b,A=some a->B=some b->a.block≠b.block):Calls prog 52 #[.slice A n c,.slice B n d] w λe O=>e=.returned (.bool true)/\O.ownsRow base 2 1 (.slice A n c) n (aA .i64 (eU xs ys))/\Keep (λi=>(Value.slice A n c).ownBlock=some i) w O:=by
 have u:=lw h;have p:=jS xs (λk=>wrap64 (nth xs k+nth ys k));unfold eU;rw [<-p,u];obtain ⟨HO,U,Hn,V,HN⟩:=ah h hB u hl C;clear h hB u hl p C;go_enter func52,ntmps52;go_wp2_with fail
 go_loopw [13] (λi wr=>∃k:Nat,k<=n/\i=RI k/\wr.ownsRow base 2 1 (.slice A n c) n (aA .i64 (lD xs k (λk=>wrap64 (nth xs k+nth ys k))))/\Keep (λi=>(Value.slice A n c).ownBlock=some i) w wr) (λi _=>n-(intOf i).toNat)
 .exact ⟨0,QB _,rfl,by rw [iU];exact HO.o,Keep.refl _ _⟩
 case round=>
  obtain ⟨k,hk,rfl,h,H⟩:=hrel;by_cases v:k<n
  .obtain ⟨g,e,T,hg,a0⟩:=h.form ap;simp only [Rv] at T;obtain ⟨rfl,J,rfl⟩:=T;clear J;have y:k<xs.length:=by rw [Hn.o];exact v
   have Z:=cG h v;rw [ij _ y,if_neg ap] at Z;have f1:=h.frozenAt k;obtain ⟨Q,Y,rfl,R⟩:=U.o.num (show k<ys.length by rw [V.o];exact v);have N:g≠Q:=HN.o _ _ rfl rfl;have p2:wr.cell? (ar Q (Y+k))=some (RI (nth ys k)):=H.cell R (by simp [Value.ownBlock];exact N);have D:=jR (l:=xs) (k:=k) (λk=>wrap64 (nth xs k+nth ys k)) y;obtain ⟨L,x,I⟩:=af H h D;clear H h D y R;go_wp2_with fail
   go_region
   all_goals go_wp2_with fail
   all_goals
    go_roundw
    case rel=>
     refine ⟨k+1,by omega,by go_num,?_,?_⟩
     .rw [<-I.o];exact dF (bZ x.o 1) k _
     .exact Keep.setCell (L.o.drewN 1) (ar g k) (.inr rfl) _
    case measure=>simp [intOf];omega
  .obtain rfl:k=n:=ap;obtain ⟨L,x⟩:=ae H h;clear H h;go_wp2_with fail;go_ret;exact ⟨rfl,x.o,L.o⟩
theorem wT (r c:Int) (w:R8) (hr:1<=r/\r<=1048576) (hc:1<=c/\c<=1048576):Calls prog 250 #[RI r,RI c] w λe h=>e=.returned (.bool true)/\w=h:=by
 obtain ⟨h1,i⟩:=hr;obtain ⟨p,o⟩:=hc;go_enter func250,ntmps250;go_wp2;go_ret;exact ⟨cP (by simp [*]),rfl⟩
theorem oY (r c:Nat) (A:N_) (n d:Nat) (w:R8) (hr:1<=r/\r<=1048576) (hc:1<=c/\c<=1048576) (hn:n=r*c) (hm:n<=17592186043904):Calls prog 241 #[.agg #[RI r,RI c,.slice A n d]] w λe i=>e=.returned (.bool true)/\i=w.alloc (.cells #[RI r,RI c,.slice A n d] 344):=by
 have hs:=λi=>wT r c i ap ap;have h:(r:Int)*(c:Int)=(n:Int):=by rw [hn];simp
 have u:0<=(r:Int)*(c:Int)/\(r:Int)*(c:Int)<=17592186043904:=ap;have y:((n:Int)==IntKind.i64.wrap ((r:Int)*(c:Int)))=true:=by rw [QC _ ap,h];simp
 have v:((n:Int)==(r:Int)*(c:Int))=true:=by rw [h];simp
 have p:=aa hs;clear hs h hn;go_enter func241,ntmps241;go_wp2_with fail;refine (p.o _).mono ?_;rintro e x ⟨rfl,rfl⟩;go_wp2_with fail
 all_goals
  go_ret;exact ⟨cP (by first | rfl | simp [*]),rfl⟩
theorem OK (r c:Nat) (A:N_) (zs:Q_) (d:Nat) (w:R8) (hr:1<=r/\r<=1048576) (hc:1<=c/\c<=1048576) (hn:zs.length=r*c) (hm:zs.length<=17592186043904) (hA:Rd w A (aA .i64 zs)):Calls prog 231 #[RI r,RI c,.slice A zs.length d] w λe x=>∃y u,e=.returned (.tuple #[.agg #[RI r,RI c,.slice y zs.length u],.bool true])/\zs.length<=u/\x.ownsRow w.heap.size 2 1 (.slice y zs.length u) zs.length (aA .i64 zs)/\aq w x:=by
 have B:=λx (k:aq w x)=>fT A zs d x (hA.below k) hm;obtain ⟨n,H⟩:∃n,zs.length=n:=⟨_,rfl⟩;rw [H] at B hn hm |-;have D:=λy u x=>oY r c y n u x hr hc hn hm;obtain ⟨O,R⟩:=ae B D;clear B D H hA hn;go_enter func231,ntmps231;go_wp2_with fail;refine (O.o _ ?_).mono ?_
 .exact am
 rintro e L ⟨y,u,rfl,J,h,hb⟩;have p:=(hb.block w.heap.size (by simp)).trans (Qy w _);obtain ⟨⟨Q,N,U⟩,Z⟩:=bx3 p;have I:w.heap.size<L.heap.size:=Qw p;obtain ⟨HO,V,T,C⟩:=ag (aF h (base':=w.heap.size) (by simp)) J (Below.trans ((QA _ w).alloc (Qx _) _) (hb.mono (by simp))) h;clear h J hb p;go_wp2_with fail;refine (R.o _ _ _).mono ?_;rintro e w2 ⟨rfl,rfl⟩;go_wp2_with fail;refine QM (v:=.tuple #[.agg #[RI r,RI c,.slice y n u],.bool true]) (by simp [results,results231,go_sem,Q,N,U,I]) rfl ⟨y,u,rfl,V.o,?_,?_⟩
 .refine aF (Keep.own (S:=λi=>i=w.heap.size) (w:=L) ?_ C.o (λk hk e=>by have:=(C.o.lt k hk).1;simp at this;omega)) (by simp)
  (focus (repeat' (first | (with_reducible exact Keep.refl _ _) | (with_reducible assumption) | (with_reducible refine Keep.setCell ?_ _ ?_ _) | (with_reducible refine Keep.alloc ?_ _) | (with_reducible refine Keep.drewN ?_ _) | (with_reducible refine Keep.drew ?_) | (with_reducible exact Or.inr (jg _ _)) | (with_reducible exact Or.inr (jf _ _)) | (refine Or.inr ?_;first | rfl | (simp;done) | omega) | (refine Or.inl ?_;first | omega | (simp;done) | (simp;omega)))))
 .have Y:=T.o;exact am
theorem Nh (r c k:Nat) (g o n d:Nat) (w:R8) (hr:r<=1048576) (hc:1<=c/\c<=1048576) (hk:k<r) (hn:n=r*c) (A:n<=d):Calls prog 256 #[.agg #[RI r,RI c,.slice (some (ar g o)) n d],RI k] w λe u=>e=.returned (.slice (some (ar g (o+k*c))) c c)/\aq w u:=by
 have h1:k*c+c<=n:=by rw [hn];have:=RH c (show k+1<=r by omega);rw [Ry] at this;exact this
 have v:k*c<=1048576*1048576:=Nat.mul_le_mul ap ap;have i:(k:Int)*(c:Int)=((k*c:Nat):Int):=(Int.natCast_mul k c).symm;have y:((k:Int)+1)*(c:Int)=((k*c+c:Nat):Int):=by rw [Int.add_mul,i];simp
 obtain ⟨p,h⟩:∃p,k*c=p:=⟨_,rfl⟩;rw [h] at h1 v i y |-;clear h hn;go_enter func256,ntmps256;go_wp2_with fail
 go_quiet (fail)
 have x:¬(p+c=p):=ap;go_wp2;rw [show p+c-p=c by omega];go_ret;refine ⟨rfl,?_⟩;exact am
theorem uo (h:R6) (w:R8):Calls prog 246 #[.agg h] w λe i=>e=.returned (.func (.func 255) #[] #[(au w.heap.size)])/\i=w.alloc (.cells h 344):=by
 go_enter func246,ntmps246;go_wp2;go_ret;exact ⟨rfl,rfl⟩
end Go.Proofs.YtindmkcnjlgomaaGreat
namespace Go.Proofs.YtindmkcnjlgomaaGreat
open Go.RowKit Go.Shelf
open Tryz
attribute [local go_sem] Oper.semAt_some
def rP (g o c:Nat) {r:Nat} (k:Fin r):R6:=#[RI (k.1:Int),.slice (some (ar g (o+k.1*c))) c c]
def jr (n₀ h:Nat) (W i:R8):Prop:=Below n₀ W i/\(h<W.heap.size->i.heap[h]?=W.heap[h]?)
theorem ES {r k:Nat} (h:k<r):(List.finRange r).take (k+1)=(List.finRange r).take k++[⟨k,h⟩]:=by
 rw [List.take_add_one];simp [h]
theorem J3 (n l Bm n₀ g o r c V d:Nat) (hr:r<=1048576) (hc:1<=c/\c<=1048576) (a2:V=r*c) (hd:V<=d) (J Jx:List (Fin r)->R8->Prop) (B:Nat) (hJ:AbidesFrom B J) (hY:∀p x W,J p W->p.length<r->YieldAt Fence.wide (n-1) prog l (rP g o c x) W λe O=> (e=.returned (.bool true)/\J (p++[x]) O/\jr n₀ Bm W O)\/(e=.returned (.bool false)/\Jx (p++[x]) O)) (W:R8) (L:W.heap[Bm]?=some (.cells #[RI r,RI c,.slice (some (ar g o)) V d] 344 (0,0))) (h0:J [] W):
  CallsIn Fence.wide n prog 255 #[.func (.yield l) #[] #[],(au Bm)] W λe O=>(∃v,e=.returned v)/\
   ((∃ys,ys=List.finRange r/\J ys O)\/(∃p,True/\Jx p O)):=by
 obtain ⟨⟨e0,e1,e2⟩,ef⟩:=bx3 L;obtain ⟨a7,a4⟩:=ae L a2;clear L a2;refine callsIn_of_wp func255 rfl trivial ?_ rfl;simp only [ntmps255,List.size_toArray,List.length_cons,List.length_nil,Nat.reduceAdd,Nat.reduceSub,Array.replicate_succ,Array.replicate_zero,List.push_toArray,List.append_toArray,List.nil_append,List.cons_append]
 gi_wp2
 gi_loopw [6] (λi wr=>∃k:Nat,k<=r/\i=RI k/\J ((List.finRange r).take k) wr/\wr.heap[Bm]?=some (.cells #[RI r,RI c,.slice (some (ar g o)) V d] 344 (0,0)))
  (λi _=>r-(intOf i).toNat)
 .exact ⟨0,QB _,rfl,h0,a7.o⟩
 case round=>
  obtain ⟨k,hk,rfl,u,H⟩:=hrel;clear e0 e1 e2 ef;by_cases D:k<r
  .have Y:((List.finRange r).take k).length<r:=by simp;omega
   obtain ⟨⟨e0,e1,e2⟩,ef⟩:=bx3 H;have Q:=Nh r c k g o V d wr hr hc D a4.o hd;obtain ⟨I,a1,a5⟩:=af u H Q;clear u H Q
   gi_wp2_with fail
   refine ⟨trivial,(λh=>by cases h),?_⟩;refine (callsIn_wide.2 a5.o).mono ?_;rintro e w3 ⟨rfl,N⟩;have a0:=hJ _ _ _ none I.o (kr N) (λ_ h=>by cases h);have A:=(N.block _ (Qw a1.o)).trans a1.o;obtain ⟨fn,tmps,a3,a9,hy,hR⟩:=hY _ ⟨k,D⟩ w3 a0 Y;unfold rP at hy;dsimp only at hy;have y:=aa A;clear a0 A N
   gi_wp2
   refine ⟨(λh=>by cases h),?_⟩;refine hR.mono ?_;rintro e w5 (⟨rfl,R,U⟩ | ⟨rfl,T⟩)
   .have Z:=(U.2 (Qw y.o)).trans y.o;obtain ⟨a6,a8⟩:=ae Z R;clear Z R U
    gi_wp2
    go_roundw
    .exact ⟨k+1,by omega,by go_num,by rw [ES D];exact a8.o,a6.o⟩
    .simp [intOf];omega
   .gi_wp2
    refine QM (results_none rfl _ _ _) rfl ?_;exact ⟨⟨_,rfl⟩,.inr ⟨_,trivial,T⟩⟩
  .obtain rfl:k=r:=ap;have C:(List.finRange k).take k=List.finRange k:=List.take_of_length_le (by simp);rw [C] at u;have I:=aa u;clear u C
   gi_wp2
   go_end0
   exact ⟨⟨_,rfl⟩,.inl ⟨_,rfl,I.o⟩⟩
theorem qe (n p n₀ g o r c i d:Nat) (hr:r<=1048576) (hc:1<=c/\c<=1048576) (u:i=r*c) (v:i<=d) (w:R8) (h:w.heap[p]?=some (.cells #[RI r,RI c,.slice (some (ar g o)) i d] 344 (0,0))):
  SeqStopsK Fence.wide n prog 255 #[(au p)] (rP (r:=r) g o c) (jr n₀ p) (λys=>ys=List.finRange r) (λ_=>True) r w:=λl J B W x y _ C A=>
 J3 n l p n₀ g o r c i d hr hc u v J B _ y C W ((x.block _ (Qw h)).trans h) A
theorem mO {n₀ i:Nat} {A B C:R8} (h:jr n₀ i A B) (k:jr n₀ i B C):jr n₀ i A C:=
 ⟨h.1.trans k.1,λhb=>(k.2 (QE hb h.1.size)).trans (h.2 hb)⟩
theorem mQ {n₀ i:Nat} {w:R8} (hn:n₀<=w.heap.size) (hb:i<w.heap.size) (W:R8) (l:Nat) (o p:Obj) (hl:w.heap.size<=l) (h:W.heap[l]?=some o) (h1:o.isCells=false) (u:o.isWalk=false):jr n₀ i W (W.putObj l p):=
 ⟨belowK_b hn W l o p hl h h1 u,λ_=>(belowK_b (n₀:=i+1) ap W l o p hl h h1 u).block i ap⟩
attribute [local go_sem] Oper.semAt_some
def nT (ms:Q_) (c k:Nat):Q_:=dU c λj=>nth ms (k*c+j)
def Ia (ms:Q_) (r c:Nat) (xs:Q_) (q:Int):Q_:=dU r λk=>wt (nT ms c k) xs q
theorem jm (ms:Q_) (c k:Nat):(nT ms c k).length=c:=cC _ _
theorem rY {r c k:Nat} (hk:k<r):k*c+c<=r*c:=by
 have:=RH c (show k+1<=r by omega)
 rwa [Ry] at this
theorem eK (l:Q_) (m j:Nat):nth (l.drop m) j=nth l (m+j):=by simp [nth,List.getD_eq_getElem?_getD,List.getElem?_drop]
theorem eJ {l:Q_} {m j:Nat} (h:j<m):nth (l.take m) j=nth l j:=by simp [nth,List.getD_eq_getElem?_getD,List.getElem?_take,h]
theorem Nw {ms:Q_} {r c k:Nat} (hk:k<r) (hl:ms.length=r*c):(ms.drop (k*c)).take c=nT ms c k:=by
 have:=rY (c:=c) hk;refine fS (by rw [Rn,Rq];omega) λj h=>?_;rw [eJ h,eK]
theorem EH {W:R8} {g o:Nat} {ms:Q_} {r c k:Nat} (h:Rd W (some (ar g o)) (aA .i64 ms)) (hk:k<r) (hl:ms.length=r*c):Rd W (some (ar g (o+k*c))) (aA .i64 (nT ms c k)):=by
 have:=(h.drop (k*c)).take c
 rwa [dL,dE,Nw hk hl] at this
theorem Ba {ms:Q_} {r c k:Nat} (h:W64 ms) (hk:k<r) (hl:ms.length=r*c):W64 (nT ms c k):=fU λj i=>h _ (by have:=rY (c:=c) hk;omega)
theorem Lj (r c k:Nat) (g o:Nat) (ms:Q_) (B:N_) (xs:Q_) (e:Nat) (q:Int) (W:R8) (hk:k<r) (hc:1<=c/\c<=1048576) (i:ms.length=r*c) (hA:Rd W (some (ar g o)) (aA .i64 ms)) (v:W64 ms) (hB:Rd W B (aA .i64 xs)) (h:xs.length=c) (u:W64 xs):Calls prog 261 #[.slice (some (ar g (o+k*c))) c c,.slice B c e,RI q] W λe p=>e=.returned (.tuple #[RI (wt (nT ms c k) xs q),.bool true])/\aq W p:=by
 have:=NU (some (ar g (o+k*c))) B (nT ms c k) xs c e q W (EH hA hk i) hB (by rw [jm,h]) (by rw [jm];omega) (Ba v hk i) u
 rwa [jm,h] at this
theorem KY (ms:Q_) (r c:Nat) (xs:Q_) (q:Int):((List.finRange r).map λk=>wt (nT ms c k.1) xs q)=Ia ms r c xs q:=by
 refine fS (by simp) λk hk=>?_;rw [dB _ _ (by simpa using hk)];simp
theorem Lh (r c:Nat) (g o y d:Nat) (ms:Q_) (B:N_) (xs:Q_) (e:Nat) (q:Int) (w:R8) (hr:1<=r/\r<=1048576) (hc:1<=c/\c<=1048576) (a2:y=r*c) (hd:y<=d) (hm:y<=17592186043904) (b3:ms.length=y) (hA:Rd w (some (ar g o)) (aA .i64 ms)) (wm:W64 ms) (hB:Rd w B (aA .i64 xs)) (av:xs.length=c) (wx:W64 xs):Calls prog 253 #[.agg #[RI r,RI c,.slice (some (ar g o)) y d],.slice B c e,RI q] w λe w'=>∃A' c',e=.returned (.tuple #[.slice A' r c',.bool true])/\w'.ownsRow w.heap.size 2 1 (.slice A' r c') r (aA .i64 (Ia ms r c xs q))/\aq w w':=by
 have ao:=λw'=>oY r c (some (ar g o)) y d w' hr hc a2 hm;have aR:=λcs w'=>uo cs w';obtain ⟨bf,bh,a3,b9,bb,HA,HB,WM⟩:=ak ao aR a2 b3 av hA hB wm;have WX:=aa wx;clear ao aR a2 b3 av hA hB wm wx;refine (callsIn_wide (n:=3)).1 ?_;refine callsIn_of_wp_marks func253 rfl trivial ?_ rfl;simp only [ntmps253,List.size_toArray,List.length_cons,List.length_nil,Nat.reduceAdd,Nat.reduceSub,Array.replicate_succ,Array.replicate_zero,List.push_toArray,List.append_toArray,List.nil_append,List.cons_append]
 gi_wp2_with fail
 refine ⟨trivial,?_⟩;refine (callsIn_wide.2 (bf.o _)).mono ?_;rintro e w1 ⟨rfl,rfl⟩
 gi_wp2_with fail
 refine ⟨trivial,?_⟩;refine (callsIn_wide.2 (bh.o _ _)).mono ?_;rintro e w2 ⟨rfl,rfl⟩
 gi_wp2_with fail
 obtain ⟨p,H⟩:∃p,p=((((w.alloc (.cells #[RI r,RI c,.slice (some (ar g o)) y d] 344)).alloc (.cells #[.slice B c e] 73)).alloc (.cells #[RI q] 3)).alloc (.cells #[RI r,RI c,.slice (some (ar g o)) y d] 344)):=⟨_,rfl⟩;have Y:p.heap.size=w.heap.size+1+1+1+1:=by rw [H];simp
 have b4:Boxed p (w.heap.size+1) 73 (.slice B c e):=by
  rw [H];have:=((Boxed.new (w.alloc (.cells #[RI r,RI c,.slice (some (ar g o)) y d] 344)) 73 (.slice B c e)).alloc (.cells #[RI q] 3)).alloc (.cells #[RI r,RI c,.slice (some (ar g o)) y d] 344);simpa using this
 have b5:Boxed p (w.heap.size+1+1) 3 (RI q):=by
  rw [H];have:=(Boxed.new ((w.alloc (.cells #[RI r,RI c,.slice (some (ar g o)) y d] 344)).alloc (.cells #[.slice B c e] 73)) 3 (RI q)).alloc (.cells #[RI r,RI c,.slice (some (ar g o)) y d] 344);simpa using this
 have J:aq w p:=by rw [H];exact ((((QA _ w).alloc (Qx _) _).alloc (by simp) _).alloc (by simp;omega) _).alloc (by simp;omega) _
 rw [<-H,<-Y];have bO:=(Boxed.new p 73 (RJ)).alloc (.cells #[RI r,RI c,.slice (some (ar g o)) y d] 344)
 have bM:((p.alloc (.cells #[RJ] 73)).alloc (.cells #[RI r,RI c,.slice (some (ar g o)) y d] 344)).heap[p.heap.size+1]?=some (.cells #[RI r,RI c,.slice (some (ar g o)) y d] 344 (0,0)):=by
  have:=Qy (p.alloc (.cells #[RJ] 73)) (.cells #[RI r,RI c,.slice (some (ar g o)) y d] 344);simpa using this
 obtain ⟨a7,u,b1⟩:=af Y J bM;clear H;clear Y J bM
 refine' wpIn_rangeFunc_ownG (F:=Fence.wide) (n:=3) rfl ap (gf:=255) (lb:=#[(au (p.heap.size+1))]) rfl trivial (enters_of func255 (by kernel_rfl) rfl)
  (qe _ (p.heap.size+1) w.heap.size g o r c y d hr.2 hc a3.o hd _ b1.o) mO (mQ (by have:=u.o.size;simp;omega) (by simp)) (QA _ _) (λ_=>rfl)
  (λ(i:List (Fin r)) W=>((∃v,Boxed W p.heap.size 73 v/\W.ownsRow w.heap.size 2 1 v i.length (aA .i64 (i.map λk=>wt (nT ms c k.1) xs q))/\True)/\Boxed W (w.heap.size+1) 73 (.slice B c e)/\Boxed W (w.heap.size+1+1) 3 (RI q)/\W.heap[p.heap.size+1]?=some (.cells #[RI r,RI c,.slice (some (ar g o)) y d] 344 (0,0)))/\aq w W)
  (λ_ _ _=>False)
  (OwnFrom.and (OwnFrom.and (Own.from (holdsRow_own w.heap.size p.heap.size 73 2 1 (λi:List (Fin r)=>i.length) (λi=>aA .i64 (i.map λk=>wt (nT ms c k.1) xs q)) (λ_ _=>True)) _) (OwnFrom.and (eQ _ _ _ rfl) (OwnFrom.and (eQ _ _ _ rfl) (eQ _ _ _ rfl)))) (ownFrom_below (Qx _) (by have:=u.o.size;simp;omega)))
  (λ_ _ _ _ _ hs _ _=>hs)
  ⟨⟨⟨_,bO,QI _ _ _ _,trivial⟩,(b4.alloc _).alloc _,(b5.alloc _).alloc _,b1.o⟩,(u.o.alloc (by have:=u.o.size;omega) _).alloc (by have:=u.o.size;simp;omega) _⟩
  _ ?assign ?body ?done ?stop
 case assign=>
  intro l x W K hK;unfold rP
  gi_wp2
  exact hK
 case body=>
  rintro l i x W ⟨⟨⟨v,hv,C,_⟩,N,O,V⟩,Q⟩ aG;have bi:=N.cell;have bs:=O.cell;obtain ⟨Hv,a6,HM,L,H4,H5,bw⟩:=aj hv C V Q N O aG;clear hv C V Q N O aG
  gi_wp2_with fail
  refine ⟨trivial,?_⟩;refine (CallsIn.inRound l (callsIn_wide.2 (Lj r c x.1 g o ms B xs _ q W x.2 hc (b9.o.trans a3.o) (HA.o.below L.o) WM.o (HB.o.below L.o) bb.o WX.o))).mono ?_;rintro e w3 ⟨rfl,A⟩;have a0:Boxed w3 p.heap.size 73 v:=(A.block _ (Boxed.lt Hv.o)).trans Hv.o;have bl:=a0.cell;have I:=az a6.o A;have a4:w.heap.size<=w3.heap.size:=QD L.o.size A.size;have aP:w.heap.size<=p.heap.size:=u.o.size;have b0:i.length<r:=bw.o;have T:=(A.block _ (Qw HM.o)).trans HM.o;have U:=(A.block _ (Qw H4.o)).trans H4.o;have R:=(A.block _ (Qw H5.o)).trans H5.o;obtain ⟨a9,ab,a8,bo,aM,Z,bv,be⟩:=ak T U R a0 A I a4 aP;have ad:=aa b0;clear a0 A I a4 aP b0 T U R bi bs;obtain ⟨dv,a1⟩:∃dv,dv=wt (nT ms c x.1) xs q:=⟨_,rfl⟩;have bn:=aa a1;rw [<-a1];clear a1
  gi_wp2_with (gi_at_builtin;refine pM nc w3 rfl (.tmp 34) (.tmp 36) rfl w.heap.size p.heap.size v i.length _ rfl bo.o (by decide) Z.o [RI dv] rfl rfl (cH .i64 [dv]) (by have:=ad.o;have:=hr.2;omega) (by have:=ad.o;have:=hr.2;unfold maxLen;omega) bv.o be.o ?_)
  intro g1 c1 w1 k1 k2 k3 k4 k5 k6;have bA:=k1.cell;have bz:=k1.frozen;obtain ⟨K2,K3,K4,K5,K6⟩:=ah k2 k3 k4 k5 k6;clear k1 k2 k3 k4 k5 k6 bl
  gi_wp2_with fail
  have b6:Below w.heap.size W (w1.setCell (ar p.heap.size 0) (.slice (some (ar g1 0)) (i.length+1) c1)):=(aM.o.mono L.o.size).trans K5.o;have b8:p.heap.size+1≠p.heap.size:=ap;have b7:w.heap.size+1≠p.heap.size:=by have:=a7.o;omega
  have b2:w.heap.size+1+1≠p.heap.size:=by have:=a7.o;omega
  have a5:=K6.o _ _ _ _ _ b8 (by decide) a9.o;refine ⟨((KeepsOthers.of_grownBy (row:=none) (kr aM.o) (λ_ _ h=>by cases h)).trans K4.o).from _,⟨b6,λ_=>a5.trans HM.o.symm⟩,⟨⟨_,K2.o,?_,trivial⟩,K6.o _ _ _ _ _ b7 (by decide) ab.o,K6.o _ _ _ _ _ b2 (by decide) a8.o,a5⟩,L.o.trans b6⟩;have h:=K3.o;rw [bn.o] at h;simpa [aA] using h
 case done=>
  rintro D ys W hD rfl ⟨⟨⟨v,hv,C,_⟩,N,O,V⟩,Q⟩ hK;have hc:=hv.cell
  gi_wp2
  refine ⟨by simp,.inl ⟨_,_,rfl,run_takeDeferred hK,?_⟩⟩;obtain ⟨A',c',rfl,_⟩:=aD C;rw [List.length_finRange,KY] at *;refine ⟨.tuple #[.slice A' r c',.bool true],by simp [results,results253,go_sem],A',c',rfl,ownsRow_putObj C _ hK rfl,Q.trans (belowK_b (w:=w) (Qx _) W D _ _ (by have:=u.o.size;simp at hD;omega) hK rfl rfl)⟩
 case stop=>
  rintro D c i W _ _ h _;exact h.elim
end Go.Proofs.YtindmkcnjlgomaaGreat
namespace Go.Proofs.YtindmkcnjlgomaaGreat
open Go.RowKit
open Tryz
def xj (l:Q_):Q_:=dU l.length λi=>max (nth l i) 0
def zL (sz ps:Q_) (q:Int) (k:Nat) (v:Q_):Q_:=eU (Ia (wL sz ps k) (szN sz (k+1)) (szN sz k) v q) (bL sz ps k)
def dI (sz ps:Q_) (q:Int) (x:Q_):Nat->Q_
 | 0=>x
 | k+1=>if k+1<sz.length-1 then xj (zL sz ps q k (dI sz ps q x k)) else zL sz ps q k (dI sz ps q x k)
theorem W64.nth {l:Q_} (h:W64 l) (k:Nat): -9223372036854775808<=nth l k/\nth l k<=9223372036854775807:=by
 by_cases hk:k<l.length
 .exact h k hk
 .have:Go.Proofs.YtindmkcnjlgomaaGreat.nth l k=0:=by unfold Go.Proofs.YtindmkcnjlgomaaGreat.nth;simp [List.getD,List.getElem?_eq_none (show l.length<=k by omega)]
  omega
theorem I8 {ps:Q_} (h:W64 ps) (sz:Q_) (k:Nat):W64 (wL sz ps k):=fU λ_ _=>h.nth _
theorem AX (ms:Q_) (r c:Nat) (xs:Q_) (q:Int):(Ia ms r c xs q).length=r:=cC _ _
theorem gQ (xs ys:Q_):(eU xs ys).length=xs.length:=cC _ _
theorem vR (xs ys:Q_):W64 (eU xs ys):=fU λ_ _=>ig _
theorem Gq (l:Q_):(xj l).length=l.length:=cC _ _
theorem Gr {l:Q_} (h:W64 l):W64 (xj l):=fU λk _=>by have:=h.nth k;omega
theorem ym (sz ps:Q_) (q:Int) (k:Nat) (v:Q_):(zL sz ps q k v).length=szN sz (k+1):=by unfold zL;rw [gQ,AX]
theorem IX (sz ps:Q_) (q:Int) (k:Nat) (v:Q_):W64 (zL sz ps q k v):=vR _ _
theorem fG {sz ps:Q_} {q:Int} {x:Q_} (h:x.length=szN sz 0) (k:Nat):(dI sz ps q x k).length=szN sz k:=by
 cases k with
 | zero=>exact h
 | succ k=>
  unfold dI
  split
  .rw [Gq,ym]
  .rw [ym]
theorem qH {sz ps:Q_} {q:Int} {x:Q_} (h:W64 x) (k:Nat):W64 (dI sz ps q x k):=by
 cases k with
 | zero=>exact h
 | succ k=>
  unfold dI
  split
  .exact Gr (IX _ _ _ _ _)
  .exact IX _ _ _ _ _
def jx (w:R8) (vals:R7) (n:Nat) (f:Nat->Q_):Prop:=vals.length=n/\∀j,j<n->∃A c,vals[j]?=some (.slice A (f j).length c)/\(f j).length<=c/\Rd w A (aA .i64 (f j))
theorem jx.below {w i:R8} {vals:R7} {n:Nat} {f:Nat->Q_} (h:jx w vals n f) (hb:aq w i):jx i vals n f:=
 ⟨h.1,λj o=>by obtain ⟨A,c,h1,p,u⟩:=h.2 j o;exact ⟨A,c,h1,p,u.below hb⟩⟩
theorem NR:dN prog 63 73 (RJ) 1 24:=⟨underlying63,info_parts (by kernel_rfl),rfl,by decide⟩
theorem Cn (P base:Nat) (A B:N_) (n c m d:Nat) (xs:R7) (w:R8) (hP:w.heap[P]?=some (.cells #[.slice A n c] 63 (0,0))) (O:w.ownsRow base 73 1 (.slice A n c) n xs) (hn:n<=1000000) (u:base<=w.heap.size) (Z:base<=P):Calls prog 252 #[.slice B m d,(au P)] w λe I=>(∃v,e=.returned v)/\∃N x,I.heap[P]?=some (.cells #[.slice N (n+1) x] 63 (0,0))/\I.ownsRow base 73 1 (.slice N (n+1) x) (n+1) (xs++[.slice B m d])/\
   Keep (λi=>i=P\/(Value.slice A n c).ownBlock=some i) w I:=by
 obtain ⟨p0,pf⟩:=bx1 hP;have J:=Qw hP;obtain ⟨R,Q⟩:=ae hP O;clear hP O;go_enter func252,ntmps252;go_wp2_with (at_builtin;refine aX NR w rfl (.tmp 3) (.tmp 5) rfl base (.slice A n c) n xs rfl Q.o [.slice B m d] rfl rfl (by simp [Value.oneCell']) ap (by unfold maxLen;omega) u ?_);intro g x H y L h;have p:=(h.block P J (ay R.o (by decide) Q.o)).trans R.o;have h:Keep (λi=>i=P\/(Value.slice A n c).ownBlock=some i) w H:=(Keep.refl _ w).grown h (λk hk=>.inr (.inr hk));obtain ⟨q0,qf⟩:=bx1 p;obtain ⟨C,D,V⟩:=af p y h;clear p y L h;go_wp2_with fail;have h9:=RG H P 0 _ _ (.slice (some (ar g 0)) (n+1) x) C.o;have U:Keep (λi=>i=P) H (H.setCell (ar P 0) (.slice (some (ar g 0)) (n+1) x)):=Keep.setCell (S:=λi=>i=P) (Keep.refl _ _) (ar P 0) (.inr rfl) _;have o9:=U.own D.o (λi Y e=>ay C.o (by decide) D.o (by rw [Y,e]));have T:=V.o.setCell (ar P 0) (.inr (.inl rfl)) (.slice (some (ar g 0)) (n+1) x)
 go_end0
 exact ⟨⟨_,rfl⟩,_,_,h9,o9,T⟩
theorem PC (b:Nat) (sz ps:Q_) (q:Int) (A:N_) (m c:Nat) (w:R8) (h:mG 199 342 w b sz ps q) (hg:dY sz) (hm:m≠szN sz 0):Calls prog 243 #[(au b),.slice A m c] w λe C=>e=.returned (.tuple #[RJ,.bool false])/\aq w C:=by
 obtain ⟨S,Ap,cp,Al,cl,rows,u,h1,D,R,J,O,V⟩:=h;obtain ⟨⟨L,H,U,y⟩,N⟩:=bx4 u;have hs:=nu S sz w h1 (by have:=hg.1.1.2;omega);have v:=hg.1.at (k:=0) (by have:=hg.1.1.1;omega);have i:0<sz.length:=by have:=hg.1.1.1;omega
 have B:((m:Int) != (szN sz 0:Int))=true:=by simp;omega
 obtain ⟨I,T⟩:=ae hs v.2.2;clear hs u h1 D R J O V hg v hm;go_enter func243,ntmps243;go_wp2_with fail;refine I.o.mono ?_;rintro e Z ⟨A1,c1,rfl,p,hb⟩;obtain ⟨g,c',x,_,_⟩:=p.form i;simp only [Rv] at x;obtain ⟨rfl,_,rfl⟩:=x;have Y:=cG p i;rw [T.o] at Y;have Q:=aa hb;clear hb p L H U y N;go_wp2;go_ret2;exact ⟨rfl,Q.o⟩
theorem xz (w:R8) (e:R9) (v:Value) (base:Nat) (hb:base<=w.heap.size):(w.alloc (.cells #[v] e)).ownsRow base e 1 (.slice (some (ar w.heap.size 0)) 1 1) 1 [v]:=
 ⟨by simp,.inr ⟨w.heap.size,1,#[v],rfl,hb,Qy w _,Qx _,by unfold maxLen;omega,by simp,by simp⟩⟩
def Pr (sz ps:Q_) (q:Int) (x:Q_) (P n₀:Nat) (k:Nat) (o w:R8):Prop:=
 ∃A c vals,w.heap[P]?=some (.cells #[.slice A (k+1) c] 63 (0,0))/\w.ownsRow n₀ 73 1 (.slice A (k+1) c) (k+1) vals/\
  (∀j,j<=k->∃i h,vals[j]?=some (.slice i (szN sz j) h)/\w.ownsRow n₀ 2 1 (.slice i (szN sz j) h) (szN sz j) (aA .i64 (dI sz ps q x j)))/\Below n₀ o w
theorem Jc (b:Nat) (sz ps:Q_) (q:Int) (A:N_) (x:Q_) (c:Nat) (w:R8) (h:mG 199 342 w b sz ps q) (hg:dY sz) (wp:W64 ps) (hA:Rd w A (aA .i64 x)) (hx:x.length=szN sz 0) (wx:W64 x):Calls prog 243 #[.pointer (some ⟨b,0,none⟩),.slice A x.length c] w λe O=>∃A' c' vals,e=.returned (.tuple #[.slice A' sz.length c',.bool true])/\Rd O A' vals/\jx O vals sz.length (dI sz ps q x)/\sz.length<=c'/\aq w O:=by
 have cc:=h.lt;obtain ⟨S,Ap,cp,Al,cl,rows,h0,h1,h2,h3,h4,h5,h6⟩:=h;obtain ⟨⟨r0,r1,r2,r3⟩,rf⟩:=bx4 h0;have z0:=hg.1.at (k:=0) (by have:=hg.1.1.1;omega);have hs:=nu S sz w h1 (by have:=hg.1.1.2;omega);have B:=λO (k:aq w O)=>fT A x c O (hA.below k) ap;obtain ⟨n,hn⟩:∃n,sz.length-1=n:=⟨_,rfl⟩;have aR:sz.length=n+1:=by have:=hg.1.1.1;omega
 have em:1<=n/\n<=15:=by have:=hg.1.1;omega
 obtain ⟨m,hm⟩:∃m,szN sz 0=m:=⟨_,rfl⟩;rw [hn] at r3 h4 h6;rw [hx,hm] at B |-;have b2:0<sz.length:=ap;have b8:((m:Int) != (m:Int))=false:=by simp
 have ev:m<=1048576:=by rw [<-hm];exact z0.2.1
 rw [hm] at z0;obtain ⟨Hs,Z0,dv,HG,Hn,aM,Hm,H0⟩:=ak hs z0.2.2 B hg hn aR hm h0;obtain ⟨H3,H4,H5,H6,WP,WX,Hx,HA⟩:=ak h3 h4 h5 h6 wp wx hx hA;clear hs B h0 h1 h2 h3 h4 h5 h6 hg z0 hm hn aR wp wx hx hA;go_enter func243,ntmps243;go_wp2_with fail;refine Hs.o.mono ?_;rintro e w1 ⟨A1,c1,rfl,ho,hb⟩;obtain ⟨g,c',hv,_,_⟩:=ho.form b2;simp only [Rv] at hv;obtain ⟨rfl,_,rfl⟩:=hv;have p0:=cG ho b2;rw [Z0.o] at p0;have Hb:=aa hb;clear hb ho r0 r1 r2 r3 rf;go_wp2_with fail;refine (dv.o _ Hb.o).mono ?_;rintro e w2 ⟨A2,c2,rfl,ek,c9,c7⟩;have ao:=Hb.o.trans (c7.mono Hb.o.size);have ab:=(ao.block b cc).trans H0.o;obtain ⟨⟨r0,r1,r2,r3⟩,rf⟩:=bx4 ab;have e6:=Qw ab;have d3:=Hx.o;rw [Hm.o] at d3;have b0:=Hb.o.size;obtain ⟨d1,a9,eb⟩:=af (aF c9 b0) ao ab;clear c9 c7 ao ab b0;rw [Hn.o] at r3;go_wp2_with fail
 go_loopw [37] (λi wr=>∃k:Nat,k<=n/\i=RI k/\Pr sz ps q x (w2.heap.size+1) w.heap.size k w wr) (λi _=>n-(intOf i).toNat)
 case atStart=>
  refine ⟨0,QB _,rfl,some ⟨w2.heap.size,0,none⟩,1,[.slice A2 m c2],?_,?_,?_,?_⟩
  .have:=Qy (w2.alloc (.cells #[.slice A2 m c2] 73)) (.cells #[.slice (some ⟨w2.heap.size,0,none⟩) 1 1] 63);simpa using this
  .exact (xz w2 73 (.slice A2 m c2) w.heap.size a9.o.size).alloc _
  .intro j hj;obtain rfl:j=0:=ap;refine ⟨A2,c2,by rw [Hm.o];rfl,?_⟩;rw [Hm.o];exact (d1.o.alloc _).alloc _
  .have ao:=a9.o;have eo:=a9.o.size;exact am
 case round=>
  obtain ⟨k,hk,rfl,Ao,co,vals,hP,ho,hv,hW⟩:=hrel;have d0:k<sz.length:=by have:=aM.o;omega
  have aP:=(hW.block b cc).trans H0.o;obtain ⟨⟨r0,r1,r2,r3⟩,rf⟩:=bx4 aP;obtain ⟨p0,pf⟩:=bx1 hP;obtain ⟨go,e8,cs,ew,_⟩:=ho.form ap;simp only [Rv] at cs;obtain ⟨rfl,d6,rfl⟩:=cs;clear d6;have d8:=Qw hP;have ef:b<wr.heap.size:=Qw aP;have hz:=hW.size;obtain ⟨HP,Ho,Hv,HW,es⟩:=ah hP ho hv hW aP;clear hP ho hv hW aP;rw [Hn.o] at r3;by_cases L:k<n
  .have hR:=HG.o.1;have cA:k+1<sz.length:=by have:=aM.o;omega
   have z0:=hR.at d0;have z1:=hR.at cA;have cv:=HG.o.mul cA;obtain ⟨gl,ol,dl,Bl,el,hcs,hd,cd,hrb⟩:=H6.o k L;have hrl:(cF rows k).length=4:=H5.o _ (by rw [rO (by rw [H4.o];exact L)];exact List.getElem_mem _);have B:∀t,t<4->(List.flatten rows)[k*4+t]?=(cF rows k)[t]?:=λt ht=>nZ H5.o k t (by rw [H4.o];exact L) ht;have e0:=B 0 ap;have R:=B 1 ap;have e2:=B 2 ap;have e3:=B 3 ap;rw [hcs] at e0 R e2 e3;simp only [Nat.add_zero,Rc,Ra] at e0 R e2 e3;obtain ⟨bl,oo,da,q0⟩:=H3.o _ _ e0;obtain ⟨_,_,Y,q1⟩:=H3.o _ _ R;obtain ⟨_,_,T,q2⟩:=H3.o _ _ e2;obtain ⟨_,_,Z,q3⟩:=H3.o _ _ e3;subst da;injection Y with Y;injection Y with i1 i2 _;subst i1;subst i2
   injection T with T;injection T with i1 i2 _;subst i1;subst i2
   injection Z with Z;injection Z with i1 i2 _;subst i1;subst i2
   have a8:bl<w.heap.size:=aB q0;have bI:=(HW.o.cell (p:=⟨bl,oo+k*4,none⟩) a8).trans q0;have bb:=(HW.o.cell (p:=⟨bl,oo+(k*4+1),none⟩) a8).trans q1;have bs:=(HW.o.cell (p:=⟨bl,oo+(k*4+2),none⟩) a8).trans q2;have bi:=(HW.o.cell (p:=⟨bl,oo+(k*4+3),none⟩) a8).trans q3;rw [<-Rz] at bb bs bi;obtain ⟨Aj,cj,cx,bV⟩:=Hv.o k (Qx _);have pj:=(Rd.own Ho.o) k _ cx;obtain ⟨_,_,ej,pj⟩:=pj;injection ej with ej;injection ej with i1 i2 _;subst i1;subst i2
   rw [RB] at pj;have wv:=qH (sz:=sz) (ps:=ps) (q:=q) WX.o k;have a7:=fG (sz:=sz) (ps:=ps) (q:=q) Hx.o k;have a1:=λW (h:aq wr W)=>Lh (szN sz (k+1)) (szN sz k) gl ol (szN sz (k+1)*szN sz k) dl (wL sz ps k) Aj (dI sz ps q x k) cj q W ⟨z1.1,z1.2.1⟩ ⟨z0.1,z0.2.1⟩ rfl hd ap (Cg _ _ _) ((cd.below HW.o).below h) (I8 WP.o sz k) ((Rd.own bV).below h) a7 wv;obtain ⟨r,hr⟩:∃r,szN sz (k+1)=r:=⟨_,rfl⟩;obtain ⟨c0,av⟩:∃c0,szN sz k=c0:=⟨_,rfl⟩;obtain ⟨nn,bv⟩:∃nn,szN sz (k+1)*szN sz k=nn:=⟨_,rfl⟩;rw [bv] at a1 bs cv hd;rw [hr] at a1 bI bi z1;rw [av] at a1 bb z0;have bn:=pj;rw [av] at bn;have b5:=hrb.below HW.o;obtain ⟨dc,Hr,dr,e7,cM,ec⟩:=ai a1 hr av bv b5 a7;clear a1 hr av bv hrb b5 cd hd q0 q1 q2 q3 e0 R e2 e3 B hrl hcs pj a7 cx bV;go_wp2_with fail;obtain ⟨V,hV⟩:∃V,V=wr.alloc (.cells #[RI r,RI c0,.slice (some ⟨gl,ol,none⟩) nn dl,.slice Bl r el] 348):=⟨_,rfl⟩;have b9:V.heap[wr.heap.size]?=some (.cells #[RI r,RI c0,.slice (some ⟨gl,ol,none⟩) nn dl,.slice Bl r el] 348 (0,0)):=by rw [hV];exact Qy wr _
   have Q:aq wr V:=by rw [hV];exact (QA _ _).alloc (Qx _) _
   rw [<-hV];clear hV;have v2:=aw Q r2;have v3:=aw Q r3;have vp:=aw Q p0;have vj:=aw Q bn;obtain ⟨⟨y0,y1,y2,y3⟩,yf⟩:=bx4 b9;have bG:b<V.heap.size:=aB v2;have dn:w2.heap.size+1<V.heap.size:=aB vp;have eu:wr.heap.size<V.heap.size:=aB y0;have ei:go<V.heap.size:=aB vj;obtain ⟨k1,a4⟩:∃k1,k+1=k1:=⟨_,rfl⟩;have e9:k<k1:=ap;rw [a4] at vp;have er:=aa a4;clear a4;obtain ⟨H,en⟩:=ae Q b9;clear Q b9 r0 r1 r2 r3 rf p0 pf bn bI bb bs bi
   go_region_held3 (λO=>O.cell? ⟨wr.heap.size,0,none⟩=some (RI r)/\O.cell? ⟨wr.heap.size,1,none⟩=some (RI c0)/\O.cell? ⟨wr.heap.size,2,none⟩=some (.slice (some ⟨gl,ol,none⟩) nn dl)/\O.cell? ⟨w2.heap.size+1,0,none⟩=some (.slice (some ⟨go,0,none⟩) k1 co)/\O.cell? ⟨go,k,none⟩=some (.slice Aj c0 cj)/\O.cell? ⟨b,2,none⟩=some (RI q)) (simp [go_sem, *])
    ((go_at_call 253;refine (dc.o V.drew H.o.drew).mono ?_;rintro e w5 ⟨A5,c5,rfl,bz,y⟩;have g0:=aw y y0;have g1:=aw y y1;have g2:=aw y y2;have g3:=aw y y3;have g4:=aw y vp;have g5:=aw y vj;have g6:=aw y v2;have g7:=aw y v3;obtain ⟨aG,ad⟩:=ae bz y;clear bz y))
   go_wp2_with fail;have b7:aq wr w5:=(H.o.drew).trans (ad.o.mono (by have:=H.o.size;simp;omega))
   have b8:∀a b',A5=some a->Bl=some b'->a.block≠b'.block:=λa b' ha df=>by
    obtain ⟨b1,o1,R,dT⟩:=cM.o.num (k:=0) (by rw [MD,Hr.o];omega);rw [df] at R;injection R with R
    subst R;have l1:b1<wr.heap.size:=aB dT;have l2:=(aG.o.lt a.block (by rw [ha];rfl)).1;have l3:=H.o.size;simp at l2 |-;omega
   refine (zq _ A5 Bl _ (bL sz ps k) r c5 el w5 aG.o (cM.o.below b7) (by rw [MD,Hr.o]) ap b8).mono ?_;rintro e w6 ⟨rfl,a2,c6⟩;have bM:eU (Ia (wL sz ps k) r c0 (dI sz ps q x k) q) (bL sz ps k)=zL sz ps q k (dI sz ps q x k):=by unfold zL;rw [Hr.o,dr.o]
   rw [bM] at a2;have a2:=aF (base':=V.heap.size) a2 (by simp);have a6:∀i,(Value.slice A5 r c5).ownBlock=some i->V.heap.size<=i:=λi hi=>by have:=(aG.o.lt i hi).1;simpa using this
   have a5:aq V w6:=((QA _ V).drew.trans (ad.o.mono (by simp))).trans (c6.toBelow (by have:=ad.o.size;simpa using this) a6);have u2:=(a5.cell (p:=⟨b,2,none⟩) bG).trans v2;have u3:=(a5.cell (p:=⟨b,3,none⟩) bG).trans v3;have up:=(a5.cell (p:=⟨w2.heap.size+1,0,none⟩) dn).trans vp;obtain ⟨ci,cb,e4⟩:=af a2 a5 a6;have cI:IntKind.i64.wrap ((k:Int)+1)=(k:Int)+1:=QC _ ap;have ea:=aa cI;clear cI a2 a5 c6 bM a6 b8 aG ad b7 g0 g1 g2 g3 g4 g5 g6 g7 v2 v3 vp vj y0 y1 y2 y3 yf
   go_upto_if 67 with (fail)
   go_cut [] (λwx=>aq V wx/\wx.ownsRow V.heap.size 2 1 (.slice A5 r c5) r (aA .i64 (dI sz ps q x (k+1))))
   case first=>
    by_cases bo:k+1<n
    .have D:dI sz ps q x (k+1)=xj (zL sz ps q k (dI sz ps q x k)):=by
      have:=Hn.o
      show (if k+1<sz.length-1 then _ else _)=_
      rw [if_pos ap]
     have U:=ym sz ps q k (dI sz ps q x k);rw [Hr.o] at U;obtain ⟨z,hz⟩:∃z,zL sz ps q k (dI sz ps q x k)=z:=⟨_,rfl⟩;rw [hz] at U D;have N:=ci.o;rw [hz] at N;have b4:=jS z (λi=>max (nth z i) 0);unfold xj at D;rw [<-b4,U] at D;obtain ⟨cY,bh,bf⟩:=af U N D;clear b4 U hz D N u2 u3 up;go_wp2_with fail;have b3:decide ((k:Int)+1<n)=true:=RC ap;rw [b3];clear bo b3
     go_loopw [70] (λi wx=>∃j:Nat,j<=r/\i=RI j/\wx.ownsRow V.heap.size 2 1 (.slice A5 r c5) r (aA .i64 (lD z j (λi=>max (nth z i) 0)))/\aq V wx) (λi _=>r-(intOf i).toNat)
     .exact ⟨0,QB _,rfl,by rw [iU];exact bh.o,cb.o⟩
     case round=>
      obtain ⟨j,hj,rfl,v,C⟩:=hrel;by_cases L:j<r
      .obtain ⟨g7,d7,cw,dk,_⟩:=v.form ap;simp only [Rv] at cw;obtain ⟨rfl,ds,rfl⟩:=cw;clear ds;have be:j<z.length:=by rw [cY.o];exact L
       have p1:=cG v L;rw [ij _ be,if_neg ap] at p1;have f1:=v.frozenAt j;have bO:=jR (l:=z) (k:=j) (λi=>max (nth z i) 0) be;obtain ⟨HO,HB,d2⟩:=af v C bO;clear v C bO be;go_wp2_with fail;refine (Ki _ _).mono ?_;rintro e w9 ⟨rfl,rfl⟩;go_wp2_with fail;go_roundw
       .exact ⟨j+1,by omega,by go_num,by rw [<-d2.o];exact dF HO.o j _,HB.o.setCell (p:=⟨g7,j,none⟩) dk _⟩
       .simp [intOf];omega
      .obtain rfl:j=r:=ap;obtain ⟨HO,HB⟩:=ae v C;clear v C;go_wp2_with fail;go_meet;exact ⟨HB.o,by rw [bf.o];exact HO.o⟩
    .have D:dI sz ps q x (k+1)=zL sz ps q k (dI sz ps q x k):=by
      have:=Hn.o
      show (if k+1<sz.length-1 then _ else _)=_
      rw [if_neg ap]
     have bf:=aa D;clear D;go_wp2_with fail;go_meet;exact ⟨cb.o,by rw [bf.o];exact ci.o⟩
   case rest=>
    obtain ⟨C,N⟩:=hcut;have J:aq wr wc:=H.o.trans (C.mono H.o.size);have cf:=(J.block _ d8).trans HP.o;have b6:=az Ho.o J;obtain ⟨ee,bh,bw,I,a3⟩:=ah C N cf b6 J;clear C N cf b6 J u2 u3 up;have bX:w.heap.size<=wc.heap.size:=by have:=a3.o.size;omega
    have cy:w.heap.size<=w2.heap.size+1:=by have:=a9.o.size;omega
    have bA:=Cn (w2.heap.size+1) w.heap.size (some ⟨go,0,none⟩) A5 (k+1) co r c5 vals wc bw.o I.o ap bX cy;have dp:=aa bA;clear bA;go_wp2_with fail;refine dp.o.mono ?_;rintro e w8 ⟨⟨v8,rfl⟩,A8,c8,dw,d4,cn⟩
    have cO:aq w w8:=(HW.o.trans (a3.o.mono HW.o.size)).trans (cn.toBelow bX (λi hi=>by
     rcases hi with rfl | hi
     .exact cy
     .exact (I.o.lt i hi).1))
    have a0:∀{m:Nat} {u:Value} {ys:R7},wc.ownsRow w.heap.size 2 1 u m ys->w8.ownsRow w.heap.size 2 1 u m ys:=λh=>cn.own h (λi hi e=>by
     rcases e with rfl | e
     .exact ay bw.o (by decide) h hi.symm
     .exact jP I.o h (by decide) i e hi)
    have e5:=I.o.1;go_wp2_with fail;go_roundw
    case rel=>
     refine ⟨k+1,by omega,by go_num,A8,c8,vals++[.slice A5 r c5],dw,d4,λj hj=>?_,cO⟩;rcases QO j (k+1) with d9 | d9
     .obtain ⟨Aj,cj,h1,h2⟩:=Hv.o j ap;exact ⟨Aj,cj,by rw [Rk ap];exact h1,a0 (az h2 a3.o)⟩
     .obtain rfl:j=k+1:=ap;refine ⟨A5,c5,?_,?_⟩
      .rw [Rl ap,Hr.o];simp [show vals.length=k+1 by omega]
      .rw [Hr.o];exact a0 (aF bh.o (by have:=H.o.size;omega))
    case measure=>simp [intOf];omega
  .obtain rfl:k=n:=ap;have aR:=aM.o
   have cr:jx wr vals sz.length (dI sz ps q x):=by
    refine ⟨?_,λj hj=>?_⟩
    .have:=Ho.o.1;omega
    .obtain ⟨Aj,cj,h1,h2⟩:=Hv.o j ap;have a7:=fG (sz:=sz) (ps:=ps) (q:=q) Hx.o j;obtain ⟨A',c',e,hc⟩:=aD h2;injection e with R e2 e3
     subst R;subst e3;rw [a7];exact ⟨_,_,h1,hc,Rd.own h2⟩
   have cL:sz.length<=co:=by
    obtain ⟨A',c',e,hc⟩:=aD Ho.o;injection e with R e2 e3
    omega
   have bN:=Rd.own Ho.o;obtain ⟨d5,dd,dG⟩:=af bN cr cL;clear bN cr cL;clear aR;go_wp2_with fail;go_ret2;exact ⟨some ⟨go,0,none⟩,co,vals,(by rw [aM.o];rfl),d5.o,dd.o,dG.o,HW.o⟩
def pO (a y:Q_):Q_:=dU a.length λi=>wrap64 (nth a i-nth y i)
theorem Ii (a y:Q_):(pO a y).length=a.length:=cC _ _
theorem Ij (a y:Q_):W64 (pO a y):=fU λ_ _=>ig _
theorem Nx (b:Nat) (sz ps:Q_) (q:Int) (A B:N_) (x y:Q_) (c d:Nat) (w:R8) (h:mG 199 342 w b sz ps q) (hg:dY sz) (wp:W64 ps) (hA:Rd w A (aA .i64 x)) (hx:x.length=szN sz 0) (wx:W64 x) (hB:Rd w B (aA .i64 y)) (hy:y.length=szN sz (sz.length-1)):Calls prog 236 #[(au b),.slice A x.length c,.slice B y.length d] w λe H=>∃A' c' D dc vals,e=.returned (.tuple #[.slice A' sz.length c',.slice D y.length dc,.bool true])/\Rd H A' vals/\jx H vals sz.length (dI sz ps q x)/\sz.length<=c'/\
   H.ownsRow w.heap.size 2 1 (.slice D y.length dc) y.length (aA .i64 (pO (dI sz ps q x (sz.length-1)) y))/\aq w H:=by
 have ht:=Jc b sz ps q A x c w h hg wp hA hx wx;have hv:=fG (sz:=sz) (ps:=ps) (q:=q) hx (sz.length-1);have hl:=hg.1.1;have a9:=(hg.1.at (k:=sz.length-1) ap).2.1;have I:((y.length:Int) != (szN sz (sz.length-1):Int))=false:=by simp;omega
 obtain ⟨n,hn⟩:∃n,sz.length=n:=⟨_,rfl⟩;obtain ⟨m,hm⟩:∃m,y.length=m:=⟨_,rfl⟩;rw [hn] at ht hl hv I hy a9 |-;rw [<-hy,hm] at hv I a9;rw [hm];obtain ⟨a,ha⟩:∃a,dI sz ps q x (n-1)=a:=⟨_,rfl⟩;have L:=jS a (λi=>wrap64 (nth a i-nth y i));rw [ha] at hv |-;unfold pO;rw [<-L,hv];clear L;have Ha:=aa ha;clear ha;obtain ⟨Ht,Hv,HB,Hm⟩:=ag ht hv hB hm;clear ht h hg wp hA hx wx hn hv hm hB hy;obtain ⟨b4,b7⟩:=hl;go_enter func236,ntmps236;go_wp2_with fail;refine Ht.o.mono ?_;rintro e w1 ⟨A',c',vals,rfl,hr,Y,hc,hb⟩;obtain ⟨Aj,cj,e1,e2,e3⟩:=Y.2 (n-1) ap;rw [Ha.o,Hv.o] at e1 e2;rw [Ha.o] at e3;have ab:=hr;obtain ⟨bo,oo,rfl,p0⟩:=hr _ _ e1;have a1:(n:Int)-1=((n-1:Nat):Int):=ap;have hw:IntKind.i64.wrap ((n:Int)-1)=((n-1:Nat):Int):=by rw [QC _ ap];omega
 have hi:((n-1:Nat):Int)<n:=ap;have av:n-1<n:=ap;have Q:=Hv.o;have Z:=fT Aj a cj w1 e3 ap;rw [Q] at Z;obtain ⟨b0,b2,Hb,aM,b1,Hc⟩:=ai Z Q hb Y ab hc;clear hr ab Y e1 e2 e3 hb Z Q hc;rw [a1] at hw;go_wp2_with fail;refine b0.o.mono ?_;rintro e w2 ⟨D,dc,rfl,b3,v,V⟩;have a5:=Hb.o.trans (V.mono Hb.o.size);have ao:=Hb.o.size;have a4:=aa v;have v:=aF v ao;obtain ⟨a2,a0,a7⟩:=af a5 v V;clear a5 v V p0 hw a1 hi av I;go_wp2_with fail
 go_loopw [42] (λi wr=>∃k:Nat,k<=m/\i=RI k/\wr.ownsRow w.heap.size 2 1 (.slice D m dc) m (aA .i64 (lD a k (λi=>wrap64 (nth a i-nth y i))))/\Keep (λi=>(Value.slice D m dc).ownBlock=some i) w2 wr) (λi _=>m-(intOf i).toNat)
 .exact ⟨0,QB _,rfl,by rw [iU];exact a0.o,Keep.refl _ _⟩
 case round=>
  obtain ⟨k,hk,rfl,u,O⟩:=hrel;by_cases R:k<m
  .obtain ⟨g7,d7,a8,b6,_⟩:=u.form ap;simp only [Rv] at a8;obtain ⟨rfl,aR,rfl⟩:=a8;clear aR;have T:k<a.length:=by rw [b2.o];exact R
   have p1:=cG u R;rw [ij _ T,if_neg ap] at p1;have f1:=u.frozenAt k;have a3:=jR (l:=a) (k:=k) (λi=>wrap64 (nth a i-nth y i)) T;obtain ⟨C,oy,rfl,py⟩:=HB.o.num (show k<y.length by rw [Hm.o];exact R);have aG:C<w.heap.size:=aB py;have I:g7≠C:=ap;have a6:aq w wr:=a2.o.trans (O.toBelow a2.o.size (λi hi=>(a0.o.lt i hi).1));have aP:=(a6.cell (p:=(ar C (oy+k))) aG).trans py;obtain ⟨HO,HK,ad⟩:=af u O a3;clear u O a3 T a6 py;go_wp2_with fail;have b5:(k:Int)<m:=ap;have J:(λH:R8=>H.cell? (ar g7 k)=some (RI (nth a k))/\H.cell? (ar C (oy+k))=some (RI (nth y k))) wr.drew:=⟨p1,aP⟩;refine XA.g 11 (λH:R8=>H.cell? (ar g7 k)=some (RI (nth a k))/\H.cell? (ar C (oy+k))=some (RI (nth y k))) ?_;refine XA.t ?_ [0,1,2,3,4,5,6,7,8,9] J ?_;refine XA.o 10 (λK O=>?_);go_simp;refine (Ec _ _ _).mono ?_;rintro e w9 ⟨rfl,rfl⟩;dsimp only;refine O.out _ _ J (λJ=>?_);clear O K J;refine XA.e ?_;simp only [Re,Rf];go_wp2_with fail;go_roundw
   case rel=>
    refine ⟨k+1,by omega,by go_num,?_,?_⟩
    .rw [<-ad.o];exact dF (bZ HO.o 1) k _
    .exact Keep.setCell (HK.o.drewN 1) (ar g7 k) (.inr rfl) _
   case measure=>simp [intOf];omega
  .obtain rfl:k=m:=ap;have N:aq w1 wr:=a7.o.trans (O.toBelow a7.o.size (λi hi=>(a4.o.lt i hi).1));obtain ⟨HO,U⟩:=ae u N;clear u N O;go_wp2_with fail;go_ret3;exact ⟨_,_,_,_,vals,rfl,b1.o.below U.o,aM.o.below U.o,Hc.o,HO.o,Hb.o.trans (U.o.mono Hb.o.size)⟩
end Go.Proofs.YtindmkcnjlgomaaGreat
namespace Go.Proofs.YtindmkcnjlgomaaGreat
open Go.RowKit Go.Shelf
open Tryz
attribute [local go_sem] Oper.semAt_some
theorem xA {W:R8} {base:Nat} {e:R9} {size n c G:Nat} {xs:R7} {o:Obj} (h:W.ownsRow base e size (.slice (some (ar G 0)) n c) n xs) (v:W.heap[G]?=some o):o.isCells=true:=by
 rcases h.2 with ⟨x,_⟩ | ⟨g,cap,u,p,_,i,_⟩
 .cases x
 .simp only [Rv,Option.some.injEq,Addr.mk.injEq] at p;rw [<-p.1.1,v] at i
  cases i;rfl
def pU (ms:Q_) (c:Nat) (ys:Q_) (q:Int) (h:Q_) (k:Nat):Q_:=eU h (rJ (nT ms c k) (nth ys k) q)
def pT (ms:Q_) (r c:Nat) (ys:Q_) (q:Int):Q_:=(List.range r).foldl (pU ms c ys q) (List.replicate c 0)
theorem ye (ms:Q_) (c:Nat) (ys:Q_) (q:Int) (h:Q_) (k:Nat):(pU ms c ys q h k).length=h.length:=cC _ _
theorem MB (ms:Q_) (r c:Nat) (ys:Q_) (q:Int):((List.finRange r).foldl (λi k=>pU ms c ys q i k.1) (List.replicate c 0))=pT ms r c ys q:=by
 unfold pT;have h:List.range r=(List.finRange r).map (·.1):=List.ext_getElem (by simp) (by simp);rw [h,List.foldl_map]
theorem Dm (r c k:Nat) (g o:Nat) (ms:Q_) (y q:Int) (W:R8) (hk:k<r) (hc:1<=c/\c<=1048576) (h:ms.length=r*c) (hA:Rd W (some (ar g o)) (aA .i64 ms)) (x:W64 ms) (v: -9223372036854775808<=y/\y<=9223372036854775807):Calls prog 248 #[.slice (some (ar g (o+k*c))) c c,RI y,RI q] W λe i=>∃u p,e=.returned (.slice u c p)/\i.ownsRow W.heap.size 2 1 (.slice u c p) c (aA .i64 (rJ (nT ms c k) y q))/\aq W i:=by
 have:=FU (some (ar g (o+k*c))) (nT ms c k) c y q W (EH hA hk h) (by rw [jm];omega) (Ba x hk h) v
 rwa [jm] at this
def MU (r c:Nat) (g o p d:Nat) (ms:Q_) (B:N_) (ys:Q_) (e:Nat) (q:Int) (w:R8) (G N M:Nat) (h:List (Fin r)) (W:R8):Prop:= (W.ownsRow w.heap.size 2 1 (.slice (some (ar G 0)) c c) c (aA .i64 (h.foldl (λi k=>pU ms c ys q i k.1) (List.replicate c 0)))/\Boxed W N 73 (.slice (some (ar G 0)) c c)/\Boxed W (w.heap.size+1) 73 (.slice B r e)/\Boxed W (w.heap.size+1+1) 3 (RI q)/\W.heap[M]?=some (.cells #[RI r,RI c,.slice (some (ar g o)) p d] 344 (0,0)))/\aq w W
theorem IP (r c:Nat) (g o y d:Nat) (ms:Q_) (B:N_) (ys:Q_) (e:Nat) (q:Int) (w:R8) (G N M K:Nat) (u:w.heap.size<=K):OwnFrom K (MU r c g o y d ms B ys e q w G N M):=by
 intro s W C row hs hg hr;obtain ⟨⟨h1,i,A,p,x⟩,h⟩:=hs;have v:=ownFrom_below (β:=Unit) (Qx _) u () W C row h hg hr;exact ⟨⟨AF h1 hg hr,eT rfl i hg hr,eT rfl A hg hr,eT rfl p hg hr,eT rfl x hg hr⟩,v⟩
theorem Io (r c:Nat) (g o Q d:Nat) (ms:Q_) (B:N_) (ys:Q_) (e:Nat) (q:Int) (w:R8) (hr:1<=r/\r<=1048576) (hc:1<=c/\c<=1048576) (aM:Q=r*c) (hd:Q<=d) (hm:Q<=17592186043904) (bo:ms.length=Q) (hA:Rd w (some (ar g o)) (aA .i64 ms)) (wm:W64 ms) (hB:Rd w B (aA .i64 ys)) (bv:ys.length=r) (wy:W64 ys):Calls prog 238 #[.agg #[RI r,RI c,.slice (some (ar g o)) Q d],.slice B r e,RI q] w λe R=>∃A' c',e=.returned (.tuple #[.slice A' c c',.bool true])/\R.ownsRow w.heap.size 2 1 (.slice A' c c') c (aA .i64 (pT ms r c ys q))/\aq w R:=by
 have b6:=λR=>oY r c (some (ar g o)) Q d R hr hc aM hm;have bi:=λcs R=>uo cs R;have bf:(8:Nat)*c<=281474976710656:=ap;have cn:=aa bf;clear bf;obtain ⟨c7,c8,aP,bG,c9,HA,HB,WM⟩:=ak b6 bi aM bo bv hA hB wm;have WY:=aa wy;clear b6 bi aM bo bv hA hB wm wy;refine (callsIn_wide (n:=3)).1 ?_;refine callsIn_of_wp_marks func238 rfl trivial ?_ rfl;simp only [ntmps238,List.size_toArray,List.length_cons,List.length_nil,Nat.reduceAdd,Nat.reduceSub,Array.replicate_succ,Array.replicate_zero,List.push_toArray,List.append_toArray,List.nil_append,List.cons_append]
 gi_wp2_with fail
 refine ⟨trivial,?_⟩;refine (callsIn_wide.2 (c7.o _)).mono ?_;rintro e w1 ⟨rfl,rfl⟩
 gi_wp2_with (gi_at_make;refine zD nc _ rfl (.tmp 22) (.tmp 22) rfl rfl c rfl rfl cn.o (by unfold maxLen;omega) ?_)
 intro w2 y U;rw [fI] at y;have a9:aq w w2:=Below.trans (((((QA _ w).alloc (Qx _) _).alloc (by simp) _).alloc (by simp;omega) _).alloc (by simp;omega) _) (U.mono ap)
 have h3:w2.heap[w.heap.size]?=some (.cells #[RI r,RI c,.slice (some (ar g o)) Q d] 344 (0,0)):=by
  refine (U.block w.heap.size ap).trans ?_;refine (QL _ _ _ (by first | (simp;done) | (simp;omega))).trans ((QL _ _ _ (by first | (simp;done) | (simp;omega))).trans ((QL _ _ _ (by simp)).trans (Qy w _)))
 have h4:Boxed w2 (w.heap.size+1) 73 (.slice B r e):=by
  refine (U.block (w.heap.size+1) ap).trans ?_;refine (QL _ _ _ (by first | (simp;done) | (simp;omega))).trans ((QL _ _ _ (by simp)).trans ?_);have:=Qy (w.alloc (.cells #[RI r,RI c,.slice (some (ar g o)) Q d] 344)) (.cells #[.slice B r e] 73);simpa using this
 have h5:Boxed w2 (w.heap.size+1+1) 3 (RI q):=by
  refine (U.block (w.heap.size+1+1) ap).trans ?_;refine (QL _ _ _ (by simp)).trans ?_;have:=Qy ((w.alloc (.cells #[RI r,RI c,.slice (some (ar g o)) Q d] 344)).alloc (.cells #[.slice B r e] 73)) (.cells #[RI q] 3);simpa using this
 obtain ⟨G,hG⟩:∃G,w.heap.size+1+1+1+1=G:=⟨_,rfl⟩;rw [hG] at y U |-;obtain ⟨a0,bw,HG,H3,H4,H5⟩:=ai y a9 hG h3 h4 h5;obtain ⟨⟨m0,m1,m2⟩,mf⟩:=bx3 h3;have bN:w.heap.size<w2.heap.size:=Qw h3;clear y U a9 hG h3 h4 h5
 gi_wp2_with fail
 refine ⟨trivial,?_⟩;refine (callsIn_wide.2 (c8.o _ _)).mono ?_;rintro e w1 ⟨rfl,rfl⟩
 gi_wp2_with fail
 obtain ⟨H,C⟩:∃H,H=w2.alloc (.cells #[.slice (some (ar G 0)) c c] 73):=⟨_,rfl⟩;rw [<-C];have a7:H.heap.size=w2.heap.size+1:=by rw [C];simp
 have bO:Boxed H w2.heap.size 73 (.slice (some (ar G 0)) c c):=by rw [C];exact Boxed.new w2 _ _
 have b4:Boxed H (w.heap.size+1) 73 (.slice B r e):=by rw [C];exact H4.o.alloc _
 have b5:Boxed H (w.heap.size+1+1) 3 (RI q):=by rw [C];exact H5.o.alloc _
 have r0:H.ownsRow w.heap.size 2 1 (.slice (some (ar G 0)) c c) c (aA .i64 (List.replicate c 0)):=by rw [C];exact aF (a0.o.alloc _) (by have:=HG.o;omega)
 have a1:aq w H:=by rw [C];exact bw.o.alloc ap _
 have bM:(H.alloc (.cells #[RI r,RI c,.slice (some (ar g o)) Q d] 344)).heap[H.heap.size]?=some (.cells #[RI r,RI c,.slice (some (ar g o)) Q d] 344 (0,0)):=Qy H _;obtain ⟨N,hN⟩:∃N,N=w2.heap.size:=⟨_,rfl⟩;rw [<-hN] at bO a7 |-;rw [<-a7];obtain ⟨bI,O,bl,bX,bA,ci,cj,HN⟩:=ak a7 a1 bM bO b4 b5 r0 hN;have cL:=aa C;clear a7 a1 bM bO b4 b5 r0 hN C m0 m1 m2 mf bN;have cf:MU r c g o Q d ms B ys e q w G N H.heap.size [] (H.alloc (.cells #[RI r,RI c,.slice (some (ar g o)) Q d] 344)):=⟨⟨cj.o.alloc _,bX.o.alloc _,bA.o.alloc _,ci.o.alloc _,bl.o⟩,O.o.alloc (by have:=O.o.size;omega) _⟩
 refine' wpIn_rangeFunc_ownG (F:=Fence.wide) (n:=3) rfl ap (gf:=255) (lb:=#[(au H.heap.size)]) rfl trivial (enters_of func255 (by kernel_rfl) rfl)
  (qe _ H.heap.size w.heap.size g o r c Q d hr.2 hc aP.o hd _ bl.o) mO (mQ (by have:=O.o.size;simp;omega) (by simp)) (QA _ _) (λ_=>rfl)
  (MU r c g o Q d ms B ys e q w G N H.heap.size)
  (λ_ _ _=>False)
  (IP r c g o Q d ms B ys e q w G N H.heap.size _ (by have:=O.o.size;simp;omega))
  (λ_ _ _ _ _ hs _ _=>hs)
  cf
  _ ?assign ?body ?done ?stop
 case assign=>
  intro l x W K hK;unfold rP
  gi_wp2
  exact hK
 case body=>
  rintro l cb x W ⟨⟨L,Y,a4,a5,av⟩,a6⟩ b9;have bb:=a4.cell;have bs:=a5.cell;have b0:=Y.cell;obtain ⟨T,HO,HM,a8,H4,H5,cM⟩:=aj L Y av a6 a4 a5 b9;clear L av a6 a4 a5 b9 Y
  have cx:G<W.heap.size:=by
   obtain ⟨g6,d6,I,_,Z⟩:=T.o.form (by omega:0<c);simp only [Rv,Option.some.injEq,Addr.mk.injEq] at I;rw [I.1.1];exact Z
  gi_wp2_with fail
  have a3:x.1<ys.length:=by rw [c9.o];exact x.2
  have b7:=λW' (k:aq W W')=>Dm r c x.1 g o ms (nth ys x.1) q W' x.2 hc (bG.o.trans aP.o) ((HA.o.below a8.o).below k) WM.o (WY.o _ a3);have cA:(x.1:Int)<r:=by have:=x.2;omega
  obtain ⟨b2,o2,cl,p2⟩:=(HB.o.below a8.o).num a3;subst cl
  have cv:G<N:=by
   obtain ⟨g6,d6,I,_,Z⟩:=a0.o.form (by omega:0<c);simp only [Rv,Option.some.injEq,Addr.mk.injEq] at I;have:=HN.o;have h7:G<w2.heap.size:=by rw [I.1.1];exact Z
   omega
  have b8:¬G=N:=ap;have bn:¬G=w.heap.size+1:=by have:=HG.o;omega
  have bh:¬G=w.heap.size+1+1:=by have:=HG.o;omega
  have cr:¬G=b2:=by
   obtain ⟨b3,o3,e3,p3⟩:=HB.o.num a3;have J:b3<w.heap.size:=aB p3;simp only [Option.some.injEq,Addr.mk.injEq] at e3;have:=HG.o;omega
  have bV:=aa b7;clear b7 a3;refine nG (λR=>R.cell? (ar N 0)=some (.slice (some (ar G 0)) c c)/\R.cell? (ar (w.heap.size+1) 0)=some (.slice (some (ar b2 o2)) r e)/\R.cell? (ar (w.heap.size+1+1) 0)=some (RI q)/\R.cell? (ar b2 (o2+x.1))=some (RI (nth ys x.1))) (by kernel_rfl) (by kernel_rfl) (by rintro ⟨_,_,h⟩;exact h) ?_;have u:(λR:R8=>R.cell? (ar N 0)=some (.slice (some (ar G 0)) c c)/\R.cell? (ar (w.heap.size+1) 0)=some (.slice (some (ar b2 o2)) r e)/\R.cell? (ar (w.heap.size+1+1) 0)=some (RI q)/\R.cell? (ar b2 (o2+x.1))=some (RI (nth ys x.1))) W.drew:=⟨b0,bb,bs,p2⟩;clear b0 bb bs p2;refine wpAnyH_take (i:=0) (v:=?_) rfl (by kernel_rfl) (by kernel_rfl) (by kernel_rfl) (λ_ _ _ h=>h) (Or.inl ⟨by rfl,?_⟩) u ?_;rotate_left
  .intro w9 p;(try dsimp only at p);obtain ⟨s1,s2,s3,s4⟩:=p;go_simp;(try with_reducible rfl)
  simp only [QS,QT,QU,Act.put,QV,QX,QY];refine wpAnyH_take (i:=1) (v:=?_) rfl (by kernel_rfl) (by kernel_rfl) (by kernel_rfl) (λ_ _ _ h=>h) (Or.inl ⟨by rfl,?_⟩) u ?_;rotate_left
  .intro w9 p;(try dsimp only at p);obtain ⟨s1,s2,s3,s4⟩:=p;go_simp;(try with_reducible rfl)
  simp only [QS,QT,QU,Act.put,QV,QX,QY];refine wpAnyH_take (i:=2) (v:=?_) rfl (by kernel_rfl) (by kernel_rfl) (by kernel_rfl) (λ_ _ _ h=>h) (Or.inl ⟨by rfl,?_⟩) u ?_;rotate_left
  .intro w9 p;(try dsimp only at p);obtain ⟨s1,s2,s3,s4⟩:=p;go_simp;(try with_reducible rfl)
  simp only [QS,QT,QU,Act.put,QV,QX,QY];refine wpAnyH_take (i:=3) (v:=?_) rfl (by kernel_rfl) (by kernel_rfl) (by kernel_rfl) (λ_ _ _ h=>h) (Or.inl ⟨by rfl,?_⟩) u ?_;rotate_left
  .intro w9 p;(try dsimp only at p);obtain ⟨s1,s2,s3,s4⟩:=p;go_simp;(try with_reducible rfl)
  simp only [QS,QT,QU,Act.put,QV,QX,QY];refine wpAnyH_take (i:=4) (v:=?_) rfl (by kernel_rfl) (by kernel_rfl) (by kernel_rfl) (λ_ _ _ h=>h) (Or.inl ⟨by rfl,?_⟩) u ?_;rotate_left
  .intro w9 p;(try dsimp only at p);obtain ⟨s1,s2,s3,s4⟩:=p;go_simp;(try with_reducible rfl)
  simp only [QS,QT,QU,Act.put,QV,QX,QY];refine wpAnyH_take (i:=5) (v:=?_) rfl (by kernel_rfl) (by kernel_rfl) (by kernel_rfl) (λ_ _ _ h=>h) (Or.inl ⟨by rfl,?_⟩) u ?_;rotate_left
  .intro w9 p;(try dsimp only at p);obtain ⟨s1,s2,s3,s4⟩:=p;go_simp;(try with_reducible rfl)
  simp only [QS,QT,QU,Act.put,QV,QX,QY];refine wpAnyH_take (i:=6) (v:=?_) rfl (by kernel_rfl) (by kernel_rfl) (by kernel_rfl) (λ_ _ _ h=>h) (Or.inl ⟨by rfl,?_⟩) u ?_;rotate_left
  .intro w9 p;(try dsimp only at p);obtain ⟨s1,s2,s3,s4⟩:=p;go_simp;(try with_reducible rfl)
  simp only [QS,QT,QU,Act.put,QV,QX,QY];refine wpAnyH_ready (rs:=[7]) (by kernel_rfl) (by simp) ?_;refine AllReadyH.cons rfl (λK hK=>?_) AllReadyH.nil;simp only [QS,QT,QU];go_simp;refine (bV.o _ ?_).mono ?_
  .exact (QA _ W).drew
  rintro e w3 ⟨A',c',rfl,A,J⟩;dsimp only;refine hK.out _ _ ?_ (λp=>?_)
  .exact ⟨aw J u.1,aw J u.2.1,aw J u.2.2.1,aw J u.2.2.2⟩
  clear hK K;have aG:=az (w:=W.drew) T.o J
  have ad:∀a b,(some (ar G 0):N_)=some a->A'=some b->a.block≠b.block:=λa b ha hb=>by
   cases ha;subst hb
   have h1:=(A.form (by omega:0<c));obtain ⟨g5,d5,be,co,_⟩:=h1;simp only [Rv,Option.some.injEq] at be;rw [be.1];have h2:=T.o.form (by omega:0<c);obtain ⟨g6,d6,I,_,Z⟩:=h2;simp only [Rv,Option.some.injEq,Addr.mk.injEq] at I;have h7:G<W.heap.size:=by rw [I.1.1];exact Z
   show G≠g5
   have h8:W.heap.size<=g5:=co;omega
  have ab:=zq w.heap.size (some (ar G 0)) A' _ _ c c c' w3 aG (Rd.own A) (by unfold rJ;rw [cC,jm]) ap ad;refine wpAnyH_ready (rs:=[8]) (by kernel_rfl) (by simp) ?_;refine AllReadyH.cons rfl (λK hK=>?_) AllReadyH.nil;simp only [QS,QT,QU,Act.put,QV,QX,QY];obtain ⟨b1,cy,cc,c6⟩:=ag ab aG A J;clear ab aG A J ad;go_simp;refine b1.o.mono ?_;rintro e w4 ⟨rfl,ao,a2⟩;dsimp only;refine hK.out _ _ ?_ (λcw=>?_)
  .exact ⟨a2.cell p.1 (by simp [Value.ownBlock];exact b8),a2.cell p.2.1 (by simp [Value.ownBlock];exact bn),a2.cell p.2.2.1 (by simp [Value.ownBlock];exact bh),a2.cell p.2.2.2 (by simp [Value.ownBlock];exact cr)⟩
  refine wpAnyH_done (by kernel_rfl) ?_ _;have V:Keep (λi=>(Value.slice (some (ar G 0)) c c).ownBlock=some i) W w4:=((Keep.refl _ W).drew.trans (Keep.below c6.o)).trans a2;have cI:w.heap.size<=G:=by have:=HG.o;omega
  have bz:Below w.heap.size W w4:=V.toBelow a8.o.size (λk hk=>by simp [Value.ownBlock] at hk;omega);have cd:¬G=H.heap.size:=by have:=bI.o;omega
  have aR:=(V.block _ (Qw HM.o) (by simp [Value.ownBlock];exact cd)).trans HM.o;refine ⟨(lA V λk o hk ho=>?_).from _,⟨bz,λ_=>aR.trans HM.o.symm⟩,⟨⟨?_,?_,?_,?_,aR⟩,a8.o.trans bz⟩⟩
  .simp only [Value.ownBlock,Option.some.injEq] at hk;subst hk;exact xA T.o ho
  .rw [List.foldl_append];exact ao
  .exact (V.block _ (Qw HO.o) (by simp [Value.ownBlock];exact b8)).trans HO.o
  .exact (V.block _ (Qw H4.o) (by simp [Value.ownBlock];exact bn)).trans H4.o
  .exact (V.block _ (Qw H5.o) (by simp [Value.ownBlock];exact bh)).trans H5.o
 case done=>
  rintro D zs W hD rfl ⟨⟨L,Y,a4,a5,av⟩,a6⟩ hK;have hc:=Y.cell
  gi_wp2
  refine ⟨by simp,.inl ⟨_,_,rfl,run_takeDeferred hK,?_⟩⟩;rw [MB] at L;refine ⟨.tuple #[.slice (some (ar G 0)) c c,.bool true],by simp [results,results238,go_sem],_,_,rfl,ownsRow_putObj L _ hK rfl,a6.trans (belowK_b (w:=w) (Qx _) W D _ _ (by have:=O.o.size;simp at hD;omega) hK rfl rfl)⟩
 case stop=>
  rintro D c cb W _ _ h _;exact h.elim
end Go.Proofs.YtindmkcnjlgomaaGreat
namespace Go.Proofs.YtindmkcnjlgomaaGreat
open Go.RowKit
open Tryz
def Nu (c:Nat) (ys xs:Q_) (q:Int) (i:Nat):Int:=fO (nth ys (i/c)) (nth xs (i%c)) q
def mX (r c:Nat) (ys xs:Q_) (q:Int):Q_:=dU (r*c) (Nu c ys xs q)
def pK (r c:Nat) (ys xs:Q_) (q:Int) (h:List Nat) (x j:Nat):Q_:=dU (r*c) λi=>if i/c∈h\/(i/c=x/\i%c<j) then Nu c ys xs q i else 0
theorem qX (r c:Nat) (ys xs:Q_) (q:Int) (h:List Nat) (x j:Nat):(pK r c ys xs q h x j).length=r*c:=cC _ _
theorem GL (r c:Nat) (ys xs:Q_) (q:Int) (x:Nat):List.replicate (r*c) 0=pK r c ys xs q [] x 0:=
 fS (by simp) λk hk=>by
  rw [dB _ _ (by simpa using hk)];simp
theorem KD {r c:Nat} {ys xs:Q_} {q:Int} {o:List Nat} {x j:Nat} (J:x<r) (H:j<c):(pK r c ys xs q o x j).set (x*c+j) (fO (nth ys x) (nth xs j) q)=pK r c ys xs q o x (j+1):=by
 have p:x*c+j<r*c:=by
  have:=RH c (show x+1<=r by omega);rw [Ry] at this;omega
 have C:(x*c+j)/c=x:=by rw [Nat.add_comm,Nat.add_mul_div_right _ _ ap,Nat.div_eq_of_lt H,RB]
 have y:(x*c+j)%c=j:=by rw [Nat.add_comm,Nat.add_mul_mod_self_right,Nat.mod_eq_of_lt H]
 refine hZ (by rw [List.length_set,qX,qX]) λi B=>?_;rw [List.length_set,qX] at B;rw [je,qX];unfold pK;rw [bJ _ B,bJ _ B];by_cases h:i=x*c+j
 .subst h;rw [if_pos ⟨rfl,p⟩,if_pos (.inr ⟨C,by omega⟩)];unfold Nu;rw [C,y]
 .rw [if_neg (λu=>h u.1)];have A:¬(i/c=x/\i%c=j):=λu=>h (by rw [<-u.1,<-u.2,Nat.mul_comm];exact (Nat.div_add_mod i c).symm);by_cases h1:i/c∈o\/(i/c=x/\i%c<j)
  .rw [if_pos h1,if_pos (h1.imp id λu=>⟨u.1,by omega⟩)]
  .rw [if_neg h1,if_neg];rintro (v | ⟨v,I⟩)
   .exact h1 (.inl v)
   .exact h1 (.inr ⟨v,by
     rcases QO (i%c) j with D | D
     .exact D
     .exact absurd ⟨v,by omega⟩ A⟩)
theorem KE {r c:Nat} {ys xs:Q_} {q:Int} {o:List Nat} {x:Nat} (hc:1<=c) (y:Nat):pK r c ys xs q o x c=pK r c ys xs q (o++[x]) y 0:=by
 unfold pK;refine fB λi v=>?_;have hm:i%c<c:=Nat.mod_lt _ ap;by_cases h1:i/c∈o\/(i/c=x/\i%c<c)
 .rw [if_pos h1,if_pos];rcases h1 with h | ⟨h,_⟩
  .exact .inl (Rw.2 (.inl h))
  .exact .inl (Rw.2 (.inr (by simp [h])))
 .rw [if_neg h1,if_neg];rintro (p | ⟨_,u⟩)
  .rcases Rw.1 p with h | h
   .exact h1 (.inl h)
   .exact h1 (.inr ⟨by simpa using h,hm⟩)
  .omega
theorem Dh {r c:Nat} {ys xs:Q_} {q:Int} {h:List Nat} (x y:Nat):pK r c ys xs q h x 0=pK r c ys xs q h y 0:=by
 unfold pK;exact fB λi o=>by simp
theorem GM {r c:Nat} {ys xs:Q_} {q:Int} (hc:1<=c) (y:Nat):pK r c ys xs q (List.range r) y 0=mX r c ys xs q:=by
 unfold pK mX;refine fB λi h=>?_;rw [if_pos];refine .inl (List.mem_range.2 ?_);exact (Nat.div_lt_iff_lt_mul ap).2 h
def Bw (v d:Q_):Q_:=dU d.length λi=>if 0<nth v i then nth d i else 0
theorem IB (v d:Q_):(Bw v d).length=d.length:=cC _ _
theorem IC {v d:Q_} (h:W64 d):W64 (Bw v d):=fU λk hk=>by
 split
 .exact h k hk
 .omega
theorem sB (ms:Q_) (r c:Nat) (ys:Q_) (q:Int):(pT ms r c ys q).length=c:=by
 unfold pT
 have:∀(l:List Nat) (i:Q_),i.length=c->(l.foldl (pU ms c ys q) i).length=c:=by
  intro l
  induction l with
  | nil=>intro i h;exact h
  | cons a l ih=>intro i h;exact ih _ (by rw [ye];exact h)
 exact this _ _ (by simp)
theorem IO (ms:Q_) (r c:Nat) (ys:Q_) (q:Int):W64 (pT ms r c ys q):=by
 unfold pT
 have:∀(l:List Nat) (i:Q_),W64 i->W64 (l.foldl (pU ms c ys q) i):=by
  intro l
  induction l with
  | nil=>intro i h;exact h
  | cons a l ih=>intro i h;exact ih _ (vR _ _)
 exact this _ _ (λk hk=>by rw [dB _ _ hk];simp)
def gF (sz ps:Q_) (q:Int) (x y:Q_):Nat->Q_
 | 0=>pO (dI sz ps q x (sz.length-1)) y
 | j+1=>Bw (dI sz ps q x (sz.length-2-j)) (pT (wL sz ps (sz.length-2-j)) (szN sz (sz.length-1-j)) (szN sz (sz.length-2-j)) (gF sz ps q x y j) q)
def rx (sz ps:Q_) (q:Int) (x y:Q_):Nat->Q_
 | 0=>[]
 | j+1=>mX (szN sz (sz.length-1-j)) (szN sz (sz.length-2-j)) (gF sz ps q x y j) (dI sz ps q x (sz.length-2-j)) q++(gF sz ps q x y j++rx sz ps q x y j)
def fX (sz ps:Q_) (q:Int) (x y:Q_):Q_:=rx sz ps q x y (sz.length-1)
theorem Dg (r c:Nat) (ys xs:Q_) (q:Int):(mX r c ys xs q).length=r*c:=cC _ _
theorem mw {sz ps:Q_} {q:Int} {x y:Q_} (h:x.length=szN sz 0) (j:Nat):(gF sz ps q x y j).length=szN sz (sz.length-1-j):=by
 cases j with
 | zero=>show (pO _ _).length=_;rw [Ii,fG h];rfl
 | succ j=>show (Bw _ _).length=_;rw [IB,sB,show sz.length-1-(j+1)=sz.length-2-j by omega]
theorem vC (sz ps:Q_) (q:Int) (x y:Q_) (j:Nat):W64 (gF sz ps q x y j):=by
 cases j with
 | zero=>exact Ij _ _
 | succ j=>exact IC (IO _ _ _ _ _)
theorem lF:dN prog 26 2 (RI 0) 1 8:=⟨underlying26,info_parts (by kernel_rfl),rfl,by decide⟩
theorem NS:dN prog 27 33 (.int .u64 0) 1 8:=⟨underlying27,info_parts (by kernel_rfl),rfl,by decide⟩
theorem Cj (A:N_) (zs:Q_) (c:Nat) (w:R8) (hA:Rd w A (aA .u64 zs)) (hl:zs.length<=17592186043904):Calls prog 134 #[.slice A zs.length c] w λe y=>∃v,e=.returned v/\y.ownsRow w.heap.size 33 1 v zs.length (aA .u64 zs)/\aq w y:=by
 have q:=λ(w:R8)=>Lib.run_eql_slice_nil (P:=prog) w 27 33 A zs.length c 0 0 underlying27
 cases A with
 | none=>
  have B:zs=[]:=by
   cases zs with
   | nil=>rfl
   | cons z l=>obtain ⟨b,o,h,_⟩:=hA 0 _ rfl;cases h
  subst B;clear q;have q:=λ(w:R8)=>Lib.run_eql_slice_nil (P:=prog) w 27 33 none 0 c 0 0 underlying27;simp only [Option.isNone_none] at q;rw [List.length_nil];go_enter func134,ntmps134;go_wp2;go_ret;exact ⟨_,rfl,QI _ _ _ _,QA _ _⟩
 | some a=>
  go_enter func134,ntmps134;go_wp2_with (at_builtin;refine dK NS _ rfl (.tmp 5) (.tmp 6) rfl w.heap.size _ 0 [] rfl (fh w 33 1) _ zs.length c (aA .u64 zs) rfl (hA.alloc _) (by rw [bU];omega) (cH _ _) ap (by unfold maxLen;omega) (by simp) ?_);intro H D C i hb _ _;have u:=((QA _ w).alloc (Qx _) (.cells #[] 33)).trans hb;obtain ⟨p,x⟩:=ae i u;clear i hb u;go_wp2;go_ret;exact ⟨_,rfl,p.o,x.o⟩
def U64 (l:Q_):Prop:=∀k,k<l.length->0<=nth l k/\nth l k<=18446744073709551615
theorem Keep.below2 {S:Nat->Prop} {w i o:R8} (h:Keep S w i) (hb:Below w.heap.size i o):Keep S w o:=
 ⟨hb.os.trans h.os,hb.tape.trans h.tape,hb.output.trans h.output,QD h.size hb.size,λk hk hn=>(hb.block k hk).trans (h.block k hk hn)⟩
structure dq (w:R8) (b:Nat) (A:N_) (c:Nat) (l:Q_) (i:Nat):Prop where
 blk:w.heap[b]?=some (.cells #[.slice A l.length c,RI (i:Int)] 239 (0,0))
 rd:Rd w A (aA .u64 l)
 ne:∀a,A=some a->a.block≠b
theorem dq.lt {w:R8} {b c i:Nat} {A:N_} {l:Q_} (h:dq w b A c l i):b<w.heap.size:=Qw h.blk
theorem dq.below {w o:R8} {b c i:Nat} {A:N_} {l:Q_} (h:dq w b A c l i) (hb:aq w o):dq o b A c l i:=
 ⟨(hb.block b h.lt).trans h.blk,h.rd.below hb,h.ne⟩
theorem dq.drewN {w:R8} {b c i:Nat} {A:N_} {l:Q_} (h:dq w b A c l i) (n:Nat):dq (w.drewN n) b A c l i:=⟨h.blk,h.rd.drewN n,h.ne⟩
theorem Mc (A:N_) (l:Q_) (c:Nat) (w:R8) (hA:Rd w A (aA .u64 l)) (hl:l.length<=17592186043904):Calls prog 108 #[.slice A l.length c] w λe I=>∃b u B,e=.returned ((au b))/\dq I b u B l 0/\(∀a,u=some a->w.heap.size<=a.block)/\w.heap.size<=b/\aq w I:=by
 have hc:=Cj A l c w hA hl;have N:=aa hc;clear hc hA;go_enter func108,ntmps108;go_wp2_with fail;refine N.o.mono ?_;rintro e H ⟨v,rfl,x,hb⟩;obtain ⟨u,B,rfl,_⟩:=aD x;have h:=x.lt;obtain ⟨D,C,y⟩:=af x hb h;clear x hb h;go_wp2;go_ret
 have p:∀a,u=some a->w.heap.size<=a.block/\a.block<H.heap.size:=λa i=>by
  subst i;rcases D.o.2 with ⟨hn,_⟩ | ⟨g,cap,L,J,_⟩
  .cases hn
  .simp only [Rv,Option.some.injEq] at J;obtain ⟨rfl,_,_⟩:=J;exact y.o g rfl
 exact ⟨_,u,B,rfl,⟨Qy H _,(Rd.own D.o).alloc _,λa i O=>by have:=(p a i).2;omega⟩,λa i=>(p a i).1,C.o.size,C.o.alloc C.o.size _⟩
theorem sM (b c i:Nat) (A:N_) (l:Q_) (w:R8) (h:dq w b A c l i) (v:i<=l.length) (hl:l.length<=17592186043904):Calls prog 153 #[(au b)] w λe o=>e=.returned (RI ((l.length-i:Nat):Int))/\∃d,o=w.drewN d:=by
 obtain ⟨h1,p,u⟩:=h;obtain ⟨n,hn⟩:∃n,l.length=n:=⟨_,rfl⟩;rw [hn] at h1 v hl |-;obtain ⟨⟨x,B⟩,y⟩:=bx2 h1;have hb:=Qw h1;clear h1 p u hn;go_enter func153,ntmps153;go_wp2_with fail
 go_quiet (fail)
 go_wp2_with fail;go_ret;exact ⟨bj ap,_,rfl⟩
theorem zI (b c i m:Nat) (A:N_) (l:Q_) (w:R8) (h:dq w b A c l i) (H:i<l.length) (hl:l.length<=17592186043904) (L:U64 l) (hm:1<=m) (R:m<=1048576):Calls prog 155 #[(au b),RI m] w λe B=>e=.returned (.tuple #[RI (nth l i%m),.bool true])/\dq B b A c l (i+1)/\Keep (λj=>j=b) w B:=by
 have u:=sM b c i A l w h ap hl;obtain ⟨h1,v,N⟩:=h;obtain ⟨bA,oA,rfl,p⟩:=v.num H;obtain ⟨x,O⟩:∃x,nth l i=x:=⟨_,rfl⟩;have D:=L i H;rw [O] at p D |-;obtain ⟨n,hn⟩:∃n,l.length=n:=⟨_,rfl⟩;obtain ⟨T,Y,I,Hn⟩:=ag h1 v N hn;rw [hn] at h1 H hl u;obtain ⟨⟨x0,x1⟩,xf⟩:=bx2 h1;have hb:=Qw h1;have C:=aa u;clear h1 v N hn O u L;have Q:(((n-i:Nat):Int)==0)=false:=by rw [beq_eq_false_iff_ne];omega
 have a0:¬((m:Int)<1):=ap;have V:(i:Int)<n:=ap
 have hw:wrap64 (x%(m:Int))=x%(m:Int):=by
  have h1:=Int.emod_nonneg x (show (m:Int)≠0 by omega);have v:=Int.emod_lt_of_pos x (show (0:Int)<(m:Int) by omega);generalize x%(m:Int)=y at h1 v |-;unfold wrap64;omega
 have U:=aa hw;clear hw;go_enter func155,ntmps155;go_wp2_with fail;refine C.o.mono ?_;rintro e B ⟨rfl,d,rfl⟩;go_wp2_with fail
 go_quiet (fail)
 go_wp2_with fail;go_ret2;have J:Keep (λj=>j=b) w ((w.drewN (d+nq)).setCell (ar b 1) (RI ((i:Int)+1))):=Keep.setCell (S:=λj=>j=b) ((Keep.refl _ w).drewN _) (ar b 1) (.inr rfl) _;refine ⟨by rw [U.o];rfl,⟨?_,J.rd Y.o (λa Z=>I.o a Z),I.o⟩,J⟩;have:=RG (w.drewN (d+nq)) b 1 _ _ (RI ((i:Int)+1)) T.o;simpa using this
end Go.Proofs.YtindmkcnjlgomaaGreat
