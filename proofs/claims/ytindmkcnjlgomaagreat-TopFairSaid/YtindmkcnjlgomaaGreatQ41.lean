/- No condition. -/
import Derived.Test.YtindmkcnjlgomaaGreatQ11
import Derived.Maps.OwnSet
import Derived.Maps.OwnOps
set_option linter.unusedSimpArgs false
set_option linter.unusedVariables false
set_option maxRecDepth 100000
set_option maxHeartbeats 4000000
namespace Go.Proofs.YtindmkcnjlgomaaGreat
open Go.RowKit Go.Shelf
open Tryz
attribute [local go_sem] Oper.semAt_some
attribute [local go_sem] nv
theorem yX (n D O L S B:Nat) (A:N_) (rs:List Rg) (c d:Nat) (w:R8) (hA:kE w L S B A rs c d 258) (hB:Cd D O L S B A) (C:rs.length<=1048576) (R:d<=1048576) (N:∀r∈rs,r.1<=1048576/\r.2<=1048576):
  SeqStopsK Fence.wide n prog 148 #[(au L),(au S)] (λx:{r:Rg//r∈shR d rs}=>xg x.1) (Kd D O) (λys=>ys.map (·.1)=shR d rs) (λ_=>True) rs.length w:=λl J U W V hJ _ Y T=>by
 have h:=xI n l L S B A rs c d (Kd D O) (λ_ _ h k=>h.kd hB k) C R N (λv W=>∃i:List {r:Rg//r∈shR d rs},i.map (·.1)=v/\J i W) (λv W=>∃i:List {r:Rg//r∈shR d rs},i.map (·.1)=v/\U i W) W.heap.size
  (λs A B row hs hg hr=>by obtain ⟨i,h1,p⟩:=hs;exact ⟨i,h1,hJ i A B row p hg hr⟩)
  (λv x W1 hs hx hl=>by
   obtain ⟨i,rfl,p⟩:=hs;obtain ⟨fn,tmps,o,u,Z,hR⟩:=Y i ⟨x,hx⟩ W1 p (by simpa using hl);refine ⟨fn,tmps,o,u,Z,hR.mono ?_⟩;rintro e w5 (⟨rfl,H,I⟩ | ⟨rfl,y⟩)
   .exact .inl ⟨rfl,⟨_,by simp,H⟩,I⟩
   .exact .inr ⟨rfl,⟨_,by simp,y⟩⟩)
  W (hA.below V) ⟨[],rfl,T⟩
 refine h.mono ?_;rintro e w' ⟨Q,⟨ys,rfl,i,h1,p⟩ | ⟨v,_,i,h1,p⟩⟩
 .exact ⟨Q,.inl ⟨i,h1,p⟩⟩
 .exact ⟨Q,.inr ⟨i,trivial,p⟩⟩
theorem XA.r {P:Program} {ops:T0} {Q:Exit->T1->R8->Prop} {l m id:Nat} {a:T1} {w:R8} (n:Nat) (S:R8->Prop) (h:XA P ops Q S n [] a w.drew) (hm:P.follows .mixedOrders=true:=by kernel_rfl) (hnd:ops.all (λo=> !Qu o.op)=true:=by kernel_rfl) (hno:¬LetsOut Q:=by (rintro ⟨_,_,h⟩;exact h)): (Code.region id ops true).wpIn (Fence.wide.inRound l) m P Q a w:=by
 have i:=h.out;rw [pZ] at i;exact wpIn_region_any hm (lI (EF hnd) hno _ _ _ _ (pX _ _ _ _ i))
theorem Fr {K:T1->R8->Prop} {i:Exit->T1->R8->Prop} {n:Nat} {P:Program} {c:Code} {a:T1} {w:R8} (h:c.wp P (Exit.then K λ_ _ _=>False) a w):c.wpIn Fence.wide n P (Exit.then K i) a w:=
 wpIn_mono (wpIn_wide.2 h) λe _ _ he=>by cases e<;>first | exact he | exact he.elim
attribute [local go_sem] Oper.semAt_some
def rp (l:List Rg) (c:Nat):Nat:=(l.map λs=>(chR s c).length).sum
theorem Dk (l:List Rg) (x:Rg) (c:Nat):rp (l++[x]) c=rp l c+di (x.2-x.1) c:=by simp [rp,rz]
theorem La {l:List Rg} {c:Nat} (h:∀r∈l,r.2<=1048576):rp l c<=l.length*1048576:=by
 induction l with
 | nil=>simp [rp]
 | cons x l ih=>
  have h1:=fE (x.2-x.1) c;have o:=h x (List.mem_cons_self);have i:=ih λr hr=>h r (List.mem_cons_of_mem _ hr);simp only [rp,List.map_cons,List.sum_cons,rz,List.length_cons] at i |-;omega
theorem KZ (lo i k c:Nat) (w:R8) (h1:1<=k) (h2:k<=1048576) (h3:lo<=1048576) (h4:i<=1048576) (h5:1<=c) (h6:c<=1048576):Calls prog 97 #[.agg #[RI lo,RI i],RI k,RI c] w λe C=>e=.returned (RI (lC (lo,i) k c:Nat))/\aq w C:=by
 obtain ⟨J,v⟩:∃J,((w.alloc (.cells #[RI lo,RI i] 69)).alloc (.cells #[RI c] 3)).alloc (.cells #[RI 0] 3)=J:=⟨_,rfl⟩
 have g0:J.heap[w.heap.size]?=some (.cells #[RI lo,RI i] 69 (0,0)):=by
  rw [<-v,QL _ _ _ (by simp;omega),QL _ _ _ (by simp)];exact Qy w _
 have g1:J.heap[w.heap.size+1]?=some (.cells #[RI c] 3 (0,0)):=by
  rw [<-v,QL _ _ _ (by simp)];have:=Qy (w.alloc (.cells #[RI lo,RI i] 69)) (.cells #[RI c] 3);simpa using this
 have g2:J.heap[w.heap.size+1+1]?=some (.cells #[RI 0] 3 (0,0)):=by
  rw [<-v];have:=Qy ((w.alloc (.cells #[RI lo,RI i] 69)).alloc (.cells #[RI c] 3)) (.cells #[RI 0] 3);simpa using this
 have a8:aq w J:=by rw [<-v];exact (((br w).alloc (Qx _) _).alloc (by simp) _).alloc (by simp;omega) _
 have a4:J.heap.size=w.heap.size+1+1+1:=by rw [<-v];simp
 have t0:=λC q=>bx2 (sb g0 C q);obtain ⟨a9,Q,aG,G1,G2⟩:=ah v a8 a4 g1 g2;clear v g0 g1 g2 a8 a4;refine (callsIn_wide (n:=3)).1 ?_;refine callsIn_of_wp_marks func97 rfl trivial ?_ rfl;simp only [ntmps97,List.size_toArray,List.length_cons,List.length_nil,Nat.reduceAdd,Nat.reduceSub,Array.replicate_succ,Array.replicate_zero,List.push_toArray,List.append_toArray,List.nil_append,List.cons_append];have Z:=br J
 gi_wp2_with fail
 rw [a9.o];refine Fr (HA.g (λC:R8=>aq J C) ?_);refine HA.t ?_ [0,2,4,5] Z.drew ?_;refine HA.c 1 (mT lo i _ h3 h4) ?_;rintro e w1 ⟨rfl,k1⟩;have q1:=bt Z.drew k1;refine ⟨_,rfl,q1,λ_=>?_⟩;refine HA.c 3 (vx (i-lo) k _ h1 h2 ap) ?_;rintro e w2 ⟨v2,rfl,o2,k2⟩;obtain ⟨A,cc,rfl,_⟩:=aD o2;have Y:=bt q1 k2;have hl:=se A (fz (i-lo) k) cc lo w2 (Rd.own o2);rw [eH] at hl;refine ⟨_,rfl,Y,λ_=>?_⟩;refine HA.c 6 hl ?_;rintro e O ⟨L,S,B,rfl,hA,N,k3⟩;have a0:Cd J.heap.size O.heap.size L S B A:=⟨⟨QD Y.size N.1,Qw hA.l⟩,⟨QD Y.size N.2.1,Qw hA.s⟩,⟨QD Y.size N.2.2,Qw hA.b⟩,λx hx=>⟨QD q1.size (iT o2 x hx).1,QE (iT o2 x hx).2 k3.size⟩⟩;have U:=bt Y k3;refine ⟨_,rfl,U,λ_=>?_⟩;refine HA.d ?_;have a3:=λn=>yX n J.heap.size O.heap.size L S B A _ cc lo O hA a0 (by rw [eH];exact h2) h3 (vz h1 ap);have a1:=Q.o.trans (U.mono Q.o.size);have g1:=sb G1.o O U;have g2:=sb G2.o O U;have b2:=U.size;obtain ⟨ad,R,aR,b0⟩:=ag a3 a1 g1 g2;clear a3 a1 g1 g2 o2 hl hA N a0 k1 k2 k3 Z q1 Y U t0 a9 G1 G2 Q;simp only [Exit.then,Act.put,QV,QX,QY]
 gi_wp2_with fail
 refine' wpIn_rangeFunc_ownH (F:=Fence.wide) (n:=3) rfl ap (gf:=148) (lb:=#[(au L),(au S)]) rfl trivial (enters_of func148 (by kernel_rfl) rfl)
  (ad.o _) Kd.trans (PO (Qx _)) (br O) (λ_=>rfl)
  (λ(u:List {r:Rg//r∈shR lo (fz (i-lo) k)}) W=>(Boxed W (w.heap.size+1+1) 3 (RI (rp (u.map (·.1)) c:Nat))/\W.heap[w.heap.size+1]?=some (.cells #[RI c] 3 (0,0)))/\aq w W/\O.heap.size<=W.heap.size)
  (λ_ _ _=>False)
  (OwnFrom.and (OwnFrom.and (Own.from (boxed_own _ _ _) _) (eQ _ _ _ rfl)) (OwnFrom.and (ownFrom_below (Qx _) R.o.size) (λ_ _ _ _ hs hg _=>QD hs hg.size)))
  (λ_ _ _ _ _ hs _ _=>hs)
  ⟨⟨b0.o,aR.o⟩,R.o,Qx _⟩
  (λx a' W=>∃b,a'={tmps:=#[.agg #[RI lo,RI i],RI k,RI c,(au w.heap.size),undef,(au (w.heap.size+1)),RI 0,(au (w.heap.size+1+1)),(au b),.agg #[RI lo,RI i],RI (i-lo:Nat),RI k,.slice A k cc,(au w.heap.size),RI lo,.func (.func 148) #[] #[(au L),(au S)],.agg #[RI (x.1.1:Int),RI (x.1.2:Int)],undef,undef,undef,undef,undef,undef,undef],defers:=[]}/\W.heap[b]?=some (.cells #[RI (x.1.1:Int),RI (x.1.2:Int)] 69 (0,0)))
  (λx a' _ W W' row h hg hr=>by obtain ⟨b,e,hb⟩:=h;exact ⟨b,e,eQ _ b _ rfl () W W' row hb hg hr⟩)
  ?assign ?body ?done ?stop
 case assign=>
  rintro l u x W K ⟨⟨hn,hc⟩,p,V⟩ hK;unfold xg;have qa:aq W (W.alloc (.cells #[RI (x.1.1:Int),RI (x.1.2:Int)] 69)):=(QA _ W).alloc (Qx _) _
  gi_wp2
  exact hK _ _ ((KeepsOthers.of_grownBy (row:=none) (kr qa) (λ_ _ h=>by cases h)).from _) (vf (qa.mono V)) ⟨⟨hn.alloc _,(QL _ _ _ (Qw hc)).trans hc⟩,p.trans (qa.mono p.size),QD V qa.size⟩ ⟨_,rfl,Qy _ _⟩
 case body=>
  rintro l u x a' W _ _ ⟨⟨hn,hc⟩,p,V⟩ ⟨b,rfl,hb⟩ a2;have T:=yx (b:=(lo,i)) h1 h3 h4 x.1 x.2;have I:=Dk (u.map (·.1)) x.1 c;obtain ⟨r,hr⟩:∃r,x.1=r:=⟨_,rfl⟩;rw [hr] at T hb I |-
  have hm:=La (l:=u.map (·.1)) (c:=c) (by
   intro r' ao;obtain ⟨y,_,rfl⟩:=List.mem_map.1 ao
   exact (yx (b:=(lo,i)) h1 h3 h4 y.1 y.2).2)
  rw [eH] at a2;rw [List.length_map] at hm;have aM:=fE (r.2-r.1) c;obtain ⟨m,a5⟩:∃m,rp (u.map (·.1)) c=m:=⟨_,rfl⟩;rw [a5] at hm I hn;obtain ⟨y,hy⟩:∃y,di (r.2-r.1) c=y:=⟨_,rfl⟩;have b3:IntKind.i64.wrap ((m:Int)+(y:Int))=(m:Int)+y:=QC _ ap;have tn:=λC q=>bx1 (sb hn C q);have tc:=λC q=>bx1 (sb hc C q);have tb:=λC q=>bx2 (sb hb C q);have ln:=sl hn;have H:=λC=>sw (r.2-r.1) c C ap h5 h6;rw [hy] at H I;obtain ⟨Hn,Hc,ab,Hz,aP,a6⟩:=ai hn hc p V I H;clear hn hc hb p V a2 hm a5 I aM hy H;have Z:=br W
  gi_wp2_with fail
  refine XA.r 6 (λC:R8=>aq W C) ?_;refine XA.t ?_ [0,1,3] Z.drew ?_;refine XA.c 2 (mT r.1 r.2 _ T.1 T.2) ?_;rintro e w5 ⟨rfl,k5⟩;have q5:=bt Z.drew k5;refine ⟨_,rfl,q5,λ_=>?_⟩;refine XA.c 4 (a6.o w5) ?_;rintro e w6 ⟨rfl,rfl⟩;refine ⟨_,rfl,q5,λ_=>?_⟩;refine XA.t ?_ [5] q5 ?_;refine XA.e ?_;simp only [Re,Rf];go_wp2_with fail;have hk:Keep (λj=>j=w.heap.size+1+1) W (w5.setCell (ar (w.heap.size+1+1) 0) (RI ((m:Int)+y))):=Keep.setCell (S:=λj=>j=w.heap.size+1+1) (Keep.below q5) (ar (w.heap.size+1+1) 0) (.inr rfl) _;have b1:=RG w5 (w.heap.size+1+1) 0 _ _ (RI ((m:Int)+y)) (sb Hn.o w5 q5);refine ⟨(lA hk λj o hj ho=>?_).from _,⟨hk.size,λj j1 j2=>hk.block j (by have:=Hz.o;omega) (by have:=aG.o;omega)⟩,⟨?_,(hk.block _ (Qw Hc.o) ap).trans Hc.o⟩,ab.o.trans (hk.toBelow ab.o.size (λj hj=>ap)),QD Hz.o hk.size⟩
  .subst hj;have:=ho.symm.trans Hn.o
   cases this;rfl
  .rw [List.map_append,List.map_cons,List.map_nil,hr,aP.o,Int.natCast_add];unfold Boxed;simpa using b1
 case done=>
  rintro D ys W hD a7 ⟨⟨hn,hc⟩,p,V⟩ hK;have av:=hn.cell
  gi_wp2
  refine ⟨by simp,.inl ⟨_,_,rfl,run_takeDeferred hK,?_⟩⟩;rw [a7] at av;refine ⟨RI (rp (shR lo (fz (i-lo) k)) c:Nat),by simp [results,results97,go_sem,a7],rfl,p.trans (belowK_b (w:=w) (Qx _) W D _ _ (by have:=R.o.size;omega) hK rfl rfl)⟩
 case stop=>
  rintro D c u W _ _ h _;exact h.elim
end Go.Proofs.YtindmkcnjlgomaaGreat
namespace Go.Proofs.YtindmkcnjlgomaaGreat
open Go.RowKit
open Tryz
theorem Dc (p:Pln) (v P:Nat) (a0 a1 a2 a3 a5 b8:Value) (w:R8) (L:bT p) (b5:v<=12) (hP:ft w P p a0 a1 a2 a3 a5 (RI (v:Nat)) b8):Calls prog 63 #[(au P)] w λe u=>e=.returned (RI ((jh p*v:Nat):Int))/\aq w u:=by
 obtain ⟨BA,bc,GA,gc,LA,lc,hb,hB,hG,hL⟩:=hP;have tP:=λu q=>kH (sb hb u q);obtain ⟨x,B⟩:∃x,p.buks.length=x:=⟨_,rfl⟩;have bf:=L.buks;have bh:=L.W1;have bi:=L.W8;have bG:=L.mi;have b3:=L.ck;have ab:=L.ck2;have U:=λk (h:k<=p.buks.length)=>tx L h;have V:=λk (h:k<p.buks.length)=>wN (p:=p) h;have a7:=λk=>AY L k;have av:=λk=>L.buk k;rw [B] at bf U V;obtain ⟨a,ha⟩:∃a,2*x=a:=⟨_,rfl⟩;obtain ⟨b,a8⟩:∃b,p.mi+a=b:=⟨_,rfl⟩;obtain ⟨c,hc⟩:∃c,b+1=c:=⟨_,rfl⟩;obtain ⟨X,hX⟩:∃X,p.W*c=X:=⟨_,rfl⟩;have h1:(2:Int)*(x:Int)=(a:Int):=ap;have h2:(p.mi:Int)+(a:Int)=(b:Int):=ap;have h3:(b:Int)+1=(c:Int):=ap;have h4:(p.W:Int)*(c:Int)=(X:Int):=by rw [<-hX];push_cast;rfl
 have bA:X<=8*141:=by rw [<-hX];exact Nat.mul_le_mul bi ap
 have w1:IntKind.i64.wrap (a:Int)=a:=QC _ ap;have w2:IntKind.i64.wrap (b:Int)=b:=QC _ ap;have w3:IntKind.i64.wrap (c:Int)=c:=QC _ ap;have w4:IntKind.i64.wrap (X:Int)=X:=QC _ ap;have N:jh p=X+ug p x:=by unfold jh;rw [B,ha,a8,hc,hX]
 rw [B] at tP;obtain ⟨HB,bs,aP,b6,b0,O,bw,Hb⟩:=ak hB U V a7 av N B hb;have q0:=br w;clear hb hB hG hL U V a7 av N B ha a8 hc hX;go_enter func63,ntmps63;go_wp2_with fail;refine HA.g (λu:R8=>aq w u) ?_;refine HA.t ?_ [0,1,2,3,4,5,6,7,8,9,10,11,12,13,14,15,16,17,18,19,20,21,22] q0.drew ?_;refine HA.d ?_;have q1:=q0.drew;have Q1:=aa q1;go_wp2_with fail;clear q0 q1 h1 h2 h3 h4 w1 w2 w3 w4;obtain ⟨m,hm⟩:∃m,p.W-1=m:=⟨_,rfl⟩;obtain ⟨f,hf⟩:∃f,4*m=f:=⟨_,rfl⟩;have h1:(p.W:Int)-1=(m:Int):=ap;have h2:(4:Int)*(m:Int)=(f:Int):=ap;have w1:IntKind.i64.wrap (m:Int)=m:=QC _ ap;have w2:IntKind.i64.wrap (f:Int)=f:=QC _ ap;have b9:f<=28:=ap;obtain ⟨Hm,Hf⟩:=ae hm hf;clear hm hf
 go_loopw [3,36] (λn y wr=>∃k:Nat,k<=x/\y=RI k/\n=RI ((X+ug p k:Nat):Int)/\aq w wr) (λ_ y _=>x-(intOf y).toNat)
 .exact ⟨0,QB _,rfl,by simp [ug],Q1.o⟩
 case round=>
  obtain ⟨k,hk,rfl,rfl,q⟩:=hrel;have aM:=bs.o k hk;by_cases a6:k<x
  .have b4:(k:Int)<x:=ap;have bz:IntKind.i64.wrap ((k:Int)+1)=((k+1:Nat):Int):=by rw [QC _ ap];push_cast;rfl
   have bl:k<p.buks.length:=by rw [bw.o];exact a6
   have R:=eA bl;obtain ⟨bb,bo,rfl,J⟩:=HB.o _ _ R.1;obtain ⟨aG,bv,e',A⟩:=HB.o _ _ R.2;obtain ⟨rfl,rfl⟩:aG=bb/\bv=bo:=by simpa using e'.symm
   rw [<-Rz] at A;have Q:=b0.o k;have D:=b6.o k;have i:=aP.o k a6;obtain ⟨b1,b2,a4⟩:∃b1 b2,aK p.buks k=(b1,b2):=⟨_,_,rfl⟩;rw [a4] at J A Q D i;dsimp only at J A Q;have d0:=λu (q:aq w u)=>aw q J;have d1:=λu (q:aq w u)=>aw q A;obtain ⟨Y,H⟩:∃Y,wr.alloc (.cells #[RI (b1:Nat),RI (b2:Nat)] 69)=Y:=⟨_,rfl⟩;have h6:Y.heap[wr.heap.size]?=some (.cells #[RI (b1:Nat),RI (b2:Nat)] 69 (0,0)):=by rw [<-H];exact Qy wr _
   have k6:aq wr Y:=by rw [<-H];exact (br wr).alloc (Qx _) _
   have q6:=bt q k6;have t6:=λu q=>bx2 (sb h6 u q);have u6:=λu (q:aq Y u)=>tP u (bt q6 q);obtain ⟨z,hz⟩:∃z,lC (b1,b2) p.W p.ck=z:=⟨_,rfl⟩;have C:=KZ b1 b2 p.W p.ck;rw [hz] at D i C;obtain ⟨y,I⟩:∃y,f*z=y:=⟨_,rfl⟩;rw [Hm.o,Hf.o,I] at i;obtain ⟨s0,T⟩:∃s0,X+ug p k=s0:=⟨_,rfl⟩;rw [T];have h5:(f:Int)*(z:Int)=(y:Int):=by rw [<-I];push_cast;rfl
   have bn:y<=28*480:=by rw [<-I];exact Nat.mul_le_mul b9 D
   have w5:IntKind.i64.wrap (y:Int)=y:=QC _ ap;have w6:IntKind.i64.wrap ((s0:Int)+(y:Int))=(s0:Int)+y:=QC _ ap;obtain ⟨a9,aR,ao,be,Q6⟩:=ah i T C H q6;have Z:=br Y;clear R e' a4 hz I i T C H h6 k6 q6;go_wp2_with fail;rw [be.o];clear d0 d1 J A;refine HA.g (λu:R8=>aq Y u) ?_;refine HA.t ?_ [0,1,2,3,4,5,6,7,8,9,10,11,12,13,14,15,16,17,18,19,20,21] Z.drew ?_;refine HA.c 22 (ao.o _ bh ap ap ap b3 ab) ?_;rintro e w7 ⟨rfl,k7⟩;have q7:=bt Z.drew k7;refine ⟨_,rfl,q7,λ_=>?_⟩;refine HA.t ?_ [23,24,25] q7 ?_;refine HA.d ?_;have Q8:=aa (bt Q6.o q7);clear t6 u6 q7 k7 Z q;go_wp2_with fail;go_roundw
   .exact ⟨k+1,by omega,by go_num,by have:=aR.o;rw [a9.o,<-Rz,this];push_cast;rfl,Q8.o⟩
   .simp [intOf];omega
  .have b4:¬((k:Int)<x):=ap;have b7:k=x:=ap;rw [b7] at aM |-;rw [<-O.o];have ad:jh p<=810000:=by rw [O.o];omega
   obtain ⟨t,ht⟩:∃t,jh p=t:=⟨_,rfl⟩;rw [ht] at ad |-;obtain ⟨y,I⟩:∃y,t*v=y:=⟨_,rfl⟩;have Hy:an (jh p*v=y):=aa (by rw [ht];exact I);have h5:(t:Int)*(v:Int)=(y:Int):=by rw [<-I];push_cast;rfl
   have bn:y<=810000*12:=by rw [<-I];exact Nat.mul_le_mul ad b5
   have w5:IntKind.i64.wrap (y:Int)=y:=QC _ ap;have HQ:=aa q;clear I ht;go_wp2_with fail;go_ret;exact ⟨bj (by rw [<-Hy.out];push_cast;rfl),HQ.o⟩
theorem JR (p:Pln) (h:Nat) (V a1 Y N O i:Value) (w:R8) (hp:bT p) (a8:p.bu<=1048576) (a6:p.wi<=1048576) (ad:h<=12):Calls prog 31 #[.agg #[V,a1,Y,N,RI (p.W:Nat),O,RI (p.mi:Nat),RI (h:Nat),RI (p.bu:Nat),RI (p.ck:Nat),RI (p.wi:Nat),i,RI (p.n:Nat)]] w λe A=>e=.returned (RI ((jh p*h:Nat):Int))/\aq w A:=by
 obtain ⟨H,C⟩:∃H,w.alloc (.cells #[V,a1,Y,N,RI (p.W:Nat),O,RI (p.mi:Nat),RI (h:Nat),RI (p.bu:Nat),RI (p.ck:Nat),RI (p.wi:Nat),i,RI (p.n:Nat)] 83)=H:=⟨_,rfl⟩;have g0:H.heap[w.heap.size]?=some (.cells #[V,a1,Y,N,RI (p.W:Nat),O,RI (p.mi:Nat),RI (h:Nat),RI (p.bu:Nat),RI (p.ck:Nat),RI (p.wi:Nat),i,RI (p.n:Nat)] 83 (0,0)):=by rw [<-C];exact Qy w _
 have R:aq w H:=by rw [<-C];exact (br w).alloc (Qx _) _
 have t0:=λA q=>ww (sb g0 A q);have D:=D9 hp 0;have aP:=hp.W8;have T:=λx=>mj hp x 0;have L:∀x A,x<p.W->Calls prog 61 #[.agg #[V,a1,Y,N,RI (p.W:Nat),O,RI (p.mi:Nat),RI (h:Nat),RI (p.bu:Nat),RI (p.ck:Nat),RI (p.wi:Nat),i,RI (p.n:Nat)],RI (x:Nat),RI 0] A λe U=>∃v,e=.returned v/\U.ownsRow A.heap.size 187 12 v (aE p x 0).length (cD (aE p x 0))/\aq A U:=λx A hx=>ut p 0 x V a1 Y N O (RI (h:Nat)) i A hp a8 a6 hx;obtain ⟨ao,I,J,a9,av⟩:=ah C R D T L;have q0:=br H;clear C g0 R D T L;go_enter func31,ntmps31;go_wp2_with fail;rw [ao.o]
 go_loopw [3,4] (λn y wr=>∃k:Nat,k<=p.W/\y=RI k/\n=RI (bH k (λx=>(aE p x 0).length):Nat)/\bH k (λx=>(aE p x 0).length)<=k*8000000/\aq H wr) (λ_ y _=>p.W-(intOf y).toNat)
 .exact ⟨0,QB _,rfl,by simp [bH],by simp [bH],q0⟩
 case round=>
  obtain ⟨k,hk,rfl,rfl,B,q⟩:=hrel;by_cases a4:k<p.W
  .have a7:(k:Int)<p.W:=ap;have aM:IntKind.i64.wrap ((k:Int)+1)=((k+1:Nat):Int):=by rw [QC _ ap];push_cast;rfl
   have u:=eP k (λx=>(aE p x 0).length);have hl:=a9.o k;have hc:=av.o k wr a4;obtain ⟨s,hs⟩:∃s,bH k (λx=>(aE p x 0).length)=s:=⟨_,rfl⟩;rw [hs] at B u |-
   try dsimp only at u
   obtain ⟨m,hm⟩:∃m,(aE p k 0).length=m:=⟨_,rfl⟩;rw [hm] at hl hc u;obtain ⟨Hc,Z⟩:=ae hc u;clear hc u hs hm;go_wp2_with fail;refine Hc.o.mono ?_;rintro e w2 ⟨v2,rfl,o2,k2⟩;obtain ⟨A2,c2,rfl,_⟩:=aD o2;have Q2:=aa (bt q k2);clear o2 k2 q;go_wp2_with fail;go_roundw
   .exact ⟨k+1,by omega,by go_num,by rw [Z.o];push_cast;rfl,by rw [Z.o];omega,Q2.o⟩
   .simp [intOf];omega
  .have a7:¬((k:Int)<p.W):=ap;have Q:k=p.W:=ap;rw [Q] at B |-;rw [J.o] at B |-;obtain ⟨t,ht⟩:∃t,jh p=t:=⟨_,rfl⟩;rw [ht] at B |-;have ab:t<=64000000:=ap;obtain ⟨y,hy⟩:∃y,t*h=y:=⟨_,rfl⟩;have Hy:an (jh p*h=y):=aa (by rw [ht];exact hy);have h5:(t:Int)*(h:Int)=(y:Int):=by rw [<-hy];push_cast;rfl
   have aG:y<=64000000*12:=by rw [<-hy];exact Nat.mul_le_mul ab ad
   have w5:IntKind.i64.wrap (y:Int)=y:=QC _ ap;have HQ:=aa (I.o.trans (q.mono I.o.size));clear hy ht Q;go_wp2_with fail;go_ret;exact ⟨bj (by rw [<-Hy.out];push_cast;rfl),HQ.o⟩
theorem Ku (A:N_) (c:Nat) (D:N_) (p:Nat) (T:N_) (ct:Nat) (R:N_) (u:Nat) (i:Inp) (hs:bD i):∃v:R6,(∀w,Calls prog 32 #[.agg (aL A c D p T ct R u i)] w λe o=>e=.returned (.agg v)/\aq w o)/\
  ∀w,Calls prog 31 #[.agg v] w λe o=>e=.returned (RI (jF i:Nat))/\aq w o:=by
 have hg:=hs.g.c;have O:=hg.w;have y:=hg.mi;have x:=hg.st;have I:=hg.bu;have U:=hg.ch;have C:=hg.wi;have J:((ax i).W:Int)=i.cfg.workers:=by simp only [ax];omega
 have Q:((ax i).mi:Int)=i.cfg.micros:=by simp only [ax];omega
 have L:((i.cfg.steps.toNat:Nat):Int)=i.cfg.steps:=ap;have N:((ax i).bu:Int)=i.cfg.bucket:=by simp only [ax];omega
 have B:((ax i).ck:Int)=i.cfg.chunk:=by simp only [ax];omega
 have H:((ax i).wi:Int)=i.cfg.window:=by simp only [ax];omega
 have h:=λo=>JR (ax i) i.cfg.steps.toNat (.slice A i.cfg.sizes.length c) (RI i.cfg.shift) (RI i.cfg.rate) (RI i.cfg.mom) (RI i.cfg.batch) (RI i.cfg.cap) o hs.ok (by simp only [ax];omega) (by simp only [ax];omega) (by have:=hs.s;omega);rw [<-kQ hs.ok,J,Q,L,N,B,H] at h;exact ⟨_,λo=>lj A i.cfg.sizes.length c i.cfg.shift i.cfg.rate i.cfg.mom i.cfg.workers i.cfg.batch i.cfg.micros i.cfg.steps i.cfg.bucket i.cfg.chunk i.cfg.window i.cfg.cap D i.data.length p T i.start.length ct R i.draws.length u o,h⟩
end Go.Proofs.YtindmkcnjlgomaaGreat
namespace Go.Proofs.YtindmkcnjlgomaaGreat
open Go.RowKit Go.ChangeShapes Go.WideShapes Go.ChangeAt
open Tryz
theorem Cl (A:N_) (c:Nat) (D:N_) (v:Nat) (T:N_) (ct:Nat) (R:N_) (y:Nat) (i:Inp) (w:R8) (hs:bD i):Calls prog 8 #[.agg (aL A c D v T ct R y i)] w λe C=>e=.returned (RI (jF i:Nat))/\aq w C:=by
 obtain ⟨O,p,x⟩:=Ku A c D v T ct R y i hs;obtain ⟨I,H⟩:=ae p x;clear p x;go_enter func8,ntmps8;go_wp2_with fail;refine (I.o _).mono ?_;rintro e L ⟨rfl,h⟩;have B:=aa h;clear h;go_wp2_with fail;refine (H.o _).mono ?_;rintro e N ⟨rfl,u⟩;have J:=aa (bt B.o u);clear u;go_wp2_with fail;go_ret;exact ⟨rfl,((br w).alloc (Qx _) _).trans (J.o.mono (by simp))⟩
end Go.Proofs.YtindmkcnjlgomaaGreat
namespace Go.Proofs.YtindmkcnjlgomaaGreat
open Tryz
def nD (n:Int):Bool:=decide (1<=n/\n<=64)
def fV (l:Q_):Nat->Int->Option Nat
 | 0,_=>none
 | i+1,x=>if nth l i=x then some i else fV l i x
theorem Br (l:Q_) (x:Int):∀i,fV l i x=none↔∀j,j<i->nth l j≠x:=by
 intro i
 induction i with
 | zero=>simp [fV]
 | succ i ih=>
  simp only [fV]
  split
  .rename_i h;constructor
   .intro o;cases o
   .intro o;exact absurd h (o i ap)
  .rename_i h;rw [ih];constructor
   .intro o j u;rcases QO j i with p | p
    .exact o j p
    .obtain rfl:j=i:=ap;exact h
   .intro o j u;exact o j ap
theorem ta (l:Q_) (x:Int):∀i k,fV l i x=some k->k<i/\nth l k=x/\∀j,k<j->j<i->nth l j≠x:=by
 intro i
 induction i with
 | zero=>simp [fV]
 | succ i ih=>
  intro k h;simp only [fV] at h
  split at h
  .rename_i p;cases h;exact ⟨by omega,p,λj h1 u=>ap⟩
  .rename_i p
   obtain ⟨h1,u,y⟩:=ih k h;refine ⟨by omega,u,λj v A=>?_⟩;rcases QO j i with o | o
   .exact y j v o
   .obtain rfl:j=i:=ap;exact p
def pR (m:Int) (l:Q_) (i:Nat):Bool:=
 decide (0<=nth l i/\nth l i<m)&&match fV l i (nth l i) with
  | none=>true
  | some j=>decide (m<=(i:Int)-(j:Int))
theorem Iz (m:Int) (l:Q_) (i:Nat):pR m l i=true↔(0<=nth l i/\nth l i<m)/\∀j,j<i->nth l j=nth l i->m<=(i:Int)-(j:Int):=by
 unfold pR;rw [Bool.and_eq_true,decide_eq_true_iff];refine and_congr_right λ_=>?_
 cases h:fV l i (nth l i) with
 | none=>
  have:=(Br l _ i).1 h;simp only [true_iff];intro j p e;exact absurd e (this j p)
 | some k=>
  obtain ⟨h1,u,v⟩:=ta l _ i k h;simp only [decide_eq_true_iff];constructor
  .intro hm j p e;rcases QO k j with o | o
   .exact absurd e (v j o p)
   .omega
  .intro hm;exact hm k h1 u
def gD (m:Int) (l:Q_):Nat->Nat
 | 0=>0
 | i+1=>gD m l i+if pR m l i=true then 0 else if m<=l.length then 1 else 0
theorem Fp (m:Int) (l:Q_):∀i,gD m l i<=i:=by
 intro i
 induction i with
 | zero=>simp [gD]
 | succ i ih=>simp only [gD];split<;>(try split)<;>omega
theorem zB (m:Int) (l:Q_):∀i,gD m l i=0↔(m<=l.length->∀j,j<i->pR m l j=true):=by
 intro i
 induction i with
 | zero=>simp [gD]
 | succ i ih=>
  simp only [gD];constructor
  .intro h hm j u;have p:gD m l i=0:=ap;rcases QO j i with o | o
   .exact ih.1 p hm j o
   .obtain rfl:j=i:=ap;by_cases hg:pR m l j=true
    .exact hg
    .rw [if_neg hg,if_pos hm] at h;omega
  .intro h;have p:=ih.2 λhm j u=>h hm j ap;by_cases hg:pR m l i=true
   .rw [p,if_pos hg]
   .by_cases hm:m<=l.length
    .exact absurd (h hm i ap) hg
    .rw [p,if_neg hg,if_neg hm]
def vu (m:Int) (l:Q_):Bool:=nD m&&decide (gD m l l.length=0)
theorem G7 {l:List Nat}:∀{l':List Nat},l.Nodup->(∀y∈l,y∈l')->l.length<=l'.length:=by
 induction l with
 | nil=>intro l' _ _;simp
 | cons a l ih=>
  intro l' i h;have o:a∈l':=h a (by simp);rw [List.nodup_cons] at i;have h1:=ih (l':=l'.erase a) i.2 λy p=>(List.mem_erase_of_ne (by rintro rfl;exact i.1 p)).2 (h y (by simp [p]));rw [List.length_erase_of_mem o] at h1;have:=List.length_pos_of_mem o;simp;omega
theorem BI (l:Q_) (m:Nat) (hr:∀i,i<m->0<=nth l i/\nth l i<m) (I:∀i j,i<m->j<m->nth l i=nth l j->i=j) (x:Nat) (O:x<m):∃i,i<m/\nth l i=x:=by
 apply Classical.byContradiction;intro C;have v:∀i,i<m->nth l i≠x:=λi I e=>C ⟨i,I,e⟩
 -- the m places inject into m-1 numbers
 let f:Nat->Nat:=λi=>(nth l i).toNat
 have p:((List.range m).map f).Nodup:=by
  rw [List.nodup_iff_pairwise_ne,List.pairwise_map];refine List.Pairwise.imp_of_mem ?_ (List.nodup_iff_pairwise_ne.1 List.nodup_range);intro a b N hb D e;have A:a<m:=by simpa using N
  have o:b<m:=by simpa using hb
  have h1:=(hr a A);have J:=(hr b o);exact D (I a b A o (by simp only [f] at e;omega))
 have u:∀y∈(List.range m).map f,y∈(List.range m).erase x:=by
  intro y L;obtain ⟨i,H,rfl⟩:=List.mem_map.1 L;have h:i<m:=by simpa using H
  have h1:=hr i h;have J:=v i h;rw [List.Nodup.mem_erase_iff List.nodup_range];exact ⟨by simp only [f];omega,by simp [f];omega⟩
 have B:=G7 p u;rw [List.length_map,List.length_range,List.length_erase_of_mem (by simpa using O),List.length_range] at B;omega
structure oE (W:Nat) (l:Q_):Prop where
 len:l.length=W
 bd:∀k,k<W->0<=nth l k/\nth l k<W
 inj:∀a b,a<W->b<W->nth l a=nth l b->a=b
def nl (n:Nat):Q_:=(List.range n).map λk:Nat=>(k:Int)
theorem Dz (n:Nat):nl (n+1)=nl n++[(n:Int)]:=by simp [nl,Rx]
theorem xQ (n:Nat):(nl n).length=n:=by simp [nl]
theorem sq {n k:Nat} (h:k<n):nth (nl n) k=k:=by
 rw [dB _ _ (by rw [xQ];exact h)];simp [nl]
theorem oE.iota (W:Nat):oE W (nl W):=⟨xQ W,λk hk=>by rw [sq hk];omega,λa b h hb e=>by rw [sq h,sq hb] at e;omega⟩
def Jk (i j k:Nat):Nat:=if k=j then i else if k=i then j else k
theorem oE.swp {W:Nat} {l:Q_} {i j:Nat} (h:oE W l) (B:i<W) (A:j<W):oE W (swp l i j):=by
 have hn:∀k,nth (YtindmkcnjlgomaaGreat.swp l i j) k=nth l (Jk i j k):=λk=>by
  rw [yt (p:=l) (i:=i) (j:=j) (by rw [h.len];exact B) (by rw [h.len];exact A) k];unfold Jk
  split
  .rfl
  .split<;>rfl
 have hb:∀k,k<W->Jk i j k<W:=λk hk=>by
  unfold Jk
  split
  .exact B
  .split
   .exact A
   .exact hk
 refine ⟨by rw [Eb];exact h.len,λk hk=>?_,λa b C x e=>?_⟩
 .rw [hn];exact h.bd _ (hb k hk)
 .rw [hn,hn] at e;have o:=h.inj _ _ (hb a C) (hb b x) e;unfold Jk at o;by_cases a1:a=j
  .rw [if_pos a1] at o;by_cases u:b=j
   .omega
   .rw [if_neg u] at o;by_cases v:b=i
    .rw [if_pos v] at o;omega
    .rw [if_neg v] at o;omega
  .rw [if_neg a1] at o;by_cases y:a=i
   .rw [if_pos y] at o;by_cases u:b=j
    .rw [if_pos u] at o;omega
    .rw [if_neg u] at o;by_cases v:b=i
     .omega
     .rw [if_neg v] at o;omega
   .rw [if_neg y] at o;by_cases u:b=j
    .rw [if_pos u] at o;omega
    .rw [if_neg u] at o;by_cases v:b=i
     .rw [if_pos v] at o;omega
     .rw [if_neg v] at o;omega
theorem oE.mem {W:Nat} {l:Q_} (h:oE W l) {x:Nat} (i:x<W):(x:Int)∈l:=by
 obtain ⟨k,hk,e⟩:=BI l W h.bd h.inj x i;rw [<-e,dB l k (by rw [h.len];exact hk)];exact List.getElem_mem _
def nF (l:Q_) (T:Nat):Q_:=(List.replicate T l).flatten
theorem xi (l:Q_) (T:Nat):nF l (T+1)=nF l T++l:=by simp [nF,List.replicate_succ']
theorem nE (l:Q_) (T:Nat):(nF l T).length=T*l.length:=by simp [nF]
theorem qS {l:Q_} {W:Nat} (h:l.length=W):∀{T k:Nat},k<T*W->nth (nF l T) k=nth l (k%W)
 | 0,k,hk=>ap
 | T+1,k,hk=>by
  rw [xi];have e:(T+1)*W=T*W+W:=by rw [Nat.add_mul,Nat.one_mul]
  rcases QO k (T*W) with h1 | h1
  .rw [<-qS h h1,nth,nth,List.getD_eq_getElem?_getD,List.getD_eq_getElem?_getD,Rk (by rw [nE,h];exact h1)]
  .have hm:k%W=k-T*W:=by
    obtain ⟨r,rfl⟩:∃r,k=T*W+r:=⟨k-T*W,by omega⟩;rw [Nat.mul_comm T W,Nat.mul_add_mod,Nat.mod_eq_of_lt ap];omega
   rw [hm,nth,nth,List.getD_eq_getElem?_getD,List.getD_eq_getElem?_getD,Rl (by rw [nE,h];exact h1),nE,h]
theorem Gp {W T:Nat} {l:Q_} (h:oE W l) (h1:1<=W) (x:W<=64):vu W (nF l T)=true:=by
 unfold vu;rw [show nD (W:Int)=true from RC ⟨by omega,by omega⟩,Bool.true_and,decide_eq_true_iff,zB];intro _ j u;rw [nE,h.len] at u;rw [Iz,qS h.len u];refine ⟨h.bd _ (Nat.mod_lt _ ap),λi B e=>?_⟩;rw [qS h.len ap] at e;have A:=h.inj _ _ (Nat.mod_lt _ ap) (Nat.mod_lt _ ap) e;have y:=Nat.div_add_mod i W;have v:=Nat.div_add_mod j W;rcases QO (i/W) (j/W) with o | o
 .have p:W*(i/W+1)<=W*(j/W):=Nat.mul_le_mul_left W o;rw [Nat.mul_add,Nat.mul_one] at p;omega
 .have p:W*(j/W)<=W*(i/W):=Nat.mul_le_mul_left W o;omega
end Go.Proofs.YtindmkcnjlgomaaGreat
namespace Go.Proofs.YtindmkcnjlgomaaGreat
open Go.RowKit
open Tryz
theorem Ju {σ:Type} {st:σ->Int->σ×Bool} {I:R8->σ->Prop} {X:Value} {A:N_} {c:Nat} {l:Q_} {s:σ} {w:R8} (hl:l.length<=1000000) (hA:∀w s,I w s->Rd w A (aA .i64 l)) (R:∀w s z,I w s->z∈l->Calls prog 14 #[X,RI z] w λe J=>e=.returned (.bool (st s z).2)/\I J (st s z).1) (Q:I w s):Calls prog 36 #[X,.slice A l.length c] w λe J=>e=.returned (RI ((mM st s l).2:Nat))/\I J (mM st s l).1:=by
 obtain ⟨n,hn⟩:∃n,l.length=n:=⟨_,rfl⟩;rw [hn] at hl |-;obtain ⟨HA,HP,V,T⟩:=ag hA R Q hn;clear hA R Q hn;go_enter func36,ntmps36;go_wp2_with fail
 go_loopw [5,10] (λv i wr=>∃k:Nat,k<=n/\i=RI k/\v=RI ((mM st s (l.take k)).2:Nat)/\I wr (mM st s (l.take k)).1) (λ_ i _=>n-(intOf i).toNat)
 .exact ⟨0,QB _,rfl,rfl,V.o⟩
 case round=>
  obtain ⟨k,hk,rfl,rfl,u⟩:=hrel;by_cases H:k<n
  .have h:k<l.length:=by rw [T.o];exact H
   obtain ⟨b,o,rfl,p⟩:=(HA.o _ _ u).num h;have Z:(k:Int)<n:=ap;have N:=yB st s l k;obtain ⟨M,B⟩:∃M,mM st s (l.take k)=M:=⟨_,rfl⟩
   have y:mM st s (l.take (k+1))=((st M.1 (nth l k)).1,M.2+if (st M.1 (nth l k)).2 then 1 else 0):=by
    rw [List.take_add_one,Rj h,Option.toList_some,rK,B,dB _ _ h]
   rw [B] at u N |-;have hc:=HP.o _ _ (nth l k) u (by rw [dB _ _ h];exact List.getElem_mem h);obtain ⟨Y,C,HM⟩:=af hc y B;clear u hc y B h;have w1:IntKind.i64.wrap ((M.2:Int)+1)=(M.2:Int)+1:=QC _ ap;go_wp2_with fail;refine Y.o.mono ?_;rintro e w5 ⟨rfl,x⟩;have D:=aa x;clear x p
   cases hb:(st M.1 (nth l k)).2 with
   | true=>
    have L:=aa hb;clear hb;go_wp2_with fail;go_roundw
    .exact ⟨k+1,by omega,by go_num,by rw [C.o,L.o];simp,by rw [C.o];exact D.o⟩
    .simp [intOf];omega
   | false=>
    have L:=aa hb;clear hb;go_wp2_with fail;go_roundw
    .exact ⟨k+1,by omega,by go_num,by rw [C.o,L.o];simp,by rw [C.o];exact D.o⟩
    .simp [intOf];omega
  .obtain rfl:k=n:=ap;have D:=aa u;clear u;have O:l.take k=l:=by rw [<-T.o,Rt]
   have U:=aa O;clear O;go_wp2_with fail;go_ret;exact ⟨by rw [U.o];rfl,by rw [<-U.o];exact D.o⟩
section
variable {E:Nat->Prop} {i:Inp} {V w w':R8} {X:Nat} {M:WSt}
theorem WIn.run (h:WIn E i V X M w) (hs:bD i) (v: -9223372036854775808<=i.cfg.rate/\i.cfg.rate<=9223372036854775807) (u: -9223372036854775808<=i.cfg.mom/\i.cfg.mom<=9223372036854775807) {A:N_} {c:Nat} {l:Q_} (hl:l.length<=1000000) (hA:Rd V A (aA .i64 l)):Calls prog 36 #[(au X),.slice A l.length c] w λe w'=>e=.returned (RI ((dJ i M l).2:Nat))/\WIn E i V X (dJ i M l).1 w':=by
 refine (Ju (I:=λw' p=>WIn E i V X p w') (st:=pkZ i) hl (λw' p o=>hA.below o.q) (λw' p z o _=>o.pick hs v u z) h).mono ?_;rintro e w' ⟨he,o⟩;exact ⟨he,o⟩
end
theorem Nc:dg prog 29 15:=⟨⟨_,underlying29,rfl⟩,by kernel_rfl⟩
theorem Nd:dg prog 24 12:=⟨⟨_,underlying24,rfl⟩,by kernel_rfl⟩
theorem CF:dg prog 35 4:=⟨⟨_,underlying35,rfl⟩,by kernel_rfl⟩
theorem Gx {P0 P1 P2:R8->Nat->R8->Prop} {N Z D R U I Y J H O p u x v:Value} {T:N_} {ts ct:Nat} {A:N_} {pl pc n t:Nat} {B:Bool} {w:R8} (a6:pl<=1000000) (hn:n<=1000000000) (ht:t<=1000000000) (L:∀h,aq w h->Calls prog 13 #[.agg #[N,Z,D,R,U,I,Y,J,H,O,p,u,x,.slice T ts ct,v]] h λe i=>∃X,e=.returned (.tuple #[(au X),RI 0])/\P0 h X i/\aq h i) (Q:∀V X h,aq w V->P0 V X h->Calls prog 36 #[(au X),.slice A pl pc] h λe i=>e=.returned (RI (n:Nat))/\P1 V X i/\aq V i) (a0:∀V X h,aq w h->P1 V X h->Calls prog 37 #[.agg #[N,Z,D,R,U,I,Y,J,H,O,p,u],RI (ts:Nat)] h λe i=>e=.returned (RI (t:Nat))/\P2 V X i/\aq h i) (C:∀V X h,P2 V X h->Calls prog 26 #[(au X)] h λe i=>e=.returned (.bool B)/\aq h i):Calls prog 10 #[.agg #[N,Z,D,R,U,I,Y,J,H,O,p,u,x,.slice T ts ct,v],.slice A pl pc] w λe h=>e=.returned (.tuple #[.agg #[RI (n:Nat),RI ((t:Int)-n),RI ((pl:Int)-n),.bool B],RI 0])/\aq w h:=by
 obtain ⟨W1,y⟩:∃W1,(w.alloc (.cells #[N,Z,D,R,U,I,Y,J,H,O,p,u,x,.slice T ts ct,v] 29)).alloc (.cells #[RI 0,RI 0,RI 0,.bool false] 35)=W1:=⟨_,rfl⟩;have g0:W1.heap[w.heap.size]?=some (.cells #[N,Z,D,R,U,I,Y,J,H,O,p,u,x,.slice T ts ct,v] 29 (0,0)):=by rw [<-y];exact sb (Qy w _) _ ((br _).alloc (Qx _) _)
 have g1:W1.heap[w.heap.size+1]?=some (.cells #[RI 0,RI 0,RI 0,.bool false] 35 (0,0)):=by rw [<-y];have:=Qy (w.alloc (.cells #[N,Z,D,R,U,I,Y,J,H,O,p,u,x,.slice T ts ct,v] 29)) (.cells #[RI 0,RI 0,RI 0,.bool false] 35);rwa [QP] at this
 have q0:aq w W1:=by rw [<-y];exact ((br w).alloc (Qx _) _).alloc (by rw [QP];omega) _
 have tl:=sl g1;have a5:∀h,aq W1 h->h.cell? (ar w.heap.size 13)=some (.slice T ts ct):=λh q=>Qz h w.heap.size 13 _ _ _ (sb g0 h q);obtain ⟨Hn,Hr,Hs,Hd,a1,G0,G1,Q0⟩:=ak L Q a0 C y g0 g1 q0;clear L Q a0 C y g0 g1 q0;go_enter func10,ntmps10;go_wp2_with (refine aN #[N,Z,D,R,U,I,Y,J,H,O,p,u,x,.slice T ts ct,v] (b:=w.heap.size) (by rw [a1.o];exact G0.o) Nc rfl rfl rfl rfl ?_);rw [a1.o];refine (Hn.o _ Q0.o).mono ?_;rintro e w2 ⟨X,rfl,p0,k2⟩;obtain ⟨a3,K2⟩:=ae p0 k2;clear p0 k2;go_wp2_with fail;refine (Hr.o _ _ _ Q0.o a3.o).mono ?_;rintro e w3 ⟨rfl,p1,k3⟩;have q3:aq W1 w3:=k3;obtain ⟨a2,Q3⟩:=ae p1 q3;clear p1 k3;go_wp2_with (refine aN #[N,Z,D,R,U,I,Y,J,H,O,p,u] (b:=w.heap.size) (sb G0.o _ Q3.o) Nd rfl rfl rfl rfl ?_);refine (Hs.o _ _ _ (Q0.o.trans (Q3.o.mono Q0.o.size)) a2.o).mono ?_;rintro e w4 ⟨rfl,p2,k4⟩;obtain ⟨a4,Q4⟩:=ae p2 (bt Q3.o k4);have w1:IntKind.i64.wrap ((t:Int)-n)=(t:Int)-n:=QC _ ap;have a7:IntKind.i64.wrap ((pl:Int)-n)=(pl:Int)-n:=QC _ ap;clear p2 k4 q3 a5;go_wp2_with fail;refine (Hd.o _ _ _ a4.o).mono ?_;rintro e w5 ⟨rfl,k5⟩;have Q5:=aa (bt Q4.o k5);have H5:=aa (sb G1.o _ Q5.o);clear k5;go_wp2_with (refine aI (b:=w.heap.size+1) H5.o CF rfl rfl rfl rfl rfl rfl rfl ?_;intro w6 e6 k6;obtain ⟨E6,K6⟩:=ae e6 k6;clear e6 k6)
 try simp only [Exit.inBlock,Exit.then]
 refine QM (dO rfl rfl E6.o CF) rfl ?_;exact ⟨rfl,(Q0.o.trans (Q5.o.mono Q0.o.size)).trans (K6.o.toBelow (by have:=Q0.o.size;have:=Q5.o.size;omega) (λj e=>ap))⟩
end Go.Proofs.YtindmkcnjlgomaaGreat
namespace Go.Proofs.YtindmkcnjlgomaaGreat
open Go.RowKit Go.Maps
open Tryz
theorem vN (n:Int) (w:R8):Calls prog 38 #[.int .i64 n] w λe i=>e=.returned (.bool (nD n))/\w=i:=by
 by_cases h1:1<=n
 .by_cases h:n<=64
  .go_enter func38,ntmps38;go_wp2;go_ret;exact ⟨by simp [nD,h1,h],rfl⟩
  .go_enter func38,ntmps38;go_wp2;go_ret;exact ⟨by simp [nD,h],rfl⟩
 .go_enter func38,ntmps38;go_wp2;go_ret;exact ⟨by simp [nD];omega,rfl⟩
def yj (D:DataW Unit) (l:Q_) (i:Nat):Prop:=
 Maps.IsMap D/\∀x:Int,Maps.has D (.int .i64 x)=(fV l i x).isSome/\D.atKey (.int .i64 x) (.lit (.int .i64 0))=.lit (.int .i64 (((fV l i x).getD 0:Nat):Int))
theorem Bj (l:Q_):yj (.map []) l 0:=⟨Maps.isMap_empty,λx=>⟨rfl,rfl⟩⟩
theorem Dt {D:DataW Unit} {l:Q_} {i:Nat} (h:yj D l i) (hw:(Lit.int .i64 (nth l i)).wf=true):yj (D.put (.int .i64 (nth l i)) (.lit (.int .i64 (i:Int)))) l (i+1):=by
 obtain ⟨p,h⟩:=h;refine ⟨p.put _ _,λx=>?_⟩;by_cases u:nth l i=x
 .subst u;have hk:WideAt.IsKeyLit (.int .i64 (nth l i)):=trivial;rw [Maps.has_put_same p hk,Maps.atKey_put_same p hk];simp [fV]
 .have o:(Lit.int .i64 x)≠.int .i64 (nth l i):=λe=>by injection e with _ e;exact u e.symm
  rw [Maps.has_put_other o,Maps.atKey_put_other o,(h x).1,(h x).2];simp [fV,u]
theorem EP:Keyed prog 3:=int_keyed underlying3
theorem IW (w:R8):(zeroValue 3).run prog w=.ok (.int .i64 0) w:=by kernel_rfl
theorem FJ (m:Int) (l:Q_) (i:Nat) (BL Y L n:Nat) (D:DataW Unit) (w:R8) (hi:i<=140737488355328) (hn:n<=140737488355328) (hm:1<=m/\m<=64) (T:(Lit.int .i64 (nth l i)).wf=true) (hL:w.cell? ⟨BL,0,none⟩=some (.map (some L))) (hW:w.cell? ⟨Y,0,none⟩=some (.int .i64 m)) (a4:BL≠L) (a0:Y≠L) (V:yj D l i) (x:w.ownsMap prog 3 (plainElem prog 3) L n D):Calls prog 39 #[.int .i64 i,.int .i64 (nth l i),.pointer (some ⟨BL,0,none⟩),.pointer (some ⟨Y,0,none⟩)] w λe w'=>
   e=.returned (.bool (pR m l i))/\∃D',yj D' l (i+1)/\w'.ownsMap prog 3 (plainElem prog 3) L (n+1) D'/\w.grownBy w' (some L):=by
 have N:=aa T;clear T;go_enter func39,ntmps39;have C:=(V.2 (nth l i)).2;have H:=(V.2 (nth l i)).1;obtain ⟨c0,J⟩:∃c0:Int,c0=(((fV l i (nth l i)).getD 0:Nat):Int):=⟨_,rfl⟩;obtain ⟨s0,O⟩:∃s0:Bool,s0=(fV l i (nth l i)).isSome:=⟨_,rfl⟩;rw [<-J] at C;rw [<-O] at H
 have a2:0<=c0/\c0<=i:=by
  rw [J]
  cases h:fV l i (nth l i) with
  | none=>simp
  | some k=>have:=(ta l _ i k h).1;simp;omega
 obtain ⟨Hc,Hs,Z,R⟩:=ag J O C H;clear J O C H
 go_wp2_with (first
  | (at_lookup;refine wpList_lookup_own_ok_int _ rfl _ _ 93 rfl 3 3 .i64 EP underlying93 underlying3 (IW _) L n D rfl x _ _ rfl (keyOf_int_mk underlying3 N.o) ?_;intro c v a1;rw [Z.o] at v;rw [R.o];injection v with v;injection v with _ v;rw [<-v];clear v a1)
  | (at_mapUpdate;refine wpList_mapUpdate_own _ rfl _ _ _ 93 rfl 3 3 EP underlying93 _ L n D rfl x (by unfold maxLen;omega) _ _ _ rfl rfl (keyOf_int_mk underlying3 N.o) _ [] (plainElem_int underlying3 (WalkArith.wf_i64 ap)) ?_))
 intro w1 B Q;have a3:w1.cell? ⟨Y,0,none⟩=some (.int .i64 m):=Q.cell hW (by simpa using a0);have U:=Dt V N.o
 have A:pR m l i=(decide (0<=nth l i/\nth l i<m)&&(!s0||decide (m<=(i:Int)-c0))):=by
  rw [Hc.o,Hs.o,pR]
  congr 1
  cases fV l i (nth l i)<;>simp
 obtain ⟨p,I,u,y⟩:=ag A U B Q;clear A U B Q x V hL hW;by_cases g1:0<=nth l i
 .by_cases g2:nth l i<m
  .have e1:decide (0<=nth l i/\nth l i<m)=true:=by simp [g1,g2]
   rw [e1] at p;clear e1
   cases s0 with
   | true=>
    by_cases g3:m<=(i:Int)-c0
    .have e2:decide (m<=(i:Int)-c0)=true:=by simp [g3]
     go_wp2;go_ret;exact ⟨cP (by rw [p.o,e2];rfl),_,I.o,u.o,y.o⟩
    .have e2:decide (m<=(i:Int)-c0)=false:=by simp;omega
     go_wp2;go_ret;exact ⟨cP (by rw [p.o,e2];rfl),_,I.o,u.o,y.o⟩
   | false=>
    go_wp2;go_ret;exact ⟨cP (by rw [p.o];rfl),_,I.o,u.o,y.o⟩
  .go_wp2;go_ret;exact ⟨cP (by rw [p.o];simp;omega),_,I.o,u.o,y.o⟩
 .go_wp2;go_ret;exact ⟨cP (by rw [p.o];simp;omega),_,I.o,u.o,y.o⟩
theorem LP (m:Int) (A:N_) (l:Q_) (c:Nat) (w:R8) (hl:l.length<=140737488355328) (hA:Rd w A (aA .i64 l)) (T:∀k,k<l.length->(Lit.int .i64 (nth l k)).wf=true):Calls prog 11 #[.int .i64 m,.slice A l.length c] w λe w'=>e=.returned (.bool (vu m l))/\aq w w':=by
 have a0:=aa T;clear T;by_cases hr:nD m=true
 .have hm:1<=m/\m<=64:=by simpa [nD] using hr
  have a2:=@run_makeMap prog;go_enter func11,ntmps11;go_wp2_with (go_at_call 38;refine (vN _ _).mono ?_;rintro e w' ⟨rfl,rfl⟩)
  go_loopw [7,17] (λv i wr=>∃k:Nat,k<=l.length/\i=.int .i64 k/\v=.int .i64 (gD m l k)/\(∃D,yj D l k/\wr.ownsMap prog 3 (plainElem prog 3) (w.heap.size+1) k D)/\
    wr.cell? ⟨w.heap.size,0,none⟩=some (.int .i64 m)/\wr.cell? ⟨w.heap.size+1+1,0,none⟩=some (.map (some (w.heap.size+1)))/\aq w wr) (λ_ i _=>l.length-(intOf i).toNat)
  case atStart=>
   refine ⟨0,QB _,rfl,rfl,⟨.map [],Bj l,?_⟩,?_,?_,?_⟩
   .have:=(World.ownsMap_made (H:=Unit) (w.alloc (.cells #[.int .i64 m] 3)) prog 3 (plainElem prog 3)).alloc (.cells #[.map (some (w.heap.size+1))] 93);simpa using this
   .simp [go_sem]
   .simp [go_sem]
   .exact (((QA _ w).alloc (Qx _) _).alloc (by simp) _).alloc (by simp;omega) _
  case round=>
   obtain ⟨k,hk,rfl,rfl,⟨D,U,p⟩,L,O,hb⟩:=hrel;have a3:=Fp m l k;by_cases R:k<l.length
   .obtain ⟨b,o,rfl,hc⟩:=(hA.below hb).num R;have B:=FJ m l k (w.heap.size+1+1) w.heap.size (w.heap.size+1) k D wr ap ap hm (a0.o k R) O L ap ap U p;by_cases hg:pR m l k=true
    .rw [hg] at B;obtain ⟨Hg,J,HD,V,N⟩:=ah hg B U p hb;clear hg B U p hb;go_wp2_with ((with_reducible refine J.o.mono ?_);rintro e w1 ⟨rfl,D1,C,h,u⟩);have y:=u.cell L (by simp);have x:=u.cell O (by simp);go_roundw
     .exact ⟨k+1,by omega,by go_num,by rw [gD,if_pos Hg.o,Nat.add_zero],⟨D1,C,h⟩,y,x,N.o.grown u N.o.size (λj Z=>by cases Z;omega)⟩
     .simp [intOf];omega
    .have I:=hg;rw [Bool.not_eq_true] at I;rw [I] at B;obtain ⟨Hg,J,HD,V,N⟩:=ah hg B U p hb;clear hg I B U p hb;go_wp2_with ((with_reducible refine J.o.mono ?_);rintro e w1 ⟨rfl,D1,C,h,u⟩;have y:=u.cell L (by simp);have x:=u.cell O (by simp))
     .have Y:m<=(l.length:Int):=by assumption
      go_roundw
      .exact ⟨k+1,by omega,by go_num,by rw [gD,if_neg Hg.o,if_pos Y];go_num,⟨D1,C,h⟩,y,x,N.o.grown u N.o.size (λj Z=>by cases Z;omega)⟩
      .simp [intOf];omega
     .have Y:(l.length:Int)<m:=by assumption
      go_roundw
      .exact ⟨k+1,by omega,by go_num,by rw [gD,if_neg Hg.o,if_neg ap,Nat.add_zero],⟨D1,C,h⟩,y,x,N.o.grown u N.o.size (λj Z=>by cases Z;omega)⟩
      .simp [intOf];omega
   .obtain rfl:k=l.length:=ap;by_cases Q:gD m l l.length=0
    .have a1:(((gD m l l.length:Nat):Int)==0)=true:=by simp [Q]
     have Hz:=aa Q;clear Q;go_wp2;go_ret;exact ⟨cP (by rw [vu,Hz.o,hr];rfl),hb⟩
    .have a1:(((gD m l l.length:Nat):Int)==0)=false:=by simp [Q]
     have Hz:=aa Q;clear Q;go_wp2;go_ret;exact ⟨cP (by rw [vu,hr,RD Hz.o];rfl),hb⟩
 .rw [Bool.not_eq_true] at hr;have hf:vu m l=false:=by rw [vu,hr];rfl
  go_enter func11,ntmps11;go_wp2_with (go_at_call 38;refine (vN _ _).mono ?_;rintro e w' ⟨rfl,rfl⟩);go_ret;exact ⟨by rw [hf];rfl,(QA _ w).alloc (Qx _) _⟩
end Go.Proofs.YtindmkcnjlgomaaGreat
namespace Go.Proofs.YtindmkcnjlgomaaGreat
open Go.RowKit
open Tryz
theorem th (p:Pln) (h:Nat) (C a1 D A B i:Value) (w:R8) (Z:bT p) (hn:1<=p.n) (N:p.bu<=1048576) (L:p.wi<=1048576) (O:h<=12) (J:∀u,aq w u->Calls prog 64 #[.agg #[C,a1,D,A,RI (p.W:Nat),B,RI (p.mi:Nat),RI (h:Nat),RI (p.bu:Nat),RI (p.ck:Nat),RI (p.wi:Nat),i]] u λe R=>e=.returned (RI 0)/\aq u R):Calls prog 37 #[.agg #[C,a1,D,A,RI (p.W:Nat),B,RI (p.mi:Nat),RI (h:Nat),RI (p.bu:Nat),RI (p.ck:Nat),RI (p.wi:Nat),i],RI (p.n:Nat)] w λe u=>e=.returned (RI ((jh p*h:Nat):Int))/\aq w u:=by
 obtain ⟨y,v⟩:∃y,w.alloc (.cells #[C,a1,D,A,RI (p.W:Nat),B,RI (p.mi:Nat),RI (h:Nat),RI (p.bu:Nat),RI (p.ck:Nat),RI (p.wi:Nat),i] 24)=y:=⟨_,rfl⟩;have Y:y.heap[w.heap.size]?=some (.cells #[C,a1,D,A,RI (p.W:Nat),B,RI (p.mi:Nat),RI (h:Nat),RI (p.bu:Nat),RI (p.ck:Nat),RI (p.wi:Nat),i] 24 (0,0)):=by rw [<-v];exact Qy w _
 have x:aq w y:=by rw [<-v];exact (br w).alloc (Qx _) _
 have hc:=xu p C a1 D A B (RI (h:Nat)) i y Z hn N L (λu q=>J u (x.trans (q.mono x.size)));obtain ⟨Q,H,Hc⟩:=af v x hc;have t0:=λu q=>kw (sb Y u q);have q0:=br y;clear v Y x hc J;go_enter func37,ntmps37;go_wp2_with fail;rw [Q.o];refine Hc.o.mono ?_;rintro e U ⟨P,rfl,hP,pa,T⟩;have I:=pa.agr (Agr.refl _ U);obtain ⟨Ht,V⟩:=ae (Dc p h P C a1 D A B i U Z O I) (H.o.trans (T.mono H.o.size));clear pa I T;go_wp2_with fail;refine Ht.o.mono ?_;rintro e w2 ⟨rfl,k2⟩;have K2:=aa (V.o.trans (k2.mono V.o.size));clear k2;go_wp2_with fail;go_ret;exact ⟨bj (by push_cast;rfl),K2.o⟩
theorem BY (p:Pln) (h:Nat) (L a1 O H I u:Value) (w:R8) (J:bT p) (hn:1<=p.n) (Z:p.bu<=1048576) (Y:p.wi<=1048576) (D:h<=12) (Q:∀i,aq w i->Calls prog 64 #[.agg #[L,a1,O,H,RI (p.W:Nat),I,RI (p.mi:Nat),RI (h:Nat),RI (p.bu:Nat),RI (p.ck:Nat),RI (p.wi:Nat),u]] i λe B=>e=.returned (RI 0)/\aq i B):Calls prog 12 #[.agg #[L,a1,O,H,RI (p.W:Nat),I,RI (p.mi:Nat),RI (h:Nat),RI (p.bu:Nat),RI (p.ck:Nat),RI (p.wi:Nat),u],RI (p.n:Nat)] w λe i=>e=.returned (RI ((jh p*h*p.W:Nat):Int))/\aq w i:=by
 obtain ⟨A,v⟩:∃A,w.alloc (.cells #[L,a1,O,H,RI (p.W:Nat),I,RI (p.mi:Nat),RI (h:Nat),RI (p.bu:Nat),RI (p.ck:Nat),RI (p.wi:Nat),u] 24)=A:=⟨_,rfl⟩;have g0:A.heap[w.heap.size]?=some (.cells #[L,a1,O,H,RI (p.W:Nat),I,RI (p.mi:Nat),RI (h:Nat),RI (p.bu:Nat),RI (p.ck:Nat),RI (p.wi:Nat),u] 24 (0,0)):=by rw [<-v];exact Qy w _
 have x:aq w A:=by rw [<-v];exact (br w).alloc (Qx _) _
 have hc:=λi (q:aq A i)=>th p h L a1 O H I u i J hn Z Y D (λB q'=>Q B (x.trans ((bt q q').mono x.size)));have a7:=tx J (Qx p.buks.length);have a8:=J.buks;have N:=J.W8;have ad:=J.mi
 have a4:jh p<=810000:=by
  have:p.W*(p.mi+2*p.buks.length+1)<=8*141:=Nat.mul_le_mul N ap;unfold jh;omega
 obtain ⟨t,ht⟩:∃t,jh p*h=t:=⟨_,rfl⟩;have R:t<=810000*12:=by rw [<-ht];exact Nat.mul_le_mul a4 D
 rw [ht] at hc |-;obtain ⟨y,V⟩:∃y,t*p.W=y:=⟨_,rfl⟩;have h5:(t:Int)*(p.W:Int)=(y:Int):=by rw [<-V];push_cast;rfl
 have a9:y<=810000*12*8:=by rw [<-V];exact Nat.mul_le_mul R N
 have w5:IntKind.i64.wrap (y:Int)=y:=QC _ ap;have ab:¬((p.W:Int)<0):=ap;rw [V];obtain ⟨a6,C,Hc⟩:=af v x hc;have t0:=λi q=>kw (sb g0 i q);have T:=br A;clear v g0 x hc Q ht V;go_enter func12,ntmps12;go_wp2_with fail;rw [a6.o];refine HA.g (λi:R8=>aq A i) ?_;refine HA.t ?_ [0,1,3,4,5] T.drew ?_;refine HA.c 2 (Hc.o _ T.drew) ?_;rintro e w1 ⟨rfl,k1⟩;have U:=bt T.drew k1;refine ⟨_,rfl,U,λ_=>?_⟩;refine HA.t ?_ [6,7] U ?_;refine HA.d ?_;have K1:=aa (C.o.trans (U.mono C.o.size));clear k1 U T t0;go_wp2_with fail;go_ret;exact ⟨rfl,K1.o⟩
def Kt (k:Cfg) (n:Int):Pln:=⟨k.workers.toNat,k.micros.toNat,k.bucket.toNat,k.chunk.toNat,k.window.toNat,n.toNat⟩
noncomputable def Jq (k:Cfg) (n:Int):Nat:=if iz k n=true then jh (Kt k n)*k.steps.toNat else 0
end Go.Proofs.YtindmkcnjlgomaaGreat
namespace Go.Proofs.YtindmkcnjlgomaaGreat
open Go.RowKit Go.ChangeShapes Go.WideShapes Go.ChangeAt
open Tryz
structure Oc (i:Inp):Prop where
 sp:vT i.cfg i.start.length (iz i.cfg i.start.length)
 eq:Jq i.cfg i.start.length=jF i
 le:jF i<=4860000
theorem wB.bnd {i:Inp} (h:wB i) (p:dQ i=0):Oc i:=by
 have hs:=h.sm p;have hg:=hs.g.c;have hc:=fl.2 hg;have u:=pE hg.z;have he:=hs.g.s;have hn:1<=i.start.length:=by rw [he];exact u
 have hm:=hs.n;have hr:iz i.cfg i.start.length=true:=by simp only [iz,hc,Bool.and_eq_true,RF];exact ⟨trivial,by omega,by omega⟩
 have o:=kQ hs.ok;have v:=qL hs.ok;have x:=hs.s;refine ⟨(h.2 p).1,?_,?_⟩
 .unfold Jq;rw [if_pos hr,o];rfl
 .rw [o];have:jh (ax i)*i.cfg.steps.toNat<=810000*6:=Nat.mul_le_mul v ap;omega
theorem JO {i:Inp} (hs:bD i) (l:Q_):(dJ i (fA i) l).2<=jF i/\((dJ i (fA i) l).1.fin i↔(dJ i (fA i) l).2=jF i):=by
 obtain ⟨h1,h⟩:=tA (dX.zero hs) hs l;rw [ud,RB] at h;have o:=h1.sum_le hs;rw [h] at o;exact ⟨o,by rw [h1.fin_iff hs,h]⟩
theorem Cf (A:N_) (c:Nat) (D:N_) (J:Nat) (T:N_) (ct:Nat) (R:N_) (H:Nat) (i:Inp) (B:N_) (l:Q_) (pc:Nat) (w:R8) (h:gW w A c D T ct R i) (hs:bD i) (hb:Oc i) (hl:l.length<=1000000) (hA:Rd w B (aA .i64 l)) {Bo:Bool} (hB:Bo=true↔(dJ i (fA i) l).1.fin i):Calls prog 10 #[.agg (aL A c D J T ct R H i),.slice B l.length pc] w λe o=>e=.returned (.tuple #[.agg #[RI ((dJ i (fA i) l).2:Nat),RI ((jF i:Int)-(dJ i (fA i) l).2),RI ((l.length:Int)-(dJ i (fA i) l).2),.bool Bo],RI 0])/\aq w o:=by
 have hr:=(JO hs l).1;have a1:=hb.le;have hg:=hs.g.c;have Y:=hg.w;have a0:=hg.mi;have Z:=hg.st;have U:=hg.bu;have a2:=hg.ch;have Q:=hg.wi;have L:((ax i).W:Int)=i.cfg.workers:=by simp only [ax];omega
 have I:((ax i).mi:Int)=i.cfg.micros:=by simp only [ax];omega
 have N:((i.cfg.steps.toNat:Nat):Int)=i.cfg.steps:=ap;have O:((ax i).bu:Int)=i.cfg.bucket:=by simp only [ax];omega
 have y:((ax i).ck:Int)=i.cfg.chunk:=by simp only [ax];omega
 have C:((ax i).wi:Int)=i.cfg.window:=by simp only [ax];omega
 have x:=λo (q:aq w o)=>th (ax i) i.cfg.steps.toNat (.slice A i.cfg.sizes.length c) (RI i.cfg.shift) (RI i.cfg.rate) (RI i.cfg.mom) (RI i.cfg.batch) (RI i.cfg.cap) o hs.ok (by have:=pE hg.z;have:=hs.g.s;simp only [ax];omega) (by simp only [ax];omega) (by simp only [ax];omega) (by have:=hs.s;omega) (λp q'=>by
  have:=mx A c i.cfg p (h.c.below (bt q q'));rw [fl.2 hg] at this;rw [L,I,N,O,y,C]
  exact this)
 rw [<-kQ hs.ok,L,I,N,O,y,C] at x;refine Gx (P0:=λV X o=>WIn (λ_=>False) i V X (fA i) o) (P1:=λV X o=>WIn (λ_=>False) i V X (dJ i (fA i) l).1 o) (P2:=λV X o=>WIn (λ_=>False) i V X (dJ i (fA i) l).1 o) hl ap ap (λo q=>?_) (λV X o q v=>?_) (λV X o q v=>?_) (λV X o v=>?_)
 .refine (oK (E:=λ_=>False) A c D J T ct R H i o (h.below q) hs (λj e=>e.elim)).mono ?_;intro e p hn;obtain ⟨X,h1,u,h3,h4⟩:=hn.win;exact ⟨X,h1,u,h4⟩
 .refine (v.run hs h.ra h.rm hl (hA.below q)).mono ?_;rintro e p ⟨h1,u⟩;exact ⟨h1,u,u.q⟩
 .refine (x o q).mono ?_;rintro e p ⟨h1,u⟩;exact ⟨h1,v.below u,u⟩
 .exact v.done hs hB
theorem KH {H:Type} {i:R9×Value->H} {W:R8} {base:Nat} {v:Value} {d:DataW H} {p:List MemPlace} (o:Value.okWide prog W .any base 27 v) (h:DataW.Trod i prog W 0 (λ_=>true) true 27 v d p) (z:ge prog 27 d):
  ∃(A:N_) (l:Q_) (c:Nat),v=.slice A l.length c/\Rd W A (aA .u64 l)/\U64 l:=by
 obtain ⟨a,len,cap,rfl⟩:=okWide_slice underlying27 o;obtain ⟨l,⟨A,c,e,h1,y,B,u,x⟩,_⟩:=nH uN h z;simp [Value.cells] at e;obtain ⟨rfl,rfl,rfl⟩:=e;exact ⟨_,l,_,rfl,u,I6 x⟩
theorem Dj {w h:R8} {o:Obj} (k:Keep (λj=>j=w.heap.size) (w.alloc o) h):aq w h:= ((br w).alloc (Qx _) o).trans (k.toBelow (by rw [QP];omega) (λj i=>ap))
theorem Ni {i:Inp} {o p:Nat} {l:Q_} (hs:bD i) (u:(ax i).W=o) (y:jF i=p) (h:oE o l):(dJ i (fA i) (nF l p)).1.fin i:=by
 have v:=hs.g.c.ca;unfold nF;exact vt hs ap _ (dX.zero hs) (λb hb x A=>by rw [(List.mem_replicate.1 hb).2];exact h.mem (by rw [<-u];exact A)) (by rw [Rp,y];omega)
theorem zC (A:N_) (c:Nat) (i:Inp) (w:R8) (h:kF w A c i.cfg) (hs:bD i):Calls prog 12 #[.agg #[.slice A i.cfg.sizes.length c,RI i.cfg.shift,RI i.cfg.rate,RI i.cfg.mom,RI i.cfg.workers,RI i.cfg.batch,RI i.cfg.micros,RI i.cfg.steps,RI i.cfg.bucket,RI i.cfg.chunk,RI i.cfg.window,RI i.cfg.cap],RI (i.start.length:Nat)] w λe L=>e=.returned (RI ((jF i*(ax i).W:Nat):Int))/\aq w L:=by
 have hg:=hs.g.c;have O:=hg.w;have H:=hg.mi;have D:=hg.st;have J:=hg.bu;have Q:=hg.ch;have I:=hg.wi;have x:((ax i).W:Int)=i.cfg.workers:=by simp only [ax];omega
 have C:((ax i).mi:Int)=i.cfg.micros:=by simp only [ax];omega
 have y:((i.cfg.steps.toNat:Nat):Int)=i.cfg.steps:=ap;have B:((ax i).bu:Int)=i.cfg.bucket:=by simp only [ax];omega
 have u:((ax i).ck:Int)=i.cfg.chunk:=by simp only [ax];omega
 have v:((ax i).wi:Int)=i.cfg.window:=by simp only [ax];omega
 have o:=BY (ax i) i.cfg.steps.toNat (.slice A i.cfg.sizes.length c) (RI i.cfg.shift) (RI i.cfg.rate) (RI i.cfg.mom) (RI i.cfg.batch) (RI i.cfg.cap) w hs.ok (by have:=pE hg.z;have:=hs.g.s;simp only [ax];omega) (by simp only [ax];omega) (by simp only [ax];omega) (by have:=hs.s;omega) (λp N=>by
  have:=mx A c i.cfg p (h.below N);rw [fl.2 hg] at this;rw [x,C,y,B,u,v]
  exact this)
 rw [<-kQ hs.ok,C,y,B,u,v] at o;rw [x] at o;exact o
theorem zw {H:Type} {cf:R9×Value->H} {base:Nat} {v0 v1:Value} {d0 d1:DataW H} {p0 p1:List MemPlace} (W:R8) (o0:Value.okWide prog W .any base 29 v0) (h0:DataW.Trod cf prog W 0 (λ_=>true) true 29 v0 d0 p0) (z0:ge prog 29 d0) (o1:Value.okWide prog W .any base 27 v1) (h1:DataW.Trod cf prog W 0 (λ_=>true) true 27 v1 d1 p1) (z1:ge prog 27 d1):Calls prog 3 #[v0,v1] W λe B=>e=.returned (.bool true)/\aq W B:=by
 obtain ⟨A,c,D,cd,T,ct,R,cr,i,rfl,hI,_⟩:=uQ o0 h0 z0;obtain ⟨B0,dl,e5,rfl,cl,co⟩:=KH o1 h1 z1;clear o0 h0 z0 o1 h1 z1;have a9:=λB (q:aq W B)=>ua A c D cd T ct R cr i none 0 0 B (hI.below q);have c9:=λB (q:aq W B) (hs:iZ i)=>(hI.below q).rd hs;have bw:=λB (q:aq W B)=>cl.below q;obtain ⟨W1,a6⟩:∃W1,W.alloc (.cells (aL A c D cd T ct R cr i) 29)=W1:=⟨_,rfl⟩;have hx:W1.heap[W.heap.size]?=some (.cells (aL A c D cd T ct R cr i) 29 (0,0)):=by rw [<-a6];exact Qy W _
 have hB:aq W W1:=by rw [<-a6];exact (br W).alloc (Qx _) _
 have t4:∀B,aq W1 B->B.cell? (ar W.heap.size 4)=some (RI i.cfg.workers):=λB q=>Qz B W.heap.size 4 _ _ _ (sb hx B q);have be:∀B,aq W1 B->B.cell? (ar W.heap.size 13)=some (.slice T i.start.length ct):=λB q=>Qz B W.heap.size 13 _ _ _ (sb hx B q);have tl:=sl hx;obtain ⟨U,d4,bi,HB,cL,Hx,b8⟩:=aj hx a6 c9 hB bw (λB (q:aq W1 B)=>hB.trans (q.mono hB.size)) (λB (q:aq W1 B)=>(jL B).mono λe d5 (h:_/\Below _ _ _)=>(⟨h.1,hB.trans ((q.trans (h.2.mono q.size)).mono hB.size)⟩:e=.returned (.bool true)/\aq W d5));obtain ⟨dn,a3⟩:∃dn,dl.length=dn:=⟨_,rfl⟩;rw [a3];obtain ⟨bf,bA,cO,T4,cv⟩:=ah a3 a9 co t4 be;clear a9 c9 hI hx hB a6 bw cl co a3 t4 be;go_enter func3,ntmps3;go_upto_region 1 with (fail);rw [d4.o];refine HA.g (λB:R8=>aq W1 B) ?_;have s0:=(br W1).drew;refine HA.ld 0 (aL A c D cd T ct R cr i) (λB q=>sb U.o B q) ez s0 ?_;refine HA.c 1 (bA.o _ (Hx.o _ s0)) ?_;rintro _ w2 ⟨⟨b,rfl,ad⟩,I⟩;have s1:=bt s0 I;refine ⟨_,rfl,s1,λ_=>?_⟩;rcases dW b with rfl | rfl
 .refine HA.t ?_ [2,3,4,5,6,7,8,9,10,11,12,13,14,15,16] s1 ?_;refine HA.d ?_;have Q2:=aa s1;clear s0 s1 I ad;go_wp2_with fail;refine (b8.o _ Q2.o).mono ?_;rintro e V ⟨rfl,h3⟩;go_wp2_with fail;go_ret;exact ⟨rfl,h3⟩
 have Hs:=aa (ad rfl);obtain ⟨Q,bl,bG⟩:=af (Hs.o.1.sm Hs.o.2.1) Hs.o.1.1 (Hs.o.1.bnd Hs.o.2.1);clear ad Hs;by_cases dp:100<dn
 .have b3:(100:Int)<dn:=ap;refine HA.t ?_ [2,3,4,5,6,7,8,9,10,11,12,13,14,15,16] s1 ?_;refine HA.d ?_;have Q2:=aa s1;clear s0 s1 I;go_wp2_with fail;refine (b8.o _ Q2.o).mono ?_;rintro e V ⟨rfl,h3⟩;go_wp2_with fail;go_ret;exact ⟨rfl,h3⟩
 have b3:¬((100:Int)<dn):=ap;have hW:=Q.o.g.c.w;have d6:=Q.o.w;obtain ⟨Z,b2⟩:∃Z:Nat,i.cfg.workers=(Z:Int):=⟨i.cfg.workers.toNat,by omega⟩;have b9:(ax i).W=Z:=by simp only [ax];omega
 have bv:=bG.o.le;have aP:=λB=>Cl A c D cd T ct R cr i B Q.o;obtain ⟨tt,a5⟩:∃tt,jF i=tt:=⟨_,rfl⟩;simp only [a5] at aP;rw [a5] at bv;have N:∀B (q:aq W1 B),_:=λB q=>zC A c i B (bi.o B (Hx.o _ q) bl.o).c Q.o;have t4:=T4.o;rw [b2] at t4;obtain ⟨d2,aG,e9,bo,dT,aM⟩:=ai N a5 b2 b9 t4 aP;obtain ⟨y,hy⟩:∃y,tt*Z=y:=⟨_,rfl⟩;have ek:y<=4860000*8:=by rw [<-hy];exact Nat.mul_le_mul bv ap
 have d7:IntKind.i64.wrap ((tt:Int)*(Z:Int))=(y:Int):=by rw [<-hy,QC _ (by rw [<-Int.natCast_mul,hy];omega)];push_cast;rfl
 have Hy:=aa hy;have ea:1<=Z/\Z<=8:=ap;clear N a5 b2 b9 hy T4 aP hW d6;refine HA.t ?_ [2,3,4,5,6,7,8,11,12,13] s1 ?_;refine HA.ld 9 (aL A c D cd T ct R cr i) (λB q=>sb U.o B q) ez s1 ?_;refine HA.c 10 (aM.o _) ?_;rintro _ V ⟨rfl,C⟩;have s2:=bt s1 C;refine ⟨_,rfl,s2,λ_=>?_⟩;by_cases ee:3000<y
 .have cj:(3000:Int)<y:=ap;refine HA.t ?_ [14,15,16] s2 ?_;refine HA.d ?_;have Q2:=aa s2;clear s0 s1 s2 I C t4;go_wp2_with fail;refine (b8.o _ Q2.o).mono ?_;rintro e V ⟨rfl,h3⟩;go_wp2_with fail;go_ret;exact ⟨rfl,h3⟩
 have cj:¬((3000:Int)<y):=ap;refine HA.t ?_ [14,15,16] s2 ?_;refine HA.d ?_;have Q3:=aa s2;have c4:=t4 V s2;clear s0 s1 s2 I C t4 d7;go_wp2_with fail;clear c4
 go_loopw [6,37] (λv u wr=>∃k:Nat,k<=Z/\u=RI (k:Nat)/\∃A' c',v=.slice A' k c'/\wr.ownsRow V.heap.size 3 1 v k (aA .i64 (nl k))/\aq V wr) (λ_ u _=>Z-(intOf u).toNat)
 .exact ⟨0,QB _,rfl,none,0,rfl,QI _ _ _ _,br V⟩
 case round=>
  obtain ⟨k,hk,rfl,A',c',rfl,ho,q⟩:=hrel;obtain ⟨HO,HQ⟩:=ae ho q;by_cases e6:k<Z
  .have ej:(k:Int)<Z:=ap;have av:=q.size;clear ho q;go_wp2_with (at_builtin;refine aX gq _ rfl (.tmp 40) (.tmp 42) rfl V.heap.size (.slice A' k c') k _ rfl HO.o [RI (k:Nat)] rfl rfl (by simp [Value.oneCell']) ap (by unfold maxLen;omega) av ?_);intro g c6 w6 o6 b6 _;obtain ⟨ao,aR⟩:=ae (show w6.ownsRow V.heap.size 3 1 (.slice (some (ar g 0)) (k+1) c6) (k+1) (aA .i64 (nl (k+1))) by rw [Dz,show aA .i64 (nl k++[(k:Int)])=aA .i64 (nl k)++[RI (k:Nat)] by simp [aA]];exact o6) (HQ.o.trans b6);clear o6 b6;go_wp2_with fail;go_roundw
   .exact ⟨k+1,by omega,by go_num,some (ar g 0),c6,rfl,ao.o,aR.o⟩
   .simp [intOf];omega
  .obtain rfl:k=Z:=ap;have e0:¬((k:Int)<k):=ap;have Q4:=aa (bt Q3.o HQ.o);clear ho q;go_wp2_with fail
   go_loopw [47] (λu wq=>∃I:Nat,I<=dn/\u=RI (I:Nat)/\∃l,oE k l/\wq.ownsRow V.heap.size 3 1 (.slice A' k c') k (aA .i64 l)/\aq V wq) (λu _=>dn-(intOf u).toNat)
   .exact ⟨0,QB _,rfl,_,oE.iota k,HO.o,HQ.o⟩
   case round=>
    clear HO HQ Q4;obtain ⟨I,e7,rfl,l,hl,ho,q⟩:=hrel;obtain ⟨HL,HO,HQ⟩:=af hl ho q;by_cases a8:I<dn
    .have ds:(I:Int)<dn:=ap;have cc:=hl.len;obtain ⟨b1,o1,rfl,p⟩:=(cL.o _ (Hx.o _ (bt Q3.o q))).num (k:=I) (by rw [bf.o];exact a8);have bn:=cO.o I (by rw [bf.o];exact a8);obtain ⟨d,hd⟩:∃d,nth dl I=d:=⟨_,rfl⟩;rw [hd] at p bn;obtain ⟨x,hx⟩:∃x,I%k=x:=⟨_,rfl⟩;have bI:x<k:=by rw [<-hx];exact Nat.mod_lt _ ap
     obtain ⟨dd,rfl⟩:∃dd:Nat,d=dd:=⟨d.toNat,by omega⟩;obtain ⟨z,hz⟩:∃z,dd%k=z:=⟨_,rfl⟩;have bV:z<k:=by rw [<-hz];exact Nat.mod_lt _ ap
     have d9:((I:Int)).tmod (k:Int)=(x:Int):=by rw [Int.tmod_eq_emod_of_nonneg ap,<-hx,Int.natCast_emod]
     have cy:((dd:Int)).tmod (k:Int)=(z:Int):=by rw [Int.tmod_eq_emod_of_nonneg ap,<-hz,Int.natCast_emod]
     have e1:IntKind.i64.wrap (x:Int)=(x:Int):=QC _ ap;have e2:IntKind.i64.wrap (z:Int)=(z:Int):=QC _ ap;have e3:IntKind.u64.wrap (k:Int)=(k:Int):=by unfold IntKind.wrap;simp [IntKind.signed,IntKind.bits];omega
     have e4:IntKind.u64.wrap (z:Int)=(z:Int):=by unfold IntKind.wrap;simp [IntKind.signed,IntKind.bits];omega
     have e8:¬(k=0):=ap
     obtain ⟨g,rfl⟩:∃g,A'=some (ar g 0):=by
      obtain ⟨g,e,hv,_⟩:=ho.form ap;simp only [Rv] at hv;exact ⟨g,hv.1⟩
     have dc:=ho.lt g rfl;obtain ⟨J,bh⟩:=ae (QF bI bV) dc;clear hl ho q hd bn hx hz;go_upto_region 13 with (fail);have s0:=(br wr).drew;refine HA.g (λB:R8=>aq wr B) ?_;refine HA.t ?_ [0,1,2,3,4,5,6,7,8,9] s0 ?_;refine HA.d ?_;obtain ⟨b0,a7⟩:=ae (az HO.o s0) (HQ.o.trans (s0.mono HQ.o.size));clear s0 e1 e2 e3 e4 d9 cy HO HQ p;have a1:wr.ownsRow V.heap.size 3 1 (.slice (some (ar g 0)) k c') k (aA .i64 l):=b0.o;have p1:=cG a1 J.o.1;have p2:=cG a1 J.o.2;have f1:=a1.frozenAt x;have f2:=a1.frozenAt z;clear a1;have eb:(x:Int)<k:=by have:=J.o.1;omega
     have ef:(z:Int)<k:=by have:=J.o.2;omega
     have bI:=J.o.1;have bV:=J.o.2;have bb:=aa cc;clear cc;go_wp2_with fail;refine XA.g 13 (λB:R8=>B.cell? (ar g x)=some (RI (nth l x))/\B.cell? (ar g z)=some (RI (nth l z))) ?_;refine XA.t0 ?_ [0,1,2,3,4,5,6,8,9,10] ⟨p1,p2⟩ ?_;refine XA.t ?_ [7,11] ⟨p1,p2⟩ ?_;refine XA.t0 ?_ [12] ⟨p1,p2⟩ ?_;refine XA.e ?_;simp only [Re,Rf];have HK:=aa (Keep.setCell (S:=λj=>j=g) (Keep.setCell (S:=λj=>j=g) (Keep.refl _ wr.drew).drew (ar g x) (.inr rfl) (RI (nth l z))) (ar g z) (.inr rfl) (RI (nth l x)));by_cases bz:z=x
     .subst bz;go_wp2_with fail;go_roundw
      .exact ⟨I+1,by omega,by go_num,swp l z z,HL.o.swp J.o.1 J.o.2,dF (dF b0.o.drew z _) z _,a7.o.trans (HK.o.toBelow a7.o.size (λj hj=>by have:=bh.o;omega))⟩
      .simp [intOf];omega
     .have dk:¬x=z:=λe=>bz e.symm;go_wp2_with fail;go_roundw
      .exact ⟨I+1,by omega,by go_num,swp l x z,HL.o.swp J.o.1 J.o.2,dF (dF b0.o.drew x _) z _,a7.o.trans (HK.o.toBelow a7.o.size (λj hj=>by have:=bh.o;omega))⟩
      .simp [intOf];omega
    .obtain rfl:I=dn:=ap;have dG:¬((I:Int)<I):=ap;have Q5:=aa (bt Q3.o q);clear hl ho q;go_wp2_with (refine aN (aL A c D cd T ct R cr i) (b:=W.heap.size) (sb U.o _ Q5.o) ez rfl rfl rfl rfl ?_);refine (aM.o _).mono ?_;rintro e w5 ⟨rfl,k5⟩;obtain ⟨cw,Q6⟩:=ae (az HO.o k5) (bt Q5.o k5);clear k5 HO HQ;go_wp2_with fail
     go_loopw [12,77] (λv u wp=>∃C:Nat,C<=tt/\u=RI (C:Nat)/\∃Y A2 c2,C*k=Y/\v=.slice A2 Y c2/\wp.ownsRow w5.heap.size 3 1 v Y (aA .i64 (nF l C))/\aq w5 wp) (λ_ u _=>tt-(intOf u).toNat)
     .exact ⟨0,QB _,rfl,0,none,0,Nat.zero_mul _,rfl,QI _ _ _ _,br w5⟩
     case round=>
      obtain ⟨C,ei,rfl,Y,A2,c2,O,rfl,b5,q3⟩:=hrel;obtain ⟨b7,cM⟩:=ae b5 q3;by_cases cb:C<tt
      .have dw:(C:Int)<tt:=ap
       have dv:Y+k<=3000:=by
        have h1:(C+1)*k<=tt*k:=RH k cb;rw [Nat.add_mul,Nat.one_mul,O,Hy.o] at h1;omega
       have av:=q3.size;obtain ⟨cs,bb,d3⟩:=af ((Rd.own cw.o).below q3) HL.o.len O;clear b5 q3 O;go_wp2_with (at_builtin;refine dK gq _ rfl (.tmp 79) (.tmp 80) rfl w5.heap.size _ Y _ rfl b7.o A' k c' (aA .i64 l) rfl cs.o (by rw [bU,bb.o];omega) (cH _ _) ap (by unfold maxLen;omega) av ?_);intro A4 c6 w6 o6 b6 _ _;obtain ⟨ao,aR⟩:=ae (show w6.ownsRow w5.heap.size 3 1 (.slice A4 (Y+k) c6) (Y+k) (aA .i64 (nF l (C+1))) by rw [xi,show aA .i64 (nF l C++l)=aA .i64 (nF l C)++aA .i64 l by simp [aA]];exact o6) (cM.o.trans b6);clear o6 b6;go_wp2_with fail;go_roundw
       .exact ⟨C+1,by omega,by go_num,Y+k,A4,c6,by rw [Nat.add_mul,Nat.one_mul,d3.o],rfl,ao.o,aR.o⟩
       .simp [intOf];omega
      .obtain rfl:C=tt:=ap;have dr:¬((C:Int)<C):=ap;obtain rfl:Y=y:=by rw [<-O,Hy.o]
       have L:(nF l C).length=Y:=by rw [nE,HL.o.len,O]
       have a2:=Ni Q.o bo.o aG.o HL.o;have hn:=(JO Q.o (nF l C)).2.1 a2;have qW:=bt Q6.o q3;have hp:=Cf A c D cd T ct R cr i A2 (nF l C) c2 wr (bi.o wr (Hx.o _ qW) bl.o) Q.o bG.o (by rw [L];omega) (Rd.own b7.o) (Bo:=true) ⟨λ_=>a2,λ_=>rfl⟩;rw [hn,aG.o,L,Int.sub_self] at hp
       have ab:=λB (q:aq wr B)=>LP (k:Int) A2 (nF l C) c2 B (by rw [L];omega) ((Rd.own b7.o).below q) (λj hj=>by
        rw [qS HL.o.len (by rw [O];omega)];have:=HL.o.bd (j%k) (Nat.mod_lt _ ap)
        exact WalkArith.wf_i64 ap)
       rw [Gp HL.o ap ap,L] at ab;obtain ⟨HP,QW,cA⟩:=af hp qW ab;clear hp hn a2 L b5 q3 qW ab O;go_wp2_with (refine aN (aL A c D cd T ct R cr i) (b:=W.heap.size) (sb U.o _ QW.o) ez rfl rfl rfl rfl ?_);refine HP.o.mono ?_;rintro e w9 ⟨rfl,k9⟩;obtain ⟨Q9,K9⟩:=ae (bt QW.o k9) k9;clear k9;go_upto_region 22 with (refine aI (Qy _ _) CF rfl rfl rfl rfl rfl rfl rfl ?_;intro a4 bO bN;obtain ⟨b4,bM⟩:=ae bO (Dj bN);clear bO bN);obtain ⟨a0,d8⟩:=ae (bt Q9.o bM.o) (bt K9.o bM.o);have da:∀B,aq a4 B->B.cell? (ar w9.heap.size 0)=some (RI (C:Nat)):=λB q=>Qz B _ 0 _ _ _ (sb b4.o B q);have cY:∀B,aq a4 B->B.cell? (ar w9.heap.size 3)=some (.bool true):=λB q=>Qz B _ 3 _ _ _ (sb b4.o B q);have cI:∀B,aq a4 B->B.cell? (ar W.heap.size 13)=some (.slice T i.start.length ct):=λB q=>cv.o B (bt a0.o q);have lR:=Qw b4.o;have s0:=(br a4).drew;refine HA.g (λB:R8=>aq a4 B) ?_;refine HA.c 0 (jL _) ?_;rintro _ ec ⟨rfl,c7⟩;have s1:=bt s0 c7;refine ⟨_,rfl,s1,λ_=>?_⟩;refine HA.t ?_ [1,2,3,4,5,6,7,8,9,10,11] s1 ?_;refine HA.ld 12 (aL A c D cd T ct R cr i) (λB q=>sb U.o B (bt a0.o q)) ez s1 ?_;refine HA.c 13 (aM.o _) ?_;rintro _ df ⟨rfl,cn⟩;have s2:=bt s1 cn;refine ⟨_,rfl,s2,λ_=>?_⟩;refine HA.t ?_ [14,15,16,17,18] s2 ?_;refine HA.c 19 (cA.o df (bt d8.o s2)) ?_;rintro _ bX ⟨rfl,c8⟩;have s3:=bt s2 c8;refine ⟨_,rfl,s3,λ_=>?_⟩;refine HA.t ?_ [20,21,22,24,25,26,28,29] s3 ?_;refine HA.ld 23 (#[.slice A i.cfg.sizes.length c,RI i.cfg.shift,RI i.cfg.rate,RI i.cfg.mom,RI i.cfg.workers,RI i.cfg.batch,RI i.cfg.micros,RI i.cfg.steps,RI i.cfg.bucket,RI i.cfg.chunk,RI i.cfg.window,RI i.cfg.cap]) (λB q=>sb U.o B (bt a0.o q)) yD s3 ?_;have ci:=(d2.o bX (bt a0.o s3)).mono (λe B h=>(⟨h.1.trans (by rw [aG.o,bo.o,Hy.o]),h.2⟩:e=.returned (RI (Y:Nat))/\aq bX B));refine HA.c 27 ci ?_;rintro _ el ⟨rfl,bs⟩;have s4:=bt s3 bs;refine ⟨_,rfl,s4,λ_=>?_⟩;refine HA.t ?_ [30,31,32] s4 ?_;refine HA.d ?_;have cx:=aa (Hx.o _ (bt a0.o s4));clear s0 s1 s2 s3 s4 c7 cn c8 bs ci da cY cI;go_wp2_with fail;go_ret;exact ⟨rfl,cx.o⟩
end Go.Proofs.YtindmkcnjlgomaaGreat
