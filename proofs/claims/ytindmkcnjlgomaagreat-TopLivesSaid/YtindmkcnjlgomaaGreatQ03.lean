/- No condition. -/
import Derived.Test.YtindmkcnjlgomaaGreatQ02
set_option linter.unusedSimpArgs false
set_option linter.unusedVariables false
set_option maxRecDepth 100000
set_option maxHeartbeats 4000000
namespace Go.Proofs.YtindmkcnjlgomaaGreat
open Go.RowKit
open Tryz
theorem XA.v {P:Program} {ops:T0} {Q:Exit->T1->R8->Prop} {S:R8->Prop} {n:Nat} {L:List Nat} {a:T1} {w:R8} {o:Oper} (i:Nat) (h:R8) (v:Value) (u:S h) (k:XA P ops Q S n (i::L) (a.put o.dst v) h) (p:ops[i]?=some o:=by (simp only [QZ,Ra,Rc];rfl)) (hr:dA ops L=[i]:=by decide +kernel) (hw:Region.wanted o (yielded ops a.tmps)=true:=by rfl) (he:(execOp a.eval o).run P w=.ok (.value v) h:=by go_simp):XA P ops Q S n L a w:=by
 refine XA.one i p hr λy x=>?_;rw [if_pos hw];unfold Oper.wp;rw [he];exact x.out _ _ u λ_=>k
def aZ (a:Acn):R7:=[.bool a.send,.bool a.add,RI (a.st:Nat),RI (a.bk:Nat),RI (a.ph:Nat),RI (a.rd:Nat),RI (a.ch:Nat),RI (a.at'.1:Nat),RI (a.at'.2:Nat)]
def eZ (l:List Acn):R7:=l.flatMap aZ
theorem rF (l:List Acn) (a:Acn):eZ (l++[a])=eZ l++aZ a:=by simp [eZ]
theorem EW:dN prog 124 129 (.agg RP) 9 64:=⟨underlying124,info_parts (by kernel_rfl),rfl,by decide⟩
theorem IS (snd:Bool) (i:Nat) (A:N_) (n c J u h N:Nat) (w:R8) (v:n<=i):Calls prog 85 #[.bool snd,RI i,.slice A n c,(au J),(au u),(au h),(au N)] w λe o=>e=.returned (.tuple #[])/\o=w:=by
 have p:¬((i:Int)<n):=ap;go_enter func85,ntmps85;go_wp2_with fail
 go_end0
 exact ⟨rfl,rfl⟩
theorem MN (snd:Bool) (i:Nat) (A:N_) (rs:List Rg) (n c J Pb Rb N base:Nat) (st bk lo hi W cc ph r:Nat) (x:Rg) (v:Value) (l:List Acn) (m:Nat) (w:R8) (hJ:w.heap[J]?=some (.cells #[RI (st:Nat),RI (bk:Nat),RI (lo:Nat),RI (hi:Nat),RI (W:Nat),RI (cc:Nat)] 71 (0,0))) (hP:w.heap[Pb]?=some (.cells #[RI (ph:Nat)] 3 (0,0))) (hR:w.heap[Rb]?=some (.cells #[RI (r:Nat)] 3 (0,0))) (hN:w.heap[N]?=some (.cells #[v] 124 (0,0))) (ho:w.ownsRow base 129 9 v m (eZ l)) (hb:base<=w.heap.size) (hA:Rd w A (aS rs)) (hn:rs.length=n) (hx:rs[i]?=some x) (hm:m<=8388608) (a9:n<=1048576) (a2:∀y,A=some y->y.block<base):Calls prog 85 #[.bool snd,RI i,.slice A n c,(au J),(au Pb),(au Rb),(au N)] w λe p=>e=.returned (.tuple #[])/\
   ∃v',p.heap[N]?=some (.cells #[v'] 124 (0,0))/\p.ownsRow base 129 9 v' (m+1) (eZ (l++[⟨snd, !snd&&ph==0,st,bk,ph,r,i,x⟩]))/\Keep (λj=>j=N\/v.ownBlock=some j) w p:=by
 have a8:i<n:=by rw [<-hn];exact (Ri.1 hx).1
 have a7:(i:Int)<n:=ap;have V:=oZ hx;obtain ⟨g,o,rfl,c0⟩:=hA _ _ V.1;obtain ⟨g',o',e',c1⟩:=hA _ _ V.2;obtain ⟨rfl,rfl⟩:g'=g/\o'=o:=by simpa using e'.symm
 rw [<-Rz] at c1;obtain ⟨h,Q⟩:∃h,w.alloc (.cells #[RI (st:Nat),RI (bk:Nat),RI (ph:Nat),RI (r:Nat),RI (i:Nat)] 127)=h:=⟨_,rfl⟩;have h0:h.heap[w.heap.size]?=some (.cells #[RI (st:Nat),RI (bk:Nat),RI (ph:Nat),RI (r:Nat),RI (i:Nat)] 127 (0,0)):=by rw [<-Q];exact Qy w _
 have D:aq w h:=by rw [<-Q];exact (br w).alloc (Qx _) _
 have xJ:=bx6 hJ;have xP:=bx1 hP;have xR:=bx1 hR;have U:=az ho D;have nt:=λb cs t' sg (a6:h.heap[b]?=some (.cells cs t' sg)) (a4:t'≠129) (e:v.ownBlock=some b)=>ay a6 a4 U e.symm;have R:=sb hP _ D;have T:=sb hN _ D;have kP:=λp (q:Keep (λj=>v.ownBlock=some j) h p)=>(q.block _ (Qw R) (nt _ _ _ _ R (by decide))).trans R;have kN:=λp (q:Keep (λj=>v.ownBlock=some j) h p)=>(q.block _ (Qw T) (nt _ _ _ _ T (by decide))).trans T;have tP:=λp q=>bx1 (kP p q);have tN:=λp q=>bx1 (kN p q);have t0:=λp (q:Keep (λj=>v.ownBlock=some j) h p)=>bx5 ((q.block _ (Qw h0) (nt _ _ _ _ h0 (by decide))).trans h0)
 have a0:¬v.ownBlock=some g':=λe=>by
  have h1:=(U.lt g' e).1;have h2:=a2 _ rfl;simp only at h2;omega
 have d0:=λp (q:Keep (λj=>v.ownBlock=some j) h p)=>q.cell (aw D c0) a0;have d1:=λp (q:Keep (λj=>v.ownBlock=some j) h p)=>q.cell (aw D c1) a0;obtain ⟨HN,HO,O,a5⟩:=ag kN U D Q;clear hJ hP hR hN ho D Q V hA e' hx hn h0 R T kP kN U nt a0 c0 c1 a2;go_enter func85,ntmps85;have q0:Keep (λj=>v.ownBlock=some j) h h.drew:=(Keep.refl _ _).drew;go_wp2_with fail;rw [a5.o];have a1:((ph:Int)==0)=(ph==0):=by rw [Bool.eq_iff_iff];simp
 cases snd
 .refine XA.g 16 (λp:R8=>Keep (λj=>v.ownBlock=some j) h p) ?_;refine XA.t ?_ [0,1,2,3,4,5,6,7,8,9,10,11,12,13] q0 ?_;obtain ⟨a,ha⟩:∃a:Acn,a=⟨false,(!false&&ph==0),st,bk,ph,r,i,x⟩:=⟨_,rfl⟩;refine XA.v 14 (h.drew.alloc (.cells (aZ a).toArray 129)) (.slice (some (ar h.heap.size 0)) 1 1) (q0.alloc _) ?_ rfl (by decide +kernel) rfl (by subst ha;go_simp;simp [aZ,a1];try rfl);refine XA.o 15 (λK' hK=>?_) rfl (by decide +kernel);have hO:=(HO.o.drew).alloc (.cells (aZ a).toArray 129);have a3:=O.o.size;refine bW EW (.tmp 23) (.tmp 37) rfl rfl base v m _ rfl hO (some (ar h.heap.size 0)) 1 1 (aZ a) rfl (λk u hu=>⟨_,_,rfl,by rw [RB,Qz _ h.heap.size k (aZ a).toArray 129 (0,0) (Qy h.drew _)];simpa using hu⟩) rfl (by simp [aZ,Value.oneCell']) ap (by unfold maxLen;omega) (by simp;omega) ?_;intro Y c5 H B Z L _;have I:Keep (λj=>v.ownBlock=some j) h H:=(q0.alloc _).grown L (λk hk=>.inr hk);refine hK.out _ _ I λ_=>?_;refine XA.e ?_;simp only [Re,Rf];have C:=HN.o H I;have e3:=RG H N 0 _ _ (.slice Y (m+1) c5) C;have k1:Keep (λj=>j=N) H (H.setCell (ar N 0) (.slice Y (m+1) c5)):=Keep.setCell (S:=λj=>j=N) (Keep.refl _ _) (ar N 0) (.inr rfl) _;have o6:=k1.own B (λj hj e=>ay C (by decide) B (by rw [hj,e]));have k6:Keep (λj=>j=N\/v.ownBlock=some j) w (H.setCell (ar N 0) (.slice Y (m+1) c5)):=Keep.setCell (S:=λj=>j=N\/v.ownBlock=some j) ((Keep.below O.o).trans (I.mono λk _ hk=>.inr hk)) (ar N 0) (.inr (.inl rfl)) _;obtain ⟨E3,O6,K6,HA⟩:=ag e3 o6 k6 ha;have xN:=tN H I;clear B Z L C e3 k1 o6 k6 tN tP t0 d0 d1 hK K' ha I hO;go_wp2_with fail
  go_end0
  refine ⟨rfl,_,by simpa using E3.o,?_,K6.o⟩;rw [rF,<-HA.o];exact O6.o
 .refine XA.g 16 (λp:R8=>Keep (λj=>v.ownBlock=some j) h p) ?_;refine XA.t ?_ [0,1,2,3,4,5,6,7,8,9,10,11,12,13] q0 ?_;obtain ⟨a,ha⟩:∃a:Acn,a=⟨true,(!true&&ph==0),st,bk,ph,r,i,x⟩:=⟨_,rfl⟩;refine XA.v 14 (h.drew.alloc (.cells (aZ a).toArray 129)) (.slice (some (ar h.heap.size 0)) 1 1) (q0.alloc _) ?_ rfl (by decide +kernel) rfl (by subst ha;go_simp;simp [aZ,a1];try rfl);refine XA.o 15 (λK' hK=>?_) rfl (by decide +kernel);have hO:=(HO.o.drew).alloc (.cells (aZ a).toArray 129);have a3:=O.o.size;refine bW EW (.tmp 23) (.tmp 37) rfl rfl base v m _ rfl hO (some (ar h.heap.size 0)) 1 1 (aZ a) rfl (λk u hu=>⟨_,_,rfl,by rw [RB,Qz _ h.heap.size k (aZ a).toArray 129 (0,0) (Qy h.drew _)];simpa using hu⟩) rfl (by simp [aZ,Value.oneCell']) ap (by unfold maxLen;omega) (by simp;omega) ?_;intro Y c5 H B Z L _;have I:Keep (λj=>v.ownBlock=some j) h H:=(q0.alloc _).grown L (λk hk=>.inr hk);refine hK.out _ _ I λ_=>?_;refine XA.e ?_;simp only [Re,Rf];have C:=HN.o H I;have e3:=RG H N 0 _ _ (.slice Y (m+1) c5) C;have k1:Keep (λj=>j=N) H (H.setCell (ar N 0) (.slice Y (m+1) c5)):=Keep.setCell (S:=λj=>j=N) (Keep.refl _ _) (ar N 0) (.inr rfl) _;have o6:=k1.own B (λj hj e=>ay C (by decide) B (by rw [hj,e]));have k6:Keep (λj=>j=N\/v.ownBlock=some j) w (H.setCell (ar N 0) (.slice Y (m+1) c5)):=Keep.setCell (S:=λj=>j=N\/v.ownBlock=some j) ((Keep.below O.o).trans (I.mono λk _ hk=>.inr hk)) (ar N 0) (.inr (.inl rfl)) _;obtain ⟨E3,O6,K6,HA⟩:=ag e3 o6 k6 ha;have xN:=tN H I;clear B Z L C e3 k1 o6 k6 tN tP t0 d0 d1 hK K' ha I hO;go_wp2_with fail
  go_end0
  refine ⟨rfl,_,by simpa using E3.o,?_,K6.o⟩;rw [rF,<-HA.o];exact O6.o
def jw (snd:Bool) (i:Nat) (rs:List Rg) (st bk ph r:Nat) (l:List Acn):List Acn:=if i<rs.length then l++[⟨snd, !snd&&ph==0,st,bk,ph,r,i,aK rs i⟩] else l
theorem yh (snd:Bool) (i:Nat) (A:N_) (rs:List Rg) (c J u p N base:Nat) (st bk lo L W I ph r:Nat) (v:Value) (l:List Acn) (w:R8) (V:w.heap[J]?=some (.cells #[RI (st:Nat),RI (bk:Nat),RI (lo:Nat),RI (L:Nat),RI (W:Nat),RI (I:Nat)] 71 (0,0))) (hP:w.heap[u]?=some (.cells #[RI (ph:Nat)] 3 (0,0))) (U:w.heap[p]?=some (.cells #[RI (r:Nat)] 3 (0,0))) (O:w.heap[N]?=some (.cells #[v] 124 (0,0))) (B:w.ownsRow base 129 9 v l.length (eZ l)) (hb:base<=w.heap.size) (D:base<=N) (hA:Rd w A (aS rs)) (hm:l.length<=8388608) (x:rs.length<=1048576) (H:∀y,A=some y->y.block<base):Calls prog 85 #[.bool snd,RI i,.slice A rs.length c,(au J),(au u),(au p),(au N)] w λe o=>e=.returned (.tuple #[])/\
   ∃v',o.heap[N]?=some (.cells #[v'] 124 (0,0))/\o.ownsRow base 129 9 v' (jw snd i rs st bk ph r l).length (eZ (jw snd i rs st bk ph r l))/\Below base w o:=by
 by_cases h:i<rs.length
 .refine (MN snd i A rs rs.length c J u p N base st bk lo L W I ph r (aK rs i) v l l.length w V hP U O B hb hA rfl (by rw [cX rs i h];simp [h]) hm x H).mono ?_;rintro e o ⟨rfl,v',T,Y,Q⟩;have C:jw snd i rs st bk ph r l=l++[⟨snd, !snd&&ph==0,st,bk,ph,r,i,aK rs i⟩]:=if_pos h;refine ⟨rfl,v',T,?_,Q.toBelow hb ?_⟩
  .rw [C,Rh];exact Y
  .rintro j (rfl | R)
   .exact D
   .exact (B.lt j R).1
 .refine (IS snd i A rs.length c J u p N w ap).mono ?_;rintro e o ⟨rfl,rfl⟩;have C:jw snd i rs st bk ph r l=l:=if_neg h;exact ⟨rfl,v,O,by rw [C];exact B,QA _ _⟩
def kh (x y:List Rg) (f g:Nat->Rg->Acn) (k:Nat):List Acn:= (List.range k).flatMap λi=>(if i<x.length then [f i (aK x i)] else [])++(if i<y.length then [g i (aK y i)] else [])
theorem uK (x y:List Rg) (f g:Nat->Rg->Acn) (k:Nat):kh x y f g (k+1)=kh x y f g k++((if k<x.length then [f k (aK x k)] else [])++(if k<y.length then [g k (aK y k)] else [])):=by
 simp [kh,Rx,List.flatMap_append]
theorem AE (x y:List Rg) (f g:Nat->Rg->Acn) (k:Nat):(kh x y f g k).length<=2*k:=by
 induction k with
 | zero=>simp [kh]
 | succ k ih=>
  rw [uK,Rh,Rh]
  split<;>split<;>simp<;>omega
theorem pt (X Y:List Rg) (st bk ph r m:Nat):jw false m Y st bk ph r (jw true m X st bk ph r (kh X Y (λi s=>(⟨true,false,st,bk,ph,r,i,s⟩:Acn)) (λi s=>(⟨false,ph==0,st,bk,ph,r,i,s⟩:Acn)) m))=kh X Y (λi s=>(⟨true,false,st,bk,ph,r,i,s⟩:Acn)) (λi s=>(⟨false,ph==0,st,bk,ph,r,i,s⟩:Acn)) (m+1):=by
 rw [uK];by_cases h1:m<X.length<;>by_cases h:m<Y.length<;>simp [jw,h1,h]
theorem Gd (st bk lo p W c x ph r:Nat) (w:R8) (h1:1<=W) (h2:W<=1048576) (hx:x<W) (hp:ph<2) (hr:r+1<W) (h3:lo<=1048576) (h4:p<=1048576) (h5:1<=c) (h6:c<=1048576):Calls prog 50 #[.agg #[RI (st:Nat),RI (bk:Nat),RI (lo:Nat),RI (p:Nat),RI (W:Nat),RI (c:Nat)],RI x,RI ph,RI r] w λe h=>∃v,e=.returned v/\h.ownsRow w.heap.size 129 9 v (cZ st bk (lo,p) W c x ph r).length (eZ (cZ st bk (lo,p) W c x ph r))/\aq w h:=by
 obtain ⟨H,u⟩:∃H,((w.alloc (.cells #[RI (st:Nat),RI (bk:Nat),RI (lo:Nat),RI (p:Nat),RI (W:Nat),RI (c:Nat)] 71)).alloc (.cells #[RI ph] 3)).alloc (.cells #[RI r] 3)=H:=⟨_,rfl⟩
 have g0:H.heap[w.heap.size]?=some (.cells #[RI (st:Nat),RI (bk:Nat),RI (lo:Nat),RI (p:Nat),RI (W:Nat),RI (c:Nat)] 71 (0,0)):=by
  rw [<-u,QL _ _ _ (by simp;omega),QL _ _ _ (by simp)];exact Qy w _
 have g1:H.heap[w.heap.size+1]?=some (.cells #[RI ph] 3 (0,0)):=by
  rw [<-u,QL _ _ _ (by simp)];have:=Qy (w.alloc (.cells #[RI (st:Nat),RI (bk:Nat),RI (lo:Nat),RI (p:Nat),RI (W:Nat),RI (c:Nat)] 71)) (.cells #[RI ph] 3);simpa using this
 have g2:H.heap[w.heap.size+1+1]?=some (.cells #[RI r] 3 (0,0)):=by
  rw [<-u];have:=Qy ((w.alloc (.cells #[RI (st:Nat),RI (bk:Nat),RI (lo:Nat),RI (p:Nat),RI (W:Nat),RI (c:Nat)] 71)).alloc (.cells #[RI ph] 3)) (.cells #[RI r] 3);simpa using this
 have a5:aq w H:=by rw [<-u];exact (((br w).alloc (Qx _) _).alloc (by simp) _).alloc (by simp;omega) _
 have a4:H.heap.size=w.heap.size+1+1+1:=by rw [<-u];simp
 have t0:=λh q=>bx6 (sb g0 h q);have t1:=λh q=>bx1 (sb g1 h q);have t2:=λh q=>bx1 (sb g2 h q);obtain ⟨b3,V,b8,G0,G1,G2⟩:=ai u a5 a4 g0 g1 g2;clear u g0 g1 g2 a5 a4;go_enter func50,ntmps50;have q0:=br H;go_wp2_with fail;rw [b3.o];refine (JL st bk lo p W c x ph r H h1 h2 hx hp hr).mono ?_;rintro e w1 ⟨rfl,k1⟩;have q1:=bt q0 k1;go_wp2_with fail;refine (JM st bk lo p W c x ph r w1 h1 h2 hx hp hr).mono ?_;rintro e w2 ⟨rfl,k2⟩;have q2:=bt q1 k2;go_wp2_with fail;refine (JG lo p W w2 h1 h2 h3 h4).mono ?_;rintro e T ⟨v3,rfl,o3,k3⟩;have q3:=bt q2 k3;have a0:cT W x ph r<W:=Nat.mod_lt _ h1;have O:cE W x ph r<W:=Nat.mod_lt _ h1;obtain ⟨so,A⟩:∃so,cT W x ph r=so:=⟨_,rfl⟩;obtain ⟨si,B⟩:∃si,cE W x ph r=si:=⟨_,rfl⟩;rw [A] at a0 |-;rw [B] at O |-;obtain ⟨g,c3,aR,ao,b2⟩:=o3.form ap;subst aR;have a1:=yx (b:=(lo,p)) h1 h3 h4;obtain ⟨J,D⟩:∃J,aK (dz (lo,p) W) so=J:=⟨_,rfl⟩;obtain ⟨I,C⟩:∃I,aK (dz (lo,p) W) si=I:=⟨_,rfl⟩;have Z:=a1 J (by rw [<-D,cX _ _ (by rw [qO];exact a0)];exact List.getElem_mem _);have Q:=a1 I (by rw [<-C,cX _ _ (by rw [qO];exact O)];exact List.getElem_mem _);have po:=jd o3 a0;have pi:=jd o3 O;rw [D] at po;rw [C] at pi;have a2:=br T;have aM:=λh (q:aq T h)=>aw q po.1;have aP:=λh (q:aq T h)=>aw q po.2;have ad:=λh (q:aq T h)=>aw q pi.1;have b4:=λh (q:aq T h)=>aw q pi.2;have u0:=λh (q:aq T h)=>t0 h (bt q3 q);have b5:(so:Int)<W:=ap;have b6:(si:Int)<W:=ap;have HR:an (cZ st bk (lo,p) W c x ph r=iR (chR J c) (chR I c) (λi s=>⟨true,false,st,bk,ph,r,i,s⟩) (λi s=>⟨false,ph==0,st,bk,ph,r,i,s⟩)):=aa (by unfold cZ;rw [A,B,D,C]);have R:=aa q3;clear t0 ao b2 a1 D C A B po pi q0 q1 q2 q3 k1 k2 k3 o3;go_wp2_with fail;refine HA.g (λh:R8=>aq T h) ?_;refine HA.t ?_ [0,1,2,3,4,5,7,8,9,10,11,12] a2.drew ?_;refine HA.c 6 (BS J.1 J.2 c _ h5 h6 Z.1 Z.2) ?_;rintro e w4 ⟨v4,rfl,o4,k4⟩;have q4:=bt a2.drew k4;refine ⟨_,rfl,q4,λ_=>?_⟩;refine HA.c 13 (BS I.1 I.2 c _ h5 h6 Q.1 Q.2) ?_;rintro e N ⟨v5,rfl,o5,k5⟩;have q5:=bt q4 k5;refine ⟨_,rfl,q5,λ_=>?_⟩;refine HA.t ?_ [14,15] q5 ?_;refine HA.d ?_;obtain ⟨A4,c4,rfl,_⟩:=aD o4;obtain ⟨A5,c5,rfl,_⟩:=aD o5;obtain ⟨X,hX⟩:∃X,chR J c=X:=⟨_,rfl⟩;obtain ⟨Y,hY⟩:∃Y,chR I c=Y:=⟨_,rfl⟩;have be:X.length<=1048576:=by rw [<-hX,rz];have:=fE (J.2-J.1) c;omega
 have b7:Y.length<=1048576:=by rw [<-hY,rz];have:=fE (I.2-I.1) c;omega
 rw [hX] at o4 HR |-;rw [hY] at o5 HR |-;simp only [Exit.then];obtain ⟨L,O4,O5,B4,B5⟩:=ah ((R.o).trans (q5.mono R.o.size)) (az o4 k5) o5 (iT (az o4 k5)) (iT o5);clear o4 o5 k4 k5 q4 q5 a2 aM aP ad b4 u0 t1 t2 R hX hY Z Q;obtain ⟨M,hM⟩:∃M:Nat,max X.length Y.length=M:=⟨_,rfl⟩;have bf:(if X.length<Y.length then (Y.length:Int) else (X.length:Int))=(M:Int):=by rw [<-hM];split<;>omega
 have aG:=aa hM;clear hM;go_wp2_with fail
 go_loopw [62] (λx wr=>∃m:Nat,m<=M/\x=RI m/\∃v,wr.heap[N.heap.size]?=some (.cells #[v] 124 (0,0))/\wr.ownsRow N.heap.size 129 9 v (kh X Y (λi s=>(⟨true,false,st,bk,ph,r,i,s⟩:Acn)) (λi s=>(⟨false,ph==0,st,bk,ph,r,i,s⟩:Acn)) m).length (eZ (kh X Y (λi s=>(⟨true,false,st,bk,ph,r,i,s⟩:Acn)) (λi s=>(⟨false,ph==0,st,bk,ph,r,i,s⟩:Acn)) m))/\aq N wr) (λx _=>M-(intOf x).toNat)
 .exact ⟨0,QB _,rfl,_,Qy _ _,QI _ _ _ _,(br N).alloc (Qx _) _⟩
 case round=>
  obtain ⟨m,hm,rfl,v,n0,o0,q⟩:=hrel;by_cases bb:m<M
  .have b0:(m:Int)<M:=ap;have b9:IntKind.i64.wrap ((m:Int)+1)=((m+1:Nat):Int):=by rw [QC _ ap];push_cast;rfl
   have a3:=AE X Y (λi s=>(⟨true,false,st,bk,ph,r,i,s⟩:Acn)) (λi s=>(⟨false,ph==0,st,bk,ph,r,i,s⟩:Acn)) m;have a7:=(Rd.own O4.o).below q;have a9:=λy e=>(B4.o y e).2;have c1:=yh true m A4 X c4 w.heap.size (w.heap.size+1) (w.heap.size+1+1) N.heap.size N.heap.size st bk lo p W c ph r v _ wr (sb G0.o wr (bt L.o q)) (sb G1.o wr (bt L.o q)) (sb G2.o wr (bt L.o q)) n0 o0 q.size (Qx _) a7 ap ap a9;obtain ⟨C1,HQ,b1⟩:=af c1 q a3;clear c1 a7 a9 n0 o0 q a3;go_wp2_with fail;refine C1.o.mono ?_;rintro e w6 ⟨rfl,v6,n6,o6,k6⟩;have U:=HQ.o.trans k6;have ab:(jw true m X st bk ph r (kh X Y (λi s=>(⟨true,false,st,bk,ph,r,i,s⟩:Acn)) (λi s=>(⟨false,ph==0,st,bk,ph,r,i,s⟩:Acn)) m)).length<=2*m+1:=by have:=b1.o;unfold jw;split<;>simp<;>omega
   have a6:=(Rd.own O5.o).below U;have a8:=λy e=>(B5.o y e).2;have c2:=yh false m A5 Y c5 w.heap.size (w.heap.size+1) (w.heap.size+1+1) N.heap.size N.heap.size st bk lo p W c ph r v6 _ w6 (sb G0.o w6 (bt L.o U)) (sb G1.o w6 (bt L.o U)) (sb G2.o w6 (bt L.o U)) n6 o6 U.size (Qx _) a6 ap ap a8;obtain ⟨C2,av⟩:=ae c2 U;clear c2 a6 a8 n6 o6 U k6 ab;go_wp2_with fail;refine C2.o.mono ?_;rintro e w7 ⟨rfl,v7,n7,o7,k7⟩;have q7:=av.o.trans k7;rw [pt] at o7;obtain ⟨N7,O7,Q7⟩:=af n7 o7 q7;clear n7 o7 q7 k7;go_wp2_with fail;go_roundw
   .exact ⟨m+1,by omega,by go_num,v7,N7.o,O7.o,Q7.o⟩
   .simp [intOf];omega
  .obtain rfl:M=m:=ap;have b0:¬((M:Int)<M):=ap;have tn:=λh q=>bx1 (sb n0 h q);obtain ⟨O0,HQ,HN⟩:=af o0 q n0;have q0:=br wr;clear o0 q n0;go_wp2_with fail;go_ret;refine ⟨_,rfl,?_,?_⟩
   .rw [HR.out];have:=O0.o;rw [<-aG.o] at this;exact aF this (QD V.o.size L.o.size)
   .exact V.o.trans ((bt L.o HQ.o).mono V.o.size)
def MM:Option Acn->R7
 | none=>[.bool false,.bool false,RI 0,RI 0,RI 0,RI 0,RI 0,RI 0,RI 0]
 | some a=>aZ a
def bC (x:Itm):R7:=RI (x.kind:Nat)::RI (x.st:Nat)::RI (x.n:Nat)::MM x.a
def cD (l:List Itm):R7:=l.flatMap bC
theorem fW (l:List Itm) (a:Itm):cD (l++[a])=cD l++bC a:=by simp [cD]
theorem LZ:dN prog 166 135 (.agg RO) 12 88:=⟨underlying166,info_parts (by kernel_rfl),rfl,by decide⟩
theorem NH (L base kd st n m:Nat) (H C:Bool) (N U D O Q J T:Int) (v:Value) (xs:R7) (w:R8) (hL:w.heap[L]?=some (.cells #[RI (st:Nat),v] 231 (0,0))) (ho:w.ownsRow base 135 12 v m xs) (hb:base<=w.heap.size) (hm:m<=8388608):Calls prog 131 #[(au L),RI (kd:Nat),RI (n:Nat),.agg #[.bool H,.bool C,RI N,RI U,RI D,RI O,RI Q,RI J,RI T]] w λe p=>e=.returned (.tuple #[])/\
   ∃v',p.heap[L]?=some (.cells #[RI (st:Nat),v'] 231 (0,0))/\p.ownsRow base 135 12 v' (m+1) (xs++[RI (kd:Nat),RI (st:Nat),RI (n:Nat),.bool H,.bool C,RI N,RI U,RI D,RI O,RI Q,RI J,RI T])/\Keep (λj=>j=L\/v.ownBlock=some j) w p/\(v'.ownBlock=v.ownBlock\/∀k,v'.ownBlock=some k->w.heap.size<=k):=by
 obtain ⟨i,x⟩:∃i,w.alloc (.cells #[.bool H,.bool C,RI N,RI U,RI D,RI O,RI Q,RI J,RI T] 129)=i:=⟨_,rfl⟩;have h0:i.heap[w.heap.size]?=some (.cells #[.bool H,.bool C,RI N,RI U,RI D,RI O,RI Q,RI J,RI T] 129 (0,0)):=by rw [<-x];exact Qy w _
 have y:aq w i:=by rw [<-x];exact (br w).alloc (Qx _) _
 have V:=az ho y;have nt:=λb cs t' sg (a5:i.heap[b]?=some (.cells cs t' sg)) (a2:t'≠135) (e:v.ownBlock=some b)=>ay a5 a2 V e.symm;have A:=sb hL _ y;have kL:=λp (q:Keep (λj=>v.ownBlock=some j) i p)=>(q.block _ (Qw A) (nt _ _ _ _ A (by decide))).trans A;have tL:=λp q=>bx2 (kL p q);have t0:=λp (q:Keep (λj=>v.ownBlock=some j) i p)=>bx9 ((q.block _ (Qw h0) (nt _ _ _ _ h0 (by decide))).trans h0);obtain ⟨HL,HO,Z,a3⟩:=ag kL V y x;clear hL ho y x h0 A kL V nt;go_enter func131,ntmps131;have q0:Keep (λj=>v.ownBlock=some j) i i.drew:=(Keep.refl _ _).drew;go_wp2_with fail;rw [a3.o];refine XA.g 15 (λp:R8=>Keep (λj=>v.ownBlock=some j) i p) ?_;refine XA.t ?_ [0,1,2,3,4,5,6,7,8,9,10,11,12] q0 ?_;refine XA.v 13 (i.drew.alloc (.cells #[RI (kd:Nat),RI (st:Nat),RI (n:Nat),.bool H,.bool C,RI N,RI U,RI D,RI O,RI Q,RI J,RI T] 135)) (.slice (some (ar i.heap.size 0)) 1 1) (q0.alloc _) ?_;refine XA.o 14 (λK' hK=>?_);have hO:=(HO.o.drew).alloc (.cells #[RI (kd:Nat),RI (st:Nat),RI (n:Nat),.bool H,.bool C,RI N,RI U,RI D,RI O,RI Q,RI J,RI T] 135);have a6:=Z.o.size;refine bW LZ (.tmp 12) (.tmp 21) rfl rfl base v m _ rfl hO (some (ar i.heap.size 0)) 1 1 [RI (kd:Nat),RI (st:Nat),RI (n:Nat),.bool H,.bool C,RI N,RI U,RI D,RI O,RI Q,RI J,RI T] rfl (λk u hu=>⟨_,_,rfl,by rw [RB,Qz _ i.heap.size k _ 135 (0,0) (Qy i.drew _)];simpa using hu⟩) rfl (by simp [Value.oneCell']) ap (by unfold maxLen;omega) (by simp;omega) ?_;intro A5 c5 Y I a4 a1 a0
 have B:(Value.slice A5 (m+1) c5).ownBlock=v.ownBlock\/∀k,(Value.slice A5 (m+1) c5).ownBlock=some k->w.heap.size<=k:=by
  rcases a0 with h | h
  .exact .inl h
  .exact .inr λk hk=>by rw [h] at hk;simp at hk;omega
 have HN:=aa B;clear a0 B;have q5:Keep (λj=>v.ownBlock=some j) i Y:=(q0.alloc _).grown a1 (λk hk=>.inr hk);refine hK.out _ _ q5 λ_=>?_;refine XA.e ?_;simp only [Re,Rf];have R:=HL.o Y q5;have e3:=RG Y L 1 _ _ (.slice A5 (m+1) c5) R;have k1:Keep (λj=>j=L) Y (Y.setCell (ar L 1) (.slice A5 (m+1) c5)):=Keep.setCell (S:=λj=>j=L) (Keep.refl _ _) (ar L 1) (.inr rfl) _;have o6:=k1.own I (λj hj e=>ay R (by decide) I (by rw [hj,e]));have k6:Keep (λj=>j=L\/v.ownBlock=some j) w (Y.setCell (ar L 1) (.slice A5 (m+1) c5)):=Keep.setCell (S:=λj=>j=L\/v.ownBlock=some j) ((Keep.below Z.o).trans (q5.mono λk _ hk=>.inr hk)) (ar L 1) (.inr (.inl rfl)) _;obtain ⟨E3,O6,K6⟩:=af e3 o6 k6;have xL:=tL Y q5;clear I a4 a1 R e3 k1 o6 k6 tL t0 hK K' q5 hO;go_wp2_with fail
 go_end0
 exact ⟨rfl,_,by simpa using E3.o,O6.o,K6.o,HN.o⟩
def ir (w:R8) (L base st:Nat) (v:Value) (l:List Itm):Prop:=w.heap[L]?=some (.cells #[RI (st:Nat),v] 231 (0,0))/\w.ownsRow base 135 12 v l.length (cD l)
def Apd (L:Nat) (w:R8) (v:Value) (h:R8) (v':Value):Prop:=Keep (λj=>j=L\/v.ownBlock=some j) w h/\(v'.ownBlock=v.ownBlock\/∀k,v'.ownBlock=some k->w.heap.size<=k)
theorem Apd.trans {L:Nat} {a b c:R8} {v v' i:Value} (h:Apd L a v b v') (k:Apd L b v' c i):Apd L a v c i:=by
 refine ⟨⟨k.1.os.trans h.1.os,k.1.tape.trans h.1.tape,k.1.output.trans h.1.output,QD h.1.size k.1.size,λj o hn=>(k.1.block j (QE o h.1.size) λp=>?_).trans (h.1.block j o hn)⟩,?_⟩
 .rcases p with rfl | p
  .exact hn (.inl rfl)
  .rcases h.2 with x | x
   .exact hn (.inr (x▸p))
   .have:=x j p;omega
 .rcases k.2 with u | u
  .rw [u];exact h.2
  .exact .inr λj o=>QD h.1.size (u j o)
theorem Apd.below {L:Nat} {b c:R8} {v:Value} (h:aq b c):Apd L b v c v:=⟨Keep.below h,.inl rfl⟩
theorem Apd.refl (L:Nat) (w:R8) (v:Value):Apd L w v w v:=⟨Keep.refl _ _,.inl rfl⟩
theorem ir.below {w i:R8} {L base st:Nat} {v:Value} {l:List Itm} (h:ir w L base st v l) (hb:aq w i):ir i L base st v l:=⟨sb h.1 _ hb,az h.2 hb⟩
theorem Bs (L base o st n:Nat) (a:Option Acn) (v:Value) (l:List Itm) (w:R8) (hl:ir w L base st v l) (hb:base<=w.heap.size) (hm:l.length<=8388608):Calls prog 131 #[(au L),RI (o:Nat),RI (n:Nat),.agg (MM a).toArray] w λe h=>e=.returned (.tuple #[])/\
   ∃v',ir h L base st v' (l++[(⟨o,st,n,a⟩:Itm)])/\Apd L w v h v':=by
 have i:∀y x p u D B C A H,MM a=[.bool y,.bool x,RI p,RI u,RI D,RI B,RI C,RI A,RI H]->Calls prog 131 #[(au L),RI (o:Nat),RI (n:Nat),.agg (MM a).toArray] w λe h=>e=.returned (.tuple #[])/\
   ∃v',ir h L base st v' (l++[(⟨o,st,n,a⟩:Itm)])/\Apd L w v h v':=by
  intro y x p u D B C A H e;rw [e];refine (NH L base o st n l.length y x p u D B C A H v _ w hl.1 hl.2 hb hm).mono ?_;rintro J h ⟨rfl,v',h1,I,k,hn⟩;refine ⟨rfl,v',⟨h1,?_⟩,k,hn⟩;rw [fW,Rh,bC,e];exact I
 cases a with
 | none=>exact i _ _ _ _ _ _ _ _ _ rfl
 | some a=>exact i _ _ _ _ _ _ _ _ _ rfl
theorem pA (L base st n:Nat) (o:Int) (h:Nat) (hk:(h:Int)=o) (v:Value) (l:List Itm) (w:R8) (hl:ir w L base st v l) (hb:base<=w.heap.size) (hm:l.length<=8388608):Calls prog 131 #[(au L),RI o,RI (n:Nat),.agg RP] w λe i=>e=.returned (.tuple #[])/\
   ∃v',ir i L base st v' (l++[(⟨h,st,n,none⟩:Itm)])/\Apd L w v i v':=by
 subst hk;exact Bs L base h st n none v l w hl hb hm
theorem Is (L base st:Nat) (o:Int) (h:Nat) (hk:(h:Int)=o) (a:Acn) (v:Value) (l:List Itm) (w:R8) (hl:ir w L base st v l) (hb:base<=w.heap.size) (hm:l.length<=8388608):Calls prog 131 #[(au L),RI o,RI 0,.agg #[.bool a.send,.bool a.add,RI (a.st:Nat),RI (a.bk:Nat),RI (a.ph:Nat),RI (a.rd:Nat),RI (a.ch:Nat),RI (a.at'.1:Nat),RI (a.at'.2:Nat)]] w λe i=>e=.returned (.tuple #[])/\
   ∃v',ir i L base st v' (l++[(⟨h,st,0,some a⟩:Itm)])/\Apd L w v i v':=by
 subst hk;exact Bs L base h st 0 (some a) v l w hl hb hm
theorem tH {α β:Type} {g:α->List β} {n:Nat} (hn:∀a,(g a).length=n):∀{l:List α} {i:Nat} {a:α},l[i]?=some a->∀f,f<n->(l.flatMap g)[i*n+f]?=(g a)[f]?
 | [],_,_,h,_,_=>by simp at h
 | x::l,0,a,h,f,hf=>by
  simp only [Rc,Option.some.injEq] at h;subst h;rw [List.flatMap_cons,Nat.zero_mul,RB,Rk (by rw [hn];exact hf)]
 | x::l,i+1,a,h,f,hf=>by
  simp only [Ra] at h;rw [List.flatMap_cons,Rl (by rw [hn,Ry];omega),hn,show (i+1)*n+f-n=i*n+f by rw [Ry];omega];exact tH hn h f hf
theorem N5 (a:Acn):(aZ a).length=9:=rfl
theorem Cb {w:R8} {base n g c:Nat} {l:List Acn} {e:R9} (h:w.ownsRow base e 9 (.slice (some (ar g 0)) n c) n (eZ l)) {i:Nat} {a:Acn} (o:l[i]?=some a) (hl:l.length=n):
  ∀f,f<9->w.cell? (ar g (i*9+f))=(aZ a)[f]?:=λf p=>by
 have h1:i<l.length:=(Ri.1 o).1;have v:=h.1;have u:=tH N5 o f p;rw [h.cellAt _ ap,eZ,u]
theorem JI {b:Rg} {k:Nat} {M:Nat} (h1:1<=k) (h:b.1<=b.2) (hb:b.2<=M):∀r∈dz b k,r.2<=M:=by
 intro r hr;simp only [dz,shR,fz,List.map_map,List.mem_map,List.mem_range,Function.comp] at hr;obtain ⟨i,o,rfl⟩:=hr;have c:=fY (b.2-b.1) k (i+1) h1 ap;simp only;omega
theorem vG (n c:Nat):di n c<=n:=by
 unfold di
 split
 .omega
 .have:=Nat.div_le_self (n-1) c;omega
theorem vJ {b:Rg} {W c s M:Nat} (h1:1<=W) (i:b.1<=b.2) (hb:b.2<=M):(chR (aK (dz b W) s) c).length<=M:=by
 rw [rz];have h:=vG ((aK (dz b W) s).2-(aK (dz b W) s).1) c;rcases QO s (dz b W).length with hs | hs
 .have:=JI h1 i hb _ (List.getElem_mem hs);rw [<-cX _ _ hs] at this;omega
 .have:aK (dz b W) s=(0,0):=by simp [aK,List.getD,hs]
  rw [this] at h |-;exact QD h (QB _)
theorem Ge {st bk:Nat} {b:Rg} {W c w ph r M:Nat} (h1:1<=W) (h:b.1<=b.2) (hb:b.2<=M):(cZ st bk b W c w ph r).length<=2*M:=by
 rw [j8];have i:=vJ (c:=c) (s:=cT W w ph r) h1 h hb;have o:=vJ (c:=c) (s:=cE W w ph r) h1 h hb;omega
def ik (p:Pln) (w st k lo:Nat) (n:Nat):List Itm:=(List.range' lo n).flatMap λj=>cq p w st (k/(p.W-1)) (k%(p.W-1)) j
def cR (p:Pln) (w st:Nat) (g:Rg) (k:Nat):List Itm:=(List.range k).flatMap λk=>ik p w st k g.1 (g.2-g.1)
theorem qt (p:Pln) (w st k lo n:Nat):ik p w st k lo (n+1)=ik p w st k lo n++cq p w st (k/(p.W-1)) (k%(p.W-1)) (lo+n):=by
 simp [ik,List.range'_concat]
theorem iy (p:Pln) (w st:Nat) (g:Rg) (k:Nat):cR p w st g (k+1)=cR p w st g k++ik p w st k g.1 (g.2-g.1):=by
 simp [cR,Rx]
theorem vg {p:Pln} {w st k lo n M:Nat} (h:∀ph r j,(cq p w st ph r j).length<=M):(ik p w st k lo n).length<=n*M:=by
 induction n with
 | zero=>simp [ik]
 | succ n ih=>rw [qt,Rh,Ry];have:=h (k/(p.W-1)) (k%(p.W-1)) (lo+n);omega
theorem j6 {p:Pln} {w st k M:Nat} {g:Rg} (h:∀ph r j,(cq p w st ph r j).length<=M):(cR p w st g k).length<=k*((g.2-g.1)*M):=by
 induction k with
 | zero=>simp [cR]
 | succ k ih=>rw [iy,Rh,Ry];have:=vg (w:=w) (st:=st) (k:=k) (lo:=g.1) (n:=g.2-g.1) h;omega
theorem ur {p:Pln} {w st k lo n m:Nat} (hm:p.W-1=m) {ph r:Nat} (h1:k/m=ph) (h:k%m=r):ik p w st k lo n=(List.range' lo n).flatMap λj=>cq p w st ph r j:=by
 unfold ik;rw [hm,h1,h]
theorem sU (p:Pln) (w st:Nat) (g:Rg):cR p w st g (2*(p.W-1))=(List.range 2).flatMap λph=>(List.range (p.W-1)).flatMap λr=>(List.range' g.1 (g.2-g.1)).flatMap λj=>cq p w st ph r j:=by
 obtain ⟨m,hm⟩:∃m,p.W-1=m:=⟨_,rfl⟩;obtain ⟨F,u⟩:∃F:Nat->Nat->List Itm,(λph r=>(List.range' g.1 (g.2-g.1)).flatMap λj=>cq p w st ph r j)=F:=⟨_,rfl⟩;have h:∀ph r,((List.range' g.1 (g.2-g.1)).flatMap λj=>cq p w st ph r j)=F ph r:=λph r=>by rw [<-u]
 have o:∀k,k<=m->cR p w st g k=(List.range k).flatMap (F 0):=by
  intro k
  induction k with
  | zero=>intro _;rfl
  | succ k ih=>
   intro hk;have e:=ur (w:=w) (st:=st) (lo:=g.1) (n:=g.2-g.1) hm (Nat.div_eq_of_lt (show k<m by omega)) (Nat.mod_eq_of_lt (show k<m by omega));rw [iy,ih ap,e,h,Rx,List.flatMap_append];simp only [List.flatMap_cons,List.flatMap_nil,List.append_nil]
 have h1:∀k,k<=m->cR p w st g (m+k)=cR p w st g m++(List.range k).flatMap (F 1):=by
  intro k
  induction k with
  | zero=>intro _;simp only [Nat.add_zero,List.range_zero,List.flatMap_nil,List.append_nil]
  | succ k ih=>
   intro hk;have d:(m+k)/m=1:=by rw [Nat.add_div_left k ap,Nat.div_eq_of_lt ap]
   have i:(m+k)%m=k:=by rw [Nat.add_mod_left,Nat.mod_eq_of_lt ap]
   have e:=ur (w:=w) (st:=st) (lo:=g.1) (n:=g.2-g.1) hm d i;rw [<-Rz,iy,ih ap,e,h,Rx,List.flatMap_append,Ro];simp only [List.flatMap_cons,List.flatMap_nil,List.append_nil]
 simp only [h];rw [hm,show 2*m=m+m by omega,h1 m (Qx _),o m (Qx _)]
 show _=List.flatMap (λph=>(List.range m).flatMap (F ph)) [0,1]
 simp only [List.flatMap_cons,List.flatMap_nil,List.append_nil]
theorem tJ:dN prog 223 185 (.agg RP) 9 64:=⟨underlying223,info_parts (by kernel_rfl),rfl,by decide⟩
theorem JX (st bk lo C W c x ph r:Nat) (w:R8) (h1:1<=W) (N:W<=1048576) (R:x<W) (Q:ph<2) (hr:r+1<W):Calls prog 151 #[.agg #[RI (st:Nat),RI (bk:Nat),RI (lo:Nat),RI (C:Nat),RI (W:Nat),RI (c:Nat)],RI x,RI ph,RI r,.bool true] w λe u=>e=.returned (.tuple #[RI (cT W x ph r:Nat),.bool true])/\aq w u:=by
 obtain ⟨s,hs⟩:∃s,x+(2*W+ph-r)=s:=⟨_,rfl⟩;have U:(x:Int)-r+ph+2*W=(s:Int):=ap;have D:cT W x ph r=s%W:=by unfold cT;rw [<-hs]
 rw [D];have A:(s:Int).tmod (W:Int)=((s%W:Nat):Int):=rfl;have B:(s:Int)%(W:Int)=((s%W:Nat):Int):=rfl;have J:¬(W=0):=ap;have O:¬((W:Int)<=x):=ap;have T:¬(1<(ph:Int)):=ap;have V:¬((W:Int)-2<(r:Int)):=ap;obtain ⟨q,I⟩:∃q,s%W=q:=⟨_,rfl⟩;rw [I] at A B |-;obtain ⟨i,h⟩:∃i,w.alloc (.cells #[RI (st:Nat),RI (bk:Nat),RI (lo:Nat),RI (C:Nat),RI (W:Nat),RI (c:Nat)] 226)=i:=⟨_,rfl⟩;have H:i.heap[w.heap.size]?=some (.cells #[RI (st:Nat),RI (bk:Nat),RI (lo:Nat),RI (C:Nat),RI (W:Nat),RI (c:Nat)] 226 (0,0)):=by rw [<-h];exact Qy w _
 have p:aq w i:=by rw [<-h];exact (br w).alloc (Qx _) _
 have t0:=λu q=>bx6 (sb H u q);obtain ⟨y,v⟩:=ae h p;have L:=br i;clear h H p hs I D;go_enter func151,ntmps151;go_wp2_with fail
 try rw [y.o]
 try go_wp2_with fail
 go_ret2;exact ⟨rfl,v.o⟩
theorem Nf (st bk lo C W c x ph r:Nat) (w:R8) (h1:1<=W) (N:W<=1048576) (R:x<W) (Q:ph<2) (hr:r+1<W):Calls prog 151 #[.agg #[RI (st:Nat),RI (bk:Nat),RI (lo:Nat),RI (C:Nat),RI (W:Nat),RI (c:Nat)],RI x,RI ph,RI r,.bool false] w λe u=>e=.returned (.tuple #[RI (cE W x ph r:Nat),.bool true])/\aq w u:=by
 obtain ⟨s,hs⟩:∃s,x+(2*W+ph-r-1)=s:=⟨_,rfl⟩;have U:(x:Int)-r+ph-1+2*W=(s:Int):=ap;have D:cE W x ph r=s%W:=by unfold cE;rw [<-hs]
 rw [D];have A:(s:Int).tmod (W:Int)=((s%W:Nat):Int):=rfl;have B:(s:Int)%(W:Int)=((s%W:Nat):Int):=rfl;have J:¬(W=0):=ap;have O:¬((W:Int)<=x):=ap;have T:¬(1<(ph:Int)):=ap;have V:¬((W:Int)-2<(r:Int)):=ap;obtain ⟨q,I⟩:∃q,s%W=q:=⟨_,rfl⟩;rw [I] at A B |-;obtain ⟨i,h⟩:∃i,w.alloc (.cells #[RI (st:Nat),RI (bk:Nat),RI (lo:Nat),RI (C:Nat),RI (W:Nat),RI (c:Nat)] 226)=i:=⟨_,rfl⟩;have H:i.heap[w.heap.size]?=some (.cells #[RI (st:Nat),RI (bk:Nat),RI (lo:Nat),RI (C:Nat),RI (W:Nat),RI (c:Nat)] 226 (0,0)):=by rw [<-h];exact Qy w _
 have p:aq w i:=by rw [<-h];exact (br w).alloc (Qx _) _
 have t0:=λu q=>bx6 (sb H u q);obtain ⟨y,v⟩:=ae h p;have L:=br i;clear h H p hs I D;go_enter func151,ntmps151;go_wp2_with fail
 try rw [y.o]
 try go_wp2_with fail
 go_ret2;exact ⟨rfl,v.o⟩
theorem Ei {b:Rg} {k:Nat} (h1:1<=k) (hb:b.1<=b.2):∀r∈dz b k,r.1<=r.2/\r.2<=b.2:=by
 intro r hr;simp only [dz,shR,fz,List.map_map,List.mem_map,List.mem_range,Function.comp] at hr;obtain ⟨i,h,rfl⟩:=hr;have c:=fY (b.2-b.1) k (i+1) h1 ap;have d:=ky (b.2-b.1) k (show i<=i+1 by omega);exact ⟨by simp only;omega,by simp only;omega⟩
theorem Er (st bk lo h W c s:Nat) (w:R8) (h1:1<=W) (h2:W<=1048576) (hs:s<W) (Y:lo<=h) (h4:h<=1048576) (h5:1<=c) (h6:c<=1048576):Calls prog 152 #[.agg #[RI (st:Nat),RI (bk:Nat),RI (lo:Nat),RI (h:Nat),RI (W:Nat),RI (c:Nat)],RI s] w λe y=>∃v,e=.returned v/\y.ownsRow w.heap.size 67 2 v (chR (aK (dz (lo,h) W) s) c).length (aS (chR (aK (dz (lo,h) W) s) c))/\aq w y:=by
 obtain ⟨x,i⟩:∃x,w.alloc (.cells #[RI (st:Nat),RI (bk:Nat),RI (lo:Nat),RI (h:Nat),RI (W:Nat),RI (c:Nat)] 226)=x:=⟨_,rfl⟩;have V:x.heap[w.heap.size]?=some (.cells #[RI (st:Nat),RI (bk:Nat),RI (lo:Nat),RI (h:Nat),RI (W:Nat),RI (c:Nat)] 226 (0,0)):=by rw [<-i];exact Qy w _
 have C:aq w x:=by rw [<-i];exact (br w).alloc (Qx _) _
 have t0:=λy q=>bx6 (sb V y q);have J:=Ei (b:=(lo,h)) h1 Y;have N:=qO (lo,h) W;have a0:(s:Int)<W:=ap;obtain ⟨L,u⟩:=ae i C;have U:=br x;clear i V C;go_enter func152,ntmps152;go_wp2_with fail;rw [L.o];refine HA.g (λy:R8=>aq x y) ?_;refine HA.t ?_ [0,1,2,3,5,8,9] U.drew ?_;refine HA.c 4 (FY lo h W _ h1 h2 Y h4) ?_;rintro e T ⟨v2,rfl,O,Z⟩;have A:=bt U.drew Z;obtain ⟨g,c2,rfl,_⟩:=O.form ap;have Q:=jd O hs;have p:=J (aK (dz (lo,h) W) s) (by rw [cX _ _ (by rw [N];exact hs)];exact List.getElem_mem _)
 try dsimp only at p
 obtain ⟨D,I,B⟩:∃D I,aK (dz (lo,h) W) s=(D,I):=⟨_,_,rfl⟩;rw [B] at Q p
 try dsimp only at Q p
 obtain ⟨d0,d1⟩:=Q;refine ⟨_,rfl,A,λ_=>?_⟩;refine HA.v 6 T (.pointer (some (ar g (s*2)))) A ?_;refine HA.v 7 T (.agg #[RI (D:Nat),RI (I:Nat)]) A ?_;refine HA.c 10 (Gs D I c T h5 h6 p.1 ap) ?_;rintro e w4 ⟨v4,rfl,R,k4⟩;have H:=bt A k4;refine ⟨_,rfl,H,λ_=>?_⟩;refine HA.t ?_ [11] H ?_;refine HA.d ?_;have hB:=aa (u.o.trans (H.mono u.o.size));rw [<-B] at R;have O4:=aa (aF (base':=w.heap.size) R (QD u.o.size A.size));clear R O Z k4 A H t0;go_wp2_with fail;go_ret;exact ⟨_,rfl,O4.o,hB.o⟩
theorem CJ (st bk lo H W c x ph r:Nat) (w:R8) (h1:1<=W) (h2:W<=1048576) (hx:x<W) (hp:ph<2) (hr:r+1<W) (h3:lo<=H) (h4:H<=1048576) (h5:1<=c) (h6:c<=1048576):Calls prog 128 #[.agg #[RI (st:Nat),RI (bk:Nat),RI (lo:Nat),RI (H:Nat),RI (W:Nat),RI (c:Nat)],RI x,RI ph,RI r] w λe p=>∃v,e=.returned v/\p.ownsRow w.heap.size 185 9 v (cZ st bk (lo,H) W c x ph r).length (eZ (cZ st bk (lo,H) W c x ph r))/\aq w p:=by
 obtain ⟨W0,aM⟩:∃W0,w.alloc (.cells #[RI (st:Nat),RI (bk:Nat),RI (lo:Nat),RI (H:Nat),RI (W:Nat),RI (c:Nat)] 226)=W0:=⟨_,rfl⟩;have h0:W0.heap[w.heap.size]?=some (.cells #[RI (st:Nat),RI (bk:Nat),RI (lo:Nat),RI (H:Nat),RI (W:Nat),RI (c:Nat)] 226 (0,0)):=by rw [<-aM];exact Qy w _
 have bV:aq w W0:=by rw [<-aM];exact (br w).alloc (Qx _) _
 have t0:=λp q=>bx6 (sb h0 p q);obtain ⟨cc,bi,H0⟩:=af aM bV h0;have q0:=br W0;clear aM h0 bV;go_enter func128,ntmps128;go_wp2_with fail;rw [cc.o];refine (JX st bk lo H W c x ph r W0 h1 h2 hx hp hr).mono ?_;rintro e w1 ⟨rfl,k1⟩;have q1:=bt q0 k1;go_wp2_with fail;refine (Nf st bk lo H W c x ph r w1 h1 h2 hx hp hr).mono ?_;rintro e w2 ⟨rfl,k2⟩;have q2:=bt q1 k2;have bX:cT W x ph r<W:=Nat.mod_lt _ h1;have bI:cE W x ph r<W:=Nat.mod_lt _ h1;go_wp2_with fail;refine (Er st bk lo H W c _ w2 h1 h2 bX h3 h4 h5 h6).mono ?_;rintro e w3 ⟨v3,rfl,o3,k3⟩;have q3:=bt q2 k3;obtain ⟨A3,c3,rfl,_⟩:=aD o3;go_wp2_with fail;refine (Er st bk lo H W c _ w3 h1 h2 bI h3 h4 h5 h6).mono ?_;rintro e w4 ⟨v4,rfl,o4,k4⟩;have q4:=bt q3 k4;obtain ⟨A4,c4,rfl,_⟩:=aD o4;have bs:=az o3 k4;have cb:(chR (aK (dz (lo,H) W) (cT W x ph r)) c).length<=1048576:=vJ h1 h3 h4;have c8:(chR (aK (dz (lo,H) W) (cE W x ph r)) c).length<=1048576:=vJ h1 h3 h4;have HR:an (cZ st bk (lo,H) W c x ph r=iR (chR (aK (dz (lo,H) W) (cT W x ph r)) c) (chR (aK (dz (lo,H) W) (cE W x ph r)) c) (λi s=>(⟨true,false,st,bk,ph,r,i,s⟩:Acn)) (λi s=>(⟨false,ph==0,st,bk,ph,r,i,s⟩:Acn))):=aa rfl;obtain ⟨X,hX⟩:∃X,chR (aK (dz (lo,H) W) (cT W x ph r)) c=X:=⟨_,rfl⟩;obtain ⟨Y,hY⟩:∃Y,chR (aK (dz (lo,H) W) (cE W x ph r)) c=Y:=⟨_,rfl⟩;rw [hX] at bs cb HR |-;rw [hY] at o4 c8 HR |-;obtain ⟨so,b5⟩:∃so,cT W x ph r=so:=⟨_,rfl⟩;obtain ⟨si,b6⟩:∃si,cE W x ph r=si:=⟨_,rfl⟩;rw [b5] at bX |-;rw [b6] at bI |-;obtain ⟨M,hM⟩:∃M:Nat,max X.length Y.length=M:=⟨_,rfl⟩;obtain ⟨O3,O4,Q4,HM⟩:=ag bs o4 q4 hM;clear o3 bs o4 q0 q1 q2 q3 q4 k1 k2 k3 k4 hX hY b5 b6 hM t0;go_wp2_with fail
 go_loopw [15,16] (λv y wr=>∃m:Nat,m<=M/\y=RI m/\wr.ownsRow w4.heap.size 185 9 v (kh X Y (λi s=>(⟨true,false,st,bk,ph,r,i,s⟩:Acn)) (λi s=>(⟨false,ph==0,st,bk,ph,r,i,s⟩:Acn)) m).length (eZ (kh X Y (λi s=>(⟨true,false,st,bk,ph,r,i,s⟩:Acn)) (λi s=>(⟨false,ph==0,st,bk,ph,r,i,s⟩:Acn)) m))/\aq w4 wr) (λ_ y _=>M-(intOf y).toNat)
 .exact ⟨0,QB _,rfl,QI _ _ _ _,QA _ _⟩
 case round=>
  obtain ⟨m,hm,rfl,ho,q⟩:=hrel;have cf:=AE X Y (λi s=>(⟨true,false,st,bk,ph,r,i,s⟩:Acn)) (λi s=>(⟨false,ph==0,st,bk,ph,r,i,s⟩:Acn)) m;have cj:M<=1048576:=by have:=HM.o;omega
  obtain ⟨Av,cv,rfl,_⟩:=aD ho;obtain ⟨v,hv⟩:∃v,Value.slice Av (kh X Y (λi s=>(⟨true,false,st,bk,ph,r,i,s⟩:Acn)) (λi s=>(⟨false,ph==0,st,bk,ph,r,i,s⟩:Acn)) m).length cv=v:=⟨_,rfl⟩;rw [hv] at ho |-;clear hv;have aR:((ph:Int)==0)=(ph==0):=by rw [Bool.eq_iff_iff];simp
  have ci:IntKind.i64.wrap ((m:Int)+1)=((m+1:Nat):Int):=by rw [QC _ ap];push_cast;rfl
  have uJ:=λp (q':aq wr p)=>bx6 (sb H0.o p (bt Q4.o (q.trans (q'.mono q.size))));obtain ⟨A,b0⟩:∃A,wr.alloc (.cells #[RI (st:Nat),RI (bk:Nat),RI (ph:Nat),RI (r:Nat),RI (m:Nat)] 127)=A:=⟨_,rfl⟩;have gT:A.heap[wr.heap.size]?=some (.cells #[RI (st:Nat),RI (bk:Nat),RI (ph:Nat),RI (r:Nat),RI (m:Nat)] 127 (0,0)):=by rw [<-b0];exact Qy wr _
  have kt:aq wr A:=by rw [<-b0];exact (br wr).alloc (Qx _) _
  have qr:=br wr;obtain ⟨Ho,HT,HQ,B,C,bb⟩:=ai ho gT q (q.trans (kt.mono q.size)) (az ho kt) b0;clear ho q gT kt b0;by_cases h1:m<X.length
  .have cd:(m:Int)<X.length:=ap
   obtain ⟨gx,rfl⟩:∃gx,A3=some (ar gx 0):=by
    obtain ⟨g,e,hv,_⟩:=O3.o.form ap;simp only [Rv] at hv;exact ⟨g,hv.1⟩
   have px:=jd O3.o h1;have bf:aK X m=((aK X m).1,(aK X m).2):=rfl;obtain ⟨b1,c7⟩:∃b,(aK X m).1=b:=⟨_,rfl⟩;obtain ⟨b2,bN⟩:∃b,(aK X m).2=b:=⟨_,rfl⟩;rw [c7,bN] at px bf;obtain ⟨aG,aP,bO⟩:=af px.1 px.2 bf;clear px c7 bN bf;by_cases h2:m<Y.length
   .have bw:(m:Int)<Y.length:=ap
    obtain ⟨gy,rfl⟩:∃gy,A4=some (ar gy 0):=by
     obtain ⟨g,e,hv,_⟩:=O4.o.form ap;simp only [Rv] at hv;exact ⟨g,hv.1⟩
    have py:=jd O4.o h2;have Q:aK Y m=((aK Y m).1,(aK Y m).2):=rfl;obtain ⟨b3,a3⟩:∃b,(aK Y m).1=b:=⟨_,rfl⟩;obtain ⟨b4,ao⟩:∃b,(aK Y m).2=b:=⟨_,rfl⟩;rw [a3,ao] at py Q;obtain ⟨a2,a8,b9⟩:=af py.1 py.2 Q;clear py a3 ao Q;go_wp2_with fail;rw [bb.o];clear uJ qr;have R:=λp (q:Keep (λj=>v.ownBlock=some j) A p)=>(q.block _ (Qw HT.o) (λe=>ay HT.o (by decide) C.o e.symm)).trans HT.o;have bh:=λp q=>bx5 (R p q)
    have U:∀g,g<w4.heap.size->¬v.ownBlock=some g:=λg hg e=>by
     have h:=(C.o.lt g e).1;omega
    have be:=λp (q:Keep (λj=>v.ownBlock=some j) A p)=>q.cell (aw B.o aG.o) (U _ (aB aG.o));have bA:=λp (q:Keep (λj=>v.ownBlock=some j) A p)=>q.cell (aw B.o aP.o) (U _ (aB aP.o));have I:Keep (λj=>v.ownBlock=some j) A A.drew:=(Keep.refl _ _).drew;have L:=aa R;clear R U;refine HA.g (λp:R8=>Keep (λj=>v.ownBlock=some j) A p) ?_;refine HA.t ?_ [0,1,2,3,4,5,6] I ?_;obtain ⟨a5,O⟩:∃a:Acn,a=⟨true,false,st,bk,ph,r,m,(b1,b2)⟩:=⟨_,rfl⟩;refine HA.v 7 (A.drew.alloc (.cells (aZ a5).toArray 185)) (.slice (some (ar A.heap.size 0)) 1 1) (I.alloc _) ?_ (he:=by subst O;go_simp;simp [aZ,aR];try rfl);refine HA.o 8 (λK' hK=>?_);have a0:=(C.o.drew).alloc (.cells (aZ a5).toArray 185);have a7:=B.o.size;refine bW tJ (.tmp 66) (.tmp 73) rfl rfl w4.heap.size v _ _ rfl a0 (some (ar A.heap.size 0)) 1 1 (aZ a5) rfl (λk u hu=>⟨_,_,rfl,by rw [RB,Qz _ A.heap.size k (aZ a5).toArray 185 (0,0) (Qy A.drew _)];simpa using hu⟩) rfl (by simp [aZ,Value.oneCell']) ap (by unfold maxLen;omega) (by simp;omega) ?_;intro A5 c5 N a1 bv av _;have q5:Keep (λj=>v.ownBlock=some j) A N:=(I.alloc _).grown av (λk hk=>.inr hk);refine hK.out _ _ q5 λ_=>?_;refine HA.t ?_ [9] q5 ?_;refine HA.d ?_
    try simp only [Exit.then]
    obtain ⟨O5,T5,Q5,b7⟩:=ag a1 (L.o N q5) (B.o.trans (q5.toBelow B.o.size (λj hj=>(C.o.lt j hj).1))) O;clear a1 bv av bh be bA I q5 hK K' a0 O L a7;go_wp2_with fail;obtain ⟨v5,bM⟩:∃v,Value.slice A5 ((kh X Y (λi s=>(⟨true,false,st,bk,ph,r,i,s⟩:Acn)) (λi s=>(⟨false,ph==0,st,bk,ph,r,i,s⟩:Acn)) m).length+1) c5=v:=⟨_,rfl⟩;rw [bM] at O5 |-;clear bM;have T:=λp (q:Keep (λj=>v5.ownBlock=some j) N p)=>(q.block _ (Qw T5.o) (λe=>ay T5.o (by decide) O5.o e.symm)).trans T5.o;have bl:=λp q=>bx5 (T p q)
    have V:∀g,g<w4.heap.size->¬v5.ownBlock=some g:=λg hg e=>by
     have h:=(O5.o.lt g e).1;omega
    have bo:=λp (q:Keep (λj=>v5.ownBlock=some j) N p)=>q.cell (aw Q5.o a2.o) (V _ (aB a2.o));have b8:=λp (q:Keep (λj=>v5.ownBlock=some j) N p)=>q.cell (aw Q5.o a8.o) (V _ (aB a8.o));have D:Keep (λj=>v5.ownBlock=some j) N N.drew:=(Keep.refl _ _).drew;have J:=aa T;clear T V;refine HA.g (λp:R8=>Keep (λj=>v5.ownBlock=some j) N p) ?_;refine HA.t ?_ [0,1,2,3,4,5,6,7,8] D ?_;obtain ⟨a6,Z⟩:∃a:Acn,a=⟨false,ph==0,st,bk,ph,r,m,(b3,b4)⟩:=⟨_,rfl⟩;refine HA.v 9 (N.drew.alloc (.cells (aZ a6).toArray 185)) (.slice (some (ar N.heap.size 0)) 1 1) (D.alloc _) ?_ (he:=by subst Z;go_simp;simp [aZ,aR];try rfl);refine HA.o 10 (λK' hK=>?_);have ad:=(O5.o.drew).alloc (.cells (aZ a6).toArray 185);have ab:=Q5.o.size;refine bW tJ (.tmp 79) (.tmp 88) rfl rfl w4.heap.size v5 _ _ rfl ad (some (ar N.heap.size 0)) 1 1 (aZ a6) rfl (λk u hu=>⟨_,_,rfl,by rw [RB,Qz _ N.heap.size k (aZ a6).toArray 185 (0,0) (Qy N.drew _)];simpa using hu⟩) rfl (by simp [aZ,Value.oneCell']) ap (by unfold maxLen;omega) (by simp;omega) ?_;intro A6 c6 w6 a4 bn a9 _;have q6:Keep (λj=>v5.ownBlock=some j) N w6:=(D.alloc _).grown a9 (λk hk=>.inr hk);refine hK.out _ _ q6 λ_=>?_;refine HA.t ?_ [11] q6 ?_;refine HA.d ?_
    try simp only [Exit.then]
    obtain ⟨O6,T6,Q6,bz⟩:=ag a4 (J.o w6 q6) (Q5.o.trans (q6.toBelow Q5.o.size (λj hj=>(O5.o.lt j hj).1))) Z;clear a4 bn a9 bl bo b8 D q6 hK K' ad Z J ab;go_wp2_with fail;go_roundw
    .exact ⟨m+1,by have:=HM.o;omega,by go_num,by rw [<-pt];simp only [jw,h1,h2,if_true,if_false,Bool.not_true,Bool.not_false,Bool.false_and,Bool.true_and];have:=O6.o;rw [b7.o,bz.o] at this;simpa [eZ,bO.o,b9.o,Rh] using this,Q6.o⟩
    .have:=HM.o;simp [intOf];omega
   .have bw:¬((m:Int)<Y.length):=ap;go_wp2_with fail;rw [bb.o];clear uJ qr;have R:=λp (q:Keep (λj=>v.ownBlock=some j) A p)=>(q.block _ (Qw HT.o) (λe=>ay HT.o (by decide) C.o e.symm)).trans HT.o;have bh:=λp q=>bx5 (R p q)
    have U:∀g,g<w4.heap.size->¬v.ownBlock=some g:=λg hg e=>by
     have h:=(C.o.lt g e).1;omega
    have be:=λp (q:Keep (λj=>v.ownBlock=some j) A p)=>q.cell (aw B.o aG.o) (U _ (aB aG.o));have bA:=λp (q:Keep (λj=>v.ownBlock=some j) A p)=>q.cell (aw B.o aP.o) (U _ (aB aP.o));have I:Keep (λj=>v.ownBlock=some j) A A.drew:=(Keep.refl _ _).drew;have L:=aa R;clear R U;refine HA.g (λp:R8=>Keep (λj=>v.ownBlock=some j) A p) ?_;refine HA.t ?_ [0,1,2,3,4,5,6] I ?_;obtain ⟨a5,O⟩:∃a:Acn,a=⟨true,false,st,bk,ph,r,m,(b1,b2)⟩:=⟨_,rfl⟩;refine HA.v 7 (A.drew.alloc (.cells (aZ a5).toArray 185)) (.slice (some (ar A.heap.size 0)) 1 1) (I.alloc _) ?_ (he:=by subst O;go_simp;simp [aZ,aR];try rfl);refine HA.o 8 (λK' hK=>?_);have a0:=(C.o.drew).alloc (.cells (aZ a5).toArray 185);have a7:=B.o.size;refine bW tJ (.tmp 66) (.tmp 73) rfl rfl w4.heap.size v _ _ rfl a0 (some (ar A.heap.size 0)) 1 1 (aZ a5) rfl (λk u hu=>⟨_,_,rfl,by rw [RB,Qz _ A.heap.size k (aZ a5).toArray 185 (0,0) (Qy A.drew _)];simpa using hu⟩) rfl (by simp [aZ,Value.oneCell']) ap (by unfold maxLen;omega) (by simp;omega) ?_;intro A5 c5 N a1 bv av _;have q5:Keep (λj=>v.ownBlock=some j) A N:=(I.alloc _).grown av (λk hk=>.inr hk);refine hK.out _ _ q5 λ_=>?_;refine HA.t ?_ [9] q5 ?_;refine HA.d ?_
    try simp only [Exit.then]
    obtain ⟨O5,T5,Q5,b7⟩:=ag a1 (L.o N q5) (B.o.trans (q5.toBelow B.o.size (λj hj=>(C.o.lt j hj).1))) O;clear a1 bv av bh be bA I q5 hK K' a0 O L a7;go_wp2_with fail;go_roundw
    .exact ⟨m+1,by have:=HM.o;omega,by go_num,by rw [<-pt];simp only [jw,h1,h2,if_true,if_false,Bool.not_true,Bool.not_false,Bool.false_and,Bool.true_and];have:=O5.o;rw [b7.o] at this;simpa [eZ,bO.o,Rh] using this,Q5.o⟩
    .have:=HM.o;simp [intOf];omega
  .have cd:¬((m:Int)<X.length):=ap;by_cases h2:m<Y.length
   .have bw:(m:Int)<Y.length:=ap
    obtain ⟨gy,rfl⟩:∃gy,A4=some (ar gy 0):=by
     obtain ⟨g,e,hv,_⟩:=O4.o.form ap;simp only [Rv] at hv;exact ⟨g,hv.1⟩
    have py:=jd O4.o h2;have Q:aK Y m=((aK Y m).1,(aK Y m).2):=rfl;obtain ⟨b3,a3⟩:∃b,(aK Y m).1=b:=⟨_,rfl⟩;obtain ⟨b4,ao⟩:∃b,(aK Y m).2=b:=⟨_,rfl⟩;rw [a3,ao] at py Q;obtain ⟨a2,a8,b9⟩:=af py.1 py.2 Q;clear py a3 ao Q;go_wp2_with fail;rw [bb.o];clear uJ qr;have T:=λp (q:Keep (λj=>v.ownBlock=some j) A p)=>(q.block _ (Qw HT.o) (λe=>ay HT.o (by decide) C.o e.symm)).trans HT.o;have bl:=λp q=>bx5 (T p q)
    have V:∀g,g<w4.heap.size->¬v.ownBlock=some g:=λg hg e=>by
     have h:=(C.o.lt g e).1;omega
    have bo:=λp (q:Keep (λj=>v.ownBlock=some j) A p)=>q.cell (aw B.o a2.o) (V _ (aB a2.o));have b8:=λp (q:Keep (λj=>v.ownBlock=some j) A p)=>q.cell (aw B.o a8.o) (V _ (aB a8.o));have D:Keep (λj=>v.ownBlock=some j) A A.drew:=(Keep.refl _ _).drew;have J:=aa T;clear T V;refine HA.g (λp:R8=>Keep (λj=>v.ownBlock=some j) A p) ?_;refine HA.t ?_ [0,1,2,3,4,5,6,7,8] D ?_;obtain ⟨a6,Z⟩:∃a:Acn,a=⟨false,ph==0,st,bk,ph,r,m,(b3,b4)⟩:=⟨_,rfl⟩;refine HA.v 9 (A.drew.alloc (.cells (aZ a6).toArray 185)) (.slice (some (ar A.heap.size 0)) 1 1) (D.alloc _) ?_ (he:=by subst Z;go_simp;simp [aZ,aR];try rfl);refine HA.o 10 (λK' hK=>?_);have ad:=(C.o.drew).alloc (.cells (aZ a6).toArray 185);have ab:=B.o.size;refine bW tJ (.tmp 79) (.tmp 88) rfl rfl w4.heap.size v _ _ rfl ad (some (ar A.heap.size 0)) 1 1 (aZ a6) rfl (λk u hu=>⟨_,_,rfl,by rw [RB,Qz _ A.heap.size k (aZ a6).toArray 185 (0,0) (Qy A.drew _)];simpa using hu⟩) rfl (by simp [aZ,Value.oneCell']) ap (by unfold maxLen;omega) (by simp;omega) ?_;intro A6 c6 w6 a4 bn a9 _;have q6:Keep (λj=>v.ownBlock=some j) A w6:=(D.alloc _).grown a9 (λk hk=>.inr hk);refine hK.out _ _ q6 λ_=>?_;refine HA.t ?_ [11] q6 ?_;refine HA.d ?_
    try simp only [Exit.then]
    obtain ⟨O6,T6,Q6,bz⟩:=ag a4 (J.o w6 q6) (B.o.trans (q6.toBelow B.o.size (λj hj=>(C.o.lt j hj).1))) Z;clear a4 bn a9 bl bo b8 D q6 hK K' ad Z J ab;go_wp2_with fail;go_roundw
    .exact ⟨m+1,by have:=HM.o;omega,by go_num,by rw [<-pt];simp only [jw,h1,h2,if_true,if_false,Bool.not_true,Bool.not_false,Bool.false_and,Bool.true_and];have:=O6.o;rw [bz.o] at this;simpa [eZ,b9.o,Rh] using this,Q6.o⟩
    .have:=HM.o;simp [intOf];omega
   .have bw:¬((m:Int)<Y.length):=ap;have c9:m=M:=by have:=HM.o;omega
    have hb:=aF (base':=w.heap.size) Ho.o (QD bi.o.size Q4.o.size)
    have bG:cZ st bk (lo,H) W c x ph r=kh X Y (λi s=>(⟨true,false,st,bk,ph,r,i,s⟩:Acn)) (λi s=>(⟨false,ph==0,st,bk,ph,r,i,s⟩:Acn)) m:=by
     rw [HR.out,c9,<-HM.o];rfl
    rw [<-bG] at hb;obtain ⟨Hb,Hq⟩:=ae hb (bi.o.trans ((bt Q4.o (HQ.o)).mono bi.o.size));clear hb bG uJ;go_wp2_with fail;go_ret;exact ⟨_,rfl,Hb.o,Hq.o⟩
structure bT (p:Pln):Prop where
 W1:1<=p.W
 W8:p.W<=8
 mi:p.mi<=20
 n:p.n<=60
 bu:1<=p.bu
 ck:1<=p.ck
 ck2:p.ck<=1048576
 wi:1<=p.wi
theorem Fb {n s:Nat}:∀r∈qx n s,r.1<=r.2/\r.2<=n:=by
 intro r hr;simp only [qx,List.mem_reverse,fv,List.mem_map,List.mem_range] at hr;obtain ⟨i,h,rfl⟩:=hr;have:=iI h;exact ⟨by simp only;omega,by simp only;omega⟩
theorem bT.buks {p:Pln} (h:bT p):p.buks.length<=60:=by
 have:=vG p.n p.bu;have:=h.n;rw [Pln.buks,jq];omega
theorem bT.buk {p:Pln} (h:bT p) (j:Nat):(aK p.buks j).1<=(aK p.buks j).2/\(aK p.buks j).2<=60:=by
 rcases QO j p.buks.length with i | i
 .have:=Fb _ (List.getElem_mem i);rw [<-cX _ _ i] at this;have hn:=h.n;exact ⟨this.1,by omega⟩
 .have:aK p.buks j=(0,0):=by simp [aK,List.getD,i]
  rw [this];simp
theorem bT.round {p:Pln} (h:bT p) (w st ph r j:Nat):(cq p w st ph r j).length<=120:=by
 unfold cq;rw [List.length_map];exact Ge h.W1 (h.buk j).1 (h.buk j).2
theorem CK (p:Pln) (L base st x:Nat) (lo B:Nat) (a0 a1 a2 a3 a5 a6 a7 a8 ab av aM:Value) (BA:N_) (bc:Nat) (v:Value) (l:List Itm) (w:R8) (hp:bT p) (hl:ir w L base st v l) (hb:base<=w.heap.size) (cc:Rd w BA (aS p.buks)) (bV:∀y,BA=some y->y.block<base) (hL:base<=L) (hx:x<p.W) (hg:B<=p.buks.length) (e0:l.length<=8000000):Calls prog 132 #[.agg #[a0,a1,a2,a3,RI (p.W:Nat),a5,a6,a7,a8,RI (p.ck:Nat),ab,av,.slice BA p.buks.length bc,aM],(au L),RI x,.agg #[RI (lo:Nat),RI (B:Nat)]] w λe u=>e=.returned (.tuple #[])/\
   ∃v',ir u L base st v' (l++cR p x st (lo,B) (2*(p.W-1)))/\Apd L w v u v':=by
 obtain ⟨D,R⟩:∃D,(w.alloc (.cells #[a0,a1,a2,a3,RI (p.W:Nat),a5,a6,a7,a8,RI (p.ck:Nat),ab,av,.slice BA p.buks.length bc,aM] 192)).alloc (.cells #[RI (lo:Nat),RI (B:Nat)] 69)=D:=⟨_,rfl⟩
 have g0:D.heap[w.heap.size]?=some (.cells #[a0,a1,a2,a3,RI (p.W:Nat),a5,a6,a7,a8,RI (p.ck:Nat),ab,av,.slice BA p.buks.length bc,aM] 192 (0,0)):=by
  rw [<-R,QL _ _ _ (by simp)];exact Qy w _
 have g1:D.heap[w.heap.size+1]?=some (.cells #[RI (lo:Nat),RI (B:Nat)] 69 (0,0)):=by
  rw [<-R];have:=Qy (w.alloc (.cells #[a0,a1,a2,a3,RI (p.W:Nat),a5,a6,a7,a8,RI (p.ck:Nat),ab,av,.slice BA p.buks.length bc,aM] 192)) (.cells #[RI (lo:Nat),RI (B:Nat)] 69);simpa using this
 have aG:aq w D:=by rw [<-R];exact ((br w).alloc (Qx _) _).alloc (by simp) _
 have I:=hl.below aG;have d6:=Qw I.1;have cy:=Qw hl.1;have kS:=λu (q:Keep (λj=>j=L\/v.ownBlock=some j) D u)=>(q.block _ (Qw g0) (λe=>e.elim (λh=>ap) (λh=>ay g0 (by decide) I.2 h.symm))).trans g0;have kG:=λu (q:Keep (λj=>j=L\/v.ownBlock=some j) D u)=>(q.block _ (Qw g1) (λe=>e.elim (λh=>ap) (λh=>ay g1 (by decide) I.2 h.symm))).trans g1;have b0:Rd D BA (aS p.buks):=cc.below aG
 have kB:=λu (q:Keep (λj=>j=L\/v.ownBlock=some j) D u)=>q.rd b0 (λy hy=>by
  have:=bV y hy;rintro (h | h)
  .omega
  .have:=(hl.2.lt _ h).1;omega)
 have bG:=λj=>hp.buk j;have hrl:=λph r j=>hp.round x st ph r j;obtain ⟨m,hm⟩:∃m,p.W-1=m:=⟨_,rfl⟩;have cY:=hp.W1;have dT:=hp.W8;have cx:=hp.ck;have cd:=hp.ck2;have e2:=hp.buks;have e1:(p.W:Int)-1=(m:Int):=ap;obtain ⟨T,hT⟩:∃T,2*m=T:=⟨_,rfl⟩;have dv:(2:Int)*(m:Int)=(T:Int):=ap;have dG:IntKind.i64.wrap (m:Int)=m:=QC _ ap;have dr:IntKind.i64.wrap (T:Int)=T:=QC _ ap;rw [hm,hT];obtain ⟨d7,bO,cw,HS,HG,HB,cM,be⟩:=ak R aG I kS kG kB bG hrl;obtain ⟨Hm,HT⟩:=ae hm hT;have tS:=λu (q:aq D u)=>Ms (kS u (Keep.below q));have q0:=br D;clear R g0 g1 aG I hl cc b0 kS kG kB bG hrl hm hT hp d6 cy bV;go_enter func132,ntmps132;go_wp2_with fail;rw [d7.o];clear tS q0
 go_loopw [19] (λy wr=>∃k:Nat,k<=T/\y=RI k/\∃v',ir wr L base st v' (l++cR p x st (lo,B) k)/\Apd L D v wr v') (λy _=>T-(intOf y).toNat)
 .exact ⟨0,QB _,rfl,v,by simpa [cR] using cw.o,Apd.refl _ _ _⟩
 case round=>
  obtain ⟨k,hk,rfl,v1,ao,A1⟩:=hrel;by_cases dp:k<T
  .have cI:(k:Int)<T:=ap;have bz:0<m:=by have:=HT.o;omega
   have dn:IntKind.i64.wrap ((k:Int)+1)=((k+1:Nat):Int):=by rw [QC _ ap];push_cast;rfl
   obtain ⟨wq,rfl⟩:∃wq:R8,wq=wr:=⟨_,rfl⟩;have uG:=λu (q:aq wq u)=>bx2 (sb (HG.o wq A1.1) u q);have q1:=br wq;obtain ⟨b5,b4⟩:=ae ao A1;clear ao A1;go_wp2_with fail;clear uG q1
   go_loopw [9] (λy wr=>∃j:Nat,lo<=j/\(j<=B\/j=lo)/\y=RI j/\∃v2,ir wr L base st v2 (l++cR p x st (lo,B) k++ik p x st k lo (j-lo))/\Apd L D v wr v2) (λy _=>B-(intOf y).toNat)
   .exact ⟨lo,Qx _,.inr rfl,rfl,v1,by simpa [ik] using b5.o,b4.o⟩
   case round=>
    obtain ⟨j,hj,e3,rfl,v2,C,A2⟩:=hrel;have uG:=λu (q:aq wr u)=>bx2 (sb (HG.o wr A2.1) u q);by_cases df:j<B
    .have d4:(j:Int)<B:=ap;obtain ⟨A,rfl⟩:∃A:R8,A=wr:=⟨_,rfl⟩;have d2:j<p.buks.length:=ap;have dc:(j:Int)<p.buks.length:=ap;have b3:=eA d2;obtain ⟨bb,bo,rfl,b9⟩:=HB.o A A2.1 _ _ b3.1;obtain ⟨cs,d8,e',a9⟩:=HB.o A A2.1 _ _ b3.2;obtain ⟨rfl,rfl⟩:cs=bb/\d8=bo:=by simpa using e'.symm
     rw [<-Rz] at a9;have bM:=cM.o j;obtain ⟨b1,bf⟩:∃b1,(aK p.buks j).1=b1:=⟨_,rfl⟩;obtain ⟨b2,b6⟩:∃b2,(aK p.buks j).2=b2:=⟨_,rfl⟩;rw [bf] at b9 bM;rw [b6] at a9 bM;have d0:=λu (q:aq A u)=>aw q b9;have d1:=λu (q:aq A u)=>aw q a9;have uS:=λu (q:aq A u)=>Ms (sb (HS.o A A2.1) u q);have uL:=λu (q:aq A u)=>bx2 (sb C.1 u q);obtain ⟨H,Q,cA,d5⟩:=ag C A2 bf b6;have q1:=br A;clear C A2 bf b6 b3 e' b9 a9;go_wp2_with fail;refine XA.g 18 (λu:R8=>aq A u) ?_;refine XA.t ?_ [0,1,2,3,4,5,6,7,8,9,10,11,12,13,14,15,16] q1.drew ?_;refine XA.v 17 (A.drew.alloc (.cells RQ 71)) ((au A.heap.size)) (q1.drew.alloc (Qx _) _) ?_;refine XA.e ?_;simp only [Re,Rf];have cL:=Qw (HG.o A Q.o.1);go_wp2_with fail;obtain ⟨Z,O⟩:∃Z,(A.alloc (.cells #[RI (st:Nat),RI (j:Nat),RI (b1:Nat),RI (b2:Nat),RI (p.W:Nat),RI (p.ck:Nat)] 71)).drew=Z:=⟨_,rfl⟩;have h7:Z.heap[A.heap.size]?=some (.cells #[RI (st:Nat),RI (j:Nat),RI (b1:Nat),RI (b2:Nat),RI (p.W:Nat),RI (p.ck:Nat)] 71 (0,0)):=by rw [<-O];exact Qy A _
     have k7:aq A Z:=by rw [<-O];exact (q1.alloc (Qx _) _).drew
     rw [O];have t7:=λu (q:aq Z u)=>bx6 (sb h7 u q);have t8:=λu (q:aq Z u)=>uS u (bt k7 q);have c9:(k:Int).tdiv (m:Int)=((k/m:Nat):Int):=rfl;have bI:(k:Int)/(m:Int)=((k/m:Nat):Int):=rfl;have bv:(k:Int).tmod (m:Int)=((k%m:Nat):Int):=rfl;have bl:(k:Int)%(m:Int)=((k%m:Nat):Int):=rfl;have ds:¬(m=0):=ap;have b8:k/m<2:=by rw [Nat.div_lt_iff_lt_mul bz];have:=HT.o;omega
     have co:k%m<m:=Nat.mod_lt _ bz
     have e8:cq p x st (k/(p.W-1)) (k%(p.W-1)) j=(cZ st j (b1,b2) p.W p.ck x (k/m) (k%m)).map (fD st):=by
      unfold cq;rw [Hm.o,<-cA.o,<-d5.o]
     have hrl:=be.o (k/(p.W-1)) (k%(p.W-1)) j;rw [e8,List.length_map] at hrl;obtain ⟨ph,V⟩:∃q,k/m=q:=⟨_,rfl⟩;obtain ⟨r,b7⟩:∃q,k%m=q:=⟨_,rfl⟩;rw [V] at c9 bI b8;rw [b7] at bv bl co;rw [V,b7] at e8 hrl;have cv:IntKind.i64.wrap (ph:Int)=ph:=QC _ ap;obtain ⟨H7,K7,E8,a4⟩:=ag O k7 e8 hrl;have q7:=br Z;clear O h7 k7 uS uL uG d0 d1 q1 V b7 e8 hrl cL;refine HA.g (λu:R8=>aq Z u) ?_;refine HA.t ?_ [0,1,2,3,4,5,6,7,8,9,10,11,12,13,16] q7.drew ?_;refine HA.c 14 (Gd st j b1 b2 p.W p.ck x ph r _ cY ap hx b8 (by have:=Hm.o;omega) ap ap cx cd) ?_;rintro e w8 ⟨v8,rfl,o8,k8⟩;have q8:=bt q7.drew k8;refine ⟨_,rfl,q8,λ_=>?_⟩;obtain ⟨A8,c8,rfl,_⟩:=aD o8;refine HA.t ?_ [15] q8 ?_;refine HA.d ?_;simp only [Exit.then];obtain ⟨X,hX⟩:∃X,cZ st j (b1,b2) p.W p.ck x ph r=X:=⟨_,rfl⟩;rw [hX] at E8 a4 o8 |-;obtain ⟨N,hN⟩:∃N,X.length=N:=⟨_,rfl⟩;rw [hN] at a4 o8 |-;have l8:=(H.o.below K7.o).below q8;have bn:Apd L D v w8 v2:=Q.o.trans (Apd.below (bt K7.o q8))
     have ci:=λu (q:Keep (λj=>j=L\/v2.ownBlock=some j) w8 u)=>q.own o8 (λk hk e=>by
      have h1:=(o8.lt k hk).1;have h2:=Qw H.o.1;have h3:=K7.o.size;rcases e with e | e
      .have h4:Z.heap.size<=k:=h1;omega
      .have h5:k<A.heap.size:=(H.o.2.lt k e).2;have h4:Z.heap.size<=k:=h1
       omega)
     obtain ⟨L8,bi,cO,HN⟩:=ag l8 bn ci hN;clear o8 l8 bn ci k8 q8 q7 t7 t8 hX hN c9 bI bv bl cv co b8 H Q H7;go_wp2_with fail
     go_loopw [63] (λy wr=>∃i:Nat,i<=N/\y=RI i/\∃v3,ir wr L base st v3 (l++cR p x st (lo,B) k++ik p x st k lo (j-lo)++(X.take i).map (fD st))/\Apd L w8 v2 wr v3) (λy _=>N-(intOf y).toNat)
     .exact ⟨0,QB _,rfl,v2,by simpa using L8.o,Apd.refl _ _ _⟩
     case round=>
      obtain ⟨i,dk,rfl,v3,l3,A3⟩:=hrel;by_cases da:i<N
      .have d9:(i:Int)<N:=ap;have dw:IntKind.i64.wrap ((i:Int)+1)=((i+1:Nat):Int):=by rw [QC _ (by have:=a4.o;omega)];push_cast;rfl
       have oX:=cO.o wr A3.1
       obtain ⟨J,rfl⟩:∃J,A8=some (ar J 0):=by
        obtain ⟨g,e,hv,_⟩:=oX.form ap;simp only [Rv] at hv;exact ⟨g,hv.1⟩
       have d3:i<X.length:=by rw [HN.o];exact da
       obtain ⟨a,ha⟩:∃a,X[i]=a:=⟨_,rfl⟩;have cr:X[i]?=some a:=by rw [<-ha];simp
       have Y:=Cb oX cr HN.o;have cn:X.take (i+1)=X.take i++[a]:=by rw [List.take_succ_eq_append_getElem d3,ha]
       have aP:(l++cR p x st (lo,B) k++ik p x st k lo (j-lo)++(X.take i).map (fD st)).length<=8388608:=by
        have h1:=j6 (w:=x) (st:=st) (k:=k) (g:=(lo,B)) (M:=120) (p:=p) (λph r j=>be.o ph r j);have h2:=vg (w:=x) (st:=st) (k:=k) (lo:=lo) (n:=j-lo) (M:=120) (p:=p) (λph r j=>be.o ph r j);have h3:(X.take i).length<=120:=by rw [Rn];have:=a4.o;omega
        have h4:k*((B-lo)*120)<=14*(60*120):=Nat.mul_le_mul (by have:=HT.o;omega) (Nat.mul_le_mul ap (Qx _));have h5:(j-lo)*120<=60*120:=Nat.mul_le_mul ap (Qx _);simp only [Rh,List.length_map];dsimp only at h1;omega
       obtain ⟨snd,ad,bA,cl,bh,bs,cb,cj,bw⟩:=a;have c0:wr.cell? (ar J (i*9))=some (.bool snd):=Y 0 ap;have c1:wr.cell? (ar J (i*9+1))=some (.bool ad):=Y 1 ap;have c2:wr.cell? (ar J (i*9+2))=some (RI (bA:Nat)):=Y 2 ap;have c3:wr.cell? (ar J (i*9+3))=some (RI (cl:Nat)):=Y 3 ap;have c4:wr.cell? (ar J (i*9+4))=some (RI (bh:Nat)):=Y 4 ap;have c5:wr.cell? (ar J (i*9+5))=some (RI (bs:Nat)):=Y 5 ap;have c6:wr.cell? (ar J (i*9+6))=some (RI (cb:Nat)):=Y 6 ap;have c7:wr.cell? (ar J (i*9+7))=some (RI (cj:Nat)):=Y 7 ap;have c8:wr.cell? (ar J (i*9+8))=some (RI (bw:Nat)):=Y 8 ap;have U:=λ(kd:Int) (kn:Nat) hk u (q:aq wr u)=>Is L base st kd kn hk ⟨snd,ad,bA,cl,bh,bs,cb,cj,bw⟩ v3 _ u (l3.below q) (QD (QD hb (QD bO.o.size (bi.o.trans A3).1.size)) q.size) aP;dsimp only at U;obtain ⟨bN,aR,bX⟩:=af A3 U cn;clear oX Y l3 A3 U cn cr aP
       cases snd
       .go_wp2_with fail;refine (aR.o 4 4 rfl _ ((br wr).alloc (Qx _) _)).mono ?_;rintro e w9 ⟨rfl,v9,l9,A9⟩;obtain ⟨L9,B9⟩:=ae l9 (bN.o.trans ((Apd.below ((br wr).alloc (Qx _) _)).trans A9));clear l9 A9 c0 c1 c2 c3 c4 c5 c6 c7 c8;go_wp2_with fail;go_roundw
        .exact ⟨i+1,by omega,by go_num,v9,by rw [bX.o,List.map_append,<-Ro];exact L9.o,B9.o⟩
        .simp [intOf];omega
       .go_wp2_with fail;refine (aR.o 3 3 rfl _ ((br wr).alloc (Qx _) _)).mono ?_;rintro e w9 ⟨rfl,v9,l9,A9⟩;obtain ⟨L9,B9⟩:=ae l9 (bN.o.trans ((Apd.below ((br wr).alloc (Qx _) _)).trans A9));clear l9 A9 c0 c1 c2 c3 c4 c5 c6 c7 c8;go_wp2_with fail;go_roundw
        .exact ⟨i+1,by omega,by go_num,v9,by rw [bX.o,List.map_append,<-Ro];exact L9.o,B9.o⟩
        .simp [intOf];omega
      .obtain rfl:N=i:=ap;have d9:¬((N:Int)<N):=ap;have dd:IntKind.i64.wrap ((j:Int)+1)=((j+1:Nat):Int):=by rw [QC _ ap];push_cast;rfl
       rw [List.take_of_length_le (by rw [HN.o];exact Qx _),<-E8.o,Ro,show ik p x st k lo (j-lo)++cq p x st (k/(p.W-1)) (k%(p.W-1)) j=ik p x st k lo (j+1-lo) from by rw [show j+1-lo=(j-lo)+1 by omega,qt,show lo+(j-lo)=j by omega]] at l3;obtain ⟨L3,B3⟩:=ae l3 (bi.o.trans A3);clear l3 A3;go_wp2_with fail;go_roundw
       .exact ⟨j+1,by omega,by omega,by go_num,v3,L3.o,B3.o⟩
       .simp [intOf];omega
    .have d4:¬((j:Int)<B):=ap;have q1:=br wr;rw [show j-lo=B-lo by omega] at C;have e:=iy p x st (lo,B) k;dsimp only at e;rw [Ro,<-e] at C;obtain ⟨H,Q⟩:=ae C A2;clear C A2 e;go_wp2_with fail;go_roundw
     .exact ⟨k+1,by omega,by go_num,v2,H.o,Q.o⟩
     .simp [intOf];omega
  .obtain rfl:T=k:=ap;have cI:¬((T:Int)<T):=ap;obtain ⟨b5,b4⟩:=ae ao A1;clear ao A1;go_wp2_with fail
   go_end0
   exact ⟨rfl,v1,b5.o,(Apd.below (v:=v) (bt (br w) (bO.o))).trans b4.o⟩
theorem Mw {n s:Nat}:∀r∈fv n s,r.1<=r.2/\r.2<=n:=by
 intro r hr;simp only [fv,List.mem_map,List.mem_range] at hr;obtain ⟨i,h,rfl⟩:=hr;have:=iI h;exact ⟨by simp only;omega,by simp only;omega⟩
theorem bT.grp {p:Pln} (h:bT p) {i:Nat} (o:i<p.grps.length):(aK p.grps i).1<=(aK p.grps i).2/\(aK p.grps i).2<=p.buks.length:=by
 have:=Mw _ (List.getElem_mem o)
 rwa [<-cX _ _ o] at this
theorem bT.grps {p:Pln} (h:bT p):p.grps.length<=60:=by
 have:=vG p.buks.length p.wi;have:=h.buks;rw [Pln.grps,fm];omega
theorem Iy {p:Pln} (h:bT p) (w st:Nat) (g:Rg) (hg:g.2-g.1<=60):(dx p w st g).length<=100920:=by
 unfold dx;rw [<-sU];simp only [Rh,List.length_map,List.length_range'];have h1:=j6 (w:=w) (st:=st) (k:=2*(p.W-1)) (g:=g) (M:=120) (p:=p) (λph r j=>h.round w st ph r j);have i:=h.W8;have o:2*(p.W-1)*((g.2-g.1)*120)<=14*(60*120):=Nat.mul_le_mul ap (Nat.mul_le_mul hg (Qx _));omega
def dS (p:Pln) (w st k:Nat):List Itm:=(List.range p.mi).map (λa=>(⟨1,st,a,none⟩:Itm))++(p.grps.take k).flatMap (dx p w st)
theorem qv {p:Pln} (w st:Nat) {k:Nat} (hk:k<p.grps.length):dS p w st (k+1)=dS p w st k++dx p w st (aK p.grps k):=by
 unfold dS;rw [List.take_succ_eq_append_getElem hk,<-cX _ _ hk,List.flatMap_append,<-Ro];simp
theorem nX {p:Pln} (h:bT p) (w st:Nat) {k:Nat} (hk:k<=p.grps.length):(dS p w st k).length<=20+k*100920:=by
 induction k with
 | zero=>have:=h.mi;simp [dS];omega
 | succ k ih=>
  have h1:=h.grp (show k<p.grps.length by omega);have i:=h.buks;have:=Iy h w st (aK p.grps k) ap;rw [qv w st ap,Rh];have:=ih ap;omega
def dD (st lo n:Nat) (h:Nat):List Itm:=(List.range' lo n).map (λj=>(⟨h,st,j,none⟩:Itm))
theorem m6 (st lo n h:Nat):dD st lo (n+1) h=dD st lo n h++[(⟨h,st,lo+n,none⟩:Itm)]:=by simp [dD,List.range'_concat]
theorem jT (st lo n h:Nat):(dD st lo n h).length=n:=by simp [dD]
theorem xW (p:Pln) (w st lo h:Nat):dx p w st (lo,h)=dD st lo (h-lo) 2++cR p w st (lo,h) (2*(p.W-1))++dD st lo (h-lo) 5:=by
 rw [sU];rfl
theorem sZ (st k:Nat):(List.range (k+1)).map (λa=>(⟨1,st,a,none⟩:Itm))=(List.range k).map (λa=>(⟨1,st,a,none⟩:Itm))++[(⟨1,st,k,none⟩:Itm)]:=by simp [Rx]
theorem xM (p:Pln) (st x:Nat) (a0 a1 a2 a3 a5 a7 a8 O U:Value) (BA GA:N_) (bc gc:Nat) (w:R8) (hp:bT p) (hx:x<p.W) (bs:Rd w BA (aS p.buks)) (be:Rd w GA (aS p.grps)) (aR:∀y,BA=some y->y.block<w.heap.size) (bv:∀y,GA=some y->y.block<w.heap.size):Calls prog 96 #[.agg #[a0,a1,a2,a3,RI (p.W:Nat),a5,RI (p.mi:Nat),a7,a8,RI (p.ck:Nat),O,U,.slice BA p.buks.length bc,.slice GA p.grps.length gc],RI x,RI (st:Nat)] w λe u=>∃v,e=.returned v/\u.ownsRow w.heap.size 135 12 v (aE p x st).length (cD (aE p x st))/\aq w u:=by
 obtain ⟨C,L⟩:∃C,(w.alloc (.cells #[a0,a1,a2,a3,RI (p.W:Nat),a5,RI (p.mi:Nat),a7,a8,RI (p.ck:Nat),O,U,.slice BA p.buks.length bc,.slice GA p.grps.length gc] 192)).alloc (.cells #[RI (st:Nat),RJ] 231)=C:=⟨_,rfl⟩
 have g0:C.heap[w.heap.size]?=some (.cells #[a0,a1,a2,a3,RI (p.W:Nat),a5,RI (p.mi:Nat),a7,a8,RI (p.ck:Nat),O,U,.slice BA p.buks.length bc,.slice GA p.grps.length gc] 192 (0,0)):=by
  rw [<-L,QL _ _ _ (by simp)];exact Qy w _
 have g1:C.heap[w.heap.size+1]?=some (.cells #[RI (st:Nat),RJ] 231 (0,0)):=by
  rw [<-L];have:=Qy (w.alloc (.cells #[a0,a1,a2,a3,RI (p.W:Nat),a5,RI (p.mi:Nat),a7,a8,RI (p.ck:Nat),O,U,.slice BA p.buks.length bc,.slice GA p.grps.length gc] 192)) (.cells #[RI (st:Nat),RJ] 231);simpa using this
 have a4:aq w C:=by rw [<-L];exact ((br w).alloc (Qx _) _).alloc (by simp) _
 have b7:ir C (w.heap.size+1) (w.heap.size+1) st (RJ) []:=⟨g1,QI _ _ _ _⟩;have bh:w.heap.size+1+1=C.heap.size:=by rw [<-L];simp
 have hz:w.heap.size+1<C.heap.size:=ap;have kS:=λu (q:Keep (λj=>j=w.heap.size+1\/(Value.slice none 0 0).ownBlock=some j) C u)=>(q.block _ (Qw g0) (λe=>e.elim (λh=>ap) (λh=>by cases h))).trans g0
 have ad:Rd C BA (aS p.buks):=bs.below a4;have ab:Rd C GA (aS p.grps):=be.below a4
 have kB:=λu (q:Keep (λj=>j=w.heap.size+1\/(Value.slice none 0 0).ownBlock=some j) C u)=>q.rd ad (λy hy=>by
  have:=aR y hy;rintro (h | h)
  .omega
  .cases h)
 have kG:=λu (q:Keep (λj=>j=w.heap.size+1\/(Value.slice none 0 0).ownBlock=some j) C u)=>q.rd ab (λy hy=>by
  have:=bv y hy;rintro (h | h)
  .omega
  .cases h)
 have ci:=hp.grps;have aM:=hp.buks;have cl:=hp.mi;obtain ⟨cc,c6,bO,HS,c8,bn,V,c9⟩:=ak L a4 b7 kS kB kG bh aR;have tS:=λu (q:aq C u)=>Ms (kS u (Keep.below q));have q0:=br C;clear L g0 g1 a4 b7 bs ad be ab kS kB kG bh aR bv;go_enter func96,ntmps96;go_wp2_with fail;rw [cc.o];clear tS q0
 go_loopw [22] (λy wr=>∃k:Nat,k<=p.mi/\y=RI k/\∃v',ir wr (w.heap.size+1) (w.heap.size+1) st v' ((List.range k).map (λa=>(⟨1,st,a,none⟩:Itm)))/\Apd (w.heap.size+1) C (Value.slice none 0 0) wr v') (λy _=>p.mi-(intOf y).toNat)
 .exact ⟨0,QB _,rfl,_,bO.o,Apd.refl _ _ _⟩
 case round=>
  obtain ⟨k,hk,rfl,v1,l1,A1⟩:=hrel;by_cases Z:k<p.mi
  .have aG:(k:Int)<p.mi:=ap;have b9:IntKind.i64.wrap ((k:Int)+1)=((k+1:Nat):Int):=by rw [QC _ ap];push_cast;rfl
   have hc:=pA (w.heap.size+1) (w.heap.size+1) st k 1 1 rfl v1 _ wr l1 (by have:=A1.1.size;have:=V.o;omega) (by simp;omega);obtain ⟨Hc,av⟩:=ae hc A1;clear hc A1 l1;go_wp2_with fail;refine Hc.o.mono ?_;rintro e w5 ⟨rfl,v5,H,T⟩;rw [<-sZ] at H;obtain ⟨L5,B5⟩:=ae H (av.o.trans T);clear H T;go_wp2_with fail;go_roundw
   .exact ⟨k+1,by omega,by go_num,v5,L5.o,B5.o⟩
   .simp [intOf];omega
  .obtain rfl:p.mi=k:=ap;have aG:¬((p.mi:Int)<p.mi):=ap;have tS:=λu (q:aq wr u)=>Ms (sb (HS.o wr A1.1) u q);have q0:=br wr;obtain ⟨bV,av⟩:=ae l1 A1;clear l1 A1;go_wp2_with fail;clear tS q0
   go_loopw [33] (λy wr=>∃k:Nat,k<=p.grps.length/\y=RI k/\∃v',ir wr (w.heap.size+1) (w.heap.size+1) st v' (dS p x st k)/\Apd (w.heap.size+1) C (Value.slice none 0 0) wr v') (λy _=>p.grps.length-(intOf y).toNat)
   .exact ⟨0,QB _,rfl,_,by simpa [dS] using bV.o,av.o⟩
   case round=>
    obtain ⟨k,hk,rfl,v2,l2,A2⟩:=hrel;by_cases Z:k<p.grps.length
    .have aG:(k:Int)<p.grps.length:=ap;have co:IntKind.i64.wrap ((k:Int)+1)=((k+1:Nat):Int):=by rw [QC _ ap];push_cast;rfl
     obtain ⟨wi,rfl⟩:∃wi:R8,wi=wr:=⟨_,rfl⟩;have ao:=eA Z;obtain ⟨bb,bo,rfl,b2⟩:=bn.o wi A2.1 _ _ ao.1;obtain ⟨b5,bw,e',Y⟩:=bn.o wi A2.1 _ _ ao.2;obtain ⟨rfl,rfl⟩:b5=bb/\bw=bo:=by simpa using e'.symm
     rw [<-Rz] at Y;have a9:=hp.grp Z;have J:=qv (p:=p) x st Z;have I:=nX hp x st hk;obtain ⟨lo,i,bG⟩:∃lo i,aK p.grps k=(lo,i):=⟨_,_,rfl⟩;rw [bG] at a9 b2 Y J;rw [xW] at J;dsimp only at a9 b2 Y;obtain ⟨W3,a6⟩:∃W3,wi.alloc (.cells #[RI (lo:Nat),RI (i:Nat)] 69)=W3:=⟨_,rfl⟩;have h3:W3.heap[wi.heap.size]?=some (.cells #[RI (lo:Nat),RI (i:Nat)] 69 (0,0)):=by rw [<-a6];exact Qy wi _
     have k3:aq wi W3:=by rw [<-a6];exact (br wi).alloc (Qx _) _
     have cn:(w.heap.size+1)<wi.heap.size:=by have:=A2.1.size;have:=V.o;omega
     have b4:=l2.below k3;have b8:=λu (q:Keep (λj=>j=(w.heap.size+1)\/v2.ownBlock=some j) W3 u)=>(q.block _ (Qw h3) (λe=>e.elim (λh=>ap) (λh=>ay h3 (by decide) b4.2 h.symm))).trans h3;have b6:(w.heap.size+1)<=W3.heap.size:=by have:=k3.size;omega
     have bz:=A2.trans (Apd.below k3);obtain ⟨c7,b0,b3,aP,cb,bl,R⟩:=aj a6 b8 b6 bz b4 J I;clear a6 h3 k3 b4 b8 b6 bz J I l2 A2 ao e' bG;go_wp2_with fail;rw [c7.o];clear b2 Y
     have hrl:(cR p x st (lo,i) (2*(p.W-1))).length<=100800:=by
      have h1:=j6 (w:=x) (st:=st) (k:=2*(p.W-1)) (g:=(lo,i)) (M:=120) (p:=p) (λph r j=>hp.round x st ph r j);have h2:=hp.W8;have h4:2*(p.W-1)*((i-lo)*120)<=14*(60*120):=Nat.mul_le_mul ap (Nat.mul_le_mul ap (Qx _));dsimp only at h1;omega
     have bA:=aa hrl;clear hrl
     go_loopw [12] (λy wr=>∃j:Nat,lo<=j/\j<=i/\y=RI j/\∃v3,ir wr (w.heap.size+1) (w.heap.size+1) st v3 (dS p x st k++dD st lo (j-lo) 2)/\Apd (w.heap.size+1) W3 v2 wr v3) (λy _=>i-(intOf y).toNat)
     .exact ⟨lo,Qx _,a9.1,rfl,v2,by simpa [dD] using cb.o,Apd.refl _ _ _⟩
     case round=>
      obtain ⟨j,hj,cf,rfl,v3,Q,D⟩:=hrel;have uR:=λu (q:aq wr u)=>bx2 (sb (b0.o wr D.1) u q);have q1:=br wr;by_cases bM:j<i
      .have b1:(j:Int)<i:=ap;have b9:IntKind.i64.wrap ((j:Int)+1)=((j+1:Nat):Int):=by rw [QC _ ap];push_cast;rfl
       have e:dS p x st k++dD st lo (j+1-lo) 2=(dS p x st k++dD st lo (j-lo) 2)++[(⟨2,st,j,none⟩:Itm)]:=by rw [show j+1-lo=(j-lo)+1 by omega,m6,show lo+(j-lo)=j by omega];simp only [Ro]
       have A:(dS p x st k++dD st lo (j-lo) 2).length<=8388608:=by
        have:=R.o;have:=bA.o;simp only [Rh,jT];omega
       have hc:=pA (w.heap.size+1) (w.heap.size+1) st j 2 2 rfl v3 _ wr Q (by have:=D.1.size;have:=b3.o;omega) A;obtain ⟨Hc,N,He⟩:=af hc D e;clear hc D e Q A;go_wp2_with fail;refine Hc.o.mono ?_;rintro e w5 ⟨rfl,v5,H,T⟩;rw [<-He.o] at H;obtain ⟨L5,B5⟩:=ae H (N.o.trans T);clear H T uR q1;go_wp2_with fail;go_roundw
       .exact ⟨j+1,by omega,by omega,by go_num,v5,L5.o,B5.o⟩
       .simp [intOf];omega
      .have b1:¬((j:Int)<i):=ap;obtain rfl:i=j:=ap;have uS:=λu (q:aq wr u)=>Ms (sb (HS.o wr (aP.o.trans D).1) u q)
       have bf:=CK p (w.heap.size+1) (w.heap.size+1) st x lo i a0 a1 a2 a3 a5 (RI (p.mi:Nat)) a7 a8 O U (.slice (some (ar b5 bw)) p.grps.length gc) BA bc v3 _ wr hp Q (by have:=D.1.size;have:=b3.o;omega) (c8.o wr (aP.o.trans D).1) (λy hy=>by have:=c9.o y hy;omega) (Qx _) hx ap (by
        have:=R.o;simp only [Rh,jT]
        omega)
       obtain ⟨bI,N⟩:=ae bf D;clear bf D Q;go_wp2_with fail;refine bI.o.mono ?_;rintro e w6 ⟨rfl,v6,l6,A6⟩;have A7:=N.o.trans A6;have bN:=λu (q:aq w6 u)=>bx2 (sb (b0.o w6 A7.1) u q);have q6:=br w6;obtain ⟨L6,cd⟩:=ae l6 A7;clear l6 A7 A6 uR q1 uS;go_wp2_with fail;clear bN q6
       go_loopw [13] (λy wr=>∃j:Nat,lo<=j/\j<=i/\y=RI j/\∃v3,ir wr (w.heap.size+1) (w.heap.size+1) st v3 ((dS p x st k++dD st lo (i-lo) 2++cR p x st (lo,i) (2*(p.W-1)))++dD st lo (j-lo) 5)/\Apd (w.heap.size+1) W3 v2 wr v3) (λy _=>i-(intOf y).toNat)
       .exact ⟨lo,Qx _,a9.1,rfl,v6,by simpa [dD] using L6.o,cd.o⟩
       case round=>
        obtain ⟨j,hj,cf,rfl,v3,Q,D⟩:=hrel;have uR:=λu (q:aq wr u)=>bx2 (sb (b0.o wr D.1) u q);have q1:=br wr;by_cases bM:j<i
        .have b1:(j:Int)<i:=ap;have b9:IntKind.i64.wrap ((j:Int)+1)=((j+1:Nat):Int):=by rw [QC _ ap];push_cast;rfl
         have e:(dS p x st k++dD st lo (i-lo) 2++cR p x st (lo,i) (2*(p.W-1)))++dD st lo (j+1-lo) 5=((dS p x st k++dD st lo (i-lo) 2++cR p x st (lo,i) (2*(p.W-1)))++dD st lo (j-lo) 5)++[(⟨5,st,j,none⟩:Itm)]:=by rw [show j+1-lo=(j-lo)+1 by omega,m6,show lo+(j-lo)=j by omega];simp only [Ro]
         have A:((dS p x st k++dD st lo (i-lo) 2++cR p x st (lo,i) (2*(p.W-1)))++dD st lo (j-lo) 5).length<=8388608:=by
          have:=R.o;have:=bA.o;simp only [Rh,jT];omega
         have hc:=pA (w.heap.size+1) (w.heap.size+1) st j 5 5 rfl v3 _ wr Q (by have:=D.1.size;have:=b3.o;omega) A;obtain ⟨Hc,N,He⟩:=af hc D e;clear hc D e Q A;go_wp2_with fail;refine Hc.o.mono ?_;rintro e w5 ⟨rfl,v5,H,T⟩;rw [<-He.o] at H;obtain ⟨L5,B5⟩:=ae H (N.o.trans T);clear H T uR q1;go_wp2_with fail;go_roundw
         .exact ⟨j+1,by omega,by omega,by go_num,v5,L5.o,B5.o⟩
         .simp [intOf];omega
        .have b1:¬((j:Int)<i):=ap;obtain rfl:i=j:=ap;rw [Ro,Ro] at Q;rw [show dS p x st k++(dD st lo (i-lo) 2++(cR p x st (lo,i) (2*(p.W-1))++dD st lo (i-lo) 5))=dS p x st (k+1) by rw [bl.o];simp only [Ro]] at Q;obtain ⟨L9,B9⟩:=ae Q (aP.o.trans D);clear Q D;go_wp2_with fail;go_roundw
         .exact ⟨k+1,by omega,by go_num,v3,L9.o,B9.o⟩
         .simp [intOf];omega
    .have aG:¬((k:Int)<p.grps.length):=ap;have bi:k=p.grps.length:=ap;have I:=nX hp x st hk;have hc:=pA (w.heap.size+1) (w.heap.size+1) st 0 6 6 rfl v2 _ wr l2 (by have:=A2.1.size;have:=V.o;omega) ap
     have e:dS p x st k++[(⟨6,st,0,none⟩:Itm)]=aE p x st:=by
      unfold dS aE;rw [bi,Rt]
     rw [e] at hc;obtain ⟨Hc,bX⟩:=ae hc A2;clear hc A2 l2 e bi I;go_wp2_with fail;refine Hc.o.mono ?_;rintro e w5 ⟨rfl,v5,H,T⟩
     have aM:=(bX.o.trans T).1.toBelow (B:=w.heap.size) (by have:=V.o;omega) (by
      rintro j (rfl | hj)
      .omega
      .cases hj)
     have xL:=bx2 H.1;have cj:=Qw H.1;obtain ⟨O5,HB⟩:=ae (aF (base':=w.heap.size) H.2 ap) (c6.o.trans aM);clear H T aM;go_wp2_with fail;go_ret;exact ⟨_,rfl,O5.o,HB.o⟩
theorem iX:dN prog 114 187 (.agg RO) 12 88:=⟨underlying114,info_parts (by kernel_rfl),rfl,by decide⟩
def jC (w:R8) (v:Value) (h:R8) (v':Value):Prop:=Keep (λj=>v.ownBlock=some j) w h/\(v'.ownBlock=v.ownBlock\/∀k,v'.ownBlock=some k->w.heap.size<=k)
theorem jC.trans {a b c:R8} {v v' i:Value} (h:jC a v b v') (k:jC b v' c i):jC a v c i:=by
 refine ⟨⟨k.1.os.trans h.1.os,k.1.tape.trans h.1.tape,k.1.output.trans h.1.output,QD h.1.size k.1.size,λj o hn=>(k.1.block j (QE o h.1.size) λx=>?_).trans (h.1.block j o hn)⟩,?_⟩
 .rcases h.2 with u | u
  .exact hn (u▸x)
  .have:=u j x;omega
 .rcases k.2 with p | p
  .rw [p];exact h.2
  .exact .inr λj o=>QD h.1.size (p j o)
theorem jC.below {b c:R8} {v:Value} (h:aq b c):jC b v c v:=⟨Keep.below h,.inl rfl⟩
theorem jC.refl (w:R8) (v:Value):jC w v w v:=⟨Keep.refl _ _,.inl rfl⟩
theorem iv {P:Program} {t e:R9} {z:Value} {size i:Nat} (T:dN P t e z size i) (w:R8) {ops:T0} {rest:List Oper} {o:Oper} {a:T1} {Q:Exit->T1->R8->Prop} (B:o.guard=none) (s x:Operand) (C:o.op=.call {callee:=.builtin .append,args:=#[s,x],argTypes:=#[t,t]}) (base:Nat) (v:Value) (n:Nat) (xs:R7) (hs:a.eval s=v) (hown:w.ownsRow base e size v n xs) (us:R7) (hx:a.eval x=.slice (some (ar w.heap.size 0)) 1 1) (hus:us.length=size) (h1:∀u∈us,u.oneCell'=true) (hb:(n+1)*i<=140737488355328) (h63:n+1<=maxLen) (hbase:base<=w.heap.size) (h:∀A y p,p.ownsRow base e size (.slice A (n+1) y) (n+1) (xs++us)->jC w v p (.slice A (n+1) y)->
   wpList P ops Q rest (a.put o.dst (.slice A (n+1) y)) p):wpList P ops Q (o::rest) a (w.alloc (.cells us.toArray e)):=by
 refine dK T (w:=w.alloc (.cells us.toArray e)) B s x C base v n xs hs (hown.alloc _) (some (ar w.heap.size 0)) 1 1 us hx (dV w us e w.heap.size rfl) ap h1 hb h63 (by simp;omega) ?_;intro A y p D _ hg hn;refine h A y p D ⟨((Keep.refl _ w).alloc _).grown hg (λk hk=>.inr hk),?_⟩;rcases hn with hn | hn
 .exact .inl hn
 .exact .inr λk hk=>by rw [hn] at hk;simp at hk;omega
theorem ss6 {w:R8} {b:Nat} {t:R9} {x p i v o u v0 v1 v2 v3 v4 v5:Value} (h:w.heap[b]?=some (.cells #[x,p,i,v,o,u] t (0,0))): ((((((w.setCell (ar b 0) v0).setCell (ar b 1) v1).setCell (ar b 2) v2).setCell (ar b 3) v3).setCell (ar b 4) v4).setCell (ar b 5) v5).heap[b]?=some (.cells #[v0,v1,v2,v3,v4,v5] t (0,0)):=
 ss (ss (ss3 (ss h rfl) rfl) rfl) (by simp)
theorem uB (p:Pln) (R a1 T J L Q I u x:Value) (w:R8) (O:bT p) (B:p.bu<=1048576):Calls prog 92 #[.agg #[R,a1,T,J,RI (p.W:Nat),L,Q,I,RI (p.bu:Nat),RI (p.ck:Nat),u,x,RI (p.n:Nat)]] w λe H=>∃v,e=.returned v/\H.ownsRow w.heap.size 67 2 v p.buks.length (aS p.buks)/\aq w H:=by
 obtain ⟨A,i⟩:∃A,w.alloc (.cells #[R,a1,T,J,RI (p.W:Nat),L,Q,I,RI (p.bu:Nat),RI (p.ck:Nat),u,x,RI (p.n:Nat)] 83)=A:=⟨_,rfl⟩;have y:aq w A:=by rw [<-i];exact (br w).alloc (Qx _) _
 have hb:=C7 p.n p.bu A (by have:=O.n;omega) O.bu B;obtain ⟨C,h,V⟩:=af i y hb;clear i y hb;go_enter func92,ntmps92;go_wp2_with fail;rw [C.o];refine V.o.mono ?_;rintro e Z ⟨v,rfl,N,D⟩;obtain ⟨Y,U⟩:=ae (aF (base':=w.heap.size) N h.o.size) (h.o.trans (D.mono h.o.size));clear N D;go_wp2_with fail;go_ret;exact ⟨_,rfl,Y.o,U.o⟩
theorem Ka (p:Pln) (Y a1 Z Q R V N u x:Value) (st j:Nat) (w:R8) (hp:bT p) (a4:p.bu<=1048576) (hj:j<p.buks.length):Calls prog 129 #[.agg #[Y,a1,Z,Q,RI (p.W:Nat),R,V,N,RI (p.bu:Nat),RI (p.ck:Nat),u,x,RI (p.n:Nat)],RI (st:Nat),RI (j:Nat)] w λe L=>e=.returned (.agg #[RI (st:Nat),RI (j:Nat),RI ((aK p.buks j).1:Nat),RI ((aK p.buks j).2:Nat),RI (p.W:Nat),RI (p.ck:Nat)])/\aq w L:=by
 obtain ⟨h,i⟩:∃h,(w.alloc (.cells #[Y,a1,Z,Q,RI (p.W:Nat),R,V,N,RI (p.bu:Nat),RI (p.ck:Nat),u,x,RI (p.n:Nat)] 83)).alloc (.cells RQ 226)=h:=⟨_,rfl⟩
 have g0:h.heap[w.heap.size]?=some (.cells #[Y,a1,Z,Q,RI (p.W:Nat),R,V,N,RI (p.bu:Nat),RI (p.ck:Nat),u,x,RI (p.n:Nat)] 83 (0,0)):=by
  rw [<-i,QL _ _ _ (by simp)];exact Qy w _
 have g1:h.heap[w.heap.size+1]?=some (.cells RQ 226 (0,0)):=by
  rw [<-i];have:=Qy (w.alloc (.cells #[Y,a1,Z,Q,RI (p.W:Nat),R,V,N,RI (p.bu:Nat),RI (p.ck:Nat),u,x,RI (p.n:Nat)] 83)) (.cells RQ 226);simpa using this
 have U:aq w h:=by rw [<-i];exact ((br w).alloc (Qx _) _).alloc (by simp) _
 have t0:=λL (q:Keep (λj=>j=w.heap.size+1) h L)=>ww ((q.block _ (Qw g0) ap).trans g0);have ao:(j:Int)<p.buks.length:=ap;obtain ⟨a9,J,G1⟩:=af i U g1;have q0:Keep (λj=>j=w.heap.size+1) h h.drew:=(Keep.refl _ _).drew;clear i g0 g1 U;go_enter func129,ntmps129;go_wp2_with fail;rw [a9.o];refine HA.g (λL:R8=>Keep (λj=>j=w.heap.size+1) h L) ?_;refine HA.t ?_ [0,1,2,4,7,8,9,10,11,12] q0 ?_;refine HA.c 3 (uB p Y a1 Z Q R V N u x _ hp a4) ?_;rintro e D ⟨v2,rfl,o2,k2⟩;have b2:=bt (br h).drew k2;have H:Keep (λj=>j=w.heap.size+1) h D:=Keep.below b2;obtain ⟨g,c2,rfl,_⟩:=o2.form ap;obtain ⟨d0,d1⟩:=jd o2 hj;obtain ⟨I,C⟩:∃b,(aK p.buks j).1=b:=⟨_,rfl⟩;obtain ⟨T,A⟩:∃b,(aK p.buks j).2=b:=⟨_,rfl⟩;rw [C] at d0;rw [A] at d1;refine ⟨_,rfl,H,λ_=>?_⟩;refine HA.v 5 D (.pointer (some (ar g (j*2)))) H ?_;refine HA.v 6 D (.agg #[RI (I:Nat),RI (T:Nat)]) H ?_;refine HA.v 13 D (.agg #[RI (st:Nat),RI (j:Nat),RI (I:Nat),RI (T:Nat),RI (p.W:Nat),RI (p.ck:Nat)]) H ?_;have h2:=sb G1.o D b2;have u2:=bx6 h2;have O:=ss6 (v0:=RI (st:Nat)) (v1:=RI (j:Nat)) (v2:=RI (I:Nat)) (v3:=RI (T:Nat)) (v4:=RI (p.W:Nat)) (v5:=RI (p.ck:Nat)) h2;have a8:=Qw h2;obtain ⟨W9,y⟩:∃W9,((((((D.setCell (ar (w.heap.size+1) 0) (RI (st:Nat))).setCell (ar (w.heap.size+1) 1) (RI (j:Nat))).setCell (ar (w.heap.size+1) 2) (RI (I:Nat))).setCell (ar (w.heap.size+1) 3) (RI (T:Nat))).setCell (ar (w.heap.size+1) 4) (RI (p.W:Nat))).setCell (ar (w.heap.size+1) 5) (RI (p.ck:Nat)))=W9:=⟨_,rfl⟩;have k9:Keep (λj=>j=w.heap.size+1) D W9:=by rw [<-y];exact Keep.setCell (S:=λj=>j=w.heap.size+1) (Keep.setCell (S:=λj=>j=w.heap.size+1) (Keep.setCell (S:=λj=>j=w.heap.size+1) (Keep.setCell (S:=λj=>j=w.heap.size+1) (Keep.setCell (S:=λj=>j=w.heap.size+1) (Keep.setCell (S:=λj=>j=w.heap.size+1) (Keep.refl _ _) _ (.inr rfl) _) _ (.inr rfl) _) _ (.inr rfl) _) _ (.inr rfl) _) _ (.inr rfl) _) _ (.inr rfl) _
 refine HA.s 14 W9 (H.trans k9) ?_ (he:=by subst y;go_simp);refine HA.d ?_;rw [y] at O;obtain ⟨E6,HB⟩:=ae O (J.o.trans ((H.trans k9).toBelow (B:=w.heap.size) J.o.size (λj hj=>ap)));obtain ⟨⟨r0,r1,r2,r3,r4,r5⟩,rf⟩:=bx6 O;have av:=Qw O;obtain ⟨ad,ab⟩:=ae C A;clear O h2 u2 a8 q0 H b2 k9 k2 t0 o2 d0 d1 C A;go_wp2_with fail;rw [ad.o,ab.o];exact QM (v:=.agg #[RI (st:Nat),RI (j:Nat),RI (I:Nat),RI (T:Nat),RI (p.W:Nat),RI (p.ck:Nat)]) (by simp [results,results129,go_sem,r0,r1,r2,r3,r4,r5]) rfl ⟨rfl,HB.o⟩
abbrev ip (w:R8) (base:Nat) (v:Value) (l:List Itm):Prop:=w.ownsRow base 187 12 v l.length (cD l)
theorem CT (p:Pln) (base st x lo u:Nat) (a0 a1 a2 a3 a5 a6 a7 a4 a8:Value) (v:Value) (l:List Itm) (w:R8) (hp:bT p) (dk:p.bu<=1048576) (hl:ip w base v l) (hb:base<=w.heap.size) (hx:x<p.W) (bl:lo<=u) (hg:u<=p.buks.length) (dn:l.length<=8000000):Calls prog 93 #[v,.agg #[a0,a1,a2,a3,RI (p.W:Nat),a5,a6,a7,RI (p.bu:Nat),RI (p.ck:Nat),a4,a8,RI (p.n:Nat)],RI x,RI (st:Nat),.agg #[RI (lo:Nat),RI (u:Nat)]] w λe A=>∃v',e=.returned v'/\ip A base v' (l++dx p x st (lo,u))/\jC w v A v':=by
 obtain ⟨J,ab⟩:∃J,(w.alloc (.cells #[a0,a1,a2,a3,RI (p.W:Nat),a5,a6,a7,RI (p.bu:Nat),RI (p.ck:Nat),a4,a8,RI (p.n:Nat)] 83)).alloc (.cells #[RI (lo:Nat),RI (u:Nat)] 67)=J:=⟨_,rfl⟩
 have g0:J.heap[w.heap.size]?=some (.cells #[a0,a1,a2,a3,RI (p.W:Nat),a5,a6,a7,RI (p.bu:Nat),RI (p.ck:Nat),a4,a8,RI (p.n:Nat)] 83 (0,0)):=by
  rw [<-ab,QL _ _ _ (by simp)];exact Qy w _
 have g1:J.heap[w.heap.size+1]?=some (.cells #[RI (lo:Nat),RI (u:Nat)] 67 (0,0)):=by
  rw [<-ab];have:=Qy (w.alloc (.cells #[a0,a1,a2,a3,RI (p.W:Nat),a5,a6,a7,RI (p.bu:Nat),RI (p.ck:Nat),a4,a8,RI (p.n:Nat)] 83)) (.cells #[RI (lo:Nat),RI (u:Nat)] 67);simpa using this
 have av:aq w J:=by rw [<-ab];exact ((br w).alloc (Qx _) _).alloc (by simp) _
 have aP:ip J base v l:=az hl av;have kP:=λA (q:Keep (λj=>v.ownBlock=some j) J A)=>(q.block _ (Qw g0) (λh=>ay g0 (by decide) aP h.symm)).trans g0;have kG:=λA (q:Keep (λj=>v.ownBlock=some j) J A)=>(q.block _ (Qw g1) (λh=>ay g1 (by decide) aP h.symm)).trans g1;obtain ⟨m,hm⟩:∃m,p.W-1=m:=⟨_,rfl⟩;have da:=hp.W1;have e4:=hp.W8;have cY:=hp.ck;have cl:=hp.ck2;have e7:=hp.buks;have cc:=λj=>hp.buk j;have hrl:=λph r j=>hp.round x st ph r j;have e6:(p.W:Int)-1=(m:Int):=ap;have e3:IntKind.i64.wrap (m:Int)=m:=QC _ ap;have bs:=xW p x st lo u;rw [hm] at bs;have c9:=QD hb av.size;have d7:=av.size;obtain ⟨dr,d8,cL,HP,HG,d4,b6,Hm⟩:=ak ab av aP kP kG cc hrl hm;obtain ⟨ds,b0⟩:=ae bs c9;have tG:=λA (q:aq J A)=>bx2 (kG A (Keep.below q));have q0:=br J;clear ab g0 g1 av aP hl kP kG cc hrl hm c9 bs d7;go_enter func93,ntmps93;go_wp2_with fail;rw [dr.o];clear tG q0;have co:=aa dn
 go_loopw [0,11] (λH y wr=>∃j:Nat,lo<=j/\j<=u/\y=RI j/\ip wr base H (l++dD st lo (j-lo) 2)/\jC J v wr H) (λ_ y _=>u-(intOf y).toNat)
 .exact ⟨lo,Qx _,bl,rfl,by simpa [dD] using cL.o,jC.refl _ _⟩
 case round=>
  obtain ⟨j,hj,cy,rfl,l3,L⟩:=hrel;have uR:=λA (q:aq wr A)=>bx2 (sb (HG.o wr L.1) A q);have q1:=br wr
  have B:(l++dD st lo (j-lo) 2).length<=8388608:=by
   have:=co.o;simp only [Rh,jT];omega
  obtain ⟨Av,cv,rfl,_⟩:=aD l3;obtain ⟨n,hn⟩:∃n,(l++dD st lo (j-lo) 2).length=n:=⟨_,rfl⟩;have T:wr.ownsRow base 187 12 (.slice Av n cv) n (cD (l++dD st lo (j-lo) 2)):=by rw [<-hn];exact l3
  rw [hn] at B L |-;have Z:=L.1.size;by_cases bI:j<u
  .have ao:(j:Int)<u:=ap;have cO:IntKind.i64.wrap ((j:Int)+1)=((j+1:Nat):Int):=by rw [QC _ ap];push_cast;rfl
   have e:l++dD st lo (j+1-lo) 2=(l++dD st lo (j-lo) 2)++[(⟨2,st,j,none⟩:Itm)]:=by rw [show j+1-lo=(j-lo)+1 by omega,m6,show lo+(j-lo)=j by omega];simp only [Ro]
   obtain ⟨Q,L3,He,V⟩:=ag L T e hn;clear l3 T L e hn;go_wp2_with (at_builtin;refine iv iX _ rfl (.tmp 27) (.tmp 31) rfl base (.slice Av n cv) n _ rfl L3.o [RI 2,RI (st:Nat),RI (j:Nat),.bool false,.bool false,RI 0,RI 0,RI 0,RI 0,RI 0,RI 0,RI 0] rfl rfl (by simp [Value.oneCell']) ap (by unfold maxLen;omega) (QD b0.o Z) ?_);intro g6 c6 w6 C D;obtain ⟨R,U⟩:=ae C (Q.o.trans D);clear C D;go_wp2_with fail;go_roundw
   .exact ⟨j+1,by omega,by omega,by go_num,by unfold ip;rw [He.o,Rh,V.o,fW];exact R.o,U.o⟩
   .simp [intOf];omega
  .have ao:¬((j:Int)<u):=ap;obtain rfl:u=j:=ap;obtain ⟨L3,Q,V⟩:=af l3 L hn;clear l3 T L B hn;obtain ⟨l1,b4⟩:∃l1,l++dD st lo (u-lo) 2=l1:=⟨_,rfl⟩
   have bb:l1.length<=8000060:=by
    have:=co.o;rw [<-b4];simp only [Rh,jT];omega
   rw [V.o] at L3;have L4:an (wr.ownsRow base 187 12 (.slice Av n cv) l1.length (cD l1)):=aa (by have:=L3.o;unfold ip at this;rw [V.o] at this;rw [<-b4,V.o];exact this);obtain ⟨d5,b9⟩:=ae b4 bb;clear b4 bb L3;go_wp2_with fail;clear uR q1
   go_loopw [0,12] (λH y wr=>∃ph:Nat,ph<=2/\y=RI ph/\ip wr base H (l1++cR p x st (lo,u) (ph*m))/\jC J v wr H) (λ_ y _=>2-(intOf y).toNat)
   .exact ⟨0,QB _,rfl,by simpa [cR] using L4.out,Q.o⟩
   case round=>
    obtain ⟨ph,e5,rfl,l2,A2⟩:=hrel;by_cases dc:ph<2
    .have d9:(ph:Int)<2:=ap;have dT:IntKind.i64.wrap ((ph:Int)+1)=((ph+1:Nat):Int):=by rw [QC _ ap];push_cast;rfl
     obtain ⟨L2,O⟩:=ae l2 A2;clear l2 A2;go_wp2_with fail
     go_loopw [0,13] (λH y wr=>∃r:Nat,r<=m/\y=RI r/\ip wr base H (l1++cR p x st (lo,u) (ph*m+r))/\jC J v wr H) (λ_ y _=>m-(intOf y).toNat)
     .exact ⟨0,QB _,rfl,L2.o,O.o⟩
     case round=>
      obtain ⟨r,hr,rfl,l2,A2⟩:=hrel;have uP:=λA (q:aq wr A)=>ww (sb (HP.o wr A2.1) A q);have uR:=λA (q:aq wr A)=>bx2 (sb (HG.o wr A2.1) A q);have q1:=br wr;by_cases hrl:r<m
      .have d1:(r:Int)<m:=ap;have e2:IntKind.i64.wrap ((r:Int)+1)=((r+1:Nat):Int):=by rw [QC _ ap];push_cast;rfl
       obtain ⟨k,hk⟩:∃k,ph*m+r=k:=⟨_,rfl⟩;have ci:k/m=ph:=by rw [<-hk,Nat.mul_comm,Nat.mul_add_div ap,Nat.div_eq_of_lt hrl,Nat.add_zero]
       have bG:k%m=r:=by rw [<-hk,Nat.mul_comm,Nat.mul_add_mod,Nat.mod_eq_of_lt hrl]
       have bV:k<=14:=by
        have:ph*m<=1*7:=Nat.mul_le_mul ap (by have:=Hm.o;omega);omega
       rw [hk] at l2;obtain ⟨L2,O,Hk,dp,cI⟩:=ah l2 A2 hk ci bG;clear l2 A2 hk ci bG;go_wp2_with fail;clear uP uR q1
       go_loopw [0,14] (λH y wr=>∃j:Nat,lo<=j/\j<=u/\y=RI j/\ip wr base H (l1++cR p x st (lo,u) k++ik p x st k lo (j-lo))/\jC J v wr H) (λ_ y _=>u-(intOf y).toNat)
       .exact ⟨lo,Qx _,bl,rfl,by simpa [ik] using L2.o,O.o⟩
       case round=>
        obtain ⟨j,hj,cy,rfl,I,A4⟩:=hrel;have uP:=λA (q:aq wr A)=>ww (sb (HP.o wr A4.1) A q);have uR:=λA (q:aq wr A)=>bx2 (sb (HG.o wr A4.1) A q);have q1:=br wr;by_cases bI:j<u
        .have ao:(j:Int)<u:=ap;have dd:j<p.buks.length:=ap;obtain ⟨wj,rfl⟩:∃wj:R8,wj=wr:=⟨_,rfl⟩;obtain ⟨Aw,cw,rfl,_⟩:=aD I;obtain ⟨l4,b5⟩:∃l4,l1++cR p x st (lo,u) k++ik p x st k lo (j-lo)=l4:=⟨_,rfl⟩
         have b7:l4.length<=8200000:=by
          have h1:=j6 (w:=x) (st:=st) (k:=k) (g:=(lo,u)) (M:=120) (p:=p) (λph r j=>b6.o ph r j);have h2:=vg (w:=x) (st:=st) (k:=k) (lo:=lo) (n:=j-lo) (M:=120) (p:=p) (λph r j=>b6.o ph r j);have h4:k*((u-lo)*120)<=14*(60*120):=Nat.mul_le_mul bV (Nat.mul_le_mul ap (Qx _));have h5:(j-lo)*120<=60*120:=Nat.mul_le_mul ap (Qx _);have h6:=b9.o;rw [<-b5];simp only [Rh];dsimp only at h1;omega
         rw [b5] at I A4 |-;obtain ⟨v4,bX⟩:∃v4,Value.slice Aw l4.length cw=v4:=⟨_,rfl⟩;rw [bX] at I A4 |-;have bi:=d4.o j
         have e8:cq p x st (k/(p.W-1)) (k%(p.W-1)) j=(cZ st j (aK p.buks j) p.W p.ck x ph r).map (fD st):=by
          unfold cq;rw [Hm.o,dp.o,cI.o]
         have aM:=b6.o (k/(p.W-1)) (k%(p.W-1)) j;rw [e8,List.length_map] at aM;obtain ⟨b1,b2,bN⟩:∃b1 b2,aK p.buks j=(b1,b2):=⟨_,_,rfl⟩;have Y:=Ka p a0 a1 a2 a3 a5 a6 a7 a4 a8 st j wj hp dk dd;rw [bN] at bi e8 aM Y;dsimp only at bi Y;obtain ⟨cj,E8,aR,a9,b3,d0,cA⟩:=aj Y e8 aM I A4 b5 b7;clear Y e8 aM I A4 b5 b7 bN bX;go_wp2_with fail;refine cj.o.mono ?_;rintro e w7 ⟨rfl,k7⟩;have q7:=bt q1 k7;go_wp2_with fail;refine (CJ st j b1 b2 p.W p.ck x ph r w7 da ap hx dc (by have:=Hm.o;omega) bi.1 ap cY cl).mono ?_;rintro e w8 ⟨v8,rfl,o8,k8⟩;have q8:=bt q7 k8;obtain ⟨A8,c8,rfl,_⟩:=aD o8;obtain ⟨X,hX⟩:∃X,cZ st j (b1,b2) p.W p.ck x ph r=X:=⟨_,rfl⟩;rw [hX] at E8 aR o8 |-;obtain ⟨N,hN⟩:∃N,X.length=N:=⟨_,rfl⟩;rw [hN] at aR o8 |-;have l8:ip w8 base v4 l4:=az a9.o q8;have bM:jC J v w8 v4:=b3.o.trans (jC.below q8)
         have cn:=λA (q:Keep (λj=>v4.ownBlock=some j) w8 A)=>q.own o8 (λk hk e=>by
          have h1:=(o8.lt k hk).1;have h5:k<wj.heap.size:=(a9.o.lt k e).2;have h6:=q7.size
          omega)
         obtain ⟨L8,bf,d6,HN⟩:=ag l8 bM cn hN;clear o8 l8 bM cn k8 k7 q8 q7 q1 hX hN uP uR a9 b3;go_wp2_with fail
         go_loopw [0,16] (λH y wr=>∃i:Nat,i<=N/\y=RI i/\ip wr base H (l4++(X.take i).map (fD st))/\jC w8 v4 wr H) (λ_ y _=>N-(intOf y).toNat)
         .exact ⟨0,QB _,rfl,by simpa using L8.o,jC.refl _ _⟩
         case round=>
          obtain ⟨i,e0,rfl,l5,A5⟩:=hrel;by_cases dw:i<N
          .have dv:(i:Int)<N:=ap;have e1:IntKind.i64.wrap ((i:Int)+1)=((i+1:Nat):Int):=by rw [QC _ (by have:=aR.o;omega)];push_cast;rfl
           have oX:=d6.o wr A5.1
           obtain ⟨ga,rfl⟩:∃ga,A8=some (ar ga 0):=by
            obtain ⟨g,e,hv,_⟩:=oX.form ap;simp only [Rv] at hv;exact ⟨g,hv.1⟩
           have df:i<X.length:=by rw [HN.o];exact dw
           obtain ⟨a,ha⟩:∃a,X[i]=a:=⟨_,rfl⟩;have cx:X[i]?=some a:=by rw [<-ha];simp
           have cf:=Cb oX cx HN.o;have cr:X.take (i+1)=X.take i++[a]:=by rw [List.take_succ_eq_append_getElem df,ha]
           have B:(l4++(X.take i).map (fD st)).length<=8388607:=by
            have:=cA.o;have:=aR.o;simp only [Rh,List.length_map,Rn];omega
           obtain ⟨snd,ad,bo,bz,be,bh,bv,bw,bn⟩:=a;have c0:wr.cell? (ar ga (i*9))=some (.bool snd):=cf 0 ap;have c1:wr.cell? (ar ga (i*9+1))=some (.bool ad):=cf 1 ap;have c2:wr.cell? (ar ga (i*9+2))=some (RI (bo:Nat)):=cf 2 ap;have c3:wr.cell? (ar ga (i*9+3))=some (RI (bz:Nat)):=cf 3 ap;have c4:wr.cell? (ar ga (i*9+4))=some (RI (be:Nat)):=cf 4 ap;have c5:wr.cell? (ar ga (i*9+5))=some (RI (bh:Nat)):=cf 5 ap;have c6:wr.cell? (ar ga (i*9+6))=some (RI (bv:Nat)):=cf 6 ap;have c7:wr.cell? (ar ga (i*9+7))=some (RI (bw:Nat)):=cf 7 ap;have c8:wr.cell? (ar ga (i*9+8))=some (RI (bn:Nat)):=cf 8 ap;obtain ⟨Av,cv,rfl,_⟩:=aD l5;obtain ⟨n,hn⟩:∃n,(l4++(X.take i).map (fD st)).length=n:=⟨_,rfl⟩;have cs:wr.ownsRow base 187 12 (.slice Av n cv) n (cD (l4++(X.take i).map (fD st))):=by rw [<-hn];exact l5
           rw [hn] at B A5 |-;have Z:=A5.1.size;obtain ⟨bO,L5,cd,V⟩:=ag A5 cs cr hn;clear oX cf l5 cs A5 cr cx hn ha
           cases snd
           .go_wp2_with (at_builtin;refine iv iX _ rfl (.tmp 72) (.tmp 80) rfl base (.slice Av n cv) n _ rfl L5.o [RI 4,RI (st:Nat),RI 0,.bool false,.bool ad,RI (bo:Nat),RI (bz:Nat),RI (be:Nat),RI (bh:Nat),RI (bv:Nat),RI (bw:Nat),RI (bn:Nat)] rfl rfl (by simp [Value.oneCell']) ap (by unfold maxLen;omega) (QD (QD b0.o bf.o.1.size) Z) ?_);intro g6 cM w6 C D;obtain ⟨R,U⟩:=ae C (bO.o.trans D);clear C D;go_wp2_with fail;go_roundw
            .exact ⟨i+1,by omega,by go_num,by unfold ip;rw [cd.o,List.map_append,<-Ro,Rh,V.o,List.map_cons,List.map_nil,fW,List.map_take];exact R.o,U.o⟩
            .simp [intOf];omega
           .go_wp2_with (at_builtin;refine iv iX _ rfl (.tmp 72) (.tmp 80) rfl base (.slice Av n cv) n _ rfl L5.o [RI 3,RI (st:Nat),RI 0,.bool true,.bool ad,RI (bo:Nat),RI (bz:Nat),RI (be:Nat),RI (bh:Nat),RI (bv:Nat),RI (bw:Nat),RI (bn:Nat)] rfl rfl (by simp [Value.oneCell']) ap (by unfold maxLen;omega) (QD (QD b0.o bf.o.1.size) Z) ?_);intro g6 cM w6 C D;obtain ⟨R,U⟩:=ae C (bO.o.trans D);clear C D;go_wp2_with fail;go_roundw
            .exact ⟨i+1,by omega,by go_num,by unfold ip;rw [cd.o,List.map_append,<-Ro,Rh,V.o,List.map_cons,List.map_nil,fW,List.map_take];exact R.o,U.o⟩
            .simp [intOf];omega
          .obtain rfl:N=i:=ap;have dv:¬((N:Int)<N):=ap;have dG:IntKind.i64.wrap ((j:Int)+1)=((j+1:Nat):Int):=by rw [QC _ ap];push_cast;rfl
           rw [List.take_of_length_le (by rw [HN.o];exact Qx _),<-E8.o,<-d0.o,Ro,show ik p x st k lo (j-lo)++cq p x st (k/(p.W-1)) (k%(p.W-1)) j=ik p x st k lo (j+1-lo) from by rw [show j+1-lo=(j-lo)+1 by omega,qt,show lo+(j-lo)=j by omega]] at l5;obtain ⟨L5,B5⟩:=ae l5 (bf.o.trans A5);clear l5 A5;go_wp2_with fail;go_roundw
           .exact ⟨j+1,by omega,by omega,by go_num,L5.o,B5.o⟩
           .simp [intOf];omega
        .have ao:¬((j:Int)<u):=ap;obtain rfl:u=j:=ap;have e:=iy p x st (lo,u) k;dsimp only at e;rw [Ro,<-e,<-Hk.o,Rz] at I;obtain ⟨a9,b3⟩:=ae I A4;clear I A4 e uP;go_wp2_with fail;go_roundw
         .exact ⟨r+1,by omega,by go_num,a9.o,b3.o⟩
         .simp [intOf];omega
      .have d1:¬((r:Int)<m):=ap;obtain rfl:m=r:=ap;rw [<-Ry] at l2;obtain ⟨L2,O⟩:=ae l2 A2;clear l2 A2 uR;go_wp2_with fail;go_roundw
       .exact ⟨ph+1,by omega,by go_num,L2.o,O.o⟩
       .simp [intOf];omega
    .have d9:¬((ph:Int)<2):=ap;obtain rfl:ph=2:=ap
     have hrl:(cR p x st (lo,u) (2*m)).length<=100800:=by
      have h1:=j6 (w:=x) (st:=st) (k:=2*m) (g:=(lo,u)) (M:=120) (p:=p) (λph r j=>b6.o ph r j);have h4:2*m*((u-lo)*120)<=14*(60*120):=Nat.mul_le_mul (by have:=Hm.o;omega) (Nat.mul_le_mul ap (Qx _));dsimp only at h1;omega
     have aG:(l1++cR p x st (lo,u) (2*m)).length<=8200000:=by
      have:=b9.o;rw [Rh];omega
     obtain ⟨l9,bA⟩:∃l9,l1++cR p x st (lo,u) (2*m)=l9:=⟨_,rfl⟩;rw [bA] at l2 aG;have uR:=λA (q:aq wr A)=>bx2 (sb (HG.o wr A2.1) A q);have q1:=br wr;obtain ⟨L2,O,d3,cb⟩:=ag l2 A2 bA aG;clear l2 A2 bA aG hrl;go_wp2_with fail;clear uR q1
     go_loopw [0,18] (λH y wr=>∃j:Nat,lo<=j/\j<=u/\y=RI j/\ip wr base H (l9++dD st lo (j-lo) 5)/\jC J v wr H) (λ_ y _=>u-(intOf y).toNat)
     .exact ⟨lo,Qx _,bl,rfl,by simpa [dD] using L2.o,O.o⟩
     case round=>
      obtain ⟨j,hj,cy,rfl,l3,L⟩:=hrel;have uR:=λA (q:aq wr A)=>bx2 (sb (HG.o wr L.1) A q);have q1:=br wr
      have B:(l9++dD st lo (j-lo) 5).length<=8388608:=by
       have:=cb.o;simp only [Rh,jT];omega
      obtain ⟨Av,cv,rfl,_⟩:=aD l3;obtain ⟨n,hn⟩:∃n,(l9++dD st lo (j-lo) 5).length=n:=⟨_,rfl⟩;have T:wr.ownsRow base 187 12 (.slice Av n cv) n (cD (l9++dD st lo (j-lo) 5)):=by rw [<-hn];exact l3
      rw [hn] at B L |-;have Z:=L.1.size;by_cases bI:j<u
      .have ao:(j:Int)<u:=ap;have cO:IntKind.i64.wrap ((j:Int)+1)=((j+1:Nat):Int):=by rw [QC _ ap];push_cast;rfl
       have e:l9++dD st lo (j+1-lo) 5=(l9++dD st lo (j-lo) 5)++[(⟨5,st,j,none⟩:Itm)]:=by rw [show j+1-lo=(j-lo)+1 by omega,m6,show lo+(j-lo)=j by omega];simp only [Ro]
       obtain ⟨Q,L3,He,V⟩:=ag L T e hn;clear l3 T L e hn;go_wp2_with (at_builtin;refine iv iX _ rfl (.tmp 90) (.tmp 94) rfl base (.slice Av n cv) n _ rfl L3.o [RI 5,RI (st:Nat),RI (j:Nat),.bool false,.bool false,RI 0,RI 0,RI 0,RI 0,RI 0,RI 0,RI 0] rfl rfl (by simp [Value.oneCell']) ap (by unfold maxLen;omega) (QD b0.o Z) ?_);intro g6 c6 w6 C D;obtain ⟨R,U⟩:=ae C (Q.o.trans D);clear C D;go_wp2_with fail;go_roundw
       .exact ⟨j+1,by omega,by omega,by go_num,by unfold ip;rw [He.o,Rh,V.o,fW];exact R.o,U.o⟩
       .simp [intOf];omega
      .have ao:¬((j:Int)<u):=ap;obtain rfl:u=j:=ap;obtain ⟨L3,Q,V⟩:=af l3 L hn;clear l3 T L B hn;rw [V.o] at L3
       have b8:l9++dD st lo (u-lo) 5=l++dx p x st (lo,u):=by
        rw [<-d3.o,<-d5.o,ds.o];simp only [Ro]
       have L9:an (ip wr base (.slice Av n cv) (l++dx p x st (lo,u))):=aa (by have:=L3.o;unfold ip at this |-;rw [V.o] at this;rw [<-b8,V.o];exact this);have d2:=aa ((jC.below (v:=v) d8.o).trans Q.o);clear b8 L3;go_wp2_with fail;go_ret;exact ⟨_,rfl,L9.out,d2.o⟩
def Dp (st k:Nat):List Itm:=(List.range k).map (λa=>(⟨1,st,a,none⟩:Itm))
theorem Il (st k:Nat):Dp st (k+1)=Dp st k++[(⟨1,st,k,none⟩:Itm)]:=sZ st k
theorem Li (st k:Nat):(Dp st k).length=k:=by simp [Dp]
theorem ut (p:Pln) (st x:Nat) (a0 a1 a2 a3 a5 a7 C:Value) (w:R8) (V:bT p) (b6:p.bu<=1048576) (bs:p.wi<=1048576) (hx:x<p.W):Calls prog 61 #[.agg #[a0,a1,a2,a3,RI (p.W:Nat),a5,RI (p.mi:Nat),a7,RI (p.bu:Nat),RI (p.ck:Nat),RI (p.wi:Nat),C,RI (p.n:Nat)],RI x,RI (st:Nat)] w λe u=>∃v,e=.returned v/\u.ownsRow w.heap.size 187 12 v (aE p x st).length (cD (aE p x st))/\aq w u:=by
 obtain ⟨i,N⟩:∃i,w.alloc (.cells #[a0,a1,a2,a3,RI (p.W:Nat),a5,RI (p.mi:Nat),a7,RI (p.bu:Nat),RI (p.ck:Nat),RI (p.wi:Nat),C,RI (p.n:Nat)] 83)=i:=⟨_,rfl⟩;have g0:i.heap[w.heap.size]?=some (.cells #[a0,a1,a2,a3,RI (p.W:Nat),a5,RI (p.mi:Nat),a7,RI (p.bu:Nat),RI (p.ck:Nat),RI (p.wi:Nat),C,RI (p.n:Nat)] 83 (0,0)):=by rw [<-N];exact Qy w _
 have b5:aq w i:=by rw [<-N];exact (br w).alloc (Qx _) _
 have bV:¬((p.W:Int)<=x):=ap;have bO:=V.buks;have bM:=V.grps;have bX:=V.mi;have aM:=V.wi;have bN:w.heap.size<i.heap.size:=Qw g0;have T:p.grps=fv p.buks.length p.wi:=rfl;obtain ⟨bG,ad,G0,b0⟩:=ag N b5 g0 T;have tP:=λu (q:aq i u)=>ww (sb g0 u q);have q0:=br i;clear N g0 b5 T;go_enter func61,ntmps61;go_wp2_with fail;rw [bG.o];clear q0
 go_loopw [7,8] (λvv y wr=>∃k:Nat,k<=p.mi/\y=RI k/\wr.ownsRow i.heap.size 187 12 vv k (cD (Dp st k))/\aq i wr) (λ_ y _=>p.mi-(intOf y).toNat)
 .exact ⟨0,QB _,rfl,QI _ _ _ _,br i⟩
 case round=>
  obtain ⟨k,hk,rfl,ho,q⟩:=hrel;obtain ⟨Av,cv,rfl,_⟩:=aD ho;have J:=q.size;by_cases L:k<p.mi
  .have a6:(k:Int)<p.mi:=ap;have bi:IntKind.i64.wrap ((k:Int)+1)=((k+1:Nat):Int):=by rw [QC _ ap];push_cast;rfl
   obtain ⟨Ho,Hq⟩:=ae ho q;clear ho;go_wp2_with (at_builtin;refine aX iX _ rfl (.tmp 27) (.tmp 31) rfl i.heap.size (.slice Av k cv) k _ rfl Ho.o [RI 1,RI (st:Nat),RI (k:Nat),.bool false,.bool false,RI 0,RI 0,RI 0,RI 0,RI 0,RI 0,RI 0] rfl rfl (by simp [Value.oneCell']) ap (by unfold maxLen;omega) J ?_);intro g6 c6 w6 I b3 bA;obtain ⟨bz,a4⟩:=ae I (Hq.o.trans b3);clear I b3 bA q;go_wp2_with fail;go_roundw
   .exact ⟨k+1,by omega,by go_num,by rw [Il,fW];exact bz.o,a4.o⟩
   .simp [intOf];omega
  .obtain rfl:p.mi=k:=ap;have a6:¬((p.mi:Int)<p.mi):=ap;have Ho:=aa ho;clear ho;go_wp2_with fail;refine HA.g (λu:R8=>aq i u) ?_;refine HA.t ?_ [0,3,4,5] q.drew ?_;refine HA.c 1 (uB p a0 a1 a2 a3 a5 (RI (p.mi:Nat)) a7 (RI (p.wi:Nat)) C _ V b6) ?_;rintro e w2 ⟨v2,rfl,o2,k2⟩;have q2:=bt q.drew k2;obtain ⟨D,c2,rfl,_⟩:=aD o2;refine ⟨_,rfl,q2,λ_=>?_⟩;refine HA.t ?_ [2] q2 ?_;refine HA.c 6 (Ad p.buks.length p.wi w2 ap aM bs) ?_;rintro e w3 ⟨v3,rfl,o3,k3⟩;have q3:=bt q2 k3;obtain ⟨A3,c3,rfl,_⟩:=aD o3;rw [<-b0.o] at o3 |-;refine ⟨_,rfl,q3,λ_=>?_⟩;refine HA.t ?_ [7] q3 ?_;refine HA.d ?_
   try simp only [Exit.then]
   have b1:=Rd.own o3
   have l3:ip w3 i.heap.size (.slice Av p.mi cv) (Dp st p.mi):=by
    unfold ip;rw [Li];exact az (az (bZ Ho.o 1) k2) k3
   have aR:∀y,A3=some y->w2.heap.size<=y.block/\y.block<w3.heap.size:=λy hy=>iT o3 y hy
   have b7:∀k,(Value.slice Av p.mi cv).ownBlock=some k->k<w2.heap.size:=λk hk=>by
    have:=(Ho.o.lt k hk).2;have:=k2.size;have e:wr.drew.heap.size=wr.heap.size:=rfl;omega
   obtain ⟨bw,L3,b9,a9,Q3⟩:=ah b1 l3 aR b7 q3;clear b1 l3 aR b7 o2 o3 k2 k3 q q2;go_wp2_with fail;obtain ⟨v3,b4⟩:∃v,Value.slice Av p.mi cv=v:=⟨_,rfl⟩;rw [b4] at L3 a9 |-;clear b4
   go_loopw [7,10] (λvv y wr=>∃k:Nat,k<=p.grps.length/\y=RI k/\ip wr i.heap.size vv (dS p x st k)/\jC w3 v3 wr vv) (λ_ y _=>p.grps.length-(intOf y).toNat)
   .exact ⟨0,QB _,rfl,by simpa [dS,Dp] using L3.o,jC.refl _ _⟩
   case round=>
    obtain ⟨k,hk,rfl,U,D⟩:=hrel;obtain ⟨Aw,cw,rfl,_⟩:=aD U;have R:=nX V x st hk;have J:=QD Q3.o.size D.1.size;by_cases L:k<p.grps.length
    .have a6:(k:Int)<p.grps.length:=ap;have bi:IntKind.i64.wrap ((k:Int)+1)=((k+1:Nat):Int):=by rw [QC _ ap];push_cast;rfl
     have ao:=D.1.rd bw.o (λy hy e=>by
      have h1:=(b9.o y hy).1;have h2:=a9.o _ e
      omega)
     have Y:=eA L;obtain ⟨bb,bo,rfl,O⟩:=ao _ _ Y.1;obtain ⟨av,bI,e',H⟩:=ao _ _ Y.2;obtain ⟨rfl,rfl⟩:av=bb/\bI=bo:=by simpa using e'.symm
     rw [<-Rz] at H;have Q:=V.grp L;have A:=qv (p:=p) x st L;obtain ⟨lo,hi,bh⟩:∃lo hi,aK p.grps k=(lo,hi):=⟨_,_,rfl⟩;rw [bh] at Q O H A;dsimp only at Q O H;obtain ⟨lk,aP⟩:∃lk,dS p x st k=lk:=⟨_,rfl⟩;rw [aP] at U D A R |-;obtain ⟨v2,b2⟩:∃v,Value.slice Aw lk.length cw=v:=⟨_,rfl⟩;rw [b2] at U D |-;have kP:wr.heap[w.heap.size]?=some (.cells #[a0,a1,a2,a3,RI (p.W:Nat),a5,RI (p.mi:Nat),a7,RI (p.bu:Nat),RI (p.ck:Nat),RI (p.wi:Nat),C,RI (p.n:Nat)] 83 (0,0)):=(D.1.block _ (by have:=Q3.o.size;omega) (λe=>by have:=(L3.o.lt _ e).1;omega)).trans (sb G0.o w3 Q3.o);have nP:¬v2.ownBlock=some w.heap.size:=λe=>by have:=(U.lt _ e).1;omega
     have nB:¬v2.ownBlock=some av:=λe=>by
      have h1:=b9.o _ rfl;dsimp only at h1;rcases D.2 with h | h
      .rw [h] at e;have h2:=a9.o _ e;omega
      .have h2:=h _ e;omega
     have uP:=λu (q':Keep (λj=>v2.ownBlock=some j) wr u)=>ww ((q'.block _ (Qw kP) nP).trans kP);have d0:=λu (q':Keep (λj=>v2.ownBlock=some j) wr u)=>q'.cell O nB;have d1:=λu (q':Keep (λj=>v2.ownBlock=some j) wr u)=>q'.cell H nB;have Z:=CT p i.heap.size st x lo hi a0 a1 a2 a3 a5 (RI (p.mi:Nat)) a7 (RI (p.wi:Nat)) C v2 lk wr.drew V b6 (bZ U 1) J hx Q.1 Q.2 ap;rw [<-A] at Z;obtain ⟨bn,ab⟩:=ae Z D;have q1:Keep (λj=>v2.ownBlock=some j) wr wr.drew:=(Keep.refl _ _).drew;clear Z U D A aP b2 kP O H ao Y e' bh;go_wp2_with fail;refine HA.g (λu:R8=>Keep (λj=>v2.ownBlock=some j) wr u) ?_;refine HA.t ?_ [0,1,2,3,4,5,6,7] q1 ?_;refine HA.c 8 bn.o ?_;rintro e w8 ⟨v8,rfl,l8,aG⟩;have A8:jC wr v2 w8 v8:=(jC.below (br wr).drew).trans aG;have q8:Keep (λj=>v2.ownBlock=some j) wr w8:=A8.1;refine ⟨_,rfl,q8,λ_=>?_⟩;refine HA.t ?_ [9] q8 ?_;refine HA.d ?_
     try simp only [Exit.then]
     obtain ⟨L8,B8⟩:=ae l8 (ab.o.trans A8);clear l8 A8 aG q8 q1 uP d0 d1 nP nB;go_wp2_with fail;go_roundw
     .exact ⟨k+1,by omega,by go_num,L8.o,B8.o⟩
     .simp [intOf];omega
    .have a6:¬((p.grps.length:Int)<p.grps.length):=ap;have bl:k=p.grps.length:=ap;subst bl;obtain ⟨n,hn⟩:∃n,(dS p x st p.grps.length).length=n:=⟨_,rfl⟩;have bf:wr.ownsRow i.heap.size 187 12 (.slice Aw n cw) n (cD (dS p x st p.grps.length)):=by rw [<-hn];exact U
     rw [hn] at D R |-
     have e:cD (dS p x st p.grps.length)++[RI 6,RI (st:Nat),RI 0,.bool false,.bool false,RI 0,RI 0,RI 0,RI 0,RI 0,RI 0,RI 0]=cD (aE p x st):=by
      have:aE p x st=dS p x st p.grps.length++[(⟨6,st,0,none⟩:Itm)]:=by
       unfold dS aE;rw [Rt]
      rw [this,fW];rfl
     have be:n+1=(aE p x st).length:=by
      rw [<-hn];unfold dS aE;rw [Rt];simp only [Rh,List.length_cons,List.length_nil]
     obtain ⟨ab,L2,He,bv⟩:=ag D bf e be;clear U bf D hn e be;go_wp2_with (at_builtin;refine iv iX _ rfl (.tmp 55) (.tmp 58) rfl i.heap.size (.slice Aw n cw) n _ rfl L2.o [RI 6,RI (st:Nat),RI 0,.bool false,.bool false,RI 0,RI 0,RI 0,RI 0,RI 0,RI 0,RI 0] rfl rfl (by simp [Value.oneCell']) ap (by unfold maxLen;omega) J ?_);intro g6 c6 w6 I b8;have a8:w6.ownsRow i.heap.size 187 12 (.slice g6 (n+1) c6) (n+1) (cD (dS p x st p.grps.length)++[RI 6,RI (st:Nat),RI 0,.bool false,.bool false,RI 0,RI 0,RI 0,RI 0,RI 0,RI 0,RI 0]):=I;rw [He.o] at a8;have B6:=(ab.o.trans b8).1.toBelow (B:=i.heap.size) Q3.o.size (λj hj=>(L3.o.lt j hj).1);have O6:an (w6.ownsRow w.heap.size 187 12 (.slice g6 (n+1) c6) (aE p x st).length (cD (aE p x st))):=aa (by rw [<-bv.o];exact aF a8 ad.o.size);have a4:=aa (ad.o.trans ((Q3.o.trans B6).mono ad.o.size));clear I a8 b8 B6;go_wp2_with fail;go_ret;exact ⟨_,rfl,O6.out,a4.o⟩
end Go.Proofs.YtindmkcnjlgomaaGreat
