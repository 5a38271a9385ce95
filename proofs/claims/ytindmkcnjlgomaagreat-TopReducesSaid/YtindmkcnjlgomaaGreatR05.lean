/- No condition. -/
import Derived.Test.YtindmkcnjlgomaaGreatR04
set_option linter.unusedSimpArgs false
set_option linter.unusedVariables false
set_option maxRecDepth 100000
set_option maxHeartbeats 4000000
namespace Go.Proofs.YtindmkcnjlgomaaGreat
open Go.RowKit
open Tryz
def j0 (x y:List Rg) (f g:Nat->Rg->Acn) (k:Nat):List Acn:= (List.range k).flatMap λi=>(if i<x.length then [f i (aD x i)] else [])++(if i<y.length then [g i (aD y i)] else [])
theorem nS (x y:List Rg) (f g:Nat->Rg->Acn) (k:Nat):j0 x y f g (k+1)=j0 x y f g k++((if k<x.length then [f k (aD x k)] else [])++(if k<y.length then [g k (aD y k)] else [])):=by
 simp [j0,GV,List.flatMap_append]
theorem Bd (x y:List Rg) (f g:Nat->Rg->Acn) (k:Nat):(j0 x y f g k).length<=2*k:=by
 induction k with
 | zero=>simp [j0]
 | succ k ih=>
  rw [nS,GE,GE]
  split<;>split<;>simp<;>omega
theorem yq (X Y:List Rg) (st bk ph r m:Nat):je false m Y st bk ph r (je true m X st bk ph r (j0 X Y (λi s=>(⟨true,false,st,bk,ph,r,i,s⟩:Acn)) (λi s=>(⟨false,ph==0,st,bk,ph,r,i,s⟩:Acn)) m))=j0 X Y (λi s=>(⟨true,false,st,bk,ph,r,i,s⟩:Acn)) (λi s=>(⟨false,ph==0,st,bk,ph,r,i,s⟩:Acn)) (m+1):=by
 rw [nS];by_cases h:m<X.length<;>by_cases o:m<Y.length<;>simp [je,h,o]
theorem pY (st bk lo p W c x ph r:Nat) (w:N5) (h1:1<=W) (h2:W<=1048576) (hx:x<W) (hp:ph<2) (hr:r+1<W) (h3:lo<=1048576) (h4:p<=1048576) (h5:1<=c) (h6:c<=1048576):Calls prog 50 #[.agg #[H8 (st:Nat),H8 (bk:Nat),H8 (lo:Nat),H8 (p:Nat),H8 (W:Nat),H8 (c:Nat)],H8 x,H8 ph,H8 r] w λe h=>∃v,e=.returned v/\h.ownsRow w.heap.size 129 9 v (bf st bk (lo,p) W c x ph r).length (dm (bf st bk (lo,p) W c x ph r))/\ap w h:=by
 obtain ⟨H,u⟩:∃H,((w.alloc (.cells #[H8 (st:Nat),H8 (bk:Nat),H8 (lo:Nat),H8 (p:Nat),H8 (W:Nat),H8 (c:Nat)] 71)).alloc (.cells #[H8 ph] 3)).alloc (.cells #[H8 r] 3)=H:=⟨_,rfl⟩
 have g0:H.heap[w.heap.size]?=some (.cells #[H8 (st:Nat),H8 (bk:Nat),H8 (lo:Nat),H8 (p:Nat),H8 (W:Nat),H8 (c:Nat)] 71 (0,0)):=by
  rw [<-u,Gk _ _ _ (by simp;omega),Gk _ _ _ (by simp)];exact F4 w _
 have g1:H.heap[w.heap.size+1]?=some (.cells #[H8 ph] 3 (0,0)):=by
  rw [<-u,Gk _ _ _ (by simp)];have:=F4 (w.alloc (.cells #[H8 (st:Nat),H8 (bk:Nat),H8 (lo:Nat),H8 (p:Nat),H8 (W:Nat),H8 (c:Nat)] 71)) (.cells #[H8 ph] 3);simpa using this
 have g2:H.heap[w.heap.size+1+1]?=some (.cells #[H8 r] 3 (0,0)):=by
  rw [<-u];have:=F4 ((w.alloc (.cells #[H8 (st:Nat),H8 (bk:Nat),H8 (lo:Nat),H8 (p:Nat),H8 (W:Nat),H8 (c:Nat)] 71)).alloc (.cells #[H8 ph] 3)) (.cells #[H8 r] 3);simpa using this
 have a5:ap w H:=by rw [<-u];exact (((br w).alloc (F3 _) _).alloc (by simp) _).alloc (by simp;omega) _
 have a4:H.heap.size=w.heap.size+1+1+1:=by rw [<-u];simp
 have t0:=λh q=>bx6 (sb g0 h q);have t1:=λh q=>bx1 (sb g1 h q);have t2:=λh q=>bx1 (sb g2 h q);obtain ⟨b7,V,bl,G0,G1,G2⟩:=ah u a5 a4 g0 g1 g2;clear u g0 g1 g2 a5 a4;go_enter func50,ntmps50;have q0:=br H;go_wp2_with fail;rw [b7.o];refine (Ay st bk lo p W c x ph r H h1 h2 hx hp hr).mono ?_;rintro e w1 ⟨rfl,k1⟩;have q1:=bt q0 k1;go_wp2_with fail;refine (Az st bk lo p W c x ph r w1 h1 h2 hx hp hr).mono ?_;rintro e w2 ⟨rfl,k2⟩;have q2:=bt q1 k2;go_wp2_with fail;refine (An lo p W w2 h1 h2 h3 h4).mono ?_;rintro e T ⟨v3,rfl,o3,k3⟩;have q3:=bt q2 k3;have a0:bU W x ph r<W:=Nat.mod_lt _ h1;have O:aO W x ph r<W:=Nat.mod_lt _ h1;obtain ⟨so,A⟩:∃so,bU W x ph r=so:=⟨_,rfl⟩;obtain ⟨si,B⟩:∃si,aO W x ph r=si:=⟨_,rfl⟩;rw [A] at a0 ⊢;rw [B] at O ⊢;obtain ⟨g,c3,b3,aM,b6⟩:=o3.form ao;subst b3;have a1:=Dt (b:=(lo,p)) h1 h3 h4;obtain ⟨J,D⟩:∃J,aD (bY (lo,p) W) so=J:=⟨_,rfl⟩;obtain ⟨I,C⟩:∃I,aD (bY (lo,p) W) si=I:=⟨_,rfl⟩;have Z:=a1 J (by rw [<-D,cu _ _ (by rw [nz];exact a0)];exact List.getElem_mem _);have Q:=a1 I (by rw [<-C,cu _ _ (by rw [nz];exact O)];exact List.getElem_mem _);have po:=mW o3 a0;have pi:=mW o3 O;rw [D] at po;rw [C] at pi;have a2:=br T;have b1:=λh (q:ap T h)=>av q po.1;have b2:=λh (q:ap T h)=>av q po.2;have ax:=λh (q:ap T h)=>av q pi.1;have b8:=λh (q:ap T h)=>av q pi.2;have u0:=λh (q:ap T h)=>t0 h (bt q3 q);have bb:(so:Int)<W:=ao;have bd:(si:Int)<W:=ao;have HR:an (bf st bk (lo,p) W c x ph r=fq (chR J c) (chR I c) (λi s=>⟨true,false,st,bk,ph,r,i,s⟩) (λi s=>⟨false,ph==0,st,bk,ph,r,i,s⟩)):=aa (by unfold bf;rw [A,B,D,C]);have R:=aa q3;clear t0 aM b6 a1 D C A B po pi q0 q1 q2 q3 k1 k2 k3 o3;go_wp2_with fail;refine HA.g (λh:N5=>ap T h) ?_;refine HA.t ?_ [0,1,2,3,4,5,7,8,9,10,11,12] a2.drew ?_;refine HA.c 6 (tJ J.1 J.2 c _ h5 h6 Z.1 Z.2) ?_;rintro e w4 ⟨v4,rfl,o4,k4⟩;have q4:=bt a2.drew k4;refine ⟨_,rfl,q4,λ_=>?_⟩;refine HA.c 13 (tJ I.1 I.2 c _ h5 h6 Q.1 Q.2) ?_;rintro e N ⟨v5,rfl,o5,k5⟩;have q5:=bt q4 k5;refine ⟨_,rfl,q5,λ_=>?_⟩;refine HA.t ?_ [14,15] q5 ?_;refine HA.d ?_;obtain ⟨A4,c4,rfl,_⟩:=aE o4;obtain ⟨A5,c5,rfl,_⟩:=aE o5;obtain ⟨X,hX⟩:∃X,chR J c=X:=⟨_,rfl⟩;obtain ⟨Y,hY⟩:∃Y,chR I c=Y:=⟨_,rfl⟩;have bv:X.length<=1048576:=by rw [<-hX,rD];have:=fF (J.2-J.1) c;omega
 have bh:Y.length<=1048576:=by rw [<-hY,rD];have:=fF (I.2-I.1) c;omega
 rw [hX] at o4 HR ⊢;rw [hY] at o5 HR ⊢;simp only [Exit.then];obtain ⟨L,O4,O5,B4,B5⟩:=ag ((R.o).trans (q5.mono R.o.size)) (aA o4 k5) o5 (ig (aA o4 k5)) (ig o5);clear o4 o5 k4 k5 q4 q5 a2 b1 b2 ax b8 u0 t1 t2 R hX hY Z Q;obtain ⟨M,hM⟩:∃M:Nat,max X.length Y.length=M:=⟨_,rfl⟩;have bw:(if X.length<Y.length then (Y.length:Int) else (X.length:Int))=(M:Int):=by rw [<-hM];split<;>omega
 have b0:=aa hM;clear hM;go_wp2_with fail
 go_loopw [62] (λx wr=>∃m:Nat,m<=M/\x=H8 m/\∃v,wr.heap[N.heap.size]?=some (.cells #[v] 124 (0,0))/\wr.ownsRow N.heap.size 129 9 v (j0 X Y (λi s=>(⟨true,false,st,bk,ph,r,i,s⟩:Acn)) (λi s=>(⟨false,ph==0,st,bk,ph,r,i,s⟩:Acn)) m).length (dm (j0 X Y (λi s=>(⟨true,false,st,bk,ph,r,i,s⟩:Acn)) (λi s=>(⟨false,ph==0,st,bk,ph,r,i,s⟩:Acn)) m))/\ap N wr) (λx _=>M-(intOf x).toNat)
 ·exact ⟨0,Gc _,rfl,_,F4 _ _,Gj _ _ _ _,(br N).alloc (F3 _) _⟩
 case round=>
  obtain ⟨m,hm,rfl,v,n0,o0,q⟩:=hrel;by_cases bs:m<M
  ·have b4:(m:Int)<M:=ao;have bn:IntKind.i64.wrap ((m:Int)+1)=((m+1:Nat):Int):=by rw [Gd _ ao];push_cast;rfl
   have a3:=Bd X Y (λi s=>(⟨true,false,st,bk,ph,r,i,s⟩:Acn)) (λi s=>(⟨false,ph==0,st,bk,ph,r,i,s⟩:Acn)) m;have a7:=(Rd.own O4.o).below q;have ad:=λy e=>(B4.o y e).2;have c1:=qG true m A4 X c4 w.heap.size (w.heap.size+1) (w.heap.size+1+1) N.heap.size N.heap.size st bk lo p W c ph r v _ wr (sb G0.o wr (bt L.o q)) (sb G1.o wr (bt L.o q)) (sb G2.o wr (bt L.o q)) n0 o0 q.size (F3 _) a7 ao ao ad;obtain ⟨C1,HQ,b5⟩:=ae c1 q a3;clear c1 a7 ad n0 o0 q a3;go_wp2_with fail;refine C1.o.mono ?_;rintro e w6 ⟨rfl,v6,n6,o6,k6⟩;have U:=HQ.o.trans k6;have ak:(je true m X st bk ph r (j0 X Y (λi s=>(⟨true,false,st,bk,ph,r,i,s⟩:Acn)) (λi s=>(⟨false,ph==0,st,bk,ph,r,i,s⟩:Acn)) m)).length<=2*m+1:=by have:=b5.o;unfold je;split<;>simp<;>omega
   have a6:=(Rd.own O5.o).below U;have a8:=λy e=>(B5.o y e).2;have c2:=qG false m A5 Y c5 w.heap.size (w.heap.size+1) (w.heap.size+1+1) N.heap.size N.heap.size st bk lo p W c ph r v6 _ w6 (sb G0.o w6 (bt L.o U)) (sb G1.o w6 (bt L.o U)) (sb G2.o w6 (bt L.o U)) n6 o6 U.size (F3 _) a6 ao ao a8;obtain ⟨C2,aP⟩:=ab c2 U;clear c2 a6 a8 n6 o6 U k6 ak;go_wp2_with fail;refine C2.o.mono ?_;rintro e w7 ⟨rfl,v7,n7,o7,k7⟩;have q7:=aP.o.trans k7;rw [yq] at o7;obtain ⟨N7,O7,Q7⟩:=ae n7 o7 q7;clear n7 o7 q7 k7;go_wp2_with fail;go_roundw
   ·exact ⟨m+1,by omega,by go_num,v7,N7.o,O7.o,Q7.o⟩
   ·simp [intOf];omega
  ·obtain rfl:M=m:=ao;have b4:¬((M:Int)<M):=ao;have tn:=λh q=>bx1 (sb n0 h q);obtain ⟨O0,HQ,HN⟩:=ae o0 q n0;have q0:=br wr;clear o0 q n0;go_wp2_with fail;go_ret;refine ⟨_,rfl,?_,?_⟩
   ·rw [HR.out];have:=O0.o;rw [<-b0.o] at this;exact aG this (Ge V.o.size L.o.size)
   ·exact V.o.trans ((bt L.o HQ.o).mono V.o.size)
def C5:Option Acn->N4
 | none=>[.bool false,.bool false,H8 0,H8 0,H8 0,H8 0,H8 0,H8 0,H8 0]
 | some a=>bD a
def aX (x:Itm):N4:=H8 (x.kind:Nat)::H8 (x.st:Nat)::H8 (x.n:Nat)::C5 x.a
def dF (l:List Itm):N4:=l.flatMap aX
theorem td (l:List Itm) (a:Itm):dF (l++[a])=dF l++aX a:=by simp [dF]
theorem Cr:cW prog 166 135 (.agg Ic) 12 88:=⟨underlying166,info_parts (by kernel_rfl),rfl,by decide⟩
theorem DT (L base kd st n m:Nat) (H C:Bool) (N U D O Q J T:Int) (v:Value) (xs:N4) (w:N5) (hL:w.heap[L]?=some (.cells #[H8 (st:Nat),v] 231 (0,0))) (ho:w.ownsRow base 135 12 v m xs) (hb:base<=w.heap.size) (hm:m<=8388608):Calls prog 131 #[(ar L),H8 (kd:Nat),H8 (n:Nat),.agg #[.bool H,.bool C,H8 N,H8 U,H8 D,H8 O,H8 Q,H8 J,H8 T]] w λe p=>e=.returned (.tuple #[])/\
   ∃v',p.heap[L]?=some (.cells #[H8 (st:Nat),v'] 231 (0,0))/\p.ownsRow base 135 12 v' (m+1) (xs++[H8 (kd:Nat),H8 (st:Nat),H8 (n:Nat),.bool H,.bool C,H8 N,H8 U,H8 D,H8 O,H8 Q,H8 J,H8 T])/\Keep (λj=>j=L\/v.ownBlock=some j) w p/\(v'.ownBlock=v.ownBlock\/∀k,v'.ownBlock=some k->w.heap.size<=k):=by
 obtain ⟨i,x⟩:∃i,w.alloc (.cells #[.bool H,.bool C,H8 N,H8 U,H8 D,H8 O,H8 Q,H8 J,H8 T] 129)=i:=⟨_,rfl⟩;have h0:i.heap[w.heap.size]?=some (.cells #[.bool H,.bool C,H8 N,H8 U,H8 D,H8 O,H8 Q,H8 J,H8 T] 129 (0,0)):=by rw [<-x];exact F4 w _
 have y:ap w i:=by rw [<-x];exact (br w).alloc (F3 _) _
 have V:=aA ho y;have nt:=λb cs t' sg (a5:i.heap[b]?=some (.cells cs t' sg)) (a2:t'≠135) (e:v.ownBlock=some b)=>aw a5 a2 V e.symm;have A:=sb hL _ y;have kL:=λp (q:Keep (λj=>v.ownBlock=some j) i p)=>(q.block _ (F1 A) (nt _ _ _ _ A (by decide))).trans A;have tL:=λp q=>bx2 (kL p q);have t0:=λp (q:Keep (λj=>v.ownBlock=some j) i p)=>bx9 ((q.block _ (F1 h0) (nt _ _ _ _ h0 (by decide))).trans h0);obtain ⟨HL,HO,Z,a3⟩:=af kL V y x;clear hL ho y x h0 A kL V nt;go_enter func131,ntmps131;have q0:Keep (λj=>v.ownBlock=some j) i i.drew:=(Keep.refl _ _).drew;go_wp2_with fail;rw [a3.o];refine XA.g 15 (λp:N5=>Keep (λj=>v.ownBlock=some j) i p) ?_;refine XA.t ?_ [0,1,2,3,4,5,6,7,8,9,10,11,12] q0 ?_;refine XA.v 13 (i.drew.alloc (.cells #[H8 (kd:Nat),H8 (st:Nat),H8 (n:Nat),.bool H,.bool C,H8 N,H8 U,H8 D,H8 O,H8 Q,H8 J,H8 T] 135)) (.slice (some (aq i.heap.size 0)) 1 1) (q0.alloc _) ?_;refine XA.o 14 (λK' hK=>?_);have hO:=(HO.o.drew).alloc (.cells #[H8 (kd:Nat),H8 (st:Nat),H8 (n:Nat),.bool H,.bool C,H8 N,H8 U,H8 D,H8 O,H8 Q,H8 J,H8 T] 135);have a6:=Z.o.size;refine cZ Cr (.tmp 12) (.tmp 21) rfl rfl base v m _ rfl hO (some (aq i.heap.size 0)) 1 1 [H8 (kd:Nat),H8 (st:Nat),H8 (n:Nat),.bool H,.bool C,H8 N,H8 U,H8 D,H8 O,H8 Q,H8 J,H8 T] rfl (λk u hu=>⟨_,_,rfl,by rw [GY,Ga _ i.heap.size k _ 135 (0,0) (F4 i.drew _)];simpa using hu⟩) rfl (by simp [Value.oneCell']) ao (by unfold maxLen;omega) (by simp;omega) ?_;intro A5 c5 Y I a4 a1 a0
 have B:(Value.slice A5 (m+1) c5).ownBlock=v.ownBlock\/∀k,(Value.slice A5 (m+1) c5).ownBlock=some k->w.heap.size<=k:=by
  rcases a0 with h | h
  ·exact .inl h
  ·exact .inr λk hk=>by rw [h] at hk;simp at hk;omega
 have HN:=aa B;clear a0 B;have q5:Keep (λj=>v.ownBlock=some j) i Y:=(q0.alloc _).grown a1 (λk hk=>.inr hk);refine hK.out _ _ q5 λ_=>?_;refine XA.e ?_;simp only [GC,GD];have R:=HL.o Y q5;have e3:=HE Y L 1 _ _ (.slice A5 (m+1) c5) R;have k1:Keep (λj=>j=L) Y (Y.setCell (aq L 1) (.slice A5 (m+1) c5)):=Keep.setCell (S:=λj=>j=L) (Keep.refl _ _) (aq L 1) (.inr rfl) _;have o6:=k1.own I (λj hj e=>aw R (by decide) I (by rw [hj,e]));have k6:Keep (λj=>j=L\/v.ownBlock=some j) w (Y.setCell (aq L 1) (.slice A5 (m+1) c5)):=Keep.setCell (S:=λj=>j=L\/v.ownBlock=some j) ((Keep.below Z.o).trans (q5.mono λk _ hk=>.inr hk)) (aq L 1) (.inr (.inl rfl)) _;obtain ⟨E3,O6,K6⟩:=ae e3 o6 k6;have xL:=tL Y q5;clear I a4 a1 R e3 k1 o6 k6 tL t0 hK K' q5 hO;go_wp2_with fail
 go_end0
 exact ⟨rfl,_,by simpa using E3.o,O6.o,K6.o,HN.o⟩
def eR (w:N5) (L base st:Nat) (v:Value) (l:List Itm):Prop:=w.heap[L]?=some (.cells #[H8 (st:Nat),v] 231 (0,0))/\w.ownsRow base 135 12 v l.length (dF l)
def Apd (L:Nat) (w:N5) (v:Value) (h:N5) (v':Value):Prop:=Keep (λj=>j=L\/v.ownBlock=some j) w h/\(v'.ownBlock=v.ownBlock\/∀k,v'.ownBlock=some k->w.heap.size<=k)
theorem Apd.trans {L:Nat} {a b c:N5} {v v' i:Value} (h:Apd L a v b v') (k:Apd L b v' c i):Apd L a v c i:=by
 refine ⟨⟨k.1.os.trans h.1.os,k.1.tape.trans h.1.tape,k.1.output.trans h.1.output,Ge h.1.size k.1.size,λj o hn=>(k.1.block j (Gf o h.1.size) λp=>?_).trans (h.1.block j o hn)⟩,?_⟩
 ·rcases p with rfl | p
  ·exact hn (.inl rfl)
  ·rcases h.2 with x | x
   ·exact hn (.inr (x▸p))
   ·have:=x j p;omega
 ·rcases k.2 with u | u
  ·rw [u];exact h.2
  ·exact .inr λj o=>Ge h.1.size (u j o)
theorem Apd.below {L:Nat} {b c:N5} {v:Value} (h:ap b c):Apd L b v c v:=⟨Keep.below h,.inl rfl⟩
theorem Apd.refl (L:Nat) (w:N5) (v:Value):Apd L w v w v:=⟨Keep.refl _ _,.inl rfl⟩
theorem eR.below {w i:N5} {L base st:Nat} {v:Value} {l:List Itm} (h:eR w L base st v l) (hb:ap w i):eR i L base st v l:=⟨sb h.1 _ hb,aA h.2 hb⟩
theorem s8 (L base o st n:Nat) (a:Option Acn) (v:Value) (l:List Itm) (w:N5) (hl:eR w L base st v l) (hb:base<=w.heap.size) (hm:l.length<=8388608):Calls prog 131 #[(ar L),H8 (o:Nat),H8 (n:Nat),.agg (C5 a).toArray] w λe h=>e=.returned (.tuple #[])/\
   ∃v',eR h L base st v' (l++[(⟨o,st,n,a⟩:Itm)])/\Apd L w v h v':=by
 have i:∀y x p u D B C A H,C5 a=[.bool y,.bool x,H8 p,H8 u,H8 D,H8 B,H8 C,H8 A,H8 H]->Calls prog 131 #[(ar L),H8 (o:Nat),H8 (n:Nat),.agg (C5 a).toArray] w λe h=>e=.returned (.tuple #[])/\
   ∃v',eR h L base st v' (l++[(⟨o,st,n,a⟩:Itm)])/\Apd L w v h v':=by
  intro y x p u D B C A H e;rw [e];refine (DT L base o st n l.length y x p u D B C A H v _ w hl.1 hl.2 hb hm).mono ?_;rintro N h ⟨rfl,v',J,I,k,hn⟩;refine ⟨rfl,v',⟨J,?_⟩,k,hn⟩;rw [td,GE,aX,e];exact I
 cases a with
 | none=>exact i _ _ _ _ _ _ _ _ _ rfl
 | some a=>exact i _ _ _ _ _ _ _ _ _ rfl
theorem jR (L base st n:Nat) (o:Int) (h:Nat) (hk:(h:Int)=o) (v:Value) (l:List Itm) (w:N5) (hl:eR w L base st v l) (hb:base<=w.heap.size) (hm:l.length<=8388608):Calls prog 131 #[(ar L),H8 o,H8 (n:Nat),.agg #[.bool false,.bool false,H8 0,H8 0,H8 0,H8 0,H8 0,H8 0,H8 0]] w λe i=>e=.returned (.tuple #[])/\
   ∃v',eR i L base st v' (l++[(⟨h,st,n,none⟩:Itm)])/\Apd L w v i v':=by
 subst hk;exact s8 L base h st n none v l w hl hb hm
theorem yU (L base st:Nat) (o:Int) (h:Nat) (hk:(h:Int)=o) (a:Acn) (v:Value) (l:List Itm) (w:N5) (hl:eR w L base st v l) (hb:base<=w.heap.size) (hm:l.length<=8388608):Calls prog 131 #[(ar L),H8 o,H8 0,.agg #[.bool a.send,.bool a.add,H8 (a.st:Nat),H8 (a.bk:Nat),H8 (a.ph:Nat),H8 (a.rd:Nat),H8 (a.ch:Nat),H8 (a.at'.1:Nat),H8 (a.at'.2:Nat)]] w λe i=>e=.returned (.tuple #[])/\
   ∃v',eR i L base st v' (l++[(⟨h,st,0,some a⟩:Itm)])/\Apd L w v i v':=by
 subst hk;exact s8 L base h st 0 (some a) v l w hl hb hm
theorem mZ {α β:Type} {g:α->List β} {n:Nat} (hn:∀a,(g a).length=n):∀{l:List α} {i:Nat} {a:α},l[i]?=some a->∀f,f<n->(l.flatMap g)[i*n+f]?=(g a)[f]?
 | [],_,_,h,_,_=>by simp at h
 | x::l,0,a,h,f,hf=>by
  simp only [Gz,Option.some.injEq] at h;subst h;rw [List.flatMap_cons,Nat.zero_mul,GY,GH (by rw [hn];exact hf)]
 | x::l,i+1,a,h,f,hf=>by
  simp only [Gy] at h;rw [List.flatMap_cons,GK (by rw [hn,GW];omega),hn,show (i+1)*n+f-n=i*n+f by rw [GW];omega];exact mZ hn h f hf
theorem Ej (a:Acn):(bD a).length=9:=rfl
theorem C6 {w:N5} {base n g c:Nat} {l:List Acn} {e:N6} (h:w.ownsRow base e 9 (.slice (some (aq g 0)) n c) n (dm l)) {i:Nat} {a:Acn} (o:l[i]?=some a) (hl:l.length=n):
  ∀f,f<9->w.cell? (aq g (i*9+f))=(bD a)[f]?:=λf p=>by
 have x:i<l.length:=(GF.1 o).1;have v:=h.1;have u:=mZ Ej o f p;rw [h.cellAt _ ao,dm,u]
theorem Au {b:Rg} {k:Nat} {M:Nat} (h:1<=k) (o:b.1<=b.2) (hb:b.2<=M):∀r∈bY b k,r.2<=M:=by
 intro r hr;simp only [bY,shR,fR,List.map_map,List.mem_map,List.mem_range,Function.comp] at hr;obtain ⟨i,p,rfl⟩:=hr;have c:=fz (b.2-b.1) k (i+1) h ao;simp only;omega
theorem oV (n c:Nat):be n c<=n:=by
 unfold be
 split
 ·omega
 ·have:=Nat.div_le_self (n-1) c;omega
theorem vE {b:Rg} {W c s M:Nat} (p:1<=W) (o:b.1<=b.2) (hb:b.2<=M):(chR (aD (bY b W) s) c).length<=M:=by
 rw [rD];have h:=oV ((aD (bY b W) s).2-(aD (bY b W) s).1) c;rcases Gn s (bY b W).length with i | i
 ·have:=Au p o hb _ (List.getElem_mem i);rw [<-cu _ _ i] at this;omega
 ·have:aD (bY b W) s=(0,0):=by simp [aD,List.getD,i]
  rw [this] at h ⊢;exact Ge h (Gc _)
theorem xZ {st bk:Nat} {b:Rg} {W c w ph r M:Nat} (i:1<=W) (h:b.1<=b.2) (hb:b.2<=M):(bf st bk b W c w ph r).length<=2*M:=by
 rw [gn];have o:=vE (c:=c) (s:=bU W w ph r) i h hb;have p:=vE (c:=c) (s:=aO W w ph r) i h hb;omega
def gu (p:Pln) (w st k lo:Nat) (n:Nat):List Itm:=(List.range' lo n).flatMap λj=>aU p w st (k/(p.W-1)) (k%(p.W-1)) j
def cq (p:Pln) (w st:Nat) (g:Rg) (k:Nat):List Itm:=(List.range k).flatMap λk=>gu p w st k g.1 (g.2-g.1)
theorem oq (p:Pln) (w st k lo n:Nat):gu p w st k lo (n+1)=gu p w st k lo n++aU p w st (k/(p.W-1)) (k%(p.W-1)) (lo+n):=by
 simp [gu,List.range'_concat]
theorem fS (p:Pln) (w st:Nat) (g:Rg) (k:Nat):cq p w st g (k+1)=cq p w st g k++gu p w st k g.1 (g.2-g.1):=by
 simp [cq,GV]
theorem tc {p:Pln} {w st k lo n M:Nat} (h:∀ph r j,(aU p w st ph r j).length<=M):(gu p w st k lo n).length<=n*M:=by
 induction n with
 | zero=>simp [gu]
 | succ n ih=>rw [oq,GE,GW];have:=h (k/(p.W-1)) (k%(p.W-1)) (lo+n);omega
theorem j8 {p:Pln} {w st k M:Nat} {g:Rg} (h:∀ph r j,(aU p w st ph r j).length<=M):(cq p w st g k).length<=k*((g.2-g.1)*M):=by
 induction k with
 | zero=>simp [cq]
 | succ k ih=>rw [fS,GE,GW];have:=tc (w:=w) (st:=st) (k:=k) (lo:=g.1) (n:=g.2-g.1) h;omega
theorem nJ {p:Pln} {w st k lo n m:Nat} (hm:p.W-1=m) {ph r:Nat} (h:k/m=ph) (i:k%m=r):gu p w st k lo n=(List.range' lo n).flatMap λj=>aU p w st ph r j:=by
 unfold gu;rw [hm,h,i]
theorem my (p:Pln) (w st:Nat) (g:Rg):cq p w st g (2*(p.W-1))=(List.range 2).flatMap λph=>(List.range (p.W-1)).flatMap λr=>(List.range' g.1 (g.2-g.1)).flatMap λj=>aU p w st ph r j:=by
 obtain ⟨m,hm⟩:∃m,p.W-1=m:=⟨_,rfl⟩;obtain ⟨F,v⟩:∃F:Nat->Nat->List Itm,(λph r=>(List.range' g.1 (g.2-g.1)).flatMap λj=>aU p w st ph r j)=F:=⟨_,rfl⟩;have h:∀ph r,((List.range' g.1 (g.2-g.1)).flatMap λj=>aU p w st ph r j)=F ph r:=λph r=>by rw [<-v]
 have u:∀k,k<=m->cq p w st g k=(List.range k).flatMap (F 0):=by
  intro k
  induction k with
  | zero=>intro _;rfl
  | succ k ih=>
   intro hk;have e:=nJ (w:=w) (st:=st) (lo:=g.1) (n:=g.2-g.1) hm (Nat.div_eq_of_lt (show k<m by omega)) (Nat.mod_eq_of_lt (show k<m by omega));rw [fS,ih ao,e,h,GV,List.flatMap_append];simp only [List.flatMap_cons,List.flatMap_nil,List.append_nil]
 have o:∀k,k<=m->cq p w st g (m+k)=cq p w st g m++(List.range k).flatMap (F 1):=by
  intro k
  induction k with
  | zero=>intro _;simp only [Nat.add_zero,List.range_zero,List.flatMap_nil,List.append_nil]
  | succ k ih=>
   intro hk;have d:(m+k)/m=1:=by rw [Nat.add_div_left k ao,Nat.div_eq_of_lt ao]
   have i:(m+k)%m=k:=by rw [Nat.add_mod_left,Nat.mod_eq_of_lt ao]
   have e:=nJ (w:=w) (st:=st) (lo:=g.1) (n:=g.2-g.1) hm d i;rw [<-GX,fS,ih ao,e,h,GV,List.flatMap_append,GM];simp only [List.flatMap_cons,List.flatMap_nil,List.append_nil]
 simp only [h];rw [hm,show 2*m=m+m by omega,o m (F3 _),u m (F3 _)]
 show _=List.flatMap (λph=>(List.range m).flatMap (F ph)) [0,1]
 simp only [List.flatMap_cons,List.flatMap_nil,List.append_nil]
structure aT (p:Pln):Prop where
 W1:1<=p.W
 W8:p.W<=8
 mi:p.mi<=20
 n:p.n<=60
 bu:1<=p.bu
 ck:1<=p.ck
 ck2:p.ck<=1048576
 wi:1<=p.wi
theorem xe {n s:Nat}:∀r∈pb n s,r.1<=r.2/\r.2<=n:=by
 intro r hr;simp only [pb,List.mem_reverse,dU,List.mem_map,List.mem_range] at hr;obtain ⟨i,h,rfl⟩:=hr;have:=fe h;exact ⟨by simp only;omega,by simp only;omega⟩
theorem aT.buks {p:Pln} (h:aT p):p.buks.length<=60:=by
 have:=oV p.n p.bu;have:=h.n;rw [Pln.buks,gy];omega
theorem aT.buk {p:Pln} (h:aT p) (j:Nat):(aD p.buks j).1<=(aD p.buks j).2/\(aD p.buks j).2<=60:=by
 rcases Gn j p.buks.length with i | i
 ·have:=xe _ (List.getElem_mem i);rw [<-cu _ _ i] at this;have hn:=h.n;exact ⟨this.1,by omega⟩
 ·have:aD p.buks j=(0,0):=by simp [aD,List.getD,i]
  rw [this];simp
theorem aT.round {p:Pln} (h:aT p) (w st ph r j:Nat):(aU p w st ph r j).length<=120:=by
 unfold aU;rw [List.length_map];exact xZ h.W1 (h.buk j).1 (h.buk j).2
theorem uA (p:Pln) (L base st x:Nat) (lo B:Nat) (a0 a1 a2 a3 a5 a6 a7 a8 ax aP b3:Value) (BA:N0) (bc:Nat) (v:Value) (l:List Itm) (w:N5) (hp:aT p) (hl:eR w L base st v l) (hb:base<=w.heap.size) (co:Rd w BA (aI p.buks)) (ci:∀y,BA=some y->y.block<base) (hL:base<=L) (hx:x<p.W) (hg:B<=p.buks.length) (ef:l.length<=8000000):Calls prog 132 #[.agg #[a0,a1,a2,a3,H8 (p.W:Nat),a5,a6,a7,a8,H8 (p.ck:Nat),ax,aP,.slice BA p.buks.length bc,b3],(ar L),H8 x,.agg #[H8 (lo:Nat),H8 (B:Nat)]] w λe u=>e=.returned (.tuple #[])/\
   ∃v',eR u L base st v' (l++cq p x st (lo,B) (2*(p.W-1)))/\Apd L w v u v':=by
 obtain ⟨D,R⟩:∃D,(w.alloc (.cells #[a0,a1,a2,a3,H8 (p.W:Nat),a5,a6,a7,a8,H8 (p.ck:Nat),ax,aP,.slice BA p.buks.length bc,b3] 192)).alloc (.cells #[H8 (lo:Nat),H8 (B:Nat)] 69)=D:=⟨_,rfl⟩
 have g0:D.heap[w.heap.size]?=some (.cells #[a0,a1,a2,a3,H8 (p.W:Nat),a5,a6,a7,a8,H8 (p.ck:Nat),ax,aP,.slice BA p.buks.length bc,b3] 192 (0,0)):=by
  rw [<-R,Gk _ _ _ (by simp)];exact F4 w _
 have g1:D.heap[w.heap.size+1]?=some (.cells #[H8 (lo:Nat),H8 (B:Nat)] 69 (0,0)):=by
  rw [<-R];have:=F4 (w.alloc (.cells #[a0,a1,a2,a3,H8 (p.W:Nat),a5,a6,a7,a8,H8 (p.ck:Nat),ax,aP,.slice BA p.buks.length bc,b3] 192)) (.cells #[H8 (lo:Nat),H8 (B:Nat)] 69);simpa using this
 have b0:ap w D:=by rw [<-R];exact ((br w).alloc (F3 _) _).alloc (by simp) _
 have I:=hl.below b0;have dA:=F1 I.1;have d6:=F1 hl.1;have kS:=λu (q:Keep (λj=>j=L\/v.ownBlock=some j) D u)=>(q.block _ (F1 g0) (λe=>e.elim (λh=>ao) (λh=>aw g0 (by decide) I.2 h.symm))).trans g0;have kG:=λu (q:Keep (λj=>j=L\/v.ownBlock=some j) D u)=>(q.block _ (F1 g1) (λe=>e.elim (λh=>ao) (λh=>aw g1 (by decide) I.2 h.symm))).trans g1;have b6:Rd D BA (aI p.buks):=co.below b0
 have kB:=λu (q:Keep (λj=>j=L\/v.ownBlock=some j) D u)=>q.rd b6 (λy hy=>by
  have:=ci y hy;rintro (h | h)
  ·omega
  ·have:=(hl.2.lt _ h).1;omega)
 have bX:=λj=>hp.buk j;have hrl:=λph r j=>hp.round x st ph r j;obtain ⟨m,hm⟩:∃m,p.W-1=m:=⟨_,rfl⟩;have dn:=hp.W1;have ee:=hp.W8;have d5:=hp.ck;have cr:=hp.ck2;have ej:=hp.buks;have ei:(p.W:Int)-1=(m:Int):=ao;obtain ⟨T,hT⟩:∃T,2*m=T:=⟨_,rfl⟩;have ea:(2:Int)*(m:Int)=(T:Int):=ao;have ec:IntKind.i64.wrap (m:Int)=m:=Gd _ ao;have e7:IntKind.i64.wrap (T:Int)=T:=Gd _ ao;rw [hm,hT];obtain ⟨dG,cd,d4,HS,HG,HB,dc,bs⟩:=aj R b0 I kS kG kB bX hrl;obtain ⟨Hm,HT⟩:=ab hm hT;have tS:=λu (q:ap D u)=>CG (kS u (Keep.below q));have q0:=br D;clear R g0 g1 b0 I hl co b6 kS kG kB bX hrl hm hT hp dA d6 ci;go_enter func132,ntmps132;go_wp2_with fail;rw [dG.o];clear tS q0
 go_loopw [19] (λy wr=>∃k:Nat,k<=T/\y=H8 k/\∃v',eR wr L base st v' (l++cq p x st (lo,B) k)/\Apd L D v wr v') (λy _=>T-(intOf y).toNat)
 ·exact ⟨0,Gc _,rfl,v,by simpa [cq] using d4.o,Apd.refl _ _ _⟩
 case round=>
  obtain ⟨k,hk,rfl,v1,aM,A1⟩:=hrel;by_cases e6:k<T
  ·have d8:(k:Int)<T:=ao;have bO:0<m:=by have:=HT.o;omega
   have e5:IntKind.i64.wrap ((k:Int)+1)=((k+1:Nat):Int):=by rw [Gd _ ao];push_cast;rfl
   obtain ⟨wq,rfl⟩:∃wq:N5,wq=wr:=⟨_,rfl⟩;have uG:=λu (q:ap wq u)=>bx2 (sb (HG.o wq A1.1) u q);have q1:=br wq;obtain ⟨bd,b8⟩:=ab aM A1;clear aM A1;go_wp2_with fail;clear uG q1
   go_loopw [9] (λy wr=>∃j:Nat,lo<=j/\(j<=B\/j=lo)/\y=H8 j/\∃v2,eR wr L base st v2 (l++cq p x st (lo,B) k++gu p x st k lo (j-lo))/\Apd L D v wr v2) (λy _=>B-(intOf y).toNat)
   ·exact ⟨lo,F3 _,.inr rfl,rfl,v1,by simpa [gu] using bd.o,b8.o⟩
   case round=>
    obtain ⟨j,hj,ek,rfl,v2,C,A2⟩:=hrel;have uG:=λu (q:ap wr u)=>bx2 (sb (HG.o wr A2.1) u q);by_cases e3:j<B
    ·have dv:(j:Int)<B:=ao;obtain ⟨A,rfl⟩:∃A:N5,A=wr:=⟨_,rfl⟩;have dp:j<p.buks.length:=ao;have e1:(j:Int)<p.buks.length:=ao;have b7:=fm dp;obtain ⟨bb,bo,rfl,bn⟩:=HB.o A A2.1 _ _ b7.1;obtain ⟨d2,dO,e',ak⟩:=HB.o A A2.1 _ _ b7.2;obtain ⟨rfl,rfl⟩:d2=bb/\dO=bo:=by simpa using e'.symm
     rw [<-GX] at ak;have cb:=dc.o j;obtain ⟨b1,bv⟩:∃b1,(aD p.buks j).1=b1:=⟨_,rfl⟩;obtain ⟨b2,bh⟩:∃b2,(aD p.buks j).2=b2:=⟨_,rfl⟩;rw [bv] at bn cb;rw [bh] at ak cb;have d0:=λu (q:ap A u)=>av q bn;have d1:=λu (q:ap A u)=>av q ak;have uS:=λu (q:ap A u)=>CG (sb (HS.o A A2.1) u q);have uL:=λu (q:ap A u)=>bx2 (sb C.1 u q);obtain ⟨H,Q,d7,dw⟩:=af C A2 bv bh;have q1:=br A;clear C A2 bv bh b7 e' bn ak;go_wp2_with fail;refine XA.g 18 (λu:N5=>ap A u) ?_;refine XA.t ?_ [0,1,2,3,4,5,6,7,8,9,10,11,12,13,14,15,16] q1.drew ?_;refine XA.v 17 (A.drew.alloc (.cells #[H8 0,H8 0,H8 0,H8 0,H8 0,H8 0] 71)) ((ar A.heap.size)) (q1.drew.alloc (F3 _) _) ?_;refine XA.e ?_;simp only [GC,GD];have d9:=F1 (HG.o A Q.o.1);go_wp2_with fail;obtain ⟨Z,O⟩:∃Z,(A.alloc (.cells #[H8 (st:Nat),H8 (j:Nat),H8 (b1:Nat),H8 (b2:Nat),H8 (p.W:Nat),H8 (p.ck:Nat)] 71)).drew=Z:=⟨_,rfl⟩;have h7:Z.heap[A.heap.size]?=some (.cells #[H8 (st:Nat),H8 (j:Nat),H8 (b1:Nat),H8 (b2:Nat),H8 (p.W:Nat),H8 (p.ck:Nat)] 71 (0,0)):=by rw [<-O];exact F4 A _
     have k7:ap A Z:=by rw [<-O];exact (q1.alloc (F3 _) _).drew
     rw [O];have t7:=λu (q:ap Z u)=>bx6 (sb h7 u q);have t8:=λu (q:ap Z u)=>uS u (bt k7 q);have cl:(k:Int).tdiv (m:Int)=((k/m:Nat):Int):=rfl;have c9:(k:Int)/(m:Int)=((k/m:Nat):Int):=rfl;have bM:(k:Int).tmod (m:Int)=((k%m:Nat):Int):=rfl;have bA:(k:Int)%(m:Int)=((k%m:Nat):Int):=rfl;have e9:¬(m=0):=ao;have bl:k/m<2:=by rw [Nat.div_lt_iff_lt_mul bO];have:=HT.o;omega
     have cA:k%m<m:=Nat.mod_lt _ bO
     have e8:aU p x st (k/(p.W-1)) (k%(p.W-1)) j=(bf st j (b1,b2) p.W p.ck x (k/m) (k%m)).map (eZ st):=by
      unfold aU;rw [Hm.o,<-d7.o,<-dw.o]
     have hrl:=bs.o (k/(p.W-1)) (k%(p.W-1)) j;rw [e8,List.length_map] at hrl;obtain ⟨ph,V⟩:∃q,k/m=q:=⟨_,rfl⟩;obtain ⟨r,bi⟩:∃q,k%m=q:=⟨_,rfl⟩;rw [V] at cl c9 bl;rw [bi] at bM bA cA;rw [V,bi] at e8 hrl;have d3:IntKind.i64.wrap (ph:Int)=ph:=Gd _ ao;obtain ⟨H7,K7,E8,a4⟩:=af O k7 e8 hrl;have q7:=br Z;clear O h7 k7 uS uL uG d0 d1 q1 V bi e8 hrl d9;refine HA.g (λu:N5=>ap Z u) ?_;refine HA.t ?_ [0,1,2,3,4,5,6,7,8,9,10,11,12,13,16] q7.drew ?_;refine HA.c 14 (pY st j b1 b2 p.W p.ck x ph r _ dn ao hx bl (by have:=Hm.o;omega) ao ao d5 cr) ?_;rintro e w8 ⟨v8,rfl,o8,k8⟩;have q8:=bt q7.drew k8;refine ⟨_,rfl,q8,λ_=>?_⟩;obtain ⟨A8,c8,rfl,_⟩:=aE o8;refine HA.t ?_ [15] q8 ?_;refine HA.d ?_;simp only [Exit.then];obtain ⟨X,hX⟩:∃X,bf st j (b1,b2) p.W p.ck x ph r=X:=⟨_,rfl⟩;rw [hX] at E8 a4 o8 ⊢;obtain ⟨N,hN⟩:∃N,X.length=N:=⟨_,rfl⟩;rw [hN] at a4 o8 ⊢;have l8:=(H.o.below K7.o).below q8;have bG:Apd L D v w8 v2:=Q.o.trans (Apd.below (bt K7.o q8))
     have cs:=λu (q:Keep (λj=>j=L\/v2.ownBlock=some j) w8 u)=>q.own o8 (λk hk e=>by
      have h1:=(o8.lt k hk).1;have h2:=F1 H.o.1;have h3:=K7.o.size;rcases e with e | e
      ·have h4:Z.heap.size<=k:=h1;omega
      ·have h5:k<A.heap.size:=(H.o.2.lt k e).2;have h4:Z.heap.size<=k:=h1
       omega)
     obtain ⟨L8,bz,dk,HN⟩:=af l8 bG cs hN;clear o8 l8 bG cs k8 q8 q7 t7 t8 hX hN cl c9 bM bA d3 cA bl H Q H7;go_wp2_with fail
     go_loopw [63] (λy wr=>∃i:Nat,i<=N/\y=H8 i/\∃v3,eR wr L base st v3 (l++cq p x st (lo,B) k++gu p x st k lo (j-lo)++(X.take i).map (eZ st))/\Apd L w8 v2 wr v3) (λy _=>N-(intOf y).toNat)
     ·exact ⟨0,Gc _,rfl,v2,by simpa using L8.o,Apd.refl _ _ _⟩
     case round=>
      obtain ⟨i,e4,rfl,v3,l3,A3⟩:=hrel;by_cases e0:i<N
      ·have dT:(i:Int)<N:=ao;have eb:IntKind.i64.wrap ((i:Int)+1)=((i+1:Nat):Int):=by rw [Gd _ (by have:=a4.o;omega)];push_cast;rfl
       have oX:=dk.o wr A3.1
       obtain ⟨J,rfl⟩:∃J,A8=some (aq J 0):=by
        obtain ⟨g,e,hv,_⟩:=oX.form ao;simp only [GT] at hv;exact ⟨g,hv.1⟩
       have ds:i<X.length:=by rw [HN.o];exact e0
       obtain ⟨a,ha⟩:∃a,X[i]=a:=⟨_,rfl⟩;have cS:X[i]?=some a:=by rw [<-ha];simp
       have Y:=C6 oX cS HN.o;have cx:X.take (i+1)=X.take i++[a]:=by rw [List.take_succ_eq_append_getElem ds,ha]
       have b4:(l++cq p x st (lo,B) k++gu p x st k lo (j-lo)++(X.take i).map (eZ st)).length<=8388608:=by
        have h1:=j8 (w:=x) (st:=st) (k:=k) (g:=(lo,B)) (M:=120) (p:=p) (λph r j=>bs.o ph r j);have h2:=tc (w:=x) (st:=st) (k:=k) (lo:=lo) (n:=j-lo) (M:=120) (p:=p) (λph r j=>bs.o ph r j);have h3:(X.take i).length<=120:=by rw [GL];have:=a4.o;omega
        have h4:k*((B-lo)*120)<=14*(60*120):=Nat.mul_le_mul (by have:=HT.o;omega) (Nat.mul_le_mul ao (F3 _));have h5:(j-lo)*120<=60*120:=Nat.mul_le_mul ao (F3 _);simp only [GE,List.length_map];dsimp only at h1;omega
       obtain ⟨snd,ad,bV,cw,bw,bI,cn,cv,bN⟩:=a;have c0:wr.cell? (aq J (i*9))=some (.bool snd):=Y 0 ao;have c1:wr.cell? (aq J (i*9+1))=some (.bool ad):=Y 1 ao;have c2:wr.cell? (aq J (i*9+2))=some (H8 (bV:Nat)):=Y 2 ao;have c3:wr.cell? (aq J (i*9+3))=some (H8 (cw:Nat)):=Y 3 ao;have c4:wr.cell? (aq J (i*9+4))=some (H8 (bw:Nat)):=Y 4 ao;have c5:wr.cell? (aq J (i*9+5))=some (H8 (bI:Nat)):=Y 5 ao;have c6:wr.cell? (aq J (i*9+6))=some (H8 (cn:Nat)):=Y 6 ao;have c7:wr.cell? (aq J (i*9+7))=some (H8 (cv:Nat)):=Y 7 ao;have c8:wr.cell? (aq J (i*9+8))=some (H8 (bN:Nat)):=Y 8 ao;have U:=λ(kd:Int) (kn:Nat) hk u (q:ap wr u)=>yU L base st kd kn hk ⟨snd,ad,bV,cw,bw,bI,cn,cv,bN⟩ v3 _ u (l3.below q) (Ge (Ge hb (Ge cd.o.size (bz.o.trans A3).1.size)) q.size) b4;dsimp only at U;obtain ⟨cc,b5,cj⟩:=ae A3 U cx;clear oX Y l3 A3 U cx cS b4
       cases snd
       ·go_wp2_with fail;refine (b5.o 4 4 rfl _ ((br wr).alloc (F3 _) _)).mono ?_;rintro e w9 ⟨rfl,v9,l9,A9⟩;obtain ⟨L9,B9⟩:=ab l9 (cc.o.trans ((Apd.below ((br wr).alloc (F3 _) _)).trans A9));clear l9 A9 c0 c1 c2 c3 c4 c5 c6 c7 c8;go_wp2_with fail;go_roundw
        ·exact ⟨i+1,by omega,by go_num,v9,by rw [cj.o,List.map_append,<-GM];exact L9.o,B9.o⟩
        ·simp [intOf];omega
       ·go_wp2_with fail;refine (b5.o 3 3 rfl _ ((br wr).alloc (F3 _) _)).mono ?_;rintro e w9 ⟨rfl,v9,l9,A9⟩;obtain ⟨L9,B9⟩:=ab l9 (cc.o.trans ((Apd.below ((br wr).alloc (F3 _) _)).trans A9));clear l9 A9 c0 c1 c2 c3 c4 c5 c6 c7 c8;go_wp2_with fail;go_roundw
        ·exact ⟨i+1,by omega,by go_num,v9,by rw [cj.o,List.map_append,<-GM];exact L9.o,B9.o⟩
        ·simp [intOf];omega
      ·obtain rfl:N=i:=ao;have dT:¬((N:Int)<N):=ao;have e2:IntKind.i64.wrap ((j:Int)+1)=((j+1:Nat):Int):=by rw [Gd _ ao];push_cast;rfl
       rw [List.take_of_length_le (by rw [HN.o];exact F3 _),<-E8.o,GM,show gu p x st k lo (j-lo)++aU p x st (k/(p.W-1)) (k%(p.W-1)) j=gu p x st k lo (j+1-lo) from by rw [show j+1-lo=(j-lo)+1 by omega,oq,show lo+(j-lo)=j by omega]] at l3;obtain ⟨L3,B3⟩:=ab l3 (bz.o.trans A3);clear l3 A3;go_wp2_with fail;go_roundw
       ·exact ⟨j+1,by omega,by omega,by go_num,v3,L3.o,B3.o⟩
       ·simp [intOf];omega
    ·have dv:¬((j:Int)<B):=ao;have q1:=br wr;rw [show j-lo=B-lo by omega] at C;have e:=fS p x st (lo,B) k;dsimp only at e;rw [GM,<-e] at C;obtain ⟨H,Q⟩:=ab C A2;clear C A2 e;go_wp2_with fail;go_roundw
     ·exact ⟨k+1,by omega,by go_num,v2,H.o,Q.o⟩
     ·simp [intOf];omega
  ·obtain rfl:T=k:=ao;have d8:¬((T:Int)<T):=ao;obtain ⟨bd,b8⟩:=ab aM A1;clear aM A1;go_wp2_with fail
   go_end0
   exact ⟨rfl,v1,bd.o,(Apd.below (v:=v) (bt (br w) (cd.o))).trans b8.o⟩
theorem CM {n s:Nat}:∀r∈dU n s,r.1<=r.2/\r.2<=n:=by
 intro r hr;simp only [dU,List.mem_map,List.mem_range] at hr;obtain ⟨i,h,rfl⟩:=hr;have:=fe h;exact ⟨by simp only;omega,by simp only;omega⟩
theorem aT.grp {p:Pln} (h:aT p) {i:Nat} (o:i<p.grps.length):(aD p.grps i).1<=(aD p.grps i).2/\(aD p.grps i).2<=p.buks.length:=by
 have:=CM _ (List.getElem_mem o)
 rwa [<-cu _ _ o] at this
theorem aT.grps {p:Pln} (h:aT p):p.grps.length<=60:=by
 have:=oV p.buks.length p.wi;have:=h.buks;rw [Pln.grps,dt];omega
theorem zb {p:Pln} (h:aT p) (w st:Nat) (g:Rg) (i:g.2-g.1<=60):(b9 p w st g).length<=100920:=by
 unfold b9;rw [<-my];simp only [GE,List.length_map,List.length_range'];have v:=j8 (w:=w) (st:=st) (k:=2*(p.W-1)) (g:=g) (M:=120) (p:=p) (λph r j=>h.round w st ph r j);have o:=h.W8;have u:2*(p.W-1)*((g.2-g.1)*120)<=14*(60*120):=Nat.mul_le_mul ao (Nat.mul_le_mul i (F3 _));omega
def dM (p:Pln) (w st k:Nat):List Itm:=(List.range p.mi).map (λa=>(⟨1,st,a,none⟩:Itm))++(p.grps.take k).flatMap (b9 p w st)
theorem oD {p:Pln} (w st:Nat) {k:Nat} (hk:k<p.grps.length):dM p w st (k+1)=dM p w st k++b9 p w st (aD p.grps k):=by
 unfold dM;rw [List.take_succ_eq_append_getElem hk,<-cu _ _ hk,List.flatMap_append,<-GM];simp
theorem kR {p:Pln} (h:aT p) (w st:Nat) {k:Nat} (hk:k<=p.grps.length):(dM p w st k).length<=20+k*100920:=by
 induction k with
 | zero=>have:=h.mi;simp [dM];omega
 | succ k ih=>
  have i:=h.grp (show k<p.grps.length by omega);have o:=h.buks;have:=zb h w st (aD p.grps k) ao;rw [oD w st ao,GE];have:=ih ao;omega
def dL (st lo n:Nat) (h:Nat):List Itm:=(List.range' lo n).map (λj=>(⟨h,st,j,none⟩:Itm))
theorem om (st lo n h:Nat):dL st lo (n+1) h=dL st lo n h++[(⟨h,st,lo+n,none⟩:Itm)]:=by simp [dL,List.range'_concat]
theorem lQ (st lo n h:Nat):(dL st lo n h).length=n:=by simp [dL]
theorem zc (p:Pln) (w st lo h:Nat):b9 p w st (lo,h)=dL st lo (h-lo) 2++cq p w st (lo,h) (2*(p.W-1))++dL st lo (h-lo) 5:=by
 rw [my];rfl
theorem sS (st k:Nat):(List.range (k+1)).map (λa=>(⟨1,st,a,none⟩:Itm))=(List.range k).map (λa=>(⟨1,st,a,none⟩:Itm))++[(⟨1,st,k,none⟩:Itm)]:=by simp [GV]
theorem qs (p:Pln) (st x:Nat) (a0 a1 a2 a3 a5 a7 a8 O U:Value) (BA GA:N0) (bc gc:Nat) (w:N5) (hp:aT p) (hx:x<p.W) (bI:Rd w BA (aI p.buks)) (bs:Rd w GA (aI p.grps)) (b3:∀y,BA=some y->y.block<w.heap.size) (bM:∀y,GA=some y->y.block<w.heap.size):Calls prog 96 #[.agg #[a0,a1,a2,a3,H8 (p.W:Nat),a5,H8 (p.mi:Nat),a7,a8,H8 (p.ck:Nat),O,U,.slice BA p.buks.length bc,.slice GA p.grps.length gc],H8 x,H8 (st:Nat)] w λe u=>∃v,e=.returned v/\u.ownsRow w.heap.size 135 12 v (aB p x st).length (dF (aB p x st))/\ap w u:=by
 obtain ⟨C,L⟩:∃C,(w.alloc (.cells #[a0,a1,a2,a3,H8 (p.W:Nat),a5,H8 (p.mi:Nat),a7,a8,H8 (p.ck:Nat),O,U,.slice BA p.buks.length bc,.slice GA p.grps.length gc] 192)).alloc (.cells #[H8 (st:Nat),H9] 231)=C:=⟨_,rfl⟩
 have g0:C.heap[w.heap.size]?=some (.cells #[a0,a1,a2,a3,H8 (p.W:Nat),a5,H8 (p.mi:Nat),a7,a8,H8 (p.ck:Nat),O,U,.slice BA p.buks.length bc,.slice GA p.grps.length gc] 192 (0,0)):=by
  rw [<-L,Gk _ _ _ (by simp)];exact F4 w _
 have g1:C.heap[w.heap.size+1]?=some (.cells #[H8 (st:Nat),H9] 231 (0,0)):=by
  rw [<-L];have:=F4 (w.alloc (.cells #[a0,a1,a2,a3,H8 (p.W:Nat),a5,H8 (p.mi:Nat),a7,a8,H8 (p.ck:Nat),O,U,.slice BA p.buks.length bc,.slice GA p.grps.length gc] 192)) (.cells #[H8 (st:Nat),H9] 231);simpa using this
 have a4:ap w C:=by rw [<-L];exact ((br w).alloc (F3 _) _).alloc (by simp) _
 have bi:eR C (w.heap.size+1) (w.heap.size+1) st (H9) []:=⟨g1,Gj _ _ _ _⟩;have bw:w.heap.size+1+1=C.heap.size:=by rw [<-L];simp
 have hz:w.heap.size+1<C.heap.size:=ao;have kS:=λu (q:Keep (λj=>j=w.heap.size+1\/(Value.slice none 0 0).ownBlock=some j) C u)=>(q.block _ (F1 g0) (λe=>e.elim (λh=>ao) (λh=>by cases h))).trans g0
 have ax:Rd C BA (aI p.buks):=bI.below a4;have ak:Rd C GA (aI p.grps):=bs.below a4
 have kB:=λu (q:Keep (λj=>j=w.heap.size+1\/(Value.slice none 0 0).ownBlock=some j) C u)=>q.rd ax (λy hy=>by
  have:=b3 y hy;rintro (h | h)
  ·omega
  ·cases h)
 have kG:=λu (q:Keep (λj=>j=w.heap.size+1\/(Value.slice none 0 0).ownBlock=some j) C u)=>q.rd ak (λy hy=>by
  have:=bM y hy;rintro (h | h)
  ·omega
  ·cases h)
 have cs:=hp.grps;have b1:=hp.buks;have cw:=hp.mi;obtain ⟨cn,cd,c9,HS,ci,bG,V,cj⟩:=aj L a4 bi kS kB kG bw b3;have tS:=λu (q:ap C u)=>CG (kS u (Keep.below q));have q0:=br C;clear L g0 g1 a4 bi bI ax bs ak kS kB kG bw b3 bM;go_enter func96,ntmps96;go_wp2_with fail;rw [cn.o];clear tS q0
 go_loopw [22] (λy wr=>∃k:Nat,k<=p.mi/\y=H8 k/\∃v',eR wr (w.heap.size+1) (w.heap.size+1) st v' ((List.range k).map (λa=>(⟨1,st,a,none⟩:Itm)))/\Apd (w.heap.size+1) C (Value.slice none 0 0) wr v') (λy _=>p.mi-(intOf y).toNat)
 ·exact ⟨0,Gc _,rfl,_,c9.o,Apd.refl _ _ _⟩
 case round=>
  obtain ⟨k,hk,rfl,v1,l1,A1⟩:=hrel;by_cases Z:k<p.mi
  ·have b0:(k:Int)<p.mi:=ao;have bn:IntKind.i64.wrap ((k:Int)+1)=((k+1:Nat):Int):=by rw [Gd _ ao];push_cast;rfl
   have hc:=jR (w.heap.size+1) (w.heap.size+1) st k 1 1 rfl v1 _ wr l1 (by have:=A1.1.size;have:=V.o;omega) (by simp;omega);obtain ⟨Hc,aP⟩:=ab hc A1;clear hc A1 l1;go_wp2_with fail;refine Hc.o.mono ?_;rintro e w5 ⟨rfl,v5,H,T⟩;rw [<-sS] at H;obtain ⟨L5,B5⟩:=ab H (aP.o.trans T);clear H T;go_wp2_with fail;go_roundw
   ·exact ⟨k+1,by omega,by go_num,v5,L5.o,B5.o⟩
   ·simp [intOf];omega
  ·obtain rfl:p.mi=k:=ao;have b0:¬((p.mi:Int)<p.mi):=ao;have tS:=λu (q:ap wr u)=>CG (sb (HS.o wr A1.1) u q);have q0:=br wr;obtain ⟨cb,aP⟩:=ab l1 A1;clear l1 A1;go_wp2_with fail;clear tS q0
   go_loopw [33] (λy wr=>∃k:Nat,k<=p.grps.length/\y=H8 k/\∃v',eR wr (w.heap.size+1) (w.heap.size+1) st v' (dM p x st k)/\Apd (w.heap.size+1) C (Value.slice none 0 0) wr v') (λy _=>p.grps.length-(intOf y).toNat)
   ·exact ⟨0,Gc _,rfl,_,by simpa [dM] using cb.o,aP.o⟩
   case round=>
    obtain ⟨k,hk,rfl,v2,l2,A2⟩:=hrel;by_cases Z:k<p.grps.length
    ·have b0:(k:Int)<p.grps.length:=ao;have cA:IntKind.i64.wrap ((k:Int)+1)=((k+1:Nat):Int):=by rw [Gd _ ao];push_cast;rfl
     obtain ⟨wi,rfl⟩:∃wi:N5,wi=wr:=⟨_,rfl⟩;have aM:=fm Z;obtain ⟨bb,bo,rfl,b6⟩:=bG.o wi A2.1 _ _ aM.1;obtain ⟨bd,bN,e',Y⟩:=bG.o wi A2.1 _ _ aM.2;obtain ⟨rfl,rfl⟩:bd=bb/\bN=bo:=by simpa using e'.symm
     rw [<-GX] at Y;have ad:=hp.grp Z;have J:=oD (p:=p) x st Z;have I:=kR hp x st hk;obtain ⟨lo,i,bX⟩:∃lo i,aD p.grps k=(lo,i):=⟨_,_,rfl⟩;rw [bX] at ad b6 Y J;rw [zc] at J;dsimp only at ad b6 Y;obtain ⟨W3,a6⟩:∃W3,wi.alloc (.cells #[H8 (lo:Nat),H8 (i:Nat)] 69)=W3:=⟨_,rfl⟩;have h3:W3.heap[wi.heap.size]?=some (.cells #[H8 (lo:Nat),H8 (i:Nat)] 69 (0,0)):=by rw [<-a6];exact F4 wi _
     have k3:ap wi W3:=by rw [<-a6];exact (br wi).alloc (F3 _) _
     have cx:(w.heap.size+1)<wi.heap.size:=by have:=A2.1.size;have:=V.o;omega
     have b8:=l2.below k3;have bl:=λu (q:Keep (λj=>j=(w.heap.size+1)\/v2.ownBlock=some j) W3 u)=>(q.block _ (F1 h3) (λe=>e.elim (λh=>ao) (λh=>aw h3 (by decide) b8.2 h.symm))).trans h3;have bh:(w.heap.size+1)<=W3.heap.size:=by have:=k3.size;omega
     have bO:=A2.trans (Apd.below k3);obtain ⟨cf,b4,b7,b2,cl,bA,R⟩:=ai a6 bl bh bO b8 J I;clear a6 h3 k3 b8 bl bh bO J I l2 A2 aM e' bX;go_wp2_with fail;rw [cf.o];clear b6 Y
     have hrl:(cq p x st (lo,i) (2*(p.W-1))).length<=100800:=by
      have h1:=j8 (w:=x) (st:=st) (k:=2*(p.W-1)) (g:=(lo,i)) (M:=120) (p:=p) (λph r j=>hp.round x st ph r j);have h2:=hp.W8;have h4:2*(p.W-1)*((i-lo)*120)<=14*(60*120):=Nat.mul_le_mul ao (Nat.mul_le_mul ao (F3 _));dsimp only at h1;omega
     have bV:=aa hrl;clear hrl
     go_loopw [12] (λy wr=>∃j:Nat,lo<=j/\j<=i/\y=H8 j/\∃v3,eR wr (w.heap.size+1) (w.heap.size+1) st v3 (dM p x st k++dL st lo (j-lo) 2)/\Apd (w.heap.size+1) W3 v2 wr v3) (λy _=>i-(intOf y).toNat)
     ·exact ⟨lo,F3 _,ad.1,rfl,v2,by simpa [dL] using cl.o,Apd.refl _ _ _⟩
     case round=>
      obtain ⟨j,hj,cr,rfl,v3,Q,D⟩:=hrel;have uR:=λu (q:ap wr u)=>bx2 (sb (b4.o wr D.1) u q);have q1:=br wr;by_cases c7:j<i
      ·have b5:(j:Int)<i:=ao;have bn:IntKind.i64.wrap ((j:Int)+1)=((j+1:Nat):Int):=by rw [Gd _ ao];push_cast;rfl
       have e:dM p x st k++dL st lo (j+1-lo) 2=(dM p x st k++dL st lo (j-lo) 2)++[(⟨2,st,j,none⟩:Itm)]:=by rw [show j+1-lo=(j-lo)+1 by omega,om,show lo+(j-lo)=j by omega];simp only [GM]
       have A:(dM p x st k++dL st lo (j-lo) 2).length<=8388608:=by
        have:=R.o;have:=bV.o;simp only [GE,lQ];omega
       have hc:=jR (w.heap.size+1) (w.heap.size+1) st j 2 2 rfl v3 _ wr Q (by have:=D.1.size;have:=b7.o;omega) A;obtain ⟨Hc,N,He⟩:=ae hc D e;clear hc D e Q A;go_wp2_with fail;refine Hc.o.mono ?_;rintro e w5 ⟨rfl,v5,H,T⟩;rw [<-He.o] at H;obtain ⟨L5,B5⟩:=ab H (N.o.trans T);clear H T uR q1;go_wp2_with fail;go_roundw
       ·exact ⟨j+1,by omega,by omega,by go_num,v5,L5.o,B5.o⟩
       ·simp [intOf];omega
      ·have b5:¬((j:Int)<i):=ao;obtain rfl:i=j:=ao;have uS:=λu (q:ap wr u)=>CG (sb (HS.o wr (b2.o.trans D).1) u q)
       have bv:=uA p (w.heap.size+1) (w.heap.size+1) st x lo i a0 a1 a2 a3 a5 (H8 (p.mi:Nat)) a7 a8 O U (.slice (some (aq bd bN)) p.grps.length gc) BA bc v3 _ wr hp Q (by have:=D.1.size;have:=b7.o;omega) (ci.o wr (b2.o.trans D).1) (λy hy=>by have:=cj.o y hy;omega) (F3 _) hx ao (by
        have:=R.o;simp only [GE,lQ]
        omega)
       obtain ⟨c6,N⟩:=ab bv D;clear bv D Q;go_wp2_with fail;refine c6.o.mono ?_;rintro e w6 ⟨rfl,v6,l6,A6⟩;have A7:=N.o.trans A6;have c8:=λu (q:ap w6 u)=>bx2 (sb (b4.o w6 A7.1) u q);have q6:=br w6;obtain ⟨L6,co⟩:=ab l6 A7;clear l6 A7 A6 uR q1 uS;go_wp2_with fail;clear c8 q6
       go_loopw [13] (λy wr=>∃j:Nat,lo<=j/\j<=i/\y=H8 j/\∃v3,eR wr (w.heap.size+1) (w.heap.size+1) st v3 ((dM p x st k++dL st lo (i-lo) 2++cq p x st (lo,i) (2*(p.W-1)))++dL st lo (j-lo) 5)/\Apd (w.heap.size+1) W3 v2 wr v3) (λy _=>i-(intOf y).toNat)
       ·exact ⟨lo,F3 _,ad.1,rfl,v6,by simpa [dL] using L6.o,co.o⟩
       case round=>
        obtain ⟨j,hj,cr,rfl,v3,Q,D⟩:=hrel;have uR:=λu (q:ap wr u)=>bx2 (sb (b4.o wr D.1) u q);have q1:=br wr;by_cases c7:j<i
        ·have b5:(j:Int)<i:=ao;have bn:IntKind.i64.wrap ((j:Int)+1)=((j+1:Nat):Int):=by rw [Gd _ ao];push_cast;rfl
         have e:(dM p x st k++dL st lo (i-lo) 2++cq p x st (lo,i) (2*(p.W-1)))++dL st lo (j+1-lo) 5=((dM p x st k++dL st lo (i-lo) 2++cq p x st (lo,i) (2*(p.W-1)))++dL st lo (j-lo) 5)++[(⟨5,st,j,none⟩:Itm)]:=by rw [show j+1-lo=(j-lo)+1 by omega,om,show lo+(j-lo)=j by omega];simp only [GM]
         have A:((dM p x st k++dL st lo (i-lo) 2++cq p x st (lo,i) (2*(p.W-1)))++dL st lo (j-lo) 5).length<=8388608:=by
          have:=R.o;have:=bV.o;simp only [GE,lQ];omega
         have hc:=jR (w.heap.size+1) (w.heap.size+1) st j 5 5 rfl v3 _ wr Q (by have:=D.1.size;have:=b7.o;omega) A;obtain ⟨Hc,N,He⟩:=ae hc D e;clear hc D e Q A;go_wp2_with fail;refine Hc.o.mono ?_;rintro e w5 ⟨rfl,v5,H,T⟩;rw [<-He.o] at H;obtain ⟨L5,B5⟩:=ab H (N.o.trans T);clear H T uR q1;go_wp2_with fail;go_roundw
         ·exact ⟨j+1,by omega,by omega,by go_num,v5,L5.o,B5.o⟩
         ·simp [intOf];omega
        ·have b5:¬((j:Int)<i):=ao;obtain rfl:i=j:=ao;rw [GM,GM] at Q;rw [show dM p x st k++(dL st lo (i-lo) 2++(cq p x st (lo,i) (2*(p.W-1))++dL st lo (i-lo) 5))=dM p x st (k+1) by rw [bA.o];simp only [GM]] at Q;obtain ⟨L9,B9⟩:=ab Q (b2.o.trans D);clear Q D;go_wp2_with fail;go_roundw
         ·exact ⟨k+1,by omega,by go_num,v3,L9.o,B9.o⟩
         ·simp [intOf];omega
    ·have b0:¬((k:Int)<p.grps.length):=ao;have bz:k=p.grps.length:=ao;have I:=kR hp x st hk;have hc:=jR (w.heap.size+1) (w.heap.size+1) st 0 6 6 rfl v2 _ wr l2 (by have:=A2.1.size;have:=V.o;omega) ao
     have e:dM p x st k++[(⟨6,st,0,none⟩:Itm)]=aB p x st:=by
      unfold dM aB;rw [bz,GR]
     rw [e] at hc;obtain ⟨Hc,cc⟩:=ab hc A2;clear hc A2 l2 e bz I;go_wp2_with fail;refine Hc.o.mono ?_;rintro e w5 ⟨rfl,v5,H,T⟩
     have b1:=(cc.o.trans T).1.toBelow (B:=w.heap.size) (by have:=V.o;omega) (by
      rintro j (rfl | hj)
      ·omega
      ·cases hj)
     have xL:=bx2 H.1;have cv:=F1 H.1;obtain ⟨O5,HB⟩:=ab (aG (base':=w.heap.size) H.2 ao) (cd.o.trans b1);clear H T b1;go_wp2_with fail;go_ret;exact ⟨_,rfl,O5.o,HB.o⟩
def jy (p:Pln) (m:Nat):N1:=(List.range m).map λx=>((aB p x 0).length:Int)
theorem vc (p:Pln) (m:Nat):jy p (m+1)=jy p m++[((aB p m 0).length:Int)]:=by simp [jy,GV]
theorem qq (p:Pln) (m:Nat):(jy p m).length=m:=by simp [jy]
def dq (w:N5) (P:Nat) (p:Pln) (v a1 x B C y h:Value):Prop:=∃BA bc o A i u,w.heap[P]?=some (.cells #[v,a1,x,B,H8 (p.W:Nat),C,H8 (p.mi:Nat),y,H8 (p.bu:Nat),H8 (p.ck:Nat),H8 (p.wi:Nat),h,.slice BA p.buks.length bc,.slice o p.grps.length A,.slice i p.W u] 194 (0,0))/\Rd w BA (aI p.buks)/\Rd w o (aI p.grps)/\Rd w i (az .i64 (jy p p.W))
theorem dq.below {w u:N5} {P:Nat} {p:Pln} {o a1 v y A x i:Value} (h:dq w P p o a1 v y A x i) (hb:ap w u):dq u P p o a1 v y A x i:=by
 obtain ⟨BA,bc,N,J,H,B,I,C,L,D⟩:=h;exact ⟨BA,bc,N,J,H,B,sb I _ hb,C.below hb,L.below hb,D.below hb⟩
theorem dq.agr {B:Nat} {u v:N5} {P:Nat} {p:Pln} {o a1 x A C y i:Value} (h:dq (dY B u) P p o a1 x A C y i) (hb:Agr B u v):dq v P p o a1 x A C y i:=by
 obtain ⟨BA,bc,Q,N,J,D,L,H,O,I⟩:=h;exact ⟨BA,bc,Q,N,J,D,nl (xs:=[_,_,_,_,_,_,_,_,_,_,_,_,_,_]) L hb,iJ H hb,iJ O hb,iJ I hb⟩
theorem yj (p:Pln) (R a1 T U Q I A:Value) (w:N5) (hp:aT p) (hn:1<=p.n) (cn:p.bu<=1048576) (ci:p.wi<=1048576) (bh:∀x,ap w x->Calls prog 64 #[.agg #[R,a1,T,U,H8 (p.W:Nat),Q,H8 (p.mi:Nat),I,H8 (p.bu:Nat),H8 (p.ck:Nat),H8 (p.wi:Nat),A]] x λe a8=>e=.returned (H8 0)/\ap x a8):Calls prog 62 #[.agg #[R,a1,T,U,H8 (p.W:Nat),Q,H8 (p.mi:Nat),I,H8 (p.bu:Nat),H8 (p.ck:Nat),H8 (p.wi:Nat),A],H8 (p.n:Nat)] w λe x=>∃P,e=.returned (.tuple #[(ar P),.bool true])/\w.heap.size<=P/\dq (dY w.heap.size x) P p R a1 T U Q I A/\ap w x:=by
 obtain ⟨W0,a4⟩:∃W0,w.alloc (.cells #[R,a1,T,U,H8 (p.W:Nat),Q,H8 (p.mi:Nat),I,H8 (p.bu:Nat),H8 (p.ck:Nat),H8 (p.wi:Nat),A] 24)=W0:=⟨_,rfl⟩;have g0:W0.heap[w.heap.size]?=some (.cells #[R,a1,T,U,H8 (p.W:Nat),Q,H8 (p.mi:Nat),I,H8 (p.bu:Nat),H8 (p.ck:Nat),H8 (p.wi:Nat),A] 24 (0,0)):=by rw [<-a4];exact F4 w _
 have a6:ap w W0:=by rw [<-a4];exact (br w).alloc (F3 _) _
 have bz:=λx (q:ap W0 x)=>bh x (a6.trans (q.mono a6.size));have t0:=λx q=>mR (sb g0 x q);have cS:¬((p.n:Int)<1):=ao;have cA:=hp.n;have d7:¬((p.n:Int)>1048576):=ao;have d2:¬(1048576<(p.n:Int)):=ao;have d4:=hp.W1;have d5:=hp.W8;have bG:=hp.bu;have b6:=hp.wi;have ax:p.buks=pb p.n p.bu:=rfl;have ak:p.grps=dU p.buks.length p.wi:=rfl;have d3:=hp.buks;obtain ⟨cs,N,cb,d6,bo,bv⟩:=ah a4 a6 bz g0 ax ak;have q0:=br W0;clear a4 g0 a6 bz bh ax ak;go_enter func62,ntmps62;go_wp2_with fail;rw [cs.o];refine (cb.o _ q0).mono ?_;rintro e w1 ⟨rfl,k1⟩;have q1:=bt q0 k1;go_wp2_with fail;refine (tQ p.n p.bu _ ao bG cn).mono ?_;rintro e w2 ⟨v2,rfl,o2,k2⟩;have q2:=bt q1 k2;rw [<-bo.o] at o2;obtain ⟨BA,bc,rfl,_⟩:=aE o2;go_wp2_with fail;refine HA.g (λx:N5=>ap W0 x) ?_;refine HA.t ?_ [0,1,2,3,4,5] q2.drew ?_;refine HA.c 6 (vh p.buks.length p.wi _ ao b6 ci) ?_;rintro e C ⟨v3,rfl,o3,k3⟩;have q3:=bt q2.drew k3;rw [<-bv.o] at o3;obtain ⟨GA,gc,rfl,_⟩:=aE o3;refine ⟨_,rfl,q3,λ_=>?_⟩;refine HA.t ?_ [7,8] q3 ?_;obtain ⟨D,O⟩:∃D,C.alloc (.cells #[R,a1,T,U,H8 (p.W:Nat),Q,H8 (p.mi:Nat),I,H8 (p.bu:Nat),H8 (p.ck:Nat),H8 (p.wi:Nat),A,.slice BA p.buks.length bc,.slice GA p.grps.length gc,H9] 194)=D:=⟨_,rfl⟩;have k5:ap C D:=by rw [<-O];exact (br C).alloc (F3 _) _
 refine HA.v 9 D ((ar C.heap.size)) (bt q3 k5) ?_ (he:=by subst O;go_simp);refine HA.t ?_ [10] (bt q3 k5) ?_;refine HA.d ?_;simp only [Exit.then];have g5:D.heap[C.heap.size]?=some (.cells #[R,a1,T,U,H8 (p.W:Nat),Q,H8 (p.mi:Nat),I,H8 (p.bu:Nat),H8 (p.ck:Nat),H8 (p.wi:Nat),A,.slice BA p.buks.length bc,.slice GA p.grps.length gc,H9] 194 (0,0)):=by rw [<-O];exact F4 C _
 have Z:D.heap.size=C.heap.size+1:=by rw [<-O];simp
 have q5:=bt q3 k5;have bs:=(N.o.trans (q2.mono N.o.size));have bl:w.heap.size<=C.heap.size:=Ge bs.size (Ge (F3 _) k3.size);have b1:=aA (aA (bW o2 1) k3) k5;have b3:=aA o3 k5;have bd:=Rd.own b1;have bI:=Rd.own b3;have cj:∀y,BA=some y->y.block<D.heap.size:=λy i=>(ig b1 y i).2;have bV:∀y,GA=some y->y.block<D.heap.size:=λy i=>(ig b3 y i).2;have ad:∀y,BA=some y->w.heap.size<=y.block/\y.block<C.heap.size:=λy i=>⟨Ge (Ge N.o.size q1.size) (ig o2 y i).1,Gf (ig o2 y i).2 k3.size⟩;have aM:∀y,GA=some y->w.heap.size<=y.block/\y.block<C.heap.size:=λy i=>⟨Ge bs.size (ig o3 y i).1,(ig o3 y i).2⟩;obtain ⟨b7,bN,J,L,H5,bw,cf,b5⟩:=aj bd bI ad aM g5 Z q5 bl;have t5:=λx q=>t0 x (bt q5 q);have bX:=br D;clear O g5 Z b1 b3 o2 o3 bd bI cj bV ad aM k3 k5 q0 q1 q2 q3 q5 t0 bl;go_wp2_with fail;clear t5 bX
 go_loopw [36] (λy wr=>∃m:Nat,m<=p.W/\y=H8 m/\∃v,wr.heap[C.heap.size]?=some (.cells #[R,a1,T,U,H8 (p.W:Nat),Q,H8 (p.mi:Nat),I,H8 (p.bu:Nat),H8 (p.ck:Nat),H8 (p.wi:Nat),A,.slice BA p.buks.length bc,.slice GA p.grps.length gc,v] 194 (0,0))/\wr.ownsRow D.heap.size 3 1 v m (az .i64 (jy p m))/\Keep (λj=>j=C.heap.size) D wr) (λy _=>p.W-(intOf y).toNat)
 ·exact ⟨0,Gc _,rfl,_,H5.o,Gj _ _ _ _,Keep.refl _ _⟩
 case round=>
  obtain ⟨m,hm,rfl,v,hP,V,H⟩:=hrel;by_cases cc:m<p.W
  ·have cl:(m:Int)<p.W:=ao;have d1:IntKind.i64.wrap ((m:Int)+1)=((m+1:Nat):Int):=by rw [Gd _ ao];push_cast;rfl
   have c8:=F1 hP;have kP:=λx (q:Keep (λj=>v.ownBlock=some j) wr x)=>(q.block _ c8 (λh=>aw hP (by decide) V h.symm)).trans hP;have tP:=λx q=>mQ (kP x q);have Z:=bw.o
   have bn:∀x,Keep (λj=>v.ownBlock=some j) wr x->Calls prog 96 #[.agg #[R,a1,T,U,H8 (p.W:Nat),Q,H8 (p.mi:Nat),I,H8 (p.bu:Nat),H8 (p.ck:Nat),H8 (p.wi:Nat),A,.slice BA p.buks.length bc,.slice GA p.grps.length gc],H8 (m:Nat),H8 0] x λe a8=>∃v,e=.returned v/\a8.ownsRow x.heap.size 135 12 v (aB p m 0).length (dF (aB p m 0))/\ap x a8:=λx q=>
    qs p 0 m R a1 T U Q I (H8 (p.bu:Nat)) (H8 (p.wi:Nat)) A BA GA bc gc x hp cc
     (q.rd (H.rd b7.o (λy i=>by have:=J.o y i;omega)) (λy i e=>by have:=(V.lt _ e).1;have:=J.o y i;omega))
     (q.rd (H.rd bN.o (λy i=>by have:=L.o y i;omega)) (λy i e=>by have:=(V.lt _ e).1;have:=L.o y i;omega))
     (λy i=>by have:=J.o y i;have:=q.size;have:=H.size;omega) (λy i=>by have:=L.o y i;have:=q.size;have:=H.size;omega)
   have cw:(aB p m 0).length<=8000000:=by
    have h1:=kR hp m 0 (F3 p.grps.length);have h2:=hp.grps;have:(aB p m 0).length=(dM p m 0 p.grps.length).length+1:=by simp [aB,dM];omega
    omega
   have c9:=H.size;obtain ⟨cd,bi,HO,HK⟩:=af kP bn V H;have q0:Keep (λj=>v.ownBlock=some j) wr wr.drew:=(Keep.refl _ _).drew;obtain ⟨n,hn⟩:∃n,(aB p m 0).length=n:=⟨_,rfl⟩;have b4:=vc p m;rw [hn] at cw bi b4;have co:=aa b4;clear kP bn hP V H hn b4;go_wp2_with fail;refine XA.g 14 (λx:N5=>Keep (λj=>v.ownBlock=some j) wr x) ?_;refine XA.t ?_ [0,1,2,3,4,5,6,7,8,9] q0 ?_;refine XA.c 10 (bi.o _ q0) ?_;rintro e w6 ⟨v6,rfl,o6,k6⟩;obtain ⟨A6,c6,rfl,_⟩:=aE o6;have q6:Keep (λj=>v.ownBlock=some j) wr w6:=q0.trans (Keep.below k6);refine ⟨_,rfl,q6,λ_=>?_⟩;refine XA.t ?_ [11] q6 ?_;refine XA.v 12 (w6.alloc (.cells #[H8 (n:Nat)] 3)) (.slice (some (aq w6.heap.size 0)) 1 1) (q6.alloc _) ?_;refine XA.o 13 (λK' bM=>?_);have b8:=(aA (HO.o.drew) k6).alloc (.cells #[H8 (n:Nat)] 3);have d0:=q6.size;refine cZ gT (.tmp 43) (.tmp 51) rfl rfl D.heap.size v m _ rfl b8 (some (aq w6.heap.size 0)) 1 1 [H8 (n:Nat)] rfl (λk u hu=>⟨_,_,rfl,by rw [GY,Ga _ w6.heap.size k _ 3 (0,0) (F4 w6 _)];simpa using hu⟩) rfl (by simp [Value.oneCell']) ao (by unfold maxLen;omega) (by simp;omega) ?_;intro A7 c7 w7 b0 cx bA _;have Y:Keep (λj=>v.ownBlock=some j) wr w7:=(q6.alloc _).grown bA (λk hk=>.inr hk);refine bM.out _ _ Y λ_=>?_;refine XA.e ?_;simp only [GC,GD];have b2:=cd.o w7 Y;have e3:=HE w7 C.heap.size 14 _ _ (.slice A7 (m+1) c7) b2;have k1:Keep (λj=>j=C.heap.size) w7 (w7.setCell (aq C.heap.size 14) (.slice A7 (m+1) c7)):=Keep.setCell (S:=λj=>j=C.heap.size) (Keep.refl _ _) (aq C.heap.size 14) (.inr rfl) _;have o8:=k1.own b0 (λj hj e=>aw b2 (by decide) b0 (by rw [hj,e]))
   have kk:Keep (λj=>j=C.heap.size) D (w7.setCell (aq C.heap.size 14) (.slice A7 (m+1) c7)):=by
    refine Keep.trans (b:=w7) ?_ k1;have h1:=HK.o;refine ⟨Y.os.trans h1.os,Y.tape.trans h1.tape,Y.output.trans h1.output,Ge h1.size Y.size,λj hj hn=>(Y.block j (Gf hj h1.size) (λe=>by have:=(HO.o.lt _ e).1;omega)).trans (h1.block j hj hn)⟩
   rw [show az .i64 (jy p m)++[Value.int .i64 (n:Nat)]=az .i64 (jy p (m+1)) by rw [co.o,eP];rfl] at o8;obtain ⟨E3,O8,KK⟩:=ae e3 o8 kk;have xP:=tP w7 Y;clear b0 cx bA b2 e3 k1 o8 kk tP bM K' Y q6 q0 b8 o6 k6;go_wp2_with fail;go_roundw
   ·exact ⟨m+1,by omega,by go_num,_,by simpa using E3.o,O8.o,KK.o⟩
   ·simp [intOf];omega
  ·have cl:¬((m:Int)<p.W):=ao;have bb:m=p.W:=ao;have Z:=bw.o;have c9:=H.size;obtain ⟨LA,lc,rfl,_⟩:=aE V;rw [bb] at V hP
   have bO:dq (dY w.heap.size wr) C.heap.size p R a1 T U Q I A:=by
    have hw:=b5.o;refine ⟨BA,bc,GA,gc,LA,lc,(fA hw).trans hP,(nk _ _).rd (H.rd b7.o (λy i=>by have:=(J.o y i).2;omega)) (λy i=>by have:=(J.o y i).1;omega),(nk _ _).rd (H.rd bN.o (λy i=>by have:=(L.o y i).2;omega)) (λy i=>by have:=(L.o y i).1;omega),Rd.own (dI V ao)⟩
   have cr:=aa bO;have aP:=N.o.trans (cf.o.mono N.o.size);have cv:=aa (aP.trans (H.toBelow (B:=w.heap.size) aP.size (λj hj=>by have:=b5.o;omega)));clear hP V H bO aP bb;go_wp2_with fail;go_ret2;exact ⟨_,rfl,b5.o,cr.o,cv.o⟩
theorem EO (l:List Rg):∀u∈aI l,u.oneCell'=true:=by
 intro u i;simp only [aI,List.mem_flatMap,List.mem_cons,List.not_mem_nil,or_false] at i;obtain ⟨r,_,h | h⟩:=i<;>subst h<;>rfl
theorem vn (A:N0) (l:List Rg) (n c:Nat) (w:N5) (B:Rd w A (aI l)) (hn:l.length=n) (hl:n<=1048576):Calls prog 115 #[.slice A n c] w λe y=>∃v,e=.returned v/\y.ownsRow w.heap.size 69 2 v n (aI l)/\ap w y:=by
 subst hn;have q:=λ(w:N5)=>Lib.run_eql_slice_nil (P:=prog) w 159 69 A l.length c 0 0 underlying159
 cases A with
 | none=>
  have C:l=[]:=by
   cases l with
   | nil=>rfl
   | cons z l=>obtain ⟨b,o,h,_⟩:=B 0 (H8 (z.1:Int)) (by simp [aI]);cases h
  subst C;clear q;have q:=λ(w:N5)=>Lib.run_eql_slice_nil (P:=prog) w 159 69 none 0 c 0 0 underlying159;simp only [Option.isNone_none] at q;rw [List.length_nil];go_enter func115,ntmps115;go_wp2;go_ret;exact ⟨_,rfl,Gj _ _ _ _,Gb _ _⟩
 | some a=>
  go_enter func115,ntmps115;go_wp2_with (at_builtin;refine eH iY _ rfl (.tmp 5) (.tmp 6) rfl w.heap.size _ 0 [] rfl (fW w 69 2) _ l.length c (aI l) rfl (B.alloc _) (j9 l) (EO l) ao (by unfold maxLen;omega) (by simp) ?_);intro I H D i hb _ _;have u:=((Gb _ w).alloc (F3 _) (.cells #[] 69)).trans hb;obtain ⟨p,x⟩:=ab i u;clear i hb u;go_wp2;go_ret;exact ⟨_,rfl,by simpa using p.o,x.o⟩
theorem Bb (p:Pln) (P:Nat) (U a1 Y H I A h:Value) (w:N5) (N:aT p) (Z:dq w P p U a1 Y H I A h):Calls prog 72 #[(ar P)] w λe u=>∃v,e=.returned v/\u.ownsRow w.heap.size 69 2 v p.buks.length (aI p.buks)/\ap w u:=by
 obtain ⟨BA,bc,GA,gc,LA,lc,hb,hB,R,L⟩:=Z;have y:=N.buks;have hc:=vn BA p.buks p.buks.length bc w hB rfl ao;obtain ⟨⟨t0,t1,t2,t3,t4,t5,t6,t7,t8,t9,B,T,Q,J,O⟩,tf⟩:=mQ hb;have D:=aa hc;clear hc hb hB R L;go_enter func72,ntmps72;go_wp2_with fail;refine D.o.mono ?_;rintro e w1 ⟨v,rfl,x,i⟩;obtain ⟨V,C⟩:=ab x i;clear x i;go_wp2_with fail;go_ret;exact ⟨_,rfl,V.o,C.o⟩
theorem sB (p:Pln) (P x:Nat) (O a1 Q B D v h:Value) (w:N5) (o:x<p.W) (R:dq w P p O a1 Q B D v h):Calls prog 116 #[(ar P),H8 x] w λe u=>e=.returned (H8 ((aB p x 0).length:Nat))/\w=u:=by
 obtain ⟨BA,bc,GA,gc,LA,T,hb,hB,L,i⟩:=R;obtain ⟨lb,lo,rfl,c0⟩:=i.num (k:=x) (by rw [qq];exact o)
 have e:nth (jy p p.W) x=((aB p x 0).length:Int):=by
  rw [dh _ _ (by rw [qq];exact o)];simp [jy]
 rw [e] at c0;obtain ⟨⟨t0,t1,t2,U,V,t5,Z,Y,t8,t9,y,N,I,C,H⟩,tf⟩:=mQ hb;have A:(x:Int)<p.W:=ao;have J:¬((p.W:Int)<=x):=ao;clear hb hB L i e;go_enter func116,ntmps116;go_wp2;go_ret;exact ⟨rfl,rfl⟩
theorem gw {p:Pln} (i:aT p) (x st:Nat):(aB p x st).length=(aB p x 0).length:=by
 rw [kj p x st i.wi,kj p x 0 i.wi]
 have h:∀j ph r,(aU p x st ph r j).length=(aU p x 0 ph r j).length:=λj ph r=>by
  unfold aU;rw [List.length_map,List.length_map,gn,gn]
 simp only [h]
theorem fZ (p:Pln) (x st:Nat):0<(aB p x st).length:=by unfold aB;simp;omega
theorem tI {n s:Nat} (h:1<=n):0<be n s:=by unfold be;rw [if_neg ao];exact Nat.succ_pos _
theorem tO {p:Pln} (hn:1<=p.n):0<p.buks.length:=by rw [Pln.buks,gy];exact tI hn
theorem Ca {p:Pln} (hn:1<=p.n):0<p.grps.length:=by rw [Pln.grps,dt];exact tI (tO hn)
theorem Eo {w:N5} {A:N0} {l:List Rg} (h:Rd w A (aI l)) (hl:0<l.length):∀y,A=some y->y.block<w.heap.size:=λy i=>by
 obtain ⟨b,o,e,c⟩:=h _ _ (fm hl).1;rw [i] at e;injection e with e
 subst e;exact aC c
theorem qc (p:Pln) (P x st h:Nat) (C a1 D y A i:Value) (w:N5) (hp:aT p) (hn:1<=p.n) (O:x<p.W) (V:st<h) (Q:dq w P p C a1 D y A (H8 (h:Nat)) i):Calls prog 74 #[(ar P),H8 x,H8 (st:Nat)] w λe L=>∃v,e=.returned v/\L.ownsRow w.heap.size 135 12 v (aB p x st).length (dF (aB p x st))/\ap w L:=by
 have hl:=sB p P x C a1 D y A (H8 (h:Nat)) i w O Q;obtain ⟨BA,bc,GA,gc,LA,lc,hb,hB,B,hL⟩:=Q;have hc:=qs p st x C a1 D y A (H8 (h:Nat)) (H8 (p.bu:Nat)) (H8 (p.wi:Nat)) i BA GA bc gc w hp O hB B (Eo hB (tO hn)) (Eo B (Ca hn));have I:=fZ p x 0;obtain ⟨n,u⟩:∃n,(aB p x 0).length=n:=⟨_,rfl⟩;rw [u] at hl I;have H:¬((n:Int)=0):=ao;have T:((n:Int)==0)=false:=by simpa using H
 have a8:¬((h:Int)<=st):=ao;obtain ⟨⟨t0,t1,t2,t3,t4,t5,t6,t7,t8,t9,U,ad,a7,a4,a6⟩,tf⟩:=mQ hb;obtain ⟨Hc,Z⟩:=ab hc hl;clear hc hl hb hB B hL u;go_enter func74,ntmps74;go_wp2_with fail;refine Z.o.mono ?_;rintro e R ⟨rfl,rfl⟩;go_wp2_with fail;refine Hc.o.mono ?_;rintro e R ⟨v,rfl,N,J⟩;obtain ⟨O1,Y⟩:=ab N J;clear N J;go_wp2_with fail;go_ret;exact ⟨_,rfl,O1.o,Y.o⟩
theorem qb (p:Pln) (P x st h:Nat) (C a1 D A B u:Value) (w:N5) (Z:x<p.W) (N:h<=st) (H:dq w P p C a1 D A B (H8 (h:Nat)) u):Calls prog 74 #[(ar P),H8 x,H8 (st:Nat)] w λe I=>e=.returned (H9)/\w=I:=by
 have hl:=sB p P x C a1 D A B (H8 (h:Nat)) u w Z H;obtain ⟨BA,bc,GA,gc,LA,lc,hb,hB,Y,Q⟩:=H;have y:=fZ p x 0;obtain ⟨n,i⟩:∃n,(aB p x 0).length=n:=⟨_,rfl⟩;rw [i] at hl y;have v:¬((n:Int)=0):=ao;have J:((n:Int)==0)=false:=by simpa using v
 have V:(h:Int)<=st:=ao;obtain ⟨⟨t0,t1,t2,t3,t4,t5,t6,t7,t8,t9,L,a4,U,R,T⟩,tf⟩:=mQ hb;have O:=aa hl;clear hl hb hB Y Q i;go_enter func74,ntmps74;go_wp2_with fail;refine O.o.mono ?_;rintro e w1 ⟨rfl,rfl⟩;go_wp2_with fail;go_ret;exact ⟨rfl,rfl⟩
theorem E7 {w:N5} {b:Nat} {t:N6} {v0 v1 v2 v3 v4 v5 v6 v7 v8 v9 v10 v11 v o i y x p u:Value} (h:w.heap[b]?=some (.cells #[v0,v1,v2,v3,v4,v5,v6,v7,v8,v9,v10,v11,v,o,i,y,x,p,u] t (0,0))):(w.cell? (aq b 0)=some v0/\w.cell? (aq b 1)=some v1/\w.cell? (aq b 2)=some v2/\w.cell? (aq b 3)=some v3/\w.cell? (aq b 4)=some v4/\w.cell? (aq b 5)=some v5/\w.cell? (aq b 6)=some v6/\w.cell? (aq b 7)=some v7/\w.cell? (aq b 8)=some v8/\w.cell? (aq b 9)=some v9/\w.cell? (aq b 10)=some v10/\w.cell? (aq b 11)=some v11/\w.cell? (aq b 12)=some v/\w.cell? (aq b 13)=some o/\w.cell? (aq b 14)=some i/\w.cell? (aq b 15)=some y/\w.cell? (aq b 16)=some x/\w.cell? (aq b 17)=some p/\w.cell? (aq b 18)=some u)/\∀j,w.frozen? (aq b j)=false:=by
 have:=bx (vs:=[v0,v1,v2,v3,v4,v5,v6,v7,v8,v9,v10,v11,v,o,i,y,x,p,u]) h;simp only [Bx,Cs,Nat.reduceAdd,and_true] at this;exact ⟨this.1,this.2.2⟩
theorem dB {T:N6} {u v:N5} {b:Nat} {sz:N1} (h:bF T u b sz) (i:Ext u v):bF T v b sz:=by
 obtain ⟨A1,c1,p,c2,o,c3,A,y,x,B⟩:=h;exact ⟨A1,c1,p,c2,o,c3,oN (xs:=[_,_,_]) A i,a9 y i,a9 x i,a9 B i⟩
theorem fa {u v:N5} {S n batch steps:Nat} {l:N1} (h:ed u S n batch steps l) (i:Ext u v):ed v S n batch steps l:=by
 obtain ⟨p,x,O,L,vs,I,C,N,D,J⟩:=h
 exact ⟨p,x,O,L,vs,oN (xs:=[_,_,_]) I i,a9 C i,a9 N i,D,λj B=>by
  obtain ⟨Q,H,o,y,A⟩:=J j B
  exact ⟨Q,H,o,y,a9 A i⟩⟩
theorem cQ:FM rEx:=λ⟨A1,c1,p,c2,e,h,i⟩ o=>⟨A1,c1,p,c2,e,⟨h.hc,h.hl,a9 h.hr o,h.hw⟩,⟨i.hc,i.hl,a9 i.hr o,i.hw⟩⟩
theorem fd {u v:N5} {P:Nat} {p:Pln} {o a1 x A B y i:Value} (h:dq u P p o a1 x A B y i) (hb:Ext u v):dq v P p o a1 x A B y i:=by
 obtain ⟨BA,bc,O,L,I,C,J,D,N,H⟩:=h;exact ⟨BA,bc,O,L,I,C,oN (xs:=[_,_,_,_,_,_,_,_,_,_,_,_,_,_]) J hb,a9 D hb,a9 N hb,a9 H hb⟩
structure Mst where
 P:N1
 M:N1
 G:N1
 rc:N8
 st:Nat
 nx:Nat
 op:List Nat
def au (i:Inp):Pln:=⟨i.cfg.workers.toNat,i.cfg.micros.toNat,i.cfg.bucket.toNat,i.cfg.chunk.toNat,i.cfg.window.toNat,i.start.length⟩
def dX (l:List Nat):N1:=l.map λj:Nat=>(j:Int)
theorem yZ (l:List Nat):(dX l).length=l.length:=by simp [dX]
structure bj (i:Inp):Prop where
 g:me i
 n:i.start.length<=60
 w:i.cfg.workers<=8
 m:i.cfg.micros<=20
 s:i.cfg.steps<=6
 d:i.data.length<=40
theorem bj.ok {i:Inp} (h:bj i):aT (au i):=by
 have y:=h.g.c.w;have v:=h.g.c.mi;have B:=h.g.c.bu;have x:=h.g.c.ch;have A:=h.g.c.wi;have o:=h.n;have p:=h.w;have u:=h.m;exact ⟨by simp only [au];omega,by simp only [au];omega,by simp only [au];omega,by simp only [au];omega,by simp only [au];omega,by simp only [au];omega,by simp only [au];omega,by simp only [au];omega⟩
theorem bj.n1 {i:Inp} (h:bj i):1<=(au i).n:=by
 have:=D6 h.g.c.z;have:=h.g.s;simp only [au];omega
def bq (i:Inp) (x st:Nat):List Itm:=if st<i.cfg.steps.toNat then aB (au i) x st else []
structure MAd where
 F:Nat
 E:N0
 ce:Nat
 S:Nat
 PP:Nat
 BA:N0
 bc:Nat
 bp:Nat
 cp:Nat
 bm:Nat
 cm:Nat
 bg:Nat
 cg:Nat
 rb:Nat
 rc:Nat
 IA:N0
 ic:Nat
 ov:Value
def bR (i:Inp) (x:Nat) (m:Mst):Nat:=m.st*(aB (au i) x 0).length+m.nx
def Mut (b:Nat) (a:MAd) (k:Nat):Prop:=k=b\/k=a.bp\/k=a.bm\/k=a.bg\/k=a.rb\/a.ov.ownBlock=some k
abbrev eJ (H:Nat->Prop) (b:Nat) (a:MAd):Nat->Prop:=λk=>Mut b a k\/H k
def qH (V w:N5) (v:Value) (l:N8):Prop:=∃rows:List (N4),w.ownsRow 0 91 2 v l.length (List.flatten rows)/\rows.length=l.length/\(∀r∈rows,r.length=2)/\∀j x,l[j]?=some x->rEx V (bH rows j) x
structure aH (H:Nat->Prop) (w:N5) (b:Nat) (i:Inp) (x:Nat) (a:MAd) (m:Mst):Prop where
 blk:w.heap[b]?=some (.cells #[H8 (x:Nat),H8 i.cfg.workers,H8 i.cfg.micros,(ar a.F),.slice a.E i.data.length a.ce,(ar a.S),(ar a.PP),.slice a.BA (au i).buks.length a.bc,H8 i.cfg.rate,H8 i.cfg.mom,H8 i.cfg.shift,.slice (some (aq a.bp 0)) i.start.length a.cp,.slice (some (aq a.bm 0)) i.start.length a.cm,.slice (some (aq a.bg 0)) i.start.length a.cg,.slice (some (aq a.rb 0)) m.rc.length a.rc,.slice a.IA (bq i x m.st).length a.ic,H8 (m.nx:Nat),H8 (bR i x m:Nat),a.ov] 169 (0,0))
 sh:bF 199 (aW (eJ H b a) w) a.F i.cfg.sizes
 ex:cO rEx 2 (aW (eJ H b a) w) a.E i.data
 sa:ed (aW (eJ H b a) w) a.S i.data.length i.cfg.batch.toNat i.cfg.steps.toNat i.draws
 pl:∃a0 a1 a2 a3 a5 a11,dq (aW (eJ H b a) w) a.PP (au i) a0 a1 a2 a3 a5 (H8 (i.cfg.steps.toNat:Nat)) a11
 bu:Rd (aW (eJ H b a) w) a.BA (aI (au i).buks)
 it:Rd (aW (eJ H b a) w) a.IA (dF (bq i x m.st))
 re:qH (aW (eJ H b a) w) w (.slice (some (aq a.rb 0)) m.rc.length a.rc) m.rc
 oP:w.ownsRow 0 2 1 (.slice (some (aq a.bp 0)) i.start.length a.cp) i.start.length (az .i64 m.P)
 oM:w.ownsRow 0 2 1 (.slice (some (aq a.bm 0)) i.start.length a.cm) i.start.length (az .i64 m.M)
 oG:w.ownsRow 0 2 1 (.slice (some (aq a.bg 0)) i.start.length a.cg) i.start.length (az .i64 m.G)
 oO:w.ownsRow 0 3 1 a.ov m.op.length (az .i64 (dX m.op))
 dj:a.bp≠a.bm/\a.bp≠a.bg/\a.bm≠a.bg
 hH:∀k,k<w.heap.size->Mut b a k->¬H k
 wP:m.P.length=i.start.length/\W64 m.P
 wM:m.M.length=i.start.length/\W64 m.M
 wG:m.G.length=i.start.length/\W64 m.G
 ox:m.nx<(bq i x m.st).length\/(m.nx=0/\i.cfg.steps.toNat<=m.st)
 xw:x<(au i).W
theorem qH.ext {V i w o:N5} {v:Value} {l:N8} (h:qH V w v l) (he:Ext V i) (p:∀e size n xs,w.ownsRow 0 e size v n xs->o.ownsRow 0 e size v n xs):qH i o v l:=by
 obtain ⟨rows,A,u,B,y⟩:=h;exact ⟨rows,p _ _ _ _ A,u,B,λj x C=>cQ (y j x C) he⟩
theorem aH.step {H H':Nat->Prop} {w u:N5} {b x:Nat} {i:Inp} {a:MAd} {m:Mst} (h:aH H w b i x a m) (hk:Keep H w u) (L:∀k,k<w.heap.size->H' k->H k) (hn:∀k,Mut b a k->¬H' k):aH H' u b i x a m:=by
 have he:Ext (aW (eJ H b a) w) (aW (eJ H' b a) u):=dN (hk.mono λk _ h=>.inr h) (λk hl D=>D.imp id (L k hl));have hb:∀k,k<w.heap.size->Mut b a k->u.heap[k]?=w.heap[k]?:=λk hl hm=>hk.block k hl (h.hH k hl hm);have o:∀(v:Value) e size n xs,(∀k,v.ownBlock=some k->Mut b a k)->w.ownsRow 0 e size v n xs->u.ownsRow 0 e size v n xs:=λv e size n xs I o=>hk.own o λk p=>h.hH k (o.lt k p).2 (I k p);have bp:∀k,(Value.slice (some (aq a.bp 0)) i.start.length a.cp).ownBlock=some k->Mut b a k:=λk e=>by cases e;exact .inr (.inl rfl)
 have bm:∀k,(Value.slice (some (aq a.bm 0)) i.start.length a.cm).ownBlock=some k->Mut b a k:=λk e=>by cases e;exact .inr (.inr (.inl rfl))
 have bg:∀k,(Value.slice (some (aq a.bg 0)) i.start.length a.cg).ownBlock=some k->Mut b a k:=λk e=>by cases e;exact .inr (.inr (.inr (.inl rfl)))
 have rb:∀k,(Value.slice (some (aq a.rb 0)) m.rc.length a.rc).ownBlock=some k->Mut b a k:=λk e=>by cases e;exact .inr (.inr (.inr (.inr (.inl rfl))))
 have ov:∀k,a.ov.ownBlock=some k->Mut b a k:=λk e=>.inr (.inr (.inr (.inr (.inr e))));obtain ⟨B,a1,C,J,N,y,A⟩:=h.pl
 exact ⟨(hb b (F1 h.blk) (.inl rfl)).trans h.blk,dB h.sh he,iW cQ h.ex he,fa h.sa he,⟨B,a1,C,J,N,y,fd A he⟩,a9 h.bu he,a9 h.it he,
  h.re.ext he (λe size n xs=>o _ e size n xs rb),o _ _ _ _ _ bp h.oP,o _ _ _ _ _ bm h.oM,o _ _ _ _ _ bg h.oG,o _ _ _ _ _ ov h.oO,h.dj,λk _ hm=>hn k hm,h.wP,h.wM,h.wG,h.ox,h.xw⟩
theorem aH.below {H:Nat->Prop} {w o:N5} {b x:Nat} {i:Inp} {a:MAd} {m:Mst} (h:aH H w b i x a m) (hb:ap w o) (hn:∀k,Mut b a k->¬H k):aH H o b i x a m:=h.step (Keep.below hb) (λ_ _ h=>h) hn
theorem Fr {w:N5} {b:Nat} {t:N6} {H y u D v C B A p x i o v0 v1 v2 v3 v4 v5 v6 v7 v8 v9 v10 v11:Value} (h:w.heap[b]?=some (.cells #[H,y,u,D,v,C,B,A,p,x,i,o] t (0,0))): ((((((((((((w.setCell (aq b 0) v0).setCell (aq b 1) v1).setCell (aq b 2) v2).setCell (aq b 3) v3).setCell (aq b 4) v4).setCell (aq b 5) v5).setCell (aq b 6) v6).setCell (aq b 7) v7).setCell (aq b 8) v8).setCell (aq b 9) v9).setCell (aq b 10) v10).setCell (aq b 11) v11).heap[b]?=some (.cells #[v0,v1,v2,v3,v4,v5,v6,v7,v8,v9,v10,v11] t (0,0)):=ss (ss (ss (ss (ss (ss (ss (ss (ss (ss (ss (ss h rfl) rfl) rfl) rfl) rfl) rfl) rfl) rfl) rfl) rfl) rfl) (by simp)
theorem ou (x:Itm):(aX x).length=12:=by
 rcases x with ⟨k,s,n,a⟩
 cases a<;>rfl
theorem DW {w:N5} {A:N0} {l:List Itm} (h:Rd w A (dF l)) {i:Nat} {y:Itm} (x:l[i]?=some y):∃b o,A=some (aq b o)/\∀f,f<12->w.cell? ⟨b,o+(i*12+f),none⟩=(aX y)[f]?:=by
 have C:=mZ ou x 0 ao;obtain ⟨b,o,e,_⟩:=h _ ((aX y)[0]'(by rw [ou];omega)) (C.trans (GG _));refine ⟨b,o,e,λf u=>?_⟩;have B:=mZ ou x f u;have v:(aX y)[f]?=some ((aX y)[f]'(by rw [ou];exact u)):=GG _;obtain ⟨D,H,p,c⟩:=h _ _ (B.trans v);rw [e] at p;injection p with p
 injection p with e1 e2 _
 subst e1;subst e2;rw [c,v]
theorem wI (b nx il ic u x:Nat) (c0 c1 c2 c3 c4 c5 c6 c7 c8 c9 a4 aM a7 aP a2 ad a5:Value) (Z Y J:Int) (H L:Bool) (Q V T R I O U:Int) (w:N5) (hb:w.heap[b]?=some (.cells #[c0,c1,c2,c3,c4,c5,c6,c7,c8,c9,a4,aM,a7,aP,a2,.slice (some (aq u x)) il ic,H8 (nx:Nat),ad,a5] 169 (0,0))) (hx:nx<il) (hc:w.cell? (aq u (x+nx*12))=some (H8 Z)/\w.cell? (aq u (x+nx*12+1))=some (H8 Y)/\w.cell? (aq u (x+nx*12+2))=some (H8 J)/\w.cell? (aq u (x+nx*12+3))=some (.bool H)/\w.cell? (aq u (x+nx*12+4))=some (.bool L)/\w.cell? (aq u (x+nx*12+5))=some (H8 Q)/\w.cell? (aq u (x+nx*12+6))=some (H8 V)/\w.cell? (aq u (x+nx*12+7))=some (H8 T)/\w.cell? (aq u (x+nx*12+8))=some (H8 R)/\w.cell? (aq u (x+nx*12+9))=some (H8 I)/\w.cell? (aq u (x+nx*12+10))=some (H8 O)/\w.cell? (aq u (x+nx*12+11))=some (H8 U)):Calls prog 206 #[(ar b)] w λe i=>e=.returned (.tuple #[.agg #[H8 Z,H8 Y,H8 J,.bool H,.bool L,H8 Q,H8 V,H8 T,H8 R,H8 I,H8 O,H8 U],.bool true])/\ap w i:=by
 obtain ⟨p,B⟩:∃p,w.alloc (.cells Ic 135)=p:=⟨_,rfl⟩;have g0:p.heap[w.heap.size]?=some (.cells Ic 135 (0,0)):=by rw [<-B];exact F4 w _
 have h:ap w p:=by rw [<-B];exact (br w).alloc (F3 _) _
 have hs:=F1 hb;have kb:=λi (q:Keep (λj=>j=w.heap.size) p i)=>(q.block b (by have:=h.size;omega) ao).trans (sb hb p h);have tb:=λi q=>E7 (kb i q);obtain ⟨h0,h1,h2,h3,h4,h5,h6,h7,h8,h9,N,a0⟩:=hc;have b5:u<w.heap.size:=aC h0;have y:¬u=w.heap.size:=ao;have d0:=λi (q:Keep (λj=>j=w.heap.size) p i)=>q.cell (av h h0) y;have d1:=λi (q:Keep (λj=>j=w.heap.size) p i)=>q.cell (av h h1) y;have d2:=λi (q:Keep (λj=>j=w.heap.size) p i)=>q.cell (av h h2) y;have d3:=λi (q:Keep (λj=>j=w.heap.size) p i)=>q.cell (av h h3) y;have d4:=λi (q:Keep (λj=>j=w.heap.size) p i)=>q.cell (av h h4) y;have d5:=λi (q:Keep (λj=>j=w.heap.size) p i)=>q.cell (av h h5) y;have d6:=λi (q:Keep (λj=>j=w.heap.size) p i)=>q.cell (av h h6) y;have d7:=λi (q:Keep (λj=>j=w.heap.size) p i)=>q.cell (av h h7) y;have d8:=λi (q:Keep (λj=>j=w.heap.size) p i)=>q.cell (av h h8) y;have d9:=λi (q:Keep (λj=>j=w.heap.size) p i)=>q.cell (av h h9) y;have b2:=λi (q:Keep (λj=>j=w.heap.size) p i)=>q.cell (av h N) y;have a3:=λi (q:Keep (λj=>j=w.heap.size) p i)=>q.cell (av h a0) y;have q0:Keep (λj=>j=w.heap.size) p p:=Keep.refl _ _;have b3:(nx:Int)<il:=ao;have b6:¬((il:Int)<=nx):=ao;obtain ⟨ax,a8,G0⟩:=ae B h g0;clear B h g0 kb hb h0 h1 h2 h3 h4 h5 h6 h7 h8 h9 N a0;go_enter func206,ntmps206;go_wp2_with fail;rw [ax.o];refine HA.g (λi:N5=>Keep (λj=>j=w.heap.size) p i) ?_;refine HA.t ?_ [0,1,2,3,4,5,6,7,8,9,10,11,12,13] q0.drew ?_;refine HA.d ?_
 try simp only [Exit.then]
 have q1:=q0.drew;go_wp2_with fail;refine HA.g (λi:N5=>Keep (λj=>j=w.heap.size) p i) ?_;refine HA.t ?_ [0,1,2,3,4,5,6,7,8,9] q1.drew ?_;obtain ⟨W1,A⟩:∃W1,p.drew.drew=W1:=⟨_,rfl⟩;have g1:W1.heap[w.heap.size]?=some (.cells Ic 135 (0,0)):=by rw [<-A];exact G0.o
 have q2:Keep (λj=>j=w.heap.size) p W1:=by rw [<-A];exact q0.drew.drew
 have a1:ap w W1:=by rw [<-A];exact (a8.o.drew).drew
 rw [A];clear A;have D:=Fr (v0:=(H8 Z)) (v1:=(H8 Y)) (v2:=(H8 J)) (v3:=(.bool H)) (v4:=(.bool L)) (v5:=(H8 Q)) (v6:=(H8 V)) (v7:=(H8 T)) (v8:=(H8 R)) (v9:=(H8 I)) (v10:=(H8 O)) (v11:=(H8 U)) g1;obtain ⟨W9,C⟩:∃W9,((((((((((((W1.setCell (aq w.heap.size 0) (H8 Z)).setCell (aq w.heap.size 1) (H8 Y)).setCell (aq w.heap.size 2) (H8 J)).setCell (aq w.heap.size 3) (.bool H)).setCell (aq w.heap.size 4) (.bool L)).setCell (aq w.heap.size 5) (H8 Q)).setCell (aq w.heap.size 6) (H8 V)).setCell (aq w.heap.size 7) (H8 T)).setCell (aq w.heap.size 8) (H8 R)).setCell (aq w.heap.size 9) (H8 I)).setCell (aq w.heap.size 10) (H8 O)).setCell (aq w.heap.size 11) (H8 U))=W9:=⟨_,rfl⟩;have k9:Keep (λj=>j=w.heap.size) W1 W9:=by rw [<-C];exact Keep.setCell (S:=λj=>j=w.heap.size) (Keep.setCell (S:=λj=>j=w.heap.size) (Keep.setCell (S:=λj=>j=w.heap.size) (Keep.setCell (S:=λj=>j=w.heap.size) (Keep.setCell (S:=λj=>j=w.heap.size) (Keep.setCell (S:=λj=>j=w.heap.size) (Keep.setCell (S:=λj=>j=w.heap.size) (Keep.setCell (S:=λj=>j=w.heap.size) (Keep.setCell (S:=λj=>j=w.heap.size) (Keep.setCell (S:=λj=>j=w.heap.size) (Keep.setCell (S:=λj=>j=w.heap.size) (Keep.setCell (S:=λj=>j=w.heap.size) (Keep.refl _ _) _ (.inr rfl) _) _ (.inr rfl) _) _ (.inr rfl) _) _ (.inr rfl) _) _ (.inr rfl) _) _ (.inr rfl) _) _ (.inr rfl) _) _ (.inr rfl) _) _ (.inr rfl) _) _ (.inr rfl) _) _ (.inr rfl) _) _ (.inr rfl) _
 rw [C] at D;have u0:=mR g1;have lu:=F1 g1;refine HA.s 10 W9 (q2.trans k9) ?_ (he:=by subst C;go_simp);refine HA.t ?_ [11] (q2.trans k9) ?_;refine HA.d ?_;obtain ⟨⟨r0,r1,r2,r3,r4,r5,r6,r7,r8,r9,ak,a6⟩,rf⟩:=mR D;have HB:=aa (a1.trans (k9.toBelow a1.size (λj hj=>ao)));have b4:=F1 D;clear D k9 g1 u0 lu q0 q1 q2 tb C d0 d1 d2 d3 d4 d5 d6 d7 d8 d9 b2 a3;go_wp2_with fail;exact Gm (v:=.tuple #[.agg #[H8 Z,H8 Y,H8 J,.bool H,.bool L,H8 Q,H8 V,H8 T,H8 R,H8 I,H8 O,H8 U],.bool true]) (by simp [results,results206,go_sem,r0,r1,r2,r3,r4,r5,r6,r7,r8,r9,ak,a6]) rfl ⟨rfl,HB.o⟩
theorem qm {H:Nat->Prop} {w:N5} {b x:Nat} {i:Inp} {a:MAd} {m:Mst} (h:aH H w b i x a m) {y:Itm} (v:(bq i x m.st)[m.nx]?=some y):Calls prog 206 #[(ar b)] w λe B=>e=.returned (.tuple #[.agg (aX y).toArray,.bool true])/\ap w B:=by
 have hl:m.nx<(bq i x m.st).length:=(GF.1 v).1;obtain ⟨u,p,e,hc⟩:=DW (a9 h.it (jC _ w)) v;have hb:=h.blk;rw [e] at hb;have o:∀f,f<12->w.cell? (aq u (p+m.nx*12+f))=(aX y)[f]?:=λf o=>by rw [GX];exact hc f o
 rcases y with ⟨C,st,n,A⟩
 cases A with
 | none=>
  exact wI b m.nx _ _ u p _ _ _ _ _ _ _ _ _ _ _ _ _ _ _ _ _ _ _ _ _ _ _ _ _ _ _ _ _ w hb hl ⟨o 0 ao,o 1 ao,o 2 ao,o 3 ao,o 4 ao,o 5 ao,o 6 ao,o 7 ao,o 8 ao,o 9 ao,o 10 ao,o 11 ao⟩
 | some A=>
  exact wI b m.nx _ _ u p _ _ _ _ _ _ _ _ _ _ _ _ _ _ _ _ _ _ _ _ _ _ _ _ _ _ _ _ _ w hb hl ⟨o 0 ao,o 1 ao,o 2 ao,o 3 ao,o 4 ao,o 5 ao,o 6 ao,o 7 ao,o 8 ao,o 9 ao,o 10 ao,o 11 ao⟩
theorem wJ {H:Nat->Prop} {w:N5} {b x:Nat} {i:Inp} {a:MAd} {m:Mst} (h:aH H w b i x a m) (hn:(bq i x m.st).length<=m.nx):Calls prog 206 #[(ar b)] w λe C=>e=.returned (.tuple #[.agg Ic,.bool false])/\ap w C:=by
 obtain ⟨O,D⟩:∃O,(bq i x m.st).length=O:=⟨_,rfl⟩;have hb:=h.blk;rw [D] at hb hn;obtain ⟨y,u⟩:∃y,w.alloc (.cells Ic 135)=y:=⟨_,rfl⟩;have g0:y.heap[w.heap.size]?=some (.cells Ic 135 (0,0)):=by rw [<-u];exact F4 w _
 have B:ap w y:=by rw [<-u];exact (br w).alloc (F3 _) _
 have tb:=λC q=>E7 (sb (sb hb y B) C q);obtain ⟨n,I⟩:∃n,m.nx=n:=⟨_,rfl⟩;rw [I] at tb hn;have a2:(O:Int)<=n:=ao;have Y:=br y;obtain ⟨R,Q,G0⟩:=ae u B g0;clear u B g0 hb h D I;go_enter func206,ntmps206;go_wp2_with fail;rw [R.o];refine HA.g (λC:N5=>ap y C) ?_;refine HA.t ?_ [0,1,2,3,4,5,6,7,8,9,10,11,12,13] Y.drew ?_;refine HA.d ?_
 try simp only [Exit.then]
 obtain ⟨W1,p⟩:∃W1,y.drew=W1:=⟨_,rfl⟩;have g1:W1.heap[w.heap.size]?=some (.cells Ic 135 (0,0)):=by rw [<-p];exact G0.o
 have J:ap w W1:=by rw [<-p];exact Q.o.drew
 rw [p];clear p Y tb;obtain ⟨⟨u0,u1,u2,u3,u4,u5,u6,u7,u8,u9,a1,a0⟩,uf⟩:=mR g1;have lu:=F1 g1;have N:=Fr (v0:=H8 0) (v1:=H8 0) (v2:=H8 0) (v3:=.bool false) (v4:=.bool false) (v5:=H8 0) (v6:=H8 0) (v7:=H8 0) (v8:=H8 0) (v9:=H8 0) (v10:=H8 0) (v11:=H8 0) g1;have V:=aa N;have kk:Keep (λj=>j=w.heap.size) W1 (((((((((((((W1.setCell (aq w.heap.size 0) (H8 0)).setCell (aq w.heap.size 1) (H8 0)).setCell (aq w.heap.size 2) (H8 0)).setCell (aq w.heap.size 3) (.bool false)).setCell (aq w.heap.size 4) (.bool false)).setCell (aq w.heap.size 5) (H8 0)).setCell (aq w.heap.size 6) (H8 0)).setCell (aq w.heap.size 7) (H8 0)).setCell (aq w.heap.size 8) (H8 0)).setCell (aq w.heap.size 9) (H8 0)).setCell (aq w.heap.size 10) (H8 0)).setCell (aq w.heap.size 11) (H8 0))):=Keep.setCell (S:=λj=>j=w.heap.size) (Keep.setCell (S:=λj=>j=w.heap.size) (Keep.setCell (S:=λj=>j=w.heap.size) (Keep.setCell (S:=λj=>j=w.heap.size) (Keep.setCell (S:=λj=>j=w.heap.size) (Keep.setCell (S:=λj=>j=w.heap.size) (Keep.setCell (S:=λj=>j=w.heap.size) (Keep.setCell (S:=λj=>j=w.heap.size) (Keep.setCell (S:=λj=>j=w.heap.size) (Keep.setCell (S:=λj=>j=w.heap.size) (Keep.setCell (S:=λj=>j=w.heap.size) (Keep.setCell (S:=λj=>j=w.heap.size) (Keep.refl _ _) _ (.inr rfl) _) _ (.inr rfl) _) _ (.inr rfl) _) _ (.inr rfl) _) _ (.inr rfl) _) _ (.inr rfl) _) _ (.inr rfl) _) _ (.inr rfl) _) _ (.inr rfl) _) _ (.inr rfl) _) _ (.inr rfl) _) _ (.inr rfl) _;obtain ⟨KK,L⟩:=ab kk J;clear N kk g1 J;go_wp2_with fail;obtain ⟨W9,A⟩:∃W9,((((((((((((W1.setCell (aq w.heap.size 0) (H8 0)).setCell (aq w.heap.size 1) (H8 0)).setCell (aq w.heap.size 2) (H8 0)).setCell (aq w.heap.size 3) (.bool false)).setCell (aq w.heap.size 4) (.bool false)).setCell (aq w.heap.size 5) (H8 0)).setCell (aq w.heap.size 6) (H8 0)).setCell (aq w.heap.size 7) (H8 0)).setCell (aq w.heap.size 8) (H8 0)).setCell (aq w.heap.size 9) (H8 0)).setCell (aq w.heap.size 10) (H8 0)).setCell (aq w.heap.size 11) (H8 0))=W9:=⟨_,rfl⟩;rw [A];have Z:=V.o;rw [A] at Z;obtain ⟨⟨r0,r1,r2,r3,r4,r5,r6,r7,r8,r9,T,U⟩,rf⟩:=mR Z;have k9:=KK.o;rw [A] at k9;have HB:=L.o.trans (k9.toBelow L.o.size (λj hj=>ao));exact Gm (v:=.tuple #[.agg Ic,.bool false]) (by simp [results,results206,go_sem,r0,r1,r2,r3,r4,r5,r6,r7,r8,r9,T,U]) rfl ⟨rfl,HB⟩
def StL (base:Nat) (w:N5) (l:N8) (v:Value):Prop:=∃rows:List (N4),w.ownsRow base 91 2 v l.length (List.flatten rows)/\rows.length=l.length/\(∀r∈rows,r.length=2)/\∀j x,l[j]?=some x->cK w base (bH rows j) x
theorem StL.form {base:Nat} {w:N5} {l:N8} {v:Value} (h:StL base w l v):∃A c,v=.slice A l.length c/\l.length<=c:=by
 obtain ⟨rows,i,_⟩:=h;exact aE i
theorem StL.below {base:Nat} {w i:N5} {l:N8} {v:Value} (h:StL base w l v) (hb:ap w i):StL base i l v:=by
 obtain ⟨rows,u,o,y,p⟩:=h;exact ⟨rows,aA u hb,o,y,λj x A=>(p j x A).keep (S:=λ_=>False) (Keep.below hb) (λ_ h=>h.elim)⟩
theorem StL.rd {base:Nat} {w:N5} {l:N8} {A:N0} {n c:Nat} (h:StL base w l (.slice A n c)):cO rEx 2 w A l:=by
 obtain ⟨rows,i,o,u,p⟩:=h;obtain ⟨B,y,e,_⟩:=aE i;injection e with e1 e2 e3
 subst e2;exact ⟨rows,Rd.own i,o,u,λj x v=>(p j x v).rd⟩
theorem StL.nil (base:Nat) (w:N5):StL base w [] (H9):=⟨[],Gj _ _ _ _,rfl,by simp,by simp⟩
theorem StL.push {base:Nat} {w u:N5} {l:N8} {x:Ex} {v v' o i:Value} {rows:List (N4)} (B:w.ownsRow base 91 2 v l.length (List.flatten rows)) (A:rows.length=l.length) (L:∀r∈rows,r.length=2) (I:∀j x,l[j]?=some x->cK w base (bH rows j) x) (J:cK w base [o,i] x) (D:u.ownsRow base 91 2 v' (l.length+1) (List.flatten rows++[o,i])) (C:w.grownBy u v.ownBlock):StL base u (l++[x]) v':=by
 refine ⟨rows++[[o,i]],?_,by simp [A],?_,?_⟩
 ·rw [GE,GQ,List.flatten_cons,List.flatten_nil,List.append_nil];exact D
 ·intro r hr;rcases GU.1 hr with hr | hr
  ·exact L r hr
  ·rw [List.mem_singleton.1 hr];rfl
 ·intro j y p;rcases Gn j l.length with h | h
  ·rw [GH h] at p;have e:bH (rows++[[o,i]]) j=bH rows j:=by simp [bH,GH (show j<rows.length by omega)]
   rw [e];exact (I j y p).pushed B C (by decide)
  ·have H:j=l.length:=by have:=(GF.1 p).1;simp at this;omega
   subst H;simp at p;subst p;have e:bH (rows++[[o,i]]) l.length=[o,i]:=by rw [<-A];simp [bH]
   rw [e];exact J.pushed B C (by decide)
theorem qH.rd {H:Nat->Prop} {w:N5} {b x:Nat} {i:Inp} {a:MAd} {m:Mst} (h:aH H w b i x a m):cO rEx 2 w (some (aq a.rb 0)) m.rc:=by
 obtain ⟨rows,u,o,v,p⟩:=h.re;exact ⟨rows,Rd.own u,o,v,λj x y=>cQ (p j x y) (jC _ w)⟩
theorem D0 {l:N8} {k:Nat} {x:Ex} (h:l[k]?=some x):l.take (k+1)=l.take k++[x]:=by
 obtain ⟨hk,e⟩:=GF.1 h;rw [List.take_succ_eq_append_getElem hk,e]
theorem yH {H:Nat->Prop} {w:N5} {b x:Nat} {i:Inp} {a:MAd} {m:Mst} (h:aH H w b i x a m) (hn:∀y∈m.rc,y.1.length=i.start.length/\y.2.length=i.start.length) (hi:i.start.length<=60) (hl:m.rc.length<=100):Calls prog 208 #[(ar b)] w λe w'=>∃v,e=.returned v/\StL w.heap.size w' m.rc v/\ap w w':=by
 have tb:=E7 h.blk;have lb:=F1 h.blk;have hr:=qH.rd h;obtain ⟨N,hN⟩:∃N,m.rc.length=N:=⟨_,rfl⟩;obtain ⟨n,R⟩:∃n,i.start.length=n:=⟨_,rfl⟩;rw [hN] at tb hl;rw [R] at hn hi;obtain ⟨Hr,HN,Hn⟩:=ae hr hN hn;clear hr h hN hn R;go_enter func208,ntmps208;go_wp2_with fail;clear tb
 go_loopw [3,13] (λv y wr=>∃k:Nat,k<=N/\y=H8 k/\StL w.heap.size wr (m.rc.take k) v/\ap w wr) (λ_ y _=>N-(intOf y).toNat)
 ·exact ⟨0,Gc _,rfl,StL.nil _ _,Gb _ _⟩
 case round=>
  obtain ⟨k,hk,rfl,L,q⟩:=hrel;by_cases a5:k<N
  ·have a7:(k:Int)<N:=ao;have b4:IntKind.i64.wrap ((k:Int)+1)=((k+1:Nat):Int):=by rw [Gd _ ao];push_cast;rfl
   obtain ⟨y,hx⟩:∃x,m.rc[k]?=some x:=⟨_,GG (by rw [HN.o];exact a5)⟩;have u:=Hn.o y (List.mem_of_getElem? hx);have a1:=D0 hx;obtain ⟨bb,o,A1,c1,A2,c2,e,U,p1,p2,r1,r2⟩:=iC Hr.o hx;injection e with e
   injection e with e1 e2
   subst e1;subst e2;rw [u.1] at p1;rw [u.2] at p2;have q1:=(q.cell (p:=(aq a.rb (0+k*2))) U).trans p1;have q2:=(q.cell (p:=(aq a.rb (0+k*2+1))) U).trans p2;rw [GY] at q1 q2;obtain ⟨W1,B⟩:∃W1,wr.alloc (.cells #[.slice A1 n c1,.slice A2 n c2] 91)=W1:=⟨_,rfl⟩;have g1:W1.heap[wr.heap.size]?=some (.cells #[.slice A1 n c1,.slice A2 n c2] 91 (0,0)):=by rw [<-B];exact F4 wr _
   have k1:ap wr W1:=by rw [<-B];exact (br wr).alloc (F3 _) _
   have qW:ap w W1:=q.trans (k1.mono q.size);have a2:=gK A1 A2 n c1 c2 y.1 y.2 W1 (r1.hr.below qW) (r2.hr.below qW) u.1 u.2 ao;have C:=Gg r1.hw r2.hw;have Y:=L.below k1;have lr:=q.size;have tg:=bx2 g1;obtain ⟨b3,b2,QW,b0,aP,Q,D⟩:=ai a2 B qW Y a1 u C;clear a2 B qW Y a1 u C g1 k1 r1 r2 p1 p2 hx q;have b5:a.rb<wr.heap.size:=ao;have J:(m.rc.take k).length=k:=by rw [GL,HN.o];omega
   have A:=aa J;obtain ⟨Av,cv,e,_⟩:=L.form;rw [J] at e;subst e;clear L J;go_wp2_with fail;rw [b2.o];refine b3.o.mono ?_;rintro e w3 ⟨B1,d1,B2,d2,rfl,b1,aM,o1,o2,a0,k3⟩;have a3:=b0.o.below k3;obtain ⟨rows,u1,u2,u3,u4⟩:=a3;have I:=QW.o.trans (k3.mono QW.o.size);have hu:=zY (base:=w.heap.size) (x:=y) o1 o2 QW.o.size Q.o.1 Q.o.2 ao D.o.1 D.o.2;rw [A.o] at u1 u2;obtain ⟨O,ak,ax,ad,Hu,a8⟩:=ah u1 u2 u3 u4 hu I;have a4:=I.size;clear u1 u2 u3 u4 hu I a0 o1 o2 k3 b1 aM tg q1 q2;go_wp2_with (at_builtin;refine bJ Cn _ rfl (.tmp 17) (.tmp 20) rfl w.heap.size (.slice Av k cv) k _ rfl O.o [.slice B1 n d1,.slice B2 n d2] rfl rfl (by simp [Value.oneCell']) ao (by unfold maxLen;omega) a4 ?_);intro g6 c6 w6 T V Z;have hp:=StL.push (x:=y) (v':=.slice (some (aq g6 0)) (k+1) c6) (by rw [A.o];exact O.o) (by rw [A.o];exact ak.o) ax.o ad.o Hu.o (by rw [A.o];exact T) Z;rw [<-aP.o] at hp;obtain ⟨Hp,a6⟩:=ab hp (a8.o.trans V);clear hp T V Z;go_wp2_with fail;go_roundw
   ·exact ⟨k+1,by omega,by go_num,Hp.o,a6.o⟩
   ·simp [intOf];omega
  ·have a7:¬((k:Int)<N):=ao;rw [List.take_of_length_le (by rw [HN.o];omega)] at L;obtain ⟨Hs,Hq⟩:=ab L q;clear L q;go_wp2_with fail;go_ret;exact ⟨_,rfl,Hs.o,Hq.o⟩
def eK (i:Inp):Mst:=⟨i.start,List.replicate i.start.length 0,List.replicate i.start.length 0,[(i.start,List.replicate i.start.length 0)],0,0,[]⟩
theorem vr {T:N6} {B b:Nat} {w:N5} {sz:N1} (h:bF T (dY B w) b sz):bF T w.drew b sz:=(jJ h (Agr.refl B w)).below ((br w).drew)
structure FJ (sz:N1) (L wk bh mi sn bu ch wi ca n Q:Nat) (A:N0) (c:Nat) (sh ra mo:Int) (D:N0) (cd:Nat) (T:N0) (ct:Nat) (R:N0) (cr:Nat) (data:N8) (ps draws:N1) (w:N5):Prop where
 inp:∀N,N=data.length->∀w',ap w w'->Calls prog 40 #[.agg #[.slice A L c,H8 sh,H8 ra,H8 mo,H8 (wk:Nat),H8 (bh:Nat),H8 (mi:Nat),H8 (sn:Nat),H8 (bu:Nat),H8 (ch:Nat),H8 (wi:Nat),H8 (ca:Nat),.slice D N cd,.slice T n ct,.slice R Q cr]] w' λe w''=>e=.returned (H8 0)/\ap w' w''
 snew:∀w',ap w w'->Calls prog 65 #[.slice A L c] w' λe w''=>∃F,e=.returned (.tuple #[(ar F),H8 0])/\bF 199 (dY w.heap.size w'') F sz/\ap w' w''
 samp:∀N,N=data.length->∀w',ap w w'->Calls prog 69 #[H8 (N:Nat),H8 (bh:Nat),H8 (sn:Nat),.slice R Q cr] w' λe w''=>∃S,e=.returned (.tuple #[(ar S),H8 0])/\ed (dY w.heap.size w'') S data.length bh sn draws/\ap w' w''
 cnt:∀F w',bF 199 w' F sz->Calls prog 67 #[(ar F)] w' λe w''=>e=.returned (H8 (n:Nat))/\w'=w''
 chk:∀w',ap w w'->Calls prog 64 #[.agg #[.slice A L c,H8 sh,H8 ra,H8 mo,H8 (wk:Nat),H8 (bh:Nat),H8 (mi:Nat),H8 (sn:Nat),H8 (bu:Nat),H8 (ch:Nat),H8 (wi:Nat),H8 (ca:Nat)]] w' λe w''=>e=.returned (H8 0)/\ap w' w''
 dat:cO rEx 2 w D data
 dl:data.length<=1048576
 st:Rd w T (az .i64 ps)
 sl:ps.length=n
def Win (h:Nat) (o:N5) (i:List Nat) (Q:N5->Prop):Prop:=∃lo u,h<=lo/\Q (dY lo u)/\ap u o/\∀k∈i,k<lo\/u.heap.size<=k
theorem ms5 {a b c d e lo h:Nat} (p:a<lo\/h<=a) (i:b<lo\/h<=b) (v:c<lo\/h<=c) (o:d<lo\/h<=d) (u:e<lo\/h<=e):∀k∈[a,b,c,d,e],k<lo\/h<=k:=by
 intro k hk;simp only [List.mem_cons,List.not_mem_nil,or_false] at hk;rcases hk with rfl | rfl | rfl | rfl | rfl<;>assumption
structure FI (sz:N1) (x L wk bh mi sn bu ch wi ca N n:Nat) (A:N0) (c:Nat) (sh ra mo:Int) (data:N8) (ps draws:N1) (its:List Itm) (w w':N5) (b:Nat) (a:MAd):Prop where
 blk:w'.heap[b]?=some (.cells #[H8 (x:Nat),H8 (wk:Nat),H8 (mi:Nat),(ar a.F),.slice a.E N a.ce,(ar a.S),(ar a.PP),.slice a.BA (Pln.buks ⟨wk,mi,bu,ch,wi,n⟩).length a.bc,H8 ra,H8 mo,H8 sh,.slice (some (aq a.bp 0)) n a.cp,.slice (some (aq a.bm 0)) n a.cm,.slice (some (aq a.bg 0)) n a.cg,.slice (some (aq a.rb 0)) 1 a.rc,.slice a.IA its.length a.ic,H8 0,H8 0,H9] 169 (0,0))
 fo:Win w.heap.size w' [b,a.bp,a.bm,a.bg,a.rb] λV=>bF 199 V a.F sz
 sa:Win w.heap.size w' [b,a.bp,a.bm,a.bg,a.rb] λV=>ed V a.S data.length bh sn draws
 pl:Win w.heap.size w' [b,a.bp,a.bm,a.bg,a.rb] λV=>dq V a.PP ⟨wk,mi,bu,ch,wi,n⟩ (.slice A L c) (H8 sh) (H8 ra) (H8 mo) (H8 (bh:Nat)) (H8 (sn:Nat)) (H8 (ca:Nat))
 ex:Win w.heap.size w' [b,a.bp,a.bm,a.bg,a.rb] λV=>cO rEx 2 V a.E data
 bu:Win w.heap.size w' [b,a.bp,a.bm,a.bg,a.rb] λV=>Rd V a.BA (aI (Pln.buks ⟨wk,mi,bu,ch,wi,n⟩))
 it:Win w.heap.size w' [b,a.bp,a.bm,a.bg,a.rb] λV=>Rd V a.IA (dF its)
 re:∃A1 c1 A2 c2,n<=c1/\n<=c2/\w'.heap[a.rb]?=some (.cells #[.slice A1 n c1,.slice A2 n c2] 91 (0,0))/\(Win w.heap.size w' [b,a.bp,a.bm,a.bg,a.rb] λV=>Rd V A1 (az .i64 ps))/\(Win w.heap.size w' [b,a.bp,a.bm,a.bg,a.rb] λV=>Rd V A2 (az .i64 (List.replicate n 0)))
 oP:w'.ownsRow 0 2 1 (.slice (some (aq a.bp 0)) n a.cp) n (az .i64 ps)
 oM:w'.ownsRow 0 2 1 (.slice (some (aq a.bm 0)) n a.cm) n (az .i64 (List.replicate n 0))
 oG:w'.ownsRow 0 2 1 (.slice (some (aq a.bg 0)) n a.cg) n (az .i64 (List.replicate n 0))
 lo:w.heap.size<=b/\w.heap.size<=a.bp/\w.heap.size<=a.bm/\w.heap.size<=a.bg/\w.heap.size<=a.rb
 dj:a.bp≠a.bm/\a.bp≠a.bg/\a.bm≠a.bg
 ov:a.ov=H9
 rc:a.rc=1
 k:ap w w'
theorem yJ (sz:N1) (x L H bh mi sn bu ch wi ca N n Q:Nat) (A:N0) (c:Nat) (sh ra O:Int) (D:N0) (cd:Nat) (T:N0) (ct:Nat) (R:N0) (cr:Nat) (data:N8) (ps draws:N1) (w:N5) (ad:Ending->N5->Prop) (h:FJ sz L H bh mi sn bu ch wi ca n Q A c sh ra O D cd T ct R cr data ps draws w) (hN:N=data.length) (hx:x<H) (hp:aT ⟨H,mi,bu,ch,wi,n⟩) (hn:1<=n) (cw:bu<=1048576) (co:wi<=1048576) (J:List Itm) (a8:∀P C,dq C P ⟨H,mi,bu,ch,wi,n⟩ (.slice A L c) (H8 sh) (H8 ra) (H8 O) (H8 (bh:Nat)) (H8 (sn:Nat)) (H8 (ca:Nat))->Calls prog 74 #[(ar P),H8 (x:Nat),H8 0] C λe bG=>∃v,e=.returned v/\bG.ownsRow C.heap.size 135 12 v J.length (dF J)/\ap C bG) (a7:∀C b a,FI sz x L H bh mi sn bu ch wi ca N n A c sh ra O data ps draws J w C b a->ad (.returned (.tuple #[(ar b),H8 0])) C):Calls prog 41 #[.agg #[.slice A L c,H8 sh,H8 ra,H8 O,H8 (H:Nat),H8 (bh:Nat),H8 (mi:Nat),H8 (sn:Nat),H8 (bu:Nat),H8 (ch:Nat),H8 (wi:Nat),H8 (ca:Nat),.slice D N cd,.slice T n ct,.slice R Q cr],H8 (x:Nat)] w ad:=by
 obtain ⟨W0,a4⟩:∃W0,w.alloc (.cells #[.slice A L c,H8 sh,H8 ra,H8 O,H8 (H:Nat),H8 (bh:Nat),H8 (mi:Nat),H8 (sn:Nat),H8 (bu:Nat),H8 (ch:Nat),H8 (wi:Nat),H8 (ca:Nat),.slice D N cd,.slice T n ct,.slice R Q cr] 29)=W0:=⟨_,rfl⟩;have g0:W0.heap[w.heap.size]?=some (.cells #[.slice A L c,H8 sh,H8 ra,H8 O,H8 (H:Nat),H8 (bh:Nat),H8 (mi:Nat),H8 (sn:Nat),H8 (bu:Nat),H8 (ch:Nat),H8 (wi:Nat),H8 (ca:Nat),.slice D N cd,.slice T n ct,.slice R Q cr] 29 (0,0)):=by rw [<-a4];exact F4 w _
 have b0:ap w W0:=by rw [<-a4];exact (br w).alloc (F3 _) _
 have bN:=h.inp N hN W0 b0;have d6:¬((H:Int)<=x):=ao;have b4:=hp.n;dsimp only at b4;have t0:=λC q=>mQ (sb g0 C q);obtain ⟨cx,bv,cb,Hh,HN,bA,bi,Hl⟩:=aj a4 b0 bN h hN a7 a8 h.sl;have d0:n<=1048576:=ao;have q0:=br W0;clear a4 g0 b0 bN h hN a7 a8;go_enter func41,ntmps41;go_wp2_with fail;rw [cx.o];refine cb.o.mono ?_;rintro e w1 ⟨rfl,k1⟩;have q1:=bt q0 k1;obtain ⟨W2,a3⟩:∃W2,w1.alloc (.cells #[.slice A L c,H8 sh,H8 ra,H8 O,H8 (H:Nat),H8 (bh:Nat),H8 (mi:Nat),H8 (sn:Nat),H8 (bu:Nat),H8 (ch:Nat),H8 (wi:Nat),H8 (ca:Nat)] 24)=W2:=⟨_,rfl⟩;have g2:W2.heap[w1.heap.size]?=some (.cells #[.slice A L c,H8 sh,H8 ra,H8 O,H8 (H:Nat),H8 (bh:Nat),H8 (mi:Nat),H8 (sn:Nat),H8 (bu:Nat),H8 (ch:Nat),H8 (wi:Nat),H8 (ca:Nat)] 24 (0,0)):=by rw [<-a3];exact F4 w1 _
 have k2:ap w1 W2:=by rw [<-a3];exact (br w1).alloc (F3 _) _
 have q2:=bt q1 k2;have t2:=λC q=>mR (sb g2 C q);have u2:=λC (q:ap W2 C)=>t0 C (bt q2 q);obtain ⟨c6,Q2⟩:=ab a3 (bv.o.trans (q2.mono bv.o.size));clear a3 g2 k1 k2;go_wp2_with fail;rw [c6.o];have cA:=br W2;clear q0 q1 q2 t0;refine (Hh.o.snew _ Q2.o).mono ?_;rintro e w3 ⟨F,rfl,hF,k3⟩;have q3:=bt cA k3;obtain ⟨Q3,HF⟩:=ab (Q2.o.trans (k3.mono Q2.o.size)) hF;clear hF k3;go_wp2_with fail;refine (Hh.o.samp N HN.o _ Q3.o).mono ?_;rintro e w4 ⟨S,rfl,hS,k4⟩;have q4:=bt q3 k4;obtain ⟨Q4,HS,K4⟩:=ae (Q3.o.trans (k4.mono Q3.o.size)) hS k4;have b8:=HF.o.below (xz k4);have aP:=aa b8;clear hS k4 b8;go_wp2_with fail;refine HA.g (λC:N5=>ap W2 C) ?_;refine HA.t ?_ [0,1] q4.drew ?_;refine HA.c 2 (Hh.o.cnt F _ (vr aP.o)) ?_;rintro e w5 ⟨rfl,rfl⟩;refine ⟨_,rfl,q4.drew,λ_=>?_⟩;have b2:=yj ⟨H,mi,bu,ch,wi,n⟩ (.slice A L c) (H8 sh) (H8 ra) (H8 O) (H8 (bh:Nat)) (H8 (sn:Nat)) (H8 (ca:Nat)) w4.drew hp hn cw co (λC q=>Hh.o.chk C (Q4.o.drew.trans (q.mono Q4.o.size)));dsimp only at b2;refine HA.c 3 b2 ?_;rintro e w6 ⟨PP,rfl,d5,b7,k6⟩;have q6:=bt q4.drew k6;refine ⟨_,rfl,q6,λ_=>?_⟩;refine HA.t ?_ [4,5,6,7,8] q6 ?_;refine HA.d ?_
 try simp only [Exit.then]
 have K6:=aa (show ap w4 w6 from (br w4).drew.trans k6);obtain ⟨Q6,aM⟩:=ab (Q4.o.trans (K6.o.mono Q4.o.size)) b7;clear b2 b7 k6 q4 q3;have bn:=ul T n ct ps w6 (Hh.o.st.below Q6.o) Hh.o.sl ao;have bV:=aa bn;clear bn;go_wp2_with fail;refine bV.o.mono ?_;rintro e w7 ⟨Ap,cp,Am,cm,rfl,d1,ci,oP,oM,bM,k7⟩;obtain ⟨bp,d8,e1,bO,b5⟩:=oP.form ao;obtain ⟨bm,d2,e2,bw,bs⟩:=oM.form ao;injection e1 with e1 _ e1c
 injection e2 with e2 _ e2c
 subst e1;subst e2;subst e1c;subst e2c;obtain ⟨W8,a5⟩:∃W8,w7.alloc (.cells #[.slice (some (aq bp 0)) n cp,.slice (some (aq bm 0)) n cm] 91)=W8:=⟨_,rfl⟩;have g8:W8.heap[w7.heap.size]?=some (.cells #[.slice (some (aq bp 0)) n cp,.slice (some (aq bm 0)) n cm] 91 (0,0)):=by rw [<-a5];exact F4 w7 _
 have k8:ap w7 W8:=by rw [<-a5];exact (br w7).alloc (F3 _) _
 have a6:=bt k7 k8;have q8:=bt q6 a6;have t8:=λC q=>bx2 (sb g8 C q);have v8:=λC (q:ap W8 C)=>u2 C (bt q8 q);have x8:=λC (q:ap W8 C)=>t2 C (bt q8 q);have b3:bp≠bm:=λe=>bM bp rfl (by rw [e];rfl);obtain ⟨c9,Q8,K8,OP,OM,cf⟩:=ah a5 (Q6.o.trans (a6.mono Q6.o.size)) a6 (aA oP k8) (aA oM k8) b3;have bl:=br W8;have p1:w6.heap.size<=bp:=bO;have p2:bp<W8.heap.size:=Gf b5 k8.size;have p3:w6.heap.size<=bm:=bw;have p4:bm<W8.heap.size:=Gf bs k8.size;clear a5 g8 k7 k8 a6 oP oM bM q6 q8 u2 t2 d1 ci b3;go_wp2_with fail;rw [c9.o];refine HA.g (λC:N5=>ap W8 C) ?_;refine HA.t ?_ [0,1,2,3,4,5,6,7,9,10,11,13,14,15,16,17,18,19,21,22,25,28,29] bl.drew ?_;have cj:cO rEx 2 W8.drew D data:=Hh.o.dat.below fI (Q8.o.drew);have b6:=tE D data cd W8.drew cj Hh.o.dl;rw [<-HN.o] at b6;refine HA.c 8 b6 ?_;rintro e w9 ⟨E,ce,rfl,hE,k9⟩;have q9:=bt bl.drew k9;refine ⟨_,rfl,q9,λ_=>?_⟩;have bI:dq w9 PP ⟨H,mi,bu,ch,wi,n⟩ (.slice A L c) (H8 sh) (H8 ra) (H8 O) (H8 (bh:Nat)) (H8 (sn:Nat)) (H8 (ca:Nat)):=(aM.o.agr (Agr.refl _ w6)).below (bt K8.o q9);refine HA.c 12 (Bb _ PP _ _ _ _ _ _ _ w9 hp bI) ?_;rintro e x0 ⟨v10,rfl,ak,a0⟩;have q0:=bt q9 a0;obtain ⟨BA,bc,rfl,_⟩:=aE ak;refine ⟨_,rfl,q0,λ_=>?_⟩;have bo:bF 199 x0 F sz:=(jJ aP.o (Agr.refl _ w4)).below (bt (bt (bt K6.o K8.o) q9) a0);refine HA.t ?_ [20] q0 ?_;refine HA.c 23 (Hh.o.cnt F x0 bo) ?_;rintro e d4 ⟨rfl,rfl⟩;refine ⟨_,rfl,q0,λ_=>?_⟩;have cv:w.heap.size<=w4.heap.size:=Q4.o.size;have d3:w4.heap.size<=w6.heap.size:=K6.o.size;have d9:w6.heap.size<=W8.heap.size:=K8.o.size;have d7:W8.heap.size<=w9.heap.size:=k9.size;have cn:w9.heap.size<=x0.heap.size:=a0.size
 -- BRANCHES
 obtain ⟨x9,b1⟩:∃x9,x9=x0:=⟨_,rfl⟩;have y:ap x9 x0:=by rw [b1];exact br _
 rw [<-b1] at ak a0 cn;clear b1;have q:=q0;clear q0;obtain ⟨U,rfl⟩:∃U,U=x0:=⟨_,rfl⟩
 repeat' first
  | (refine HA.three 24 27 30 ?_ ?_ ?_)
  | (refine HA.two 24 26 ?_ ?_)
  | (refine HA.two 27 30 ?_ ?_)
  | (refine HA.two 24 30 ?_ ?_)
  | (refine HA.two 24 27 ?_ ?_)
  | (refine HA.sole 24 ?_)
  | (refine HA.sole 26 ?_)
  | (refine HA.sole 27 ?_)
  | (refine HA.sole 30 ?_)
  | (obtain ⟨V,bz,gG,p⟩:=uv iX U rfl n ao (by unfold maxLen;omega);refine HAS.v (i:=24) V (.slice (some (aq U.heap.size 0)) n n) (bt q p) ?_;clear bz;rw [gr] at gG;(try have:=u.size);(try have:=B.size);(try have:=F1 I);(try have:G<U.heap.size:=(et oG _ rfl).2);have:=y.size;(try replace oG:=aA oG p);(try replace I:=sb I _ p);(try replace u:=bt u p);(try replace B:=bt B p);replace y:=bt y p;replace q:=bt q p;have oG:=gG;have tG:U.heap.size<V.heap.size:=(et oG _ rfl).2;obtain ⟨G,hG⟩:∃G,U.heap.size=G:=⟨_,rfl⟩;rw [hG] at oG ⊢;clear gG p;obtain ⟨U,rfl⟩:∃U,U=V:=⟨_,rfl⟩)
  | (refine HAS.c (i:=26) (gK (some (aq bp 0)) (some (aq bm 0)) n cp cm ps (List.replicate n 0) U (Rd.own (aA OP.o q)) (Rd.own (aA OM.o q)) Hl.o (GN ..) d0) ?_;rintro e V ⟨A1,c1,A2,c2,rfl,bX,c8,o1,o2,_,p⟩;(try have:=u.size);(try have:=B.size);(try have:=F1 I);(try have:G<U.heap.size:=(et oG _ rfl).2);have:=y.size;(try replace oG:=aA oG p);(try replace I:=sb I _ p);(try replace u:=bt u p);(try replace B:=bt B p);replace y:=bt y p;replace q:=bt q p;refine ⟨_,rfl,q,λ_=>?_⟩;obtain ⟨a2,cl⟩:∃s,U.heap.size=s:=⟨_,rfl⟩;rw [cl] at o1 o2;have cc:=p.size;obtain ⟨Y,hw⟩:∃Y,Y=V:=⟨_,rfl⟩;have u:ap Y V:=(by rw [hw];exact br _);rw [<-hw] at o1 o2 cc;clear hw p;obtain ⟨U,rfl⟩:∃U,U=V:=⟨_,rfl⟩)
  | (have p:=(br U).alloc (F3 _) (.cells #[.slice A1 n c1,.slice A2 n c2] 91);have nR:=F4 U (.cells #[.slice A1 n c1,.slice A2 n c2] 91);refine HAS.v (i:=27) (U.alloc (.cells #[.slice A1 n c1,.slice A2 n c2] 91)) (.slice (some (aq U.heap.size 0)) 1 1) (bt q p) ?_;obtain ⟨V,hv⟩:∃V,U.alloc (.cells #[.slice A1 n c1,.slice A2 n c2] 91)=V:=⟨_,rfl⟩;rw [hv] at nR p ⊢;clear hv;(try have:=u.size);(try have:=B.size);(try have:=F1 I);(try have:G<U.heap.size:=(et oG _ rfl).2);have:=y.size;(try replace oG:=aA oG p);(try replace I:=sb I _ p);(try replace u:=bt u p);(try replace B:=bt B p);replace y:=bt y p;replace q:=bt q p;have I:=nR;have tR:=F1 I;obtain ⟨Z,hR⟩:∃r,U.heap.size=r:=⟨_,rfl⟩;rw [hR] at I ⊢;clear nR p;obtain ⟨U,rfl⟩:∃U,U=V:=⟨_,rfl⟩)
  | (refine HAS.c (i:=30) (bi.o PP U ((aM.o.agr (Agr.refl _ w6)).below (bt K8.o q))) ?_;rintro e V ⟨v,rfl,oS,p⟩;obtain ⟨IA,ic,rfl,_⟩:=aE oS;(try have:=u.size);(try have:=B.size);(try have:=F1 I);(try have:G<U.heap.size:=(et oG _ rfl).2);have:=y.size;(try replace oG:=aA oG p);(try replace I:=sb I _ p);(try replace u:=bt u p);(try replace B:=bt B p);replace y:=bt y p;replace q:=bt q p;refine ⟨_,rfl,q,λ_=>?_⟩;obtain ⟨ax,cS⟩:∃s,U.heap.size=s:=⟨_,rfl⟩;rw [cS] at oS;have c7:=p.size;obtain ⟨a1,hw⟩:∃a1,a1=V:=⟨_,rfl⟩;have B:ap a1 V:=(by rw [hw];exact br _);rw [<-hw] at oS c7;clear hw p;obtain ⟨U,rfl⟩:∃U,U=V:=⟨_,rfl⟩)
  | (refine HA.t ?_ [31] q ?_)
  | fail
 all_goals
  have gB:=F4 U (Obj.cells #[H8 (x:Nat),H8 (H:Nat),H8 (mi:Nat),(ar F),.slice E N ce,(ar S),(ar PP),.slice BA (Pln.buks ⟨H,mi,bu,ch,wi,n⟩).length bc,H8 ra,H8 O,H8 sh,.slice (some (aq bp 0)) n cp,.slice (some (aq bm 0)) n cm,.slice (some (aq G 0)) n n,.slice (some (aq Z 0)) 1 1,.slice IA J.length ic,H8 0,H8 0,H9] 169);have p:=(br U).alloc (F3 _) (Obj.cells #[H8 (x:Nat),H8 (H:Nat),H8 (mi:Nat),(ar F),.slice E N ce,(ar S),(ar PP),.slice BA (Pln.buks ⟨H,mi,bu,ch,wi,n⟩).length bc,H8 ra,H8 O,H8 sh,.slice (some (aq bp 0)) n cp,.slice (some (aq bm 0)) n cm,.slice (some (aq G 0)) n n,.slice (some (aq Z 0)) 1 1,.slice IA J.length ic,H8 0,H8 0,H9] 169);refine HA.v 32 (U.alloc (Obj.cells #[H8 (x:Nat),H8 (H:Nat),H8 (mi:Nat),(ar F),.slice E N ce,(ar S),(ar PP),.slice BA (Pln.buks ⟨H,mi,bu,ch,wi,n⟩).length bc,H8 ra,H8 O,H8 sh,.slice (some (aq bp 0)) n cp,.slice (some (aq bm 0)) n cm,.slice (some (aq G 0)) n n,.slice (some (aq Z 0)) 1 1,.slice IA J.length ic,H8 0,H8 0,H9] 169)) ((ar U.heap.size)) (bt q p) ?_;obtain ⟨V,hv⟩:∃V,U.alloc (Obj.cells #[H8 (x:Nat),H8 (H:Nat),H8 (mi:Nat),(ar F),.slice E N ce,(ar S),(ar PP),.slice BA (Pln.buks ⟨H,mi,bu,ch,wi,n⟩).length bc,H8 ra,H8 O,H8 sh,.slice (some (aq bp 0)) n cp,.slice (some (aq bm 0)) n cm,.slice (some (aq G 0)) n n,.slice (some (aq Z 0)) 1 1,.slice IA J.length ic,H8 0,H8 0,H9] 169)=V:=⟨_,rfl⟩;rw [hv] at gB p ⊢;clear hv;refine HA.t ?_ [33] (bt q p) ?_;refine HA.d ?_
  try simp only [Exit.then]
  (try have:=u.size);(try have:=B.size);(try have:=F1 I);(try have:G<U.heap.size:=(et oG _ rfl).2);have:=y.size
  obtain ⟨bb,hb⟩:∃b,U.heap.size=b:=⟨_,rfl⟩;rw [hb] at gB ⊢;have z8:=bt q p;have z6:=bt K8.o z8;have zz:=bt K6.o z6;have z0:=bt y p;have z9:=bt a0 z0;have bd:=bt u p;have cs:=bt B p;have mF:∀k∈[bb,bp,bm,G,Z],k<w.heap.size\/w4.heap.size<=k:=by apply ms5<;>omega
  have mP:∀k∈[bb,bp,bm,G,Z],k<w4.heap.size\/w6.heap.size<=k:=by apply ms5<;>omega
  have mE:∀k∈[bb,bp,bm,G,Z],k<W8.heap.size\/w9.heap.size<=k:=by apply ms5<;>omega
  have mB:∀k∈[bb,bp,bm,G,Z],k<w9.heap.size\/x9.heap.size<=k:=by apply ms5<;>omega
  have mI:∀k∈[bb,bp,bm,G,Z],k<ax\/a1.heap.size<=k:=by apply ms5<;>omega
  have mS:∀k∈[bb,bp,bm,G,Z],k<a2\/Y.heap.size<=k:=by apply ms5<;>omega
  have lS:w.heap.size<=a2/\w.heap.size<=ax/\w.heap.size<=W8.heap.size/\w.heap.size<=w9.heap.size:=ao;have l1:w.heap.size<=bb/\w.heap.size<=bp/\w.heap.size<=bm/\w.heap.size<=G/\w.heap.size<=Z:=ao;have l6:bp≠G/\bm≠G:=ao;have fin:=bA.o V bb ⟨F,E,ce,S,PP,BA,bc,bp,cp,bm,cm,G,n,Z,1,IA,ic,H9⟩ ⟨gB,⟨_,w4,F3 _,aP.o,zz,mF⟩,⟨_,w4,F3 _,HS.o,zz,mF⟩,⟨_,w6,cv,aM.o,z6,mP⟩,⟨W8.heap.size,w9,lS.2.2.1,hE,z9,mE⟩,⟨w9.heap.size,x9,lS.2.2.2,Rd.own (dI ak (F3 _)),z0,mB⟩,⟨ax,a1,lS.2.1,Rd.own (dI oS (F3 _)),cs,mI⟩,⟨A1,c1,A2,c2,bX,c8,sb I _ p,⟨a2,Y,lS.1,Rd.own (dI o1 (F3 _)),bd,mS⟩,⟨a2,Y,lS.1,Rd.own (dI o2 (F3 _)),bd,mS⟩⟩,aG (aA OP.o z8) (Gc _),aG (aA OM.o z8) (Gc _),aG (aA oG p) (Gc _),l1,⟨cf.o,l6.1,l6.2⟩,rfl,rfl,bt Q4.o zz⟩;go_wp2_with fail;exact fin
theorem gH {i:Nat} {x o:N5} {p:List Nat} {Q:N5->Prop} {S:Nat->Prop} (h:Win i x p Q) (H:∀{u v},Q u->Ext u v->Q v) (hk:Keep (λk=>k<i) x o) (C:∀k,S k->k<i\/k∈p):Q (aW S o):=by
 obtain ⟨lo,u,I,A,y,B⟩:=h;refine H A (Ck (λk hB hl=>(hk.block k (Gf hl y.size) ao).trans (y.block k hl)) λk hB hl D=>?_);rcases C k D with h | h
 ·omega
 ·rcases B k h with h | h<;>omega
theorem yF {H:Nat->Prop} {i:Inp} {x L:Nat} {A:N0} {c:Nat} {w N B:N5} {b:Nat} {a:MAd} (hr:FI i.cfg.sizes x L i.cfg.workers.toNat i.cfg.batch.toNat i.cfg.micros.toNat i.cfg.steps.toNat i.cfg.bucket.toNat i.cfg.chunk.toNat i.cfg.window.toNat i.cfg.cap.toNat i.data.length i.start.length A c i.cfg.shift i.cfg.rate i.cfg.mom i.data i.start i.draws (bq i x 0) w N b a) (hg:jT i.cfg) (hw:W64 i.start) (hl:i.start.length<=1048576) (hx:x<(au i).W) (hk:Keep (λk=>k<w.heap.size) N B) (hH:∀k,H k->k<w.heap.size):aH H B b i x a (eK i):=by
 have O:∀k,Mut b a k->k∈[b,a.bp,a.bm,a.bg,a.rb]:=by
  rintro k (rfl | rfl | rfl | rfl | rfl | h)
  ·simp
  ·simp
  ·simp
  ·simp
  ·simp
  ·rw [hr.ov] at h;exact absurd h (by simp [Value.ownBlock])
 have C:∀k,eJ H b a k->k<w.heap.size\/k∈[b,a.bp,a.bm,a.bg,a.rb]:=λk hk=>hk.elim (λh=>.inr (O k h)) λh=>.inl (hH k h);have a0:=hr.lo
 have I:∀k,k∈[b,a.bp,a.bm,a.bg,a.rb]->¬k<w.heap.size:=by
  intro k hk;simp only [List.mem_cons,List.not_mem_nil,or_false] at hk;rcases hk with rfl | rfl | rfl | rfl | rfl<;>omega
 have u:W64 (List.replicate i.start.length 0):=λk hk=>by
  rw [dh _ _ hk];simp
 have p:∀{v:Value} {e size n:Nat} {xs:N4},(∀k,v.ownBlock=some k->Mut b a k)->N.ownsRow 0 e size v n xs->B.ownsRow 0 e size v n xs:=λhv h=>hk.own h λk U Q=>I k (O k (hv k U)) Q;have D:∀{k:Nat} {o:Obj},Mut b a k->N.heap[k]?=some o->B.heap[k]?=some o:=λhm hb=>(hk.block _ (F1 hb) (I _ (O _ hm))).trans hb;obtain ⟨A1,c1,A2,c2,V,Z,gR,r1,r2⟩:=hr.re;have R:=D (.inr (.inr (.inr (.inr (.inl rfl))))) gR;have T:=hr.rc;have ew:((i.cfg.workers.toNat:Nat):Int)=i.cfg.workers:=by have:=hg.w;omega
 have em:((i.cfg.micros.toNat:Nat):Int)=i.cfg.micros:=by have:=hg.mi;omega
 have J:=D (.inl rfl) hr.blk;rw [ew,em] at J
 refine ⟨?_,gH hr.fo dB hk C,gH hr.ex (iW cQ) hk C,gH hr.sa fa hk C,⟨_,_,_,_,_,_,gH hr.pl fd hk C⟩,gH hr.bu a9 hk C,gH hr.it a9 hk C,?_,
  p (λk e=>by cases e;exact .inr (.inl rfl)) hr.oP,p (λk e=>by cases e;exact .inr (.inr (.inl rfl))) hr.oM,p (λk e=>by cases e;exact .inr (.inr (.inr (.inl rfl)))) hr.oG,?_,hr.dj,λk _ hm hh=>I k (O k hm) (hH k hh),
  ⟨rfl,hw⟩,⟨by simp [eK],u⟩,⟨by simp [eK],u⟩,?_,hx⟩
 ·have e0:bR i x (eK i)=0:=by simp [bR,eK]
  rw [e0,hr.ov];exact J
 ·refine ⟨[[.slice A1 i.start.length c1,.slice A2 i.start.length c2]],⟨rfl,.inr ⟨a.rb,1,_,by rw [T];first | done | rfl,Gc _,R,F3 _,by unfold maxLen;omega,by simp,rfl⟩⟩,rfl,by simp,?_⟩;intro j y Y
  cases j with
  | succ j=>simp [eK] at Y
  | zero=>
   simp [eK] at Y;subst Y;exact ⟨A1,c1,A2,c2,by simp [bH],⟨V,by dsimp only;omega,gH r1 a9 hk C,hw⟩,⟨by rw [GN];exact Z,by rw [GN];omega,gH r2 a9 hk C,u⟩⟩
 ·rw [hr.ov];exact Gj _ _ _ _
 ·show (0<(bq i x 0).length)\/_
  unfold bq;by_cases h:0<i.cfg.steps.toNat
  ·rw [if_pos h];exact .inl (fZ _ _ _)
  ·exact .inr ⟨rfl,by show i.cfg.steps.toNat<=0;omega⟩
def FU (i:Inp) (x:Nat) (w:N5) (e:Ending) (h:N5):Prop:=∃b a,e=.returned (.tuple #[(ar b),H8 0])/\ap w h/\(∀k,Mut b a k->w.heap.size<=k)/\
 ∀(H:Nat->Prop) w'',Keep (λk=>k<w.heap.size) h w''->(∀k,H k->k<w.heap.size)->aH H w'' b i x a (eK i)
theorem yK (A:N0) (c:Nat) (D:N0) (C:Nat) (T:N0) (ct:Nat) (R:N0) (y:Nat) (i:Inp) (x:Nat) (w:N5) (h:mM w A c D T ct R i) (v:bj i) (J:x<(au i).W):Calls prog 41 #[.agg (iU A c D C T ct R y i),H8 (x:Nat)] w (FU i x w):=by
 have o:=v.g.c;have ew:((i.cfg.workers.toNat:Nat):Int)=i.cfg.workers:=by have:=o.w;omega
 have eb:((i.cfg.batch.toNat:Nat):Int)=i.cfg.batch:=by have:=o.ba;have:=o.w;omega
 have em:((i.cfg.micros.toNat:Nat):Int)=i.cfg.micros:=by have:=o.mi;omega
 have es:((i.cfg.steps.toNat:Nat):Int)=i.cfg.steps:=by have:=o.st;omega
 have eu:((i.cfg.bucket.toNat:Nat):Int)=i.cfg.bucket:=by have:=o.bu;omega
 have ec:((i.cfg.chunk.toNat:Nat):Int)=i.cfg.chunk:=by have:=o.ch;omega
 have ei:((i.cfg.window.toNat:Nat):Int)=i.cfg.window:=by have:=o.wi;omega
 have ea:((i.cfg.cap.toNat:Nat):Int)=i.cfg.cap:=by have:=o.ca;omega
 have hv:iU A c D C T ct R y i=#[.slice A i.cfg.sizes.length c,H8 i.cfg.shift,H8 i.cfg.rate,H8 i.cfg.mom,H8 (i.cfg.workers.toNat:Nat),H8 (i.cfg.batch.toNat:Nat),H8 (i.cfg.micros.toNat:Nat),H8 (i.cfg.steps.toNat:Nat),H8 (i.cfg.bucket.toNat:Nat),H8 (i.cfg.chunk.toNat:Nat),H8 (i.cfg.window.toNat:Nat),H8 (i.cfg.cap.toNat:Nat),.slice D i.data.length C,.slice T i.start.length ct,.slice R i.draws.length y]:=by
  rw [ew,eb,em,es,eu,ec,ei,ea]
 have Q:gW A c i.cfg=#[.slice A i.cfg.sizes.length c,H8 i.cfg.shift,H8 i.cfg.rate,H8 i.cfg.mom,H8 (i.cfg.workers.toNat:Nat),H8 (i.cfg.batch.toNat:Nat),H8 (i.cfg.micros.toNat:Nat),H8 (i.cfg.steps.toNat:Nat),H8 (i.cfg.bucket.toNat:Nat),H8 (i.cfg.chunk.toNat:Nat),H8 (i.cfg.window.toNat:Nat),H8 (i.cfg.cap.toNat:Nat)]:=by
  rw [ew,eb,em,es,eu,ec,ei,ea]
 have I:=v.g.s;unfold cnt at I
 have V:FJ i.cfg.sizes i.cfg.sizes.length i.cfg.workers.toNat i.cfg.batch.toNat i.cfg.micros.toNat i.cfg.steps.toNat i.cfg.bucket.toNat i.cfg.chunk.toNat i.cfg.window.toNat i.cfg.cap.toNat i.start.length i.draws.length A c i.cfg.shift i.cfg.rate i.cfg.mom D C T ct R y i.data i.start i.draws w:=by
  constructor
  ·intro N Z p q;subst Z;have:=qu A c D C T ct R y i p (h.below q);rw [wV.2 v.g,hv] at this;exact this
  ·intro p q;refine (ny A i.cfg.sizes c p (h.c.hr.below q) h.c.hc h.c.hm).mono ?_;rintro e B ⟨hb,O⟩;rcases O with ⟨_,S,he,Y,_⟩ | ⟨L,_⟩
   ·exact ⟨S,he,jJ Y (xi q.size),hb⟩
   ·exact absurd o.z L
  ·intro N Z p q;subst Z;have gd:=v.g.d;have gb:=v.g.b;have g1:=o.w;have g2:=o.ba;have g3:=o.st;unfold mD at gd;refine (qU R i.draws y i.data.length i.cfg.batch.toNat i.cfg.steps.toNat p (h.r.below q) h.rl h.ru ao ao gb.2 ao gd).mono ?_;rintro e B ⟨S,he,Y,_,hb⟩;exact ⟨S,he,zQ Y (xi q.size),hb⟩
  ·intro F p hF;have:=gM F i.cfg.sizes p hF;rw [<-I] at this;exact this
  ·intro p q;have:=lV A c i.cfg p (h.c.below q);rw [jE.2 o,Q] at this;exact this
  ·exact h.d
  ·exact h.dl
  ·exact h.t.hr
  ·rfl
 rw [hv];refine yJ i.cfg.sizes x i.cfg.sizes.length _ _ _ _ _ _ _ _ i.data.length i.start.length i.draws.length A c _ _ _ D C T ct R y i.data i.start i.draws w _ V rfl J v.ok v.n1 (by have:=o.bu;omega) (by have:=o.wi;omega) (bq i x 0) ?_ ?_
 ·intro P p hP;unfold bq;by_cases U:0<i.cfg.steps.toNat
  ·rw [if_pos U];exact qc (au i) P x 0 i.cfg.steps.toNat _ _ _ _ _ _ p v.ok v.n1 J U hP
  ·rw [if_neg U];refine (qb (au i) P x 0 i.cfg.steps.toNat _ _ _ _ _ _ p J ao hP).mono ?_;rintro e B ⟨rfl,rfl⟩;exact ⟨_,rfl,Gj _ _ _ _,br _⟩
 ·intro p b a hr;refine ⟨b,a,rfl,hr.k,?_,λH B hk hH=>yF hr o h.t.hw h.tl J hk hH⟩;have u:=hr.lo;rintro k (rfl | rfl | rfl | rfl | rfl | hh)
  ·exact u.1
  ·exact u.2.1
  ·exact u.2.2.1
  ·exact u.2.2.2.1
  ·exact u.2.2.2.2
  ·rw [hr.ov] at hh;exact absurd hh (by simp [Value.ownBlock])
end Go.Proofs.YtindmkcnjlgomaaGreat
