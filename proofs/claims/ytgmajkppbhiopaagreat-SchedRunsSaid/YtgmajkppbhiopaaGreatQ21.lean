/- No condition. -/
import Derived.Test.YtgmajkppbhiopaaGreatQ15
set_option linter.unusedSimpArgs false
set_option linter.unusedVariables false
set_option maxRecDepth 100000
set_option maxHeartbeats 4000000
namespace Go.Proofs.YtgmajkppbhiopaaGreat
open Go.RowKit
open Tryz
def eJ {σ:Type} (st:σ->Int->σ×Bool) (s:σ) (l:Qa):σ×Nat:=l.foldl (fun p z=>((st p.1 z).1,p.2+if (st p.1 z).2 then 1 else 0)) (s,0)
theorem iE {σ:Type} (st:σ->Int->σ×Bool) (s:σ) (l:Qa) (z:Int):eJ st s (l++[z])=((st (eJ st s l).1 z).1,(eJ st s l).2+if (st (eJ st s l).1 z).2 then 1 else 0):=by
 unfold eJ;rw [List.foldl_append];rfl
theorem mg {σ:Type} (st:σ->Int->σ×Bool) (s:σ) (l:Qa):∀k,(eJ st s (l.take k)).2<=k
 | 0=>by simp [eJ]
 | k+1=>by
  have i:=mg st s l k;rw [List.take_add_one]
  cases h:l[k]? with
  | none=>simp;omega
  | some z=>
   rw [Option.toList_some,iE];dsimp only
   split<;>omega
theorem pL {σ:Type} {st:σ->Int->σ×Bool} {I:Qd->σ->Prop} {X:Value} {A:N_} {c:Nat} {l:Qa} {s:σ} {w:Qd} (hl:l.length<=1000000) (hA:∀w s,I w s->Rd w A (aA .i64 l)) (R:∀w s z,I w s->z∈l->Calls prog 15 #[X,OH z] w fun e J=>e=.returned (.bool (st s z).2)/\I J (st s z).1) (Q:I w s):Calls prog 19 #[X,.slice A l.length c] w fun e J=>e=.returned (OH ((eJ st s l).2:Nat))/\I J (eJ st s l).1:=by
 obtain ⟨n,hn⟩:∃n,l.length=n:=⟨_,rfl⟩;rw [hn] at hl ⊢;obtain ⟨HA,HP,V,T⟩:=ag hA R Q hn;clear hA R Q hn;go_enter func19,ntmps19;go_wp2_with fail
 go_loopw [5,10] (fun v i wr=>∃k:Nat,k<=n/\i=OH k/\v=OH ((eJ st s (l.take k)).2:Nat)/\I wr (eJ st s (l.take k)).1) (fun _ i _=>n-(intOf i).toNat)
 ·exact ⟨0,NJ _,rfl,rfl,V.o⟩
 case round=>
  obtain ⟨k,hk,rfl,rfl,u⟩:=hrel;by_cases H:k<n
  ·have h:k<l.length:=by rw [T.o];exact H
   obtain ⟨b,o,rfl,p⟩:=(HA.o _ _ u).num h;have Z:(k:Int)<n:=ap;have N:=mg st s l k;obtain ⟨M,B⟩:∃M,eJ st s (l.take k)=M:=⟨_,rfl⟩
   have y:eJ st s (l.take (k+1))=((st M.1 (nth l k)).1,M.2+if (st M.1 (nth l k)).2 then 1 else 0):=by
    rw [List.take_add_one,Of h,Option.toList_some,iE,B,dd _ _ h]
   rw [B] at u N ⊢;have hc:=HP.o _ _ (nth l k) u (by rw [dd _ _ h];exact List.getElem_mem h);obtain ⟨Y,C,HM⟩:=af hc y B;clear u hc y B h;have w1:IntKind.i64.wrap ((M.2:Int)+1)=(M.2:Int)+1:=NK _ ap;go_wp2_with fail;refine Y.o.mono ?_;rintro e w5 ⟨rfl,x⟩;have D:=aa x;clear x p
   cases hb:(st M.1 (nth l k)).2 with
   | true=>
    have L:=aa hb;clear hb;go_wp2_with fail;go_roundw
    ·exact ⟨k+1,by omega,by go_num,by rw [C.o,L.o];simp,by rw [C.o];exact D.o⟩
    ·simp [intOf];omega
   | false=>
    have L:=aa hb;clear hb;go_wp2_with fail;go_roundw
    ·exact ⟨k+1,by omega,by go_num,by rw [C.o,L.o];simp,by rw [C.o];exact D.o⟩
    ·simp [intOf];omega
  ·obtain rfl:k=n:=ap;have D:=aa u;clear u;have O:l.take k=l:=by rw [<-T.o,Oq]
   have U:=aa O;clear O;go_wp2_with fail;go_ret;exact ⟨by rw [U.o];rfl,by rw [<-U.o];exact D.o⟩
section
variable {P:Program} {ops:Qh} {Q:Exit->Qi->Qd->Prop} {S:Qd->Prop} {n:Nat}
theorem XAS.c {L:List Nat} {a:Qi} {w:Qd} {i:Nat} {f:FuncId} {args:Qb} {R:Ending->Qd->Prop} {o:Oper} (hc:Calls P f args w R) (k:∀e p,R e p->∃v,e=.returned v/\S p/\(S p->XA P ops Q S n (i::L) (a.put o.dst v) p)) (u:ops[i]?=some o:=by (simp only [N8,N9,Oa];rfl)) (hw:Region.wanted o (yielded ops a.tmps)=true:=by rfl) (he:(execOp a.eval o).run P w=.ok (.enter f args) w:=by go_simp):XAS P ops Q S n i L a w:=by
 refine ⟨o,u,fun B A=>?_⟩;rw [if_pos hw];unfold Oper.wp;rw [he];refine hc.mono fun e p y=>?_;obtain ⟨v,rfl,x,h⟩:=k e p y;exact A.out _ _ x h
end
def JX {σ:Type} (J:Qd->Qb->σ->Prop) (S:Nat->Prop) (s:σ) (k:Nat) (w:Qd) (e:Ending) (i:Qd):Prop:=
 ∃h:Qb,e=.returned (.tuple #[.agg h,OH (k:Nat)])/\h.size=3/\h.toList.all (·.oneCell')=true/\J (aF S i) h s/\aq w i
theorem sx {σ:Type} {st:σ->Int->σ×Bool} {J:Qd->Qb->σ->Prop} {S:Nat->Prop} {A:N_} {c:Nat} {l:Qa} {s:σ} {w:Qd} {vs:Qb} (hS:∀k,S k->k<w.heap.size) (hl:l.length<=1000000) (hA:Rd w A (aA .i64 l)) (hJ:∀u v vs s,J u vs s->Ext u v->J v vs s) (hp:∀(S:Nat->Prop) w vs s z,(∀k,S k->k<w.heap.size)->J (aF S w) vs s->z∈l->Calls prog 16 #[.agg vs,OH z] w (JV J S (st s z).1 (st s z).2 w)) (h0:J (aF S w) vs s) (hz:vs.size=3) (ho:vs.toList.all (·.oneCell')=true):Calls prog 20 #[.agg vs,.slice A l.length c] w (JX J S (eJ st s l).1 (eJ st s l).2 w):=by
 obtain ⟨n,hn⟩:∃n,l.length=n:=⟨_,rfl⟩;rw [hn] at hl ⊢;obtain ⟨W0,B⟩:∃W0,(w.alloc (.cells vs 39)).alloc (.cells #[OJ,OJ,OH 0] 39)=W0:=⟨_,rfl⟩;have g0:W0.heap[w.heap.size]?=some (.cells vs 39 (0,0)):=by rw [<-B];exact sb (NG w _) _ ((br _).alloc (NF _) _)
 have g1:W0.heap[w.heap.size+1]?=some (.cells #[OJ,OJ,OH 0] 39 (0,0)):=by rw [<-B];have:=NG (w.alloc (.cells vs 39)) (.cells #[OJ,OJ,OH 0] 39);rwa [NZ] at this
 have q0:aq w W0:=by rw [<-B];exact ((br w).alloc (NF _) _).alloc (by rw [NZ];omega) _
 have a1:W0.heap.size=w.heap.size+2:=by rw [<-B];simp
 have j0:J (aF (fun k=>S k\/k=w.heap.size\/k=w.heap.size+1) W0) vs s:=hJ _ _ _ _ h0 (aX (Keep.below q0) fun k hk e=>e.elim id fun e=>ap);obtain ⟨ad,HP,HJ,Hn,ao,G0,G1,Q0⟩:=ak hA hp hJ hn B g0 g1 q0;obtain ⟨J0,HZ,HO,HS,a7⟩:=ah j0 hz ho hS a1;clear hA hp hJ h0 hn B g0 g1 q0 j0 hz ho hS a1;go_enter func20,ntmps20;go_wp2_with fail;rw [ao.o]
 go_loopw [6,7] (fun v i wr=>∃k:Nat,k<=n/\i=OH k/\v=OH ((eJ st s (l.take k)).2:Nat)/\∃x,wr.heap[w.heap.size]?=some (.cells x 39 (0,0))/\wr.heap[w.heap.size+1]?=some (.cells #[OJ,OJ,OH 0] 39 (0,0))/\x.size=3/\x.toList.all (·.oneCell')=true/\J (aF (fun k=>S k\/k=w.heap.size\/k=w.heap.size+1) wr) x (eJ st s (l.take k)).1/\aq w wr/\w.heap.size+2<=wr.heap.size) (fun _ i _=>n-(intOf i).toNat)
 ·exact ⟨0,NJ _,rfl,rfl,vs,G0.o,G1.o,HZ.o,HO.o,J0.o,Q0.o,by rw [a7.o];omega⟩
 case round=>
  obtain ⟨k,hk,rfl,rfl,x,gx,gy,zz,oo,jj,qq,ss⟩:=hrel;obtain ⟨GX,GY,ZZ,OO,JJ,QQ⟩:=ai gx gy zz oo jj qq;clear gx gy zz oo jj qq;by_cases a8:k<n
  ·have O:k<l.length:=by rw [Hn.o];exact a8
   obtain ⟨b,o,rfl,p⟩:=(ad.o.below QQ.o).num O;have aG:(k:Int)<n:=ap;have aM:0<=(k:Int):=ap;have a9:=mg st s l k;obtain ⟨M,hM⟩:∃M,eJ st s (l.take k)=M:=⟨_,rfl⟩
   have a4:eJ st s (l.take (k+1))=((st M.1 (nth l k)).1,M.2+if (st M.1 (nth l k)).2 then 1 else 0):=by
    rw [List.take_add_one,Of O,Option.toList_some,iE,hM,dd _ _ O]
   rw [hM] at JJ a9 ⊢;have Z:nth l k∈l:=by rw [dd _ _ O];exact List.getElem_mem O
   obtain ⟨HX,HM,T⟩:=af a4 hM Z;have p':=fun w' (q:aq wr w')=>(World.cell?_of_block (q.block b (aB p))).trans p;have P':=aa p';clear a4 hM Z p p';go_upto_region 5 with (fail)
   go_cut [8,9] (fun v u wx=>∃N h,v=(au N)/\u=.bool (st M.1 (nth l k)).2/\wx.heap[N]?=some (.cells h 39 (0,0))/\wr.heap.size<=N/\h.size=3/\h.toList.all (·.oneCell')=true/\J (aF (fun k=>S k\/k=w.heap.size\/k=w.heap.size+1) wx) h (st M.1 (nth l k)).1/\aq wr wx)
   case first=>
    have p':=P'.o;have s0:=(br wr).drew;have j1:=HJ.o _ _ _ _ JJ.o (aX (S':=(fun k=>S k\/k=w.heap.size\/k=w.heap.size+1)) ((Keep.refl (fun k=>S k\/k=w.heap.size\/k=w.heap.size+1) wr).drew) (fun _ _ e=>e));have tl:=fun w' (q:aq wr w')=>NQ (NE GX.o) q.size;refine XA.g 10 (fun w':Qd=>aq wr w') ?_;refine XA.ld 0 x (fun w' q=>sb GX.o w' q) (by rw [ZZ.o];exact bE) s0 ?_ (hcs:=by rw [Oc,Oq]);refine XA.t ?_ [1,2,3,4] s0 ?_
    have Q:∀k,(fun k=>S k\/k=w.heap.size\/k=w.heap.size+1) k->k<wr.heap.size:=fun k e=>by
     rcases e with e | e | e
     ·have:=HS.o k e;omega
     ·omega
     ·omega
    refine XA.two 5 9 ?_ ?_
    ·refine XAS.c (HP.o (fun k=>S k\/k=w.heap.size\/k=w.heap.size+1) wr.drew x M.1 (nth l k) Q j1 T.o) ?_;rintro e V ⟨h,rfl,z2,Y,j2,k6⟩;have y:=bt s0 k6;refine ⟨_,rfl,y,fun _=>?_⟩;refine XA.t ?_ [6,7] y ?_;refine XA.t0 ?_ [8] y ?_;refine XA.v 9 (V.alloc (.cells #[OJ,OJ,OH 0] 39)) ((au V.heap.size)) (y.alloc y.size _) ?_;refine XA.e ?_;simp only [Ob,Oc];obtain ⟨GN,S6,J2,C,R⟩:=ah (NG V (.cells #[OJ,OJ,OH 0] 39)) y j2 z2 Y;clear j2 z2 Y y k6 p' s0 j1 tl Q;go_wp2_with (refine aH (b:=V.heap.size) GN.o bE rfl rfl rfl rfl C.o (by rw [C.o];rfl) R.o ?_;intro w7 H I;obtain ⟨U,D⟩:=ae H I;clear H I);go_meet;have a6:aq V w7:=((br V).alloc (NF _) _).trans (D.o.toBelow (by rw [NZ];omega) (fun j e=>ap));exact ⟨V.heap.size,h,rfl,rfl,U.o,S6.o.size,C.o,R.o,HJ.o _ _ _ _ J2.o (dm a6),S6.o.trans (a6.mono S6.o.size)⟩
    ·refine XAS.v (wr.drew.alloc (.cells #[OJ,OJ,OH 0] 39)) ((au wr.drew.heap.size)) (s0.alloc (NF _) _) ?_;have s5:aq wr (wr.drew.alloc (.cells #[OJ,OJ,OH 0] 39)):=s0.alloc (NF _) _;have gN:=NG wr.drew (.cells #[OJ,OJ,OH 0] 39);have a3:(wr.drew.alloc (.cells #[OJ,OJ,OH 0] 39)).heap.size=wr.heap.size+1:=by simp
     have j5:=HJ.o _ _ _ _ j1 (aX (S':=fun k=>(fun k=>S k\/k=w.heap.size\/k=w.heap.size+1) k\/k=wr.heap.size) (Keep.below ((br wr.drew).alloc (NF _) (.cells #[OJ,OJ,OH 0] 39))) (fun k hk e=>e.elim id (fun e=>absurd hk (by rw [Ot];omega))))
     refine XA.c 5 (HP.o (fun k=>(fun k=>S k\/k=w.heap.size\/k=w.heap.size+1) k\/k=wr.heap.size) _ x M.1 (nth l k) (fun k e=>by
      rw [a3];rcases e with e | e
      ·have:=Q k e;omega
      ·omega) j5 T.o) ?_
     rintro e V ⟨h,rfl,z2,Y,j2,k6⟩;have y:=bt s5 k6;refine ⟨_,rfl,y,fun _=>?_⟩;refine XA.t ?_ [6,7] y ?_;refine XA.t0 ?_ [8] y ?_;refine XA.e ?_;simp only [Ob,Oc];obtain ⟨GN,S6,J2,C,R⟩:=ah (sb gN _ k6) y j2 z2 Y;clear j2 z2 Y y k6 p' s0 j1 tl Q s5 gN a3 j5;go_wp2_with (refine aH (b:=wr.heap.size) GN.o bE rfl rfl rfl rfl C.o (by rw [C.o];rfl) R.o ?_;intro w7 H I;obtain ⟨U,D⟩:=ae H I;clear H I);go_meet;exact ⟨wr.heap.size,h,rfl,rfl,U.o,NF _,C.o,R.o,HJ.o _ _ _ _ J2.o (aX (D.o.mono fun k _ e=>.inr e) (fun k _ e=>.inl e)),S6.o.trans (D.o.toBelow S6.o.size (fun j e=>ap))⟩
   case rest=>
    obtain ⟨N,h,rfl,rfl,gN,lN,z2,Y,j2,kc⟩:=hcut;obtain ⟨GN,C,R,J2,KC,ab,a0⟩:=aj gN z2 Y j2 kc (sb GX.o wc kc) (sb GY.o wc kc);have L:(h.toList.drop 0).take h.toList.length=h.toList:=by rw [Oc,Oq]
    have EM:=aa L;clear gN z2 Y j2 kc L;have w1:IntKind.i64.wrap ((M.2:Int)+1)=(M.2:Int)+1:=NK _ ap;have w2:IntKind.i64.wrap ((k:Int)+1)=(k:Int)+1:=NK _ ap;go_upto_region 7 with (first | (refine aK h GN.o (by rw [C.o];exact bE) rfl rfl rfl EM.o ?_) | (refine aH (b:=w.heap.size) ab.o bE rfl rfl rfl rfl C.o (by rw [C.o,ZZ.o]) R.o ?_;intro w7 H I;obtain ⟨U,D⟩:=ae H I;clear H I));have a2:=aa ((D.o.block _ (NE a0.o) ap).trans a0.o);have qc:=QQ.o.trans (KC.o.mono (by have:=QQ.o.size;omega));have Q7:=aa (qc.trans (D.o.toBelow qc.size (fun j e=>ap)));have J7:=aa (HJ.o _ _ _ _ J2.o (aX (S':=(fun k=>S k\/k=w.heap.size\/k=w.heap.size+1)) (D.o.mono fun k _ e=>.inr (.inl e)) (fun _ _ e=>e)));have a5:w.heap.size+2<=w7.heap.size:=by have:=KC.o.size;have:=D.o.size;omega
    clear qc
    cases hb:(st M.1 (nth l k)).2 with
    | true=>
     have HB:=aa hb;clear hb;go_wp2_with fail;go_roundw
     ·exact ⟨k+1,by omega,by go_num,by rw [HX.o,HB.o];simp,h,U.o,a2.o,C.o,R.o,by rw [HX.o];exact J7.o,Q7.o,a5⟩
     ·simp [intOf];omega
    | false=>
     have HB:=aa hb;clear hb;go_wp2_with fail;go_roundw
     ·exact ⟨k+1,by omega,by go_num,by rw [HX.o,HB.o];simp,h,U.o,a2.o,C.o,R.o,by rw [HX.o];exact J7.o,Q7.o,a5⟩
     ·simp [intOf];omega
  ·obtain rfl:k=n:=ap;have ht:l.take k=l:=by rw [<-Hn.o,Oq]
   have HT:=aa ht;have L:(x.toList.drop 0).take x.toList.length=x.toList:=by rw [Oc,Oq]
   have EM:=aa L;have av:¬((k:Int)<k):=ap;clear ht L;go_wp2_with (first | (refine aK x GX.o (by rw [ZZ.o];exact bE) rfl rfl rfl EM.o ?_) | (refine aH (b:=w.heap.size+1) GY.o bE rfl rfl rfl rfl ZZ.o (by rw [ZZ.o];rfl) OO.o ?_;intro w7 H I;obtain ⟨U,D⟩:=ae H I;clear H I))
   try simp only [Exit.inBlock,Exit.then]
   refine NX (dg rfl rfl U.o (by rw [ZZ.o];exact bE)) rfl ?_;refine ⟨x,by rw [HT.o];rfl,ZZ.o,OO.o,?_,QQ.o.trans (D.o.toBelow QQ.o.size (fun j e=>ap))⟩;have:=JJ.o;rw [HT.o] at this;exact HJ.o _ _ _ _ this (aX (D.o.mono fun k _ e=>.inr (.inr e)) (fun _ _ e=>.inl e))
theorem Gr {S:Nat->Prop} {w:Qd} {vs:Qb} {i:Inp} {M:WSt} (hs:cq i) (v:∀k,S k->k<w.heap.size) (h:RWm (aF S w) vs i M) {A:N_} {c:Nat} {l:Qa} (hl:l.length<=1000000) (hA:Rd w A (aA .i64 l)):Calls prog 20 #[.agg vs,.slice A l.length c] w (JX (fun u vs M=>RWm u vs i M) S (jL i M l).1 (jL i M l).2 w):=
 sx (st:=pkZ i) v hl hA (fun _ _ _ _ h e=>h.ext e) (fun _ _ _ _ z o p _=>At hs o p z) h h.sz.1 h.sz.2
theorem Lk {u v:Qd} {b:Nat} {c:Qc} {e:Qf} {y:Value} (h:u.heap[b]?=some (.cells (y::c).toArray e (0,0))) (p:Ext u v):v.heap[b]?=some (.cells (y::c).toArray e (0,0)):=by
 rcases p _ (NE h) with o | o
 ·rw [o] at h;simp at h
 ·rw [o];exact h
section
variable {P:Qd->Prop} {E:Nat->Prop} {i:Inp} {V w w':Qd} {X:Nat} {M:WSt}
theorem fx.pick (h:fx P E i V X M w) (hP:mT P) (hs:cq i) (o: -9223372036854775808<=i.cfg.rate/\i.cfg.rate<=9223372036854775807) (p: -9223372036854775808<=i.cfg.mom/\i.cfg.mom<=9223372036854775807) (z:Int):Calls prog 15 #[(au X),OH z] w fun e w'=>e=.returned (.bool (pkZ i M z).2)/\fx P E i V X (pkZ i M z).1 w':=by
 obtain ⟨⟨D,B,rfl,H,y,I⟩,x⟩:=h;refine (qu H hs o p z).mono ?_;rintro e w' ⟨he,J,A,L,u,v⟩;have N:=x.size;refine ⟨he,⟨J,B,A,L,fun j C=>(v j C).elim (y j) fun h=>ap,hP _ _ (aX (u.mono fun k _ e=>.inl e) fun k hk e=>e.imp (fun e=>(v k e).elim id fun e=>absurd hk ap) id) I⟩,?_⟩;exact fj x u fun k hk e=>absurd (y k e) ap
theorem fx.run (h:fx P E i V X M w) (hP:mT P) (hs:cq i) (B: -9223372036854775808<=i.cfg.rate/\i.cfg.rate<=9223372036854775807) (y: -9223372036854775808<=i.cfg.mom/\i.cfg.mom<=9223372036854775807) {A:N_} {c:Nat} {l:Qa} (hl:l.length<=1000000) (hA:mT fun u=>Rd u A (aA .i64 l)) (v:∀w,P w->Rd w A (aA .i64 l)):Calls prog 19 #[(au X),.slice A l.length c] w fun e w'=>e=.returned (OH ((jL i M l).2:Nat))/\fx P E i V X (jL i M l).1 w':=by
 refine (pL (I:=fun w' x=>fx P E i V X x w') (st:=pkZ i) hl (fun w' x o=>v w' (o.p hP)) (fun w' x z o _=>o.pick hP hs B y z) h).mono ?_;rintro e w' ⟨he,o⟩;exact ⟨he,o⟩
end
end Go.Proofs.YtgmajkppbhiopaaGreat
namespace Go.Proofs.YtgmajkppbhiopaaGreat
open Go.RowKit Go.ChangeShapes Go.WideShapes Go.ChangeAt
open Tryz
def xy (h:N_) (o:Qa) (Y:Nat) (vs:Qb) (i:Inp) (M0:WSt) (u:Qd):Prop:=Rd u h (aA .i64 o)/\u.heap[Y]?=some (.cells vs 39 (0,0))/\RWm u vs i M0
theorem xy.stab {p:N_} {B:Qa} {Y:Nat} {vs:Qb} {i:Inp} {M0:WSt}:mT (xy p B Y vs i M0):=by
 rintro u D he ⟨h1,x,h⟩;refine ⟨aQ h1 he,?_,h.ext he⟩;obtain ⟨⟨mv,C,⟨⟨A,cm,o,v,rfl, -⟩, -, -⟩, -, -⟩, -⟩:=h;exact Lk (y:=.slice A (az i).W cm) (c:=[.slice o (az i).W v,OH (M0.sum i:Nat)]) x he
theorem tZ {H:Type} {c8:Qf×Value->H} {base:Nat} {v0 v1:Value} {d0 d1:DataW H} {p0 p1:List MemPlace} (W:Qd) (o0:Value.okWide prog W .any base 29 v0) (h0:DataW.Trod c8 prog W 0 (fun _=>true) true 29 v0 d0 p0) (z0:fH prog 29 d0) (o1:Value.okWide prog W .any base 22 v1) (h1:DataW.Trod c8 prog W 0 (fun _=>true) true 22 v1 d1 p1) (z1:fH prog 22 d1):Calls prog 4 #[v0,v1] W fun e x=>e=.returned (.bool true)/\aq W x:=by
 obtain ⟨A,c,D,Z,T,J,R,V,i,rfl,hI,_⟩:=sS o0 h0 z0;obtain ⟨B0,bl,b8,rfl,bw⟩:=sQ o1 h1 z1;clear o0 h0 z0 o1 h1 z1;have U:=fun x (q:aq W x)=>oQ A c D Z T J R V i x (hI.below q);have bV:=fun x (q:aq W x) (hs:ji i)=>(hI.below q).rd hs;have bo:=fun x (q:aq W x)=>bw.hr.below q;unfold qS at U;obtain ⟨W1,a2⟩:∃W1,W.alloc (.cells (aN A c D Z T J R V i) 29)=W1:=⟨_,rfl⟩;have hx:W1.heap[W.heap.size]?=some (.cells (aN A c D Z T J R V i) 29 (0,0)):=by rw [<-a2];exact NG W _
 have hB:aq W W1:=by rw [<-a2];exact (br W).alloc (NF _) _
 have tl:=sl hx;obtain ⟨a4,bN,bs,B,HB,co,Hx,b6⟩:=ak hx a2 U bV hB bo (fun x (q:aq W1 x)=>hB.trans (q.mono hB.size)) (fun x (q:aq W1 x)=>(gP x).mono fun e cw (h:_/\Below _ _ _)=>(⟨h.1,hB.trans ((q.trans (h.2.mono q.size)).mono hB.size)⟩:e=.returned (.bool true)/\aq W cw));obtain ⟨bn,L⟩:∃bn,bl.length=bn:=⟨_,rfl⟩;rw [L];have a1:=aa L;clear U bV hI hx hB a2 bo bw L;go_enter func4,ntmps4;go_wp2_with (refine aK (aN A c D Z T J R V i) (b:=W.heap.size) (by rw [bN.o];exact a4.o) dY rfl rfl rfl rfl ?_);rw [bN.o];have q1:=br W1;refine (bs.o W1 (Hx.o _ q1)).mono ?_;rintro e w2 ⟨⟨b,rfl,ab⟩,k2⟩;have q2:=bt q1 k2;clear q1 k2;rcases dI b with rfl | rfl
 ·clear ab;go_wp2_with fail;refine (b6.o _ q2).mono ?_;rintro e w3 ⟨rfl,h3⟩;go_wp2_with fail;go_ret;exact ⟨rfl,h3⟩
 obtain ⟨Hs,Q2⟩:=ae (ab rfl) q2;have bz:=aa (B.o w2 (Hx.o _ q2) Hs.o.1.1);clear ab q2;go_wp2_with (refine jn (aN A c D Z T J R V i) (sb a4.o _ Q2.o) dY rfl rfl rfl rfl ?_);refine (gD A c D Z T J R V i w2 bz.o).mono ?_;rintro e w3 ⟨rfl,k3⟩;have Q3:=aa (bt Q2.o k3);clear k3 bz;by_cases a5:dF i=0/\bn<=300;rotate_left
 ·obtain ⟨C,hC⟩:∃C,dF i=C:=⟨_,rfl⟩;rw [hC] at a5 ⊢;clear hC;by_cases h0:C=0
  ·subst h0;have b7:(300:Int)<bn:=ap;clear a5;go_wp2_with fail;refine (b6.o _ Q3.o).mono ?_;rintro e w4 ⟨rfl,h3⟩;go_wp2_with fail;go_ret;exact ⟨rfl,h3⟩
  ·clear a5;have cM:(C != 0)=true:=by rw [bne_iff_ne];exact h0
   go_wp2_with fail;refine (b6.o _ Q3.o).mono ?_;rintro e w4 ⟨rfl,h3⟩;go_wp2_with fail;go_ret;exact ⟨rfl,h3⟩
 obtain ⟨hc,b7⟩:=a5;have b9:=Hs.o.1.sm hc;rw [hc];have Q:=aa b9;have cy:¬(300:Int)<bn:=ap;have a0:=aa Hs.o.1.1;have cL:=aa (B.o w3 (Hx.o _ Q3.o) a0.o).ra;have cj:=aa (B.o w3 (Hx.o _ Q3.o) a0.o).rm;clear hc b9 Hs;go_wp2_with (refine aK (aN A c D Z T J R V i) (b:=W.heap.size) (sb a4.o _ Q3.o) dY rfl rfl rfl rfl ?_);have bM:=aa (B.o w3 (Hx.o _ Q3.o) a0.o);have v:=nr (E:=fun _=>False) A c D Z T J R V i w3 bM.o Q.o (fun _ e=>e.elim);refine v.mono ?_;rintro e w4 hn;obtain ⟨X,rfl,J4,hX,k4⟩:=hn.winP (P:=fun u=>fY u A c D T J R i/\Rd u B0 (aA .i64 bl)) (fun S hS=>⟨eg bM.o (mK hn.q fun k e=>(hS k e).elim id False.elim),aQ (co.o _ (Hx.o _ Q3.o)) (mK hn.q fun k e=>(hS k e).elim id False.elim)⟩);obtain ⟨cb,Q4⟩:=ae J4 (bt Q3.o k4);clear J4 hn v k4;go_wp2_with (refine aK (aN A c D Z T J R V i) (b:=W.heap.size) (sb a4.o _ Q4.o) dY rfl rfl rfl rfl ?_);obtain ⟨S,ao,⟨ad,c7⟩,cl,a9⟩:=cb.o.ref;have v:=Gs (S:=S) A c D Z T J R V i ao (B.o w4 (Hx.o _ Q4.o) a0.o) (fun x q=>eg ad (dm q)) Q.o;obtain ⟨bX,cf,bd,a6⟩:=ag ao ad c7 a9;clear ao ad c7 cl a9;refine v.mono ?_;rintro e w5 ⟨vs,rfl,hz,ho,hm,k5⟩;obtain ⟨Hz,Ho,HM,K5,Q5⟩:=ah hz ho hm k5 (bt Q4.o k5);clear v hz ho hm k5;go_upto_region 5 with (refine aH (NG _ _) bE rfl rfl rfl rfl Hz.o (by rw [Hz.o];rfl) Ho.o ?_;intro w6 e6 k6;obtain ⟨E6,K6⟩:=ae e6 (aL k6);clear e6 k6);have Q6:=aa (bt Q5.o K6.o);obtain ⟨Y,hY⟩:∃Y,w5.heap.size=Y:=⟨_,rfl⟩;have b1:aq w4 w6:=bt K5.o K6.o
 have be:(aF S w6).heap[Y]?=some (.cells vs 39 (0,0)):=by
  rw [gt (fun e=>by have:=bX.o Y e;have:=K5.o.size;omega),<-hY];exact E6.o
 have J6:=a6.o (xy B0 bl Y vs i (gW i)) w6 b1 ⟨aQ bd.o (dm b1),be,HM.o.ext (dm K6.o)⟩;have y:=aa (J6.run xy.stab Q.o cL.o cj.o (A:=B0) (c:=b8) (l:=bl) (by rw [a1.o];omega) (fun u u' he hr=>aQ hr he) (fun u hu=>hu.1));rw [a1.o] at y;rw [hY];obtain ⟨M0,aG⟩:∃M0,(jL i (gW i) bl).1=M0:=⟨_,rfl⟩;obtain ⟨n0,aP⟩:∃n0,(jL i (gW i) bl).2=n0:=⟨_,rfl⟩;rw [aG,aP] at y;obtain ⟨cv,cx⟩:=ae aG aP;clear HM K5 K6 bX cf bd a6 cb b1 be J6 E6 Q6 Q5 hY aG aP;go_wp2_with fail;refine y.o.mono ?_;rintro e w7 ⟨rfl,j7⟩;have ci:=aa j7;have aM:=j7.p xy.stab;have E7:=aa aM.2.1;obtain ⟨S2,b2,b5, -,O⟩:=j7.ref;have I:=Gr (S:=S2) (w:=w7) (A:=B0) (c:=b8) (l:=bl) Q.o b2 b5.2.2 (by rw [a1.o];omega) aM.1;rw [a1.o,cv.o,cx.o] at I;obtain ⟨a8,bf,bh,N⟩:=ag I b2 b5.1 O;clear j7 aM b5 O I b2 y;go_wp2_with (refine aK vs (b:=Y) (o:=0) E7.o (by rw [Hz.o];exact bE) rfl rfl rfl (by rw [Oc];exact Oq) ?_);refine a8.o.mono ?_;rintro e w8 ⟨b3,rfl,bI,bv,bi,k8⟩;obtain ⟨b0,cc,c6,K8⟩:=ag bI bv bi k8;clear a8 bI bv bi k8;go_upto_region 7 with (refine aH (NG _ _) bE rfl rfl rfl rfl b0.o (by rw [b0.o];rfl) cc.o ?_;intro w9 e9 k9;obtain ⟨E9,K9⟩:=ae e9 (aL k9);clear e9 k9);obtain ⟨Y2,b4⟩:∃Y2,w8.heap.size=Y2:=⟨_,rfl⟩;have av:aq w7 w9:=bt K8.o K9.o
 have bG:(aF S2 w9).heap[Y2]?=some (.cells b3 39 (0,0)):=by
  rw [gt (fun e=>by have:=bf.o Y2 e;have:=K8.o.size;omega),<-b4];exact E9.o
 have J9:=N.o (xy B0 bl Y2 b3 i M0) w9 av ⟨aQ bh.o (dm av),bG,c6.o.ext (dm K9.o)⟩;have bb:=aa J9;rw [b4];clear J9 b4 bG av N bh bf c6 K8 K9 E9 E7 ci;go_wp2_with fail;refine (gP _).mono ?_;rintro e cO ⟨rfl,bA⟩;have a3:=bb.o.below xy.stab bA;have hp:=a3.p xy.stab;obtain ⟨cA,aR,a7⟩:=af hp.2.1 (wh a3.win Q.o hp.2.2) a3;have cP:((n0:Int)==n0)=true:=by simp
 clear bA a3 hp bb;go_wp2_with (refine jn b3 (b:=Y2) (o:=0) cA.o (by rw [b0.o];exact bE) rfl rfl rfl (by rw [Oc];exact Oq) ?_);refine aR.o.mono ?_;rintro e cs ⟨rfl,bO⟩;have c9:aq w3 cs:=(a7.o.below xy.stab bO).q.toBelow (NF _) (fun _ e=>e.elim);have cn:=aa (bt Q3.o c9);clear c9 bO a7;go_wp2_with fail;go_ret;exact ⟨rfl,Hx.o _ cn.o⟩
end Go.Proofs.YtgmajkppbhiopaaGreat
