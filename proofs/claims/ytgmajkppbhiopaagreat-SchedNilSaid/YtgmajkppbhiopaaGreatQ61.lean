/- No condition. -/
import Derived.Test.YtgmajkppbhiopaaGreatQ15
set_option linter.unusedSimpArgs false
set_option linter.unusedVariables false
set_option maxRecDepth 100000
set_option maxHeartbeats 4000000
namespace Go.Proofs.YtgmajkppbhiopaaGreat
open Go.RowKit
open Tryz
theorem rE (z:Int) (w:Qd):Calls prog 47 #[.pointer none,OH z] w λe h=>e=.returned (.tuple #[.nilIface,.pointer none,.pointer none,.bool false])/\aq w h:=by
 go_enter func47,ntmps47;go_wp2_with fail
 (try simp only [Exit.inBlock,Exit.then]);refine NX (jo rfl _ _ _) rfl ?_
 exact ⟨rfl,br w⟩
def eJ {σ:Type} (st:σ->Int->σ×Bool) (s:σ) (l:Qa):σ×Nat:=l.foldl (λp z=>((st p.1 z).1,p.2+if (st p.1 z).2 then 1 else 0)) (s,0)
theorem iE {σ:Type} (st:σ->Int->σ×Bool) (s:σ) (l:Qa) (z:Int):eJ st s (l++[z])=((st (eJ st s l).1 z).1,(eJ st s l).2+if (st (eJ st s l).1 z).2 then 1 else 0):=by
 unfold eJ;rw [List.foldl_append];rfl
theorem mg {σ:Type} (st:σ->Int->σ×Bool) (s:σ) (l:Qa):∀k,(eJ st s (l.take k)).2<=k
 | 0=>by simp [eJ]
 | k+1=>by
  have i:=mg st s l k;rw [List.take_add_one]
  cases h:l[k]? with
  | none=>simp;omega
  | some z=>
   rw [Option.toList_some,iE];dsimp only
   split<;>omega
theorem pL {σ:Type} {st:σ->Int->σ×Bool} {I:Qd->σ->Prop} {X:Value} {A:N_} {c:Nat} {l:Qa} {s:σ} {w:Qd} (hl:l.length<=1000000) (hA:∀w s,I w s->Rd w A (aA .i64 l)) (R:∀w s z,I w s->z∈l->Calls prog 15 #[X,OH z] w λe J=>e=.returned (.bool (st s z).2)/\I J (st s z).1) (Q:I w s):Calls prog 19 #[X,.slice A l.length c] w λe J=>e=.returned (OH ((eJ st s l).2:Nat))/\I J (eJ st s l).1:=by
 obtain ⟨n,hn⟩:∃n,l.length=n:=⟨_,rfl⟩;rw [hn] at hl |-;obtain ⟨HA,HP,V,T⟩:=ag hA R Q hn;clear hA R Q hn;go_enter func19,ntmps19;go_wp2_with fail
 go_loopw [5,10] (λv i wr=>∃k:Nat,k<=n/\i=OH k/\v=OH ((eJ st s (l.take k)).2:Nat)/\I wr (eJ st s (l.take k)).1) (λ_ i _=>n-(intOf i).toNat)
 .exact ⟨0,NJ _,rfl,rfl,V.o⟩
 case round=>
  obtain ⟨k,hk,rfl,rfl,u⟩:=hrel;by_cases H:k<n
  .have h:k<l.length:=by rw [T.o];exact H
   obtain ⟨b,o,rfl,p⟩:=(HA.o _ _ u).num h;have Z:(k:Int)<n:=ap;have N:=mg st s l k;obtain ⟨M,B⟩:∃M,eJ st s (l.take k)=M:=⟨_,rfl⟩
   have y:eJ st s (l.take (k+1))=((st M.1 (nth l k)).1,M.2+if (st M.1 (nth l k)).2 then 1 else 0):=by
    rw [List.take_add_one,Of h,Option.toList_some,iE,B,dd _ _ h]
   rw [B] at u N |-;have hc:=HP.o _ _ (nth l k) u (by rw [dd _ _ h];exact List.getElem_mem h);obtain ⟨Y,C,HM⟩:=af hc y B;clear u hc y B h;have w1:IntKind.i64.wrap ((M.2:Int)+1)=(M.2:Int)+1:=NK _ ap;go_wp2_with fail;refine Y.o.mono ?_;rintro e w5 ⟨rfl,x⟩;have D:=aa x;clear x p
   cases hb:(st M.1 (nth l k)).2 with
   | true=>
    have L:=aa hb;clear hb;go_wp2_with fail;go_roundw
    .exact ⟨k+1,by omega,by go_num,by rw [C.o,L.o];simp,by rw [C.o];exact D.o⟩
    .simp [intOf];omega
   | false=>
    have L:=aa hb;clear hb;go_wp2_with fail;go_roundw
    .exact ⟨k+1,by omega,by go_num,by rw [C.o,L.o];simp,by rw [C.o];exact D.o⟩
    .simp [intOf];omega
  .obtain rfl:k=n:=ap;have D:=aa u;clear u;have O:l.take k=l:=by rw [<-T.o,Oq]
   have U:=aa O;clear O;go_wp2_with fail;go_ret;exact ⟨by rw [U.o];rfl,by rw [<-U.o];exact D.o⟩
section
variable {P:Program} {ops:Qh} {Q:Exit->Qi->Qd->Prop} {S:Qd->Prop} {n:Nat}
theorem XAS.c {L:List Nat} {a:Qi} {w:Qd} {i:Nat} {f:FuncId} {args:Qb} {R:Ending->Qd->Prop} {o:Oper} (hc:Calls P f args w R) (k:∀e p,R e p->∃v,e=.returned v/\S p/\(S p->XA P ops Q S n (i::L) (a.put o.dst v) p)) (u:ops[i]?=some o:=by (simp only [N8,N9,Oa];rfl)) (hw:Region.wanted o (yielded ops a.tmps)=true:=by rfl) (he:(execOp a.eval o).run P w=.ok (.enter f args) w:=by go_simp):XAS P ops Q S n i L a w:=by
 refine ⟨o,u,λB A=>?_⟩;rw [if_pos hw];unfold Oper.wp;rw [he];refine hc.mono λe p y=>?_;obtain ⟨v,rfl,x,h⟩:=k e p y;exact A.out _ _ x h
end
def JX {σ:Type} (J:Qd->Qb->σ->Prop) (S:Nat->Prop) (s:σ) (k:Nat) (w:Qd) (e:Ending) (i:Qd):Prop:=
 ∃h:Qb,e=.returned (.tuple #[.agg h,OH (k:Nat)])/\h.size=3/\h.toList.all (·.oneCell')=true/\J (aF S i) h s/\aq w i
theorem sx {σ:Type} {st:σ->Int->σ×Bool} {J:Qd->Qb->σ->Prop} {S:Nat->Prop} {A:N_} {c:Nat} {l:Qa} {s:σ} {w:Qd} {vs:Qb} (hS:∀k,S k->k<w.heap.size) (hl:l.length<=1000000) (hA:Rd w A (aA .i64 l)) (hJ:∀u v vs s,J u vs s->Ext u v->J v vs s) (hp:∀(S:Nat->Prop) w vs s z,(∀k,S k->k<w.heap.size)->J (aF S w) vs s->z∈l->Calls prog 16 #[.agg vs,OH z] w (JV J S (st s z).1 (st s z).2 w)) (h0:J (aF S w) vs s) (hz:vs.size=3) (ho:vs.toList.all (·.oneCell')=true):Calls prog 20 #[.agg vs,.slice A l.length c] w (JX J S (eJ st s l).1 (eJ st s l).2 w):=by
 obtain ⟨n,hn⟩:∃n,l.length=n:=⟨_,rfl⟩;rw [hn] at hl |-;obtain ⟨W0,B⟩:∃W0,(w.alloc (.cells vs 39)).alloc (.cells #[OJ,OJ,OH 0] 39)=W0:=⟨_,rfl⟩;have g0:W0.heap[w.heap.size]?=some (.cells vs 39 (0,0)):=by rw [<-B];exact sb (NG w _) _ ((br _).alloc (NF _) _)
 have g1:W0.heap[w.heap.size+1]?=some (.cells #[OJ,OJ,OH 0] 39 (0,0)):=by rw [<-B];have:=NG (w.alloc (.cells vs 39)) (.cells #[OJ,OJ,OH 0] 39);rwa [NZ] at this
 have q0:aq w W0:=by rw [<-B];exact ((br w).alloc (NF _) _).alloc (by rw [NZ];omega) _
 have a1:W0.heap.size=w.heap.size+2:=by rw [<-B];simp
 have j0:J (aF (λk=>S k\/k=w.heap.size\/k=w.heap.size+1) W0) vs s:=hJ _ _ _ _ h0 (aX (Keep.below q0) λk hk e=>e.elim id λe=>ap);obtain ⟨ad,HP,HJ,Hn,ao,G0,G1,Q0⟩:=ak hA hp hJ hn B g0 g1 q0;obtain ⟨J0,HZ,HO,HS,a7⟩:=ah j0 hz ho hS a1;clear hA hp hJ h0 hn B g0 g1 q0 j0 hz ho hS a1;go_enter func20,ntmps20;go_wp2_with fail;rw [ao.o]
 go_loopw [6,7] (λv i wr=>∃k:Nat,k<=n/\i=OH k/\v=OH ((eJ st s (l.take k)).2:Nat)/\∃x,wr.heap[w.heap.size]?=some (.cells x 39 (0,0))/\wr.heap[w.heap.size+1]?=some (.cells #[OJ,OJ,OH 0] 39 (0,0))/\x.size=3/\x.toList.all (·.oneCell')=true/\J (aF (λk=>S k\/k=w.heap.size\/k=w.heap.size+1) wr) x (eJ st s (l.take k)).1/\aq w wr/\w.heap.size+2<=wr.heap.size) (λ_ i _=>n-(intOf i).toNat)
 .exact ⟨0,NJ _,rfl,rfl,vs,G0.o,G1.o,HZ.o,HO.o,J0.o,Q0.o,by rw [a7.o];omega⟩
 case round=>
  obtain ⟨k,hk,rfl,rfl,x,gx,gy,zz,oo,jj,qq,ss⟩:=hrel;obtain ⟨GX,GY,ZZ,OO,JJ,QQ⟩:=ai gx gy zz oo jj qq;clear gx gy zz oo jj qq;by_cases a8:k<n
  .have O:k<l.length:=by rw [Hn.o];exact a8
   obtain ⟨b,o,rfl,p⟩:=(ad.o.below QQ.o).num O;have aG:(k:Int)<n:=ap;have aM:0<=(k:Int):=ap;have a9:=mg st s l k;obtain ⟨M,hM⟩:∃M,eJ st s (l.take k)=M:=⟨_,rfl⟩
   have a4:eJ st s (l.take (k+1))=((st M.1 (nth l k)).1,M.2+if (st M.1 (nth l k)).2 then 1 else 0):=by
    rw [List.take_add_one,Of O,Option.toList_some,iE,hM,dd _ _ O]
   rw [hM] at JJ a9 |-;have Z:nth l k∈l:=by rw [dd _ _ O];exact List.getElem_mem O
   obtain ⟨HX,HM,T⟩:=af a4 hM Z;have p':=λw' (q:aq wr w')=>(World.cell?_of_block (q.block b (aB p))).trans p;have P':=aa p';clear a4 hM Z p p';go_upto_region 5 with (fail)
   go_cut [8,9] (λv u wx=>∃N h,v=(au N)/\u=.bool (st M.1 (nth l k)).2/\wx.heap[N]?=some (.cells h 39 (0,0))/\wr.heap.size<=N/\h.size=3/\h.toList.all (·.oneCell')=true/\J (aF (λk=>S k\/k=w.heap.size\/k=w.heap.size+1) wx) h (st M.1 (nth l k)).1/\aq wr wx)
   case first=>
    have p':=P'.o;have s0:=(br wr).drew;have j1:=HJ.o _ _ _ _ JJ.o (aX (S':=(λk=>S k\/k=w.heap.size\/k=w.heap.size+1)) ((Keep.refl (λk=>S k\/k=w.heap.size\/k=w.heap.size+1) wr).drew) (λ_ _ e=>e));have tl:=λw' (q:aq wr w')=>NQ (NE GX.o) q.size;refine XA.g 10 (λw':Qd=>aq wr w') ?_;refine XA.ld 0 x (λw' q=>sb GX.o w' q) (by rw [ZZ.o];exact bE) s0 ?_ (hcs:=by rw [Oc,Oq]);refine XA.t ?_ [1,2,3,4] s0 ?_
    have Q:∀k,(λk=>S k\/k=w.heap.size\/k=w.heap.size+1) k->k<wr.heap.size:=λk e=>by
     rcases e with e | e | e
     .have:=HS.o k e;omega
     .omega
     .omega
    refine XA.two 5 9 ?_ ?_
    .refine XAS.c (HP.o (λk=>S k\/k=w.heap.size\/k=w.heap.size+1) wr.drew x M.1 (nth l k) Q j1 T.o) ?_;rintro e V ⟨h,rfl,z2,Y,j2,k6⟩;have y:=bt s0 k6;refine ⟨_,rfl,y,λ_=>?_⟩;refine XA.t ?_ [6,7] y ?_;refine XA.t0 ?_ [8] y ?_;refine XA.v 9 (V.alloc (.cells #[OJ,OJ,OH 0] 39)) ((au V.heap.size)) (y.alloc y.size _) ?_;refine XA.e ?_;simp only [Ob,Oc];obtain ⟨GN,S6,J2,C,R⟩:=ah (NG V (.cells #[OJ,OJ,OH 0] 39)) y j2 z2 Y;clear j2 z2 Y y k6 p' s0 j1 tl Q;go_wp2_with (refine aH (b:=V.heap.size) GN.o bE rfl rfl rfl rfl C.o (by rw [C.o];rfl) R.o ?_;intro w7 H I;obtain ⟨U,D⟩:=ae H I;clear H I);go_meet;have a6:aq V w7:=((br V).alloc (NF _) _).trans (D.o.toBelow (by rw [NZ];omega) (λj e=>ap));exact ⟨V.heap.size,h,rfl,rfl,U.o,S6.o.size,C.o,R.o,HJ.o _ _ _ _ J2.o (dm a6),S6.o.trans (a6.mono S6.o.size)⟩
    .refine XAS.v (wr.drew.alloc (.cells #[OJ,OJ,OH 0] 39)) ((au wr.drew.heap.size)) (s0.alloc (NF _) _) ?_;have s5:aq wr (wr.drew.alloc (.cells #[OJ,OJ,OH 0] 39)):=s0.alloc (NF _) _;have gN:=NG wr.drew (.cells #[OJ,OJ,OH 0] 39);have a3:(wr.drew.alloc (.cells #[OJ,OJ,OH 0] 39)).heap.size=wr.heap.size+1:=by simp
     have j5:=HJ.o _ _ _ _ j1 (aX (S':=λk=>(λk=>S k\/k=w.heap.size\/k=w.heap.size+1) k\/k=wr.heap.size) (Keep.below ((br wr.drew).alloc (NF _) (.cells #[OJ,OJ,OH 0] 39))) (λk hk e=>e.elim id (λe=>absurd hk (by rw [Ot];omega))))
     refine XA.c 5 (HP.o (λk=>(λk=>S k\/k=w.heap.size\/k=w.heap.size+1) k\/k=wr.heap.size) _ x M.1 (nth l k) (λk e=>by
      rw [a3];rcases e with e | e
      .have:=Q k e;omega
      .omega) j5 T.o) ?_
     rintro e V ⟨h,rfl,z2,Y,j2,k6⟩;have y:=bt s5 k6;refine ⟨_,rfl,y,λ_=>?_⟩;refine XA.t ?_ [6,7] y ?_;refine XA.t0 ?_ [8] y ?_;refine XA.e ?_;simp only [Ob,Oc];obtain ⟨GN,S6,J2,C,R⟩:=ah (sb gN _ k6) y j2 z2 Y;clear j2 z2 Y y k6 p' s0 j1 tl Q s5 gN a3 j5;go_wp2_with (refine aH (b:=wr.heap.size) GN.o bE rfl rfl rfl rfl C.o (by rw [C.o];rfl) R.o ?_;intro w7 H I;obtain ⟨U,D⟩:=ae H I;clear H I);go_meet;exact ⟨wr.heap.size,h,rfl,rfl,U.o,NF _,C.o,R.o,HJ.o _ _ _ _ J2.o (aX (D.o.mono λk _ e=>.inr e) (λk _ e=>.inl e)),S6.o.trans (D.o.toBelow S6.o.size (λj e=>ap))⟩
   case rest=>
    obtain ⟨N,h,rfl,rfl,gN,lN,z2,Y,j2,kc⟩:=hcut;obtain ⟨GN,C,R,J2,KC,ab,a0⟩:=aj gN z2 Y j2 kc (sb GX.o wc kc) (sb GY.o wc kc);have L:(h.toList.drop 0).take h.toList.length=h.toList:=by rw [Oc,Oq]
    have EM:=aa L;clear gN z2 Y j2 kc L;have w1:IntKind.i64.wrap ((M.2:Int)+1)=(M.2:Int)+1:=NK _ ap;have w2:IntKind.i64.wrap ((k:Int)+1)=(k:Int)+1:=NK _ ap;go_upto_region 7 with (first | (refine aK h GN.o (by rw [C.o];exact bE) rfl rfl rfl EM.o ?_) | (refine aH (b:=w.heap.size) ab.o bE rfl rfl rfl rfl C.o (by rw [C.o,ZZ.o]) R.o ?_;intro w7 H I;obtain ⟨U,D⟩:=ae H I;clear H I));have a2:=aa ((D.o.block _ (NE a0.o) ap).trans a0.o);have qc:=QQ.o.trans (KC.o.mono (by have:=QQ.o.size;omega));have Q7:=aa (qc.trans (D.o.toBelow qc.size (λj e=>ap)));have J7:=aa (HJ.o _ _ _ _ J2.o (aX (S':=(λk=>S k\/k=w.heap.size\/k=w.heap.size+1)) (D.o.mono λk _ e=>.inr (.inl e)) (λ_ _ e=>e)));have a5:w.heap.size+2<=w7.heap.size:=by have:=KC.o.size;have:=D.o.size;omega
    clear qc
    cases hb:(st M.1 (nth l k)).2 with
    | true=>
     have HB:=aa hb;clear hb;go_wp2_with fail;go_roundw
     .exact ⟨k+1,by omega,by go_num,by rw [HX.o,HB.o];simp,h,U.o,a2.o,C.o,R.o,by rw [HX.o];exact J7.o,Q7.o,a5⟩
     .simp [intOf];omega
    | false=>
     have HB:=aa hb;clear hb;go_wp2_with fail;go_roundw
     .exact ⟨k+1,by omega,by go_num,by rw [HX.o,HB.o];simp,h,U.o,a2.o,C.o,R.o,by rw [HX.o];exact J7.o,Q7.o,a5⟩
     .simp [intOf];omega
  .obtain rfl:k=n:=ap;have ht:l.take k=l:=by rw [<-Hn.o,Oq]
   have HT:=aa ht;have L:(x.toList.drop 0).take x.toList.length=x.toList:=by rw [Oc,Oq]
   have EM:=aa L;have av:¬((k:Int)<k):=ap;clear ht L;go_wp2_with (first | (refine aK x GX.o (by rw [ZZ.o];exact bE) rfl rfl rfl EM.o ?_) | (refine aH (b:=w.heap.size+1) GY.o bE rfl rfl rfl rfl ZZ.o (by rw [ZZ.o];rfl) OO.o ?_;intro w7 H I;obtain ⟨U,D⟩:=ae H I;clear H I))
   try simp only [Exit.inBlock,Exit.then]
   refine NX (dg rfl rfl U.o (by rw [ZZ.o];exact bE)) rfl ?_;refine ⟨x,by rw [HT.o];rfl,ZZ.o,OO.o,?_,QQ.o.trans (D.o.toBelow QQ.o.size (λj e=>ap))⟩;have:=JJ.o;rw [HT.o] at this;exact HJ.o _ _ _ _ this (aX (D.o.mono λk _ e=>.inr (.inr e)) (λ_ _ e=>.inl e))
def MI (q:IntKind) (e:Qf) (w:Qd) (base:Nat) (v:Value) (n:Nat):Prop:=∃xs:Qa,w.ownsRow base e 1 v n (aA q xs)
theorem MI.cell {q:IntKind} {e:Qf} {w:Qd} {base n g c:Nat} (h:MI q e w base (.slice (some (ar g 0)) n c) n) {k:Nat} (hk:k<n):∃x:Int,w.cell? (ar g k)=some (.int q x)/\w.frozen? (ar g k)=false:=by
 obtain ⟨xs,h⟩:=h;have f:=h.frozenAt k;have hl:=h.1;rw [bS,Nat.mul_one] at hl;exact ⟨nth xs k,by rw [h.cellAt k ap];exact lK q xs k ap,f⟩
theorem Gr {S:Nat->Prop} {w:Qd} {vs:Qb} {i:Inp} {M:WSt} (hs:cq i) (v:∀k,S k->k<w.heap.size) (h:RWm (aF S w) vs i M) {A:N_} {c:Nat} {l:Qa} (hl:l.length<=1000000) (hA:Rd w A (aA .i64 l)):Calls prog 20 #[.agg vs,.slice A l.length c] w (JX (λu vs M=>RWm u vs i M) S (jL i M l).1 (jL i M l).2 w):=
 sx (st:=pkZ i) v hl hA (λ_ _ _ _ h e=>h.ext e) (λ_ _ _ _ z o p _=>At hs o p z) h h.sz.1 h.sz.2
theorem we (w:Qd):Calls prog 30 #[.pointer none] w λe h=>e=.returned (OJ)/\aq w h:=by
 go_enter func30,ntmps30;have i:=br w;go_wp2_with fail;go_ret;exact ⟨rfl,i⟩
theorem Dw {X:Value} {z:Int} {w:Qd} (i:∀h,aq w h->Calls prog 47 #[X,OH z] h λe u=>e=.returned (.tuple #[.nilIface,.pointer none,.pointer none,.bool false])/\aq h u):Calls prog 34 #[X,OH z] w λe h=>e=.returned (OJ)/\aq w h:=by
 have p:=aa i;have y:=br w;clear i;go_enter func34,ntmps34;go_wp2_with fail;refine (p.o _ y).mono ?_;rintro e A ⟨rfl,v⟩;have x:=aa v;clear v;go_wp2_with fail;go_ret;exact ⟨rfl,x.o⟩
theorem Ds {X:Value} {z:Int} {w:Qd} (i:∀h,aq w h->Calls prog 47 #[X,OH z] h λe u=>e=.returned (.tuple #[.nilIface,.pointer none,.pointer none,.bool false])/\aq h u):Calls prog 26 #[X,OH z] w λe h=>e=.returned (OJ)/\aq w h:=by
 have p:=aa i;have y:=br w;clear i;go_enter func26,ntmps26;go_wp2_with fail;refine (p.o _ y).mono ?_;rintro e A ⟨rfl,v⟩;have x:=aa v;clear v;go_wp2_with fail;go_ret;exact ⟨rfl,x.o⟩
theorem uC {X:Value} {z:Int} {w:Qd} (i:∀h,aq w h->Calls prog 47 #[X,OH z] h λe u=>e=.returned (.tuple #[.nilIface,.pointer none,.pointer none,.bool false])/\aq h u):Calls prog 35 #[X,OH z] w λe h=>e=.returned (.tuple #[OJ,OH 0])/\aq w h:=by
 have p:=aa i;have y:=br w;clear i;go_enter func35,ntmps35;go_wp2_with fail;refine (p.o _ y).mono ?_;rintro e A ⟨rfl,v⟩;have x:=aa v;clear v;go_wp2_with fail;go_ret2;exact ⟨rfl,x.o⟩
theorem uH (w:Qd):Calls prog 32 #[.pointer none] w λe h=>e=.returned (.bool true)/\aq w h:=by
 go_enter func32,ntmps32;have i:=br w;go_wp2_with fail;go_ret;exact ⟨rfl,i⟩
theorem An (w:Qd):Calls prog 27 #[.pointer none] w λe h=>e=.returned (OH 0)/\aq w h:=by
 go_enter func27,ntmps27;have i:=br w;go_wp2_with fail;go_ret;exact ⟨rfl,i⟩
section
variable {P:Qd->Prop} {E:Nat->Prop} {i:Inp} {V w w':Qd} {X:Nat} {M:WSt}
theorem fx.keepQ (h:fx P E i V X M w) (hP:mT P) {Q:Nat->Prop} (hk:Keep Q w w') (p:∀k,Q k->E k) (he:∀(j:Nat) (c:Qb),w.heap[j]?=some (.cells c 2 (0,0))->¬Q j):fx P E i V X M w':=by
 obtain ⟨⟨D,B,h1,o,N,J⟩,L⟩:=h;have u:Ext (aF (D.hid (az i).W E) w) (aF (D.hid (az i).W E) w'):=aX (hk.mono λk _ e=>.inr (p k e)) λk _ e=>e;refine ⟨⟨D,B,h1,⟨o.mem.keepQ hk (λk e=>.inr (p k e)) (λj c I _=>he j c I),o.al,?_⟩,N,hP _ _ u J⟩,L.trans (hk.mono λk _ e=>p k e)⟩;obtain ⟨C,O,v,y,x,A,H⟩:=o.rows;exact ⟨C,O,v,y,(hk.block _ o.mem.xl λe=>o.mem.ne _ (p _ e) (.inl rfl)).trans x,aQ A u,aQ H u⟩
end
section
variable {E:Nat->Prop} {i:Inp} {V w w':Qd} {X:Nat} {M:WSt}
theorem WIn.linkOut (h:WIn E i V X M w) {z:Int} (J:¬(0<=z/\z<((az i).W:Int))):Calls prog 35 #[(au X),OH z] w λe w'=>e=.returned (.tuple #[OJ,OH 0])/\aq w w':=by
 obtain ⟨⟨D,B,rfl,p,H⟩,C⟩:=h;obtain ⟨y,I,u,v,o,x,A⟩:=p.rows;exact uC λw' q=>Cu (sb o w' q) ap
end
section
variable {P P':Qd->Prop} {E:Nat->Prop} {i:Inp} {V w w':Qd} {X Y:Nat} {M:WSt} {vs:Qb}
theorem fx.refE (h:fx P E i V X M w):∃S:Nat->Prop,(∀k,S k->k<w.heap.size)/\P (aF S w)/\(∀k,S k->V.heap.size<=k\/E k)/\∀(P':Qd->Prop) (o:Nat->Prop) w',aq w w'->(∀k,E k->o k)->(∀k,o k->k<w'.heap.size/\(E k\/w.heap.size<=k))->P' (aF (λk=>S k\/o k) w')->fx P' o i V X M w':=by
 obtain ⟨⟨D,B,h1,u,x,y⟩,A⟩:=h;refine ⟨D.hid (az i).W E,λk e=>e.elim (u.mem.lt k) (u.mem.ex k),y,λk e=>e.imp (x k) id,λP' o w' hb p he v=>⟨⟨D,B,h1,u.more hb he,x,?_⟩,mC (A.mono λk _ e=>p k e) hb⟩⟩;rw [show (λk=>D.hid (az i).W E k\/o k)=D.hid (az i).W o from funext λk=>propext ⟨λe=>e.elim (λe=>e.imp id (p k)) .inr,λe=>e.elim (λe=>.inl (.inl e)) .inr⟩] at v;exact v
theorem fx.pickE (h:fx P E i V X M w) (hP:mT P) (hs:cq i) (u: -9223372036854775808<=i.cfg.rate/\i.cfg.rate<=9223372036854775807) (v: -9223372036854775808<=i.cfg.mom/\i.cfg.mom<=9223372036854775807) (z:Int):Calls prog 15 #[(au X),OH z] w λe w'=>e=.returned (.bool (pkZ i M z).2)/\fx P E i V X (pkZ i M z).1 w'/\∀k,E k->w'.heap[k]?=w.heap[k]?:=by
 obtain ⟨⟨D,B,rfl,p,A,I⟩,y⟩:=h;refine (qu p hs u v z).mono ?_;rintro e w' ⟨he,J,C,L,o,x⟩;have N:=y.size;refine ⟨he,⟨⟨J,B,C,L,λj H=>(x j H).elim (A j) λh=>ap,hP _ _ (aX (o.mono λk _ e=>.inl e) λk hk e=>e.imp (λe=>(x k e).elim id λe=>absurd hk ap) id) I⟩,?_⟩,λk hk=>o.block k (p.mem.ex k hk) (p.mem.ne k hk)⟩;exact fj y o λk hk e=>absurd (A k e) ap
structure WB (P:Qd->Prop) (Y:Nat) (vs:Qb) (i:Inp) (V:Qd) (X:Nat) (M:WSt) (w:Qd):Prop where
 j:fx P (λk=>k=Y) i V X M w
 b:w.heap[Y]?=some (.cells vs 39 (0,0))
theorem WB.below (h:WB P Y vs i V X M w) (hP:mT P) (hb:aq w w'):WB P Y vs i V X M w':=⟨h.j.below hP hb,sb h.b w' hb⟩
theorem WB.pick (h:WB P Y vs i V X M w) (hP:mT P) (hs:cq i) (p: -9223372036854775808<=i.cfg.rate/\i.cfg.rate<=9223372036854775807) (o: -9223372036854775808<=i.cfg.mom/\i.cfg.mom<=9223372036854775807) (z:Int):Calls prog 15 #[(au X),OH z] w λe w'=>e=.returned (.bool (pkZ i M z).2)/\WB P Y vs i V X (pkZ i M z).1 w':=by
 refine (h.j.pickE hP hs p o z).mono ?_;rintro e w' ⟨he,u,hb⟩;exact ⟨he,u,(hb Y rfl).trans h.b⟩
theorem WB.run (h:WB P Y vs i V X M w) (hP:mT P) (hs:cq i) (y: -9223372036854775808<=i.cfg.rate/\i.cfg.rate<=9223372036854775807) (x: -9223372036854775808<=i.cfg.mom/\i.cfg.mom<=9223372036854775807) {A:N_} {c:Nat} {l:Qa} (hl:l.length<=1000000) (u:∀w,P w->Rd w A (aA .i64 l)):Calls prog 19 #[(au X),.slice A l.length c] w λe w'=>e=.returned (OH ((jL i M l).2:Nat))/\WB P Y vs i V X (jL i M l).1 w':=by
 refine (pL (I:=λw' v=>WB P Y vs i V X v w') (st:=pkZ i) hl (λw' v o=>u w' (o.j.p hP)) (λw' v z o _=>o.pick hP hs y x z) h).mono ?_;rintro e w' ⟨he,o⟩;exact ⟨he,o⟩
theorem WB.put {o:Qb} (h:WB P Y vs i V X M w) (hP:mT P) (hk:Keep (λk=>k=Y) w w') (hb:w'.heap[Y]?=some (.cells o 39 (0,0))):WB P Y o i V X M w':=
 ⟨h.j.keepQ hP hk (λk e=>e) (λj c p e=>mR p h.b (by decide) e),hb⟩
end
end Go.Proofs.YtgmajkppbhiopaaGreat
namespace Go.Proofs.YtgmajkppbhiopaaGreat
open Go.RowKit Go.ChangeShapes Go.WideShapes Go.ChangeAt
open Tryz
def MtP (h:N_) (o:Qa) (vs:Qb) (i:Inp) (M0:WSt) (u:Qd):Prop:=Rd u h (aA .i64 o)/\RWm u vs i M0
theorem MtP.stab {o:N_} {p:Qa} {vs:Qb} {i:Inp} {M0:WSt}:mT (MtP o p vs i M0):=λ_ _ he h=>⟨aQ h.1 he,h.2.ext he⟩
end Go.Proofs.YtgmajkppbhiopaaGreat
namespace Go.Proofs.YtgmajkppbhiopaaGreat
open Go.RowKit
open Tryz
theorem Gg (z:Int) (w:Qd):Calls prog 21 #[.pointer none,OH z] w λe h=>e=.returned (.tuple #[OH 0,.bool true])/\aq w h:=by
 have H:=aa (λh=>uH h);go_enter func21,ntmps21;go_wp2_with fail;go_step3;go_wp2_with fail;go_step3;go_wp2_with fail;refine (H.o _).mono ?_;rintro e x ⟨rfl,i⟩;have u:=aa i;clear i;go_wp2_with fail;refine (H.o _).mono ?_;rintro e y ⟨rfl,p⟩;have v:=aa (bt u.o p);clear p;go_wp2_with fail;simp only [Exit.noGoto];go_ret2;exact ⟨rfl,v.o⟩
theorem LK (z:Int) (w:Qd):Calls prog 15 #[.pointer none,OH z] w λe h=>e=.returned (.bool false)/\aq w h:=uA λh _=>rE z h
theorem MX (z:Int) (w:Qd):Calls prog 35 #[.pointer none,OH z] w λe h=>e=.returned (.tuple #[OJ,OH 0])/\aq w h:=uC λh _=>rE z h
theorem MW (z:Int) (w:Qd):Calls prog 34 #[.pointer none,OH z] w λe h=>e=.returned (OJ)/\aq w h:=Dw λh _=>rE z h
theorem MV (z:Int) (w:Qd):Calls prog 26 #[.pointer none,OH z] w λe h=>e=.returned (OJ)/\aq w h:=Ds λh _=>rE z h
theorem DF:∀l:Qa,(eJ (λ(s:Unit) (_:Int)=>(s,false)) () l).2=0:=by
 intro l;unfold eJ
 have:∀(l:Qa) (s:Unit×Nat),(l.foldl (λp z=>(((λ(s:Unit) (_:Int)=>(s,false)) p.1 z).1,p.2+if ((λ(s:Unit) (_:Int)=>(s,false)) p.1 z).2 then 1 else 0)) s).2=s.2:=by
  intro l
  induction l with
  | nil=>intro s;rfl
  | cons z l ih=>intro s;rw [List.foldl_cons,ih];simp
 exact this l _
theorem Nq {A:N_} {c:Nat} {l:Qa} {w:Qd} (hl:l.length<=1000000) (hA:Rd w A (aA .i64 l)):Calls prog 19 #[.pointer none,.slice A l.length c] w λe i=>e=.returned (OH 0)/\aq w i:=by
 refine (pL (I:=λi (_:Unit)=>aq w i) (st:=λs _=>(s,false)) (s:=()) hl (λi _ h=>hA.below h) (λi _ z h _=>(LK z i).mono λe p o=>⟨o.1,bt h o.2⟩) (br w)).mono ?_;rintro e i ⟨rfl,h⟩;exact ⟨by rw [DF];rfl,h⟩
def IB (w:Qd) (p n:Nat):Prop:=∀k,k<n->∃v:Int,w.cell? (ar p k)=some (OH v)/\w.frozen? (ar p k)=false
theorem IB.below {w i:Qd} {p n:Nat} (h:IB w p n) (q:aq w i):IB i p n:=λk hk=>by
 obtain ⟨v,h1,o⟩:=h k hk;refine ⟨v,aw q h1,?_⟩;unfold World.frozen? at o |-;rw [q.block p (aB h1)];exact o
theorem IB.set {w:Qd} {p n:Nat} (h:IB w p n) (r j:Nat) (u:Int):IB (w.setCell (ar r j) (OH u)) p n:=λk hk=>by
 obtain ⟨v,h1,x⟩:=h k hk
 have o:(w.setCell (ar r j) (OH u)).frozen? (ar p k)=false:=by
  have:=World.frozen?_setCells r [OH u] j w (ar p k);rw [x] at this;exact this
 by_cases e:r=p/\j=k
 .obtain ⟨rfl,rfl⟩:=e;exact ⟨u,World.cell?_setCell_same w (ar r j) _ h1,o⟩
 .refine ⟨v,?_,o⟩
  have:=World.cell?_setCells_out r [OH u] j w (ar p k) (λhb _=>by
   have i:p=r:=hb;have:¬j=k:=λh=>e ⟨i.symm,h⟩
   show k<j\/j+1<=k
   omega)
  rw [h1] at this;exact this
theorem IB.own {w:Qd} {base p n c:Nat} {xs:Qa} (h:w.ownsRow base 2 1 (.slice (some (ar p 0)) n c) n (aA .i64 xs)):IB w p n:=λ_ hk=>MI.cell ⟨xs,h⟩ hk
def MEl (w:Qd) (g B j:Nat):Prop:=∃(t0 t1 t2 t3 t4:Int) (p:N_) (n c:Nat),w.rangeAt g (j*6) [OH t0,OH t1,OH t2,OH t3,OH t4,.slice p n c]/\n<=17592186043904/\(n=0\/∃r,p=some (ar r 0)/\IB w r n/\r≠g/\B<=r/\r<w.heap.size)
theorem MEl.below {w i:Qd} {g B j:Nat} (h:MEl w g B j) (q:aq w i):MEl i g B j:=by
 obtain ⟨t0,t1,t2,o,H,p,n,c,h1,C,I⟩:=h;exact ⟨t0,t1,t2,o,H,p,n,c,λk v A=>aw q (h1 k v A),C,I.imp id λ⟨r,x,J,y,D,u⟩=>⟨r,x,J.below q,y,D,NQ u q.size⟩⟩
theorem MEl.set {w:Qd} {g B j:Nat} (h:MEl w g B j) (r k:Nat) (u:Int) (hr:r≠g):MEl (w.setCell (ar r k) (OH u)) g B j:=by
 obtain ⟨t0,t1,t2,i,H,p,n,c,h1,C,I⟩:=h;exact ⟨t0,t1,t2,i,H,p,n,c,λk v A=>by rw [World.cell?_setCell_far _ _ _ _ hr];exact h1 k v A,C,I.imp id λ⟨r,x,J,y,D,o⟩=>⟨r,x,J.set _ _ _,y,D,by simpa using o⟩⟩
theorem gw.els {w:Qd} {base n c:Nat} {A:N_} {ms:List Msg} (h:gw w base (.slice A n c) ms) (D:∀m∈ms,m.vals.length<=17592186043904) (hn:0<ms.length):∃g,A=some (ar g 0)/\n=ms.length/\∀j,j<n->MEl w g base j:=by
 obtain ⟨rows,h1,L,H,C⟩:=h;obtain ⟨g,B,e,_⟩:=h1.form hn;injection e with e1 x e3
 subst e1 x;refine ⟨g,rfl,rfl,λj p=>?_⟩;obtain ⟨I,B,e,i⟩:=C j p
 have o:∀k v,(ep rows j)[k]?=some v->w.cell? (ar g (j*6+k))=some v:=λk v hk=>by
  have u:k<6:=by
   have:=(Oe.1 hk).1;rw [e] at this;simpa [Tg.cells] using this
  rw [h1.cellAt _ ap,kY H j k ap u];exact hk
 rw [e] at o;refine ⟨_,_,_,_,_,I,_,B,λk v hk=>o k v hk,?_,?_⟩
 .exact D _ (by unfold aO;rw [List.getD_eq_getElem?_getD,Of p];exact List.getElem_mem p)
 .rcases Nat.eq_zero_or_pos (aO ms j).vals.length with y | y
  .exact .inl y
  .obtain ⟨r,c2,x,_⟩:=i.form y;injection x with e3 e4 e5
   subst e3;refine .inr ⟨r,rfl,IB.own i,?_,(i.lt r rfl).1,(i.lt r rfl).2⟩;rintro rfl;rcases i.2 with ⟨e,_⟩ | ⟨J,_,_,e,_,hg,_⟩
   .cases e
   .simp only [Ou,Option.some.injEq,Addr.mk.injEq] at e;obtain ⟨⟨rfl,_⟩,_⟩:=e;exact ax hg (by decide) h1 rfl
theorem WIn.linkZ {E:Nat->Prop} {i:Inp} {V w:Qd} {X:Nat} {M:WSt} (h:WIn E i V X M w) (hs:cq i) (z:Int):Calls prog 35 #[(au X),OH z] w λe p=>(∃A n c pk g,e=.returned (.tuple #[.slice A n c,OH (pk:Nat)])/\n<=1048576/\(0<n->A=some (ar g 0))/\∀j,j<n->MEl p g w.heap.size j)/\aq w p:=by
 by_cases I:0<=z/\z<((az i).W:Int)
 .obtain ⟨x,rfl⟩:∃x:Nat,z=x:=⟨z.toNat,by omega⟩;have y:x<(az i).W:=ap
  have o:LSt.Ok (M.s x):=by
   obtain ⟨⟨J,L, -,C, -⟩, -⟩:=h;exact (C.mem.lnk x y).ok
  refine (h.linkIn hs y).mono ?_;rintro e p ⟨A,c,rfl,B,q⟩;refine ⟨?_,q⟩;have hl:=o.sr;have hc:=o.cap2;rcases Nat.eq_zero_or_pos ((M.s x).msgs.length-(M.s x).recv) with v | v
  .exact ⟨A,_,c,_,0,rfl,by omega,λh=>absurd h ap,λj u=>absurd u ap⟩
  .obtain ⟨g,D, -,H⟩:=B.els (λm hm=>o.vals m (List.mem_of_mem_drop hm)) (by simpa using v);exact ⟨A,_,c,_,g,rfl,by omega,λ_=>D,H⟩
 .refine (h.linkOut I).mono ?_;rintro e p ⟨rfl,q⟩;exact ⟨⟨none,0,0,0,0,rfl,by omega,λh=>absurd h ap,λj u=>absurd u ap⟩,q⟩
end Go.Proofs.YtgmajkppbhiopaaGreat
namespace Go.Proofs.YtgmajkppbhiopaaGreat
open Go.RowKit Go.ChangeShapes Go.WideShapes Go.ChangeAt
open Tryz
theorem uo {H:Type} {bd:Qf×Value->H} {base:Nat} {v0 v1 v2:Value} {d0 d1 d2:DataW H} {p0 p1 p2:List MemPlace} (W:Qd) (o0:Value.okWide prog W .any base 29 v0) (h0:DataW.Trod bd prog W 0 (λ_=>true) true 29 v0 d0 p0) (z0:fH prog 29 d0) (o1:Value.okWide prog W .any base 22 v1) (h1:DataW.Trod bd prog W 0 (λ_=>true) true 22 v1 d1 p1) (z1:fH prog 22 d1) (o2:Value.okWide prog W .any base 3 v2) (h2:DataW.Trod bd prog W 0 (λ_=>true) true 3 v2 d2 p2) (z2:fH prog 3 d2):Calls prog 8 #[v0,v1,v2] W λe y=>e=.returned (.bool true)/\aq W y:=by
 obtain ⟨A,c,D,cd,T,ct,R,cr,i,rfl,hI,_⟩:=sS o0 h0 z0;obtain ⟨B0,bl,b0,rfl,bM⟩:=sQ o1 h1 z1;obtain ⟨zw,rfl,_,_,d9⟩:=open_int underlying3 o2 h2;clear o0 h0 z0 o1 h1 z1 o2 h2 z2 d9;have a2:=λy (q:aq W y)=>oQ A c D cd T ct R cr i y (hI.below q);have cn:=λy (q:aq W y) (hs:ji i)=>(hI.below q).rd hs;have bz:=λy (q:aq W y)=>bM.hr.below q;unfold qS at a2;obtain ⟨W1,a4⟩:∃W1,W.alloc (.cells (aN A c D cd T ct R cr i) 29)=W1:=⟨_,rfl⟩;have hx:W1.heap[W.heap.size]?=some (.cells (aN A c D cd T ct R cr i) 29 (0,0)):=by rw [<-a4];exact NG W _
 have hB:aq W W1:=by rw [<-a4];exact (br W).alloc (NF _) _
 have tl:=sl hx;obtain ⟨a7,cj,bG,V,HB,bA,Hx,be⟩:=ak hx a4 a2 cn hB bz (λy (q:aq W1 y)=>hB.trans (q.mono hB.size)) (λy (q:aq W1 y)=>(gP y).mono λe ds (h:_/\Below _ _ _)=>(⟨h.1,hB.trans ((q.trans (h.2.mono q.size)).mono hB.size)⟩:e=.returned (.bool true)/\aq W ds));obtain ⟨bn,a1⟩:∃bn,bl.length=bn:=⟨_,rfl⟩;rw [a1];have L:=aa a1;clear a2 cn hI hx hB a4 bz bM a1;go_enter func8,ntmps8;go_wp2_with (refine aK (aN A c D cd T ct R cr i) (b:=W.heap.size) (by rw [cj.o];exact a7.o) dY rfl rfl rfl rfl ?_);rw [cj.o];have q1:=br W1;refine (bG.o W1 (Hx.o _ q1)).mono ?_;rintro e w2 ⟨⟨b,rfl,aP⟩,k2⟩;have q2:=bt q1 k2;clear q1 k2;rcases dI b with rfl | rfl
 .clear aP;go_wp2_with fail;refine (be.o _ q2).mono ?_;rintro e wA ⟨rfl,h3⟩;go_wp2_with fail;go_ret;exact ⟨rfl,h3⟩
 obtain ⟨Hs,Q2⟩:=ae (aP rfl) q2;have bN:=aa (V.o w2 (Hx.o _ q2) Hs.o.1.1);clear aP q2;go_wp2_with (refine jn (aN A c D cd T ct R cr i) (sb a7.o _ Q2.o) dY rfl rfl rfl rfl ?_);refine (gD A c D cd T ct R cr i w2 bN.o).mono ?_;rintro e wA ⟨rfl,k3⟩;have QA:=aa (bt Q2.o k3);clear k3 bN;by_cases ab:dF i=0/\bn<=100;rotate_left
 .obtain ⟨C,hC⟩:∃C,dF i=C:=⟨_,rfl⟩;rw [hC] at ab |-;clear hC;by_cases h0:C=0
  .subst h0;have dv:(100:Int)<bn:=ap;clear ab;go_wp2_with fail;refine (be.o _ QA.o).mono ?_;rintro e w4 ⟨rfl,h3⟩;go_wp2_with fail;go_ret;exact ⟨rfl,h3⟩
  .clear ab;have ei:(C != 0)=true:=by rw [bne_iff_ne];exact h0
   go_wp2_with fail;refine (be.o _ QA.o).mono ?_;rintro e w4 ⟨rfl,h3⟩;go_wp2_with fail;go_ret;exact ⟨rfl,h3⟩
 obtain ⟨hc,e8⟩:=ab;have bf:=Hs.o.1.sm hc;rw [hc];have N:=aa bf;have dw:¬(100:Int)<bn:=ap;have a3:=aa Hs.o.1.1;have e2:=aa (V.o wA (Hx.o _ QA.o) a3.o).ra;have d7:=aa (V.o wA (Hx.o _ QA.o) a3.o).rm;clear hc bf Hs;have aR:=λy (q:aq W1 y)=>Nq (A:=B0) (c:=b0) (l:=bl) (w:=y) (by rw [L.o];omega) (bA.o y (Hx.o _ q));rw [L.o] at aR;have cf:=aa aR;clear aR;go_wp2_with fail;refine (Gg 5 wA).mono ?_;rintro e wB ⟨rfl,kB⟩;have QB:=aa (bt QA.o kB);clear kB;go_wp2_with fail;refine (MX 0 wB).mono ?_;rintro e wC ⟨rfl,kC⟩;have QC:=aa (bt QB.o kC);clear kC;go_wp2_with fail;refine (LK zw wC).mono ?_;rintro e wD ⟨rfl,kD⟩;have QD:=aa (bt QC.o kD);clear kD;go_wp2_with fail;refine (cf.o wD QD.o).mono ?_;rintro e wE ⟨rfl,kE⟩;have QE:=aa (bt QD.o kE);clear kE;go_wp2_with fail;refine (we wE).mono ?_;rintro e wF ⟨rfl,kF⟩;have QF:=aa (bt QE.o kF);clear kF;go_wp2_with fail;refine (uH wF).mono ?_;rintro e wG ⟨rfl,kG⟩;have QG:=aa (bt QF.o kG);clear kG;go_wp2_with fail;refine (An wG).mono ?_;rintro e wH ⟨rfl,kH⟩;have QH:=aa (bt QG.o kH);clear kH;go_wp2_with fail;refine (MV 0 wH).mono ?_;rintro e wI ⟨rfl,kI⟩;have QI:=aa (bt QH.o kI);clear kI;go_wp2_with fail;refine (MW 0 wI).mono ?_;rintro e w3 ⟨rfl,kJ⟩;have Q3:=aa (bt QI.o kJ);clear kJ QA QB QC QD QE QF QG QH QI cf;go_wp2_with (refine aK (aN A c D cd T ct R cr i) (b:=W.heap.size) (sb a7.o _ Q3.o) dY rfl rfl rfl rfl ?_);have c9:=aa (V.o w3 (Hx.o _ Q3.o) a3.o);have B:=nr (E:=λ_=>False) A c D cd T ct R cr i w3 c9.o N.o (λ_ e=>e.elim);refine B.mono ?_;rintro e w4 hn;obtain ⟨X,rfl,J4,hX,k4⟩:=hn.winP (P:=λu=>fY u A c D T ct R i/\Rd u B0 (aA .i64 bl)) (λS hS=>⟨eg c9.o (mK hn.q λk e=>(hS k e).elim id False.elim),aQ (bA.o _ (Hx.o _ Q3.o)) (mK hn.q λk e=>(hS k e).elim id False.elim)⟩);obtain ⟨b2,Q4⟩:=ae J4 (bt Q3.o k4);clear J4 hn B k4;go_wp2_with (refine aK (aN A c D cd T ct R cr i) (b:=W.heap.size) (sb a7.o _ Q4.o) dY rfl rfl rfl rfl ?_);obtain ⟨S,b3,⟨b1,cx⟩,dp,aM⟩:=b2.o.refE;have B:=Gs (S:=S) A c D cd T ct R cr i b3 (V.o w4 (Hx.o _ Q4.o) a3.o) (λy q=>eg b1 (dm q)) N.o;obtain ⟨dG,d6,bh,ao⟩:=ag b3 b1 cx aM;clear b3 b1 cx dp aM;refine B.mono ?_;rintro e w5 ⟨vs,rfl,hz,ho,hm,k5⟩;obtain ⟨Hz,Ho,HM,K5,Q5⟩:=ah hz ho hm k5 (bt Q4.o k5);clear B hz ho hm k5;go_upto_region 10 with (refine aH (NG _ _) bE rfl rfl rfl rfl Hz.o (by rw [Hz.o];rfl) Ho.o ?_;intro w6 e6 k6;obtain ⟨E6,K6⟩:=ae e6 (aL k6);clear e6 k6);have Q6:=aa (bt Q5.o K6.o);obtain ⟨Y,hY⟩:∃Y,w5.heap.size=Y:=⟨_,rfl⟩;have b8:aq w4 w6:=bt K5.o K6.o
 have J6:=ao.o (MtP B0 bl vs i (gW i)) (λk=>k=Y) w6 b8 (λ_ e=>e.elim) (λk e=>⟨by have:=NE E6.o;omega,.inr (by have:=K5.o.size;omega)⟩)
  ⟨aQ bh.o (aX (Keep.below b8) λk hk e=>e.elim id λe=>by have:=K5.o.size;omega),HM.o.ext (aX (Keep.below K6.o) λk hk e=>e.elim id λe=>ap)⟩
 obtain ⟨bs,bV⟩:=ae (show WB (MtP B0 bl vs i (gW i)) Y vs i w3 X (gW i) w6 from ⟨J6,by rw [<-hY];exact E6.o⟩) (show w3.heap.size<=Y by have:=K5.o.size;have:=b2.o.q.size;omega);clear HM K5 K6 dG d6 bh ao b2 b8 J6 E6 Q6 Q5;rw [hY];clear hY;have J:=aa (bs.o.run MtP.stab N.o e2.o d7.o (A:=B0) (c:=b0) (l:=bl) (by rw [L.o];omega) (λu hu=>hu.1));rw [L.o] at J;obtain ⟨M0,b4⟩:∃M0,(jL i (gW i) bl).1=M0:=⟨_,rfl⟩;obtain ⟨n0,b5⟩:∃n0,(jL i (gW i) bl).2=n0:=⟨_,rfl⟩;rw [b4,b5] at J;obtain ⟨ci,cl⟩:=ae b4 b5;clear bs b4 b5;go_wp2_with fail;refine J.o.mono ?_;rintro e w7 ⟨rfl,j7⟩;obtain ⟨E7,b9⟩:=ae j7.b (λy (q:aq w7 y)=>sb j7.b y q);obtain ⟨S1,cy,a6, -,Z⟩:=j7.j.ref;have a0:=Gr (S:=S1) (w:=w7) (A:=B0) (c:=b0) (l:=bl) N.o cy a6.2 (by rw [L.o];omega) (aQ a6.1 (er _ _));rw [L.o,ci.o,cl.o] at a0;obtain ⟨aG,cM,U⟩:=af a0 a6.1 Z;clear j7 cy a6 Z a0 J;go_wp2_with (refine aK vs (b:=Y) (o:=0) E7.o (by rw [Hz.o];exact bE) rfl rfl rfl (by rw [Oc];exact Oq) ?_);refine aG.o.mono ?_;rintro e w8 ⟨bb,rfl,c8,bI,bw,k8⟩;obtain ⟨b7,d4,cw,K8⟩:=ag c8 bI bw k8;clear aG c8 bI bw k8;go_upto_region 12 with (refine aH (b:=Y) (b9.o w8 K8.o) bE rfl rfl rfl rfl b7.o (by rw [Hz.o];exact b7.o.symm) d4.o ?_;intro w9 e9 k9;obtain ⟨E9,K9⟩:=ae e9 k9;clear e9 k9);have J8:=U.o (MtP B0 bl bb i M0) w8 K8.o ⟨aQ cM.o (dm K8.o),cw.o⟩;have j9:=(show WB (MtP B0 bl bb i M0) Y vs i w3 X M0 w8 from ⟨J8,b9.o w8 K8.o⟩).put MtP.stab K9.o E9.o;obtain ⟨cs,d8⟩:=ae (j9.j.win.linkZ N.o zw) j9;clear J8 j9 E7 b9 cM U cw K8 K9 E9 ci cl;go_wp2_with fail;refine cs.o.mono ?_;rintro e el ⟨⟨A,n,c0,pk,g,rfl,hn,hA,x⟩,c7⟩;obtain ⟨dr,I,c6⟩:=af hA x c7;clear hA x c7 cs;go_wp2_with fail
 go_loopw [126] (λu wr=>∃j:Nat,j<=n/\u=OH j/\(∀k,k<n->MEl wr g w9.heap.size k)/\aq w9 wr) (λu _=>n-(intOf u).toNat)
 .exact ⟨0,NJ _,rfl,I.o,c6.o⟩
 case round=>
  clear I c6;obtain ⟨j,hj,rfl,x,q⟩:=hrel;by_cases da:j<n
  .have ea:(j:Int)<n:=ap;have eb:(0:Int)<=j:=ap;have e0:=dr.o ap;subst e0;obtain ⟨t0,t1,t2,t3,t4,p,O,ck,hr,ek,hp⟩:=x j da
   obtain ⟨r,cb⟩:∃r,0<O->p=some (ar r 0)/\IB wr r O/\r≠g/\w9.heap.size<=r/\r<wr.heap.size:=by
    rcases hp with h | ⟨r,h⟩
    .exact ⟨0,λh2=>absurd h2 ap⟩
    .exact ⟨r,λ_=>h⟩
   obtain ⟨HR,I,Q,cP⟩:=ag hr x q cb;have ec:IntKind.i64.wrap ((j:Int)+1)=(j:Int)+1:=NK _ ap;clear hr x q cb hp;go_upto_region 16 with (first | (refine eD HR.o qy rfl rfl rfl ?_) | (refine aH (NG _ _) qy rfl rfl rfl rfl rfl rfl rfl ?_;intro e7 co cO;obtain ⟨ad,a5⟩:=ae co (aL cO);clear co cO));obtain ⟨Xb,a9⟩:∃Xb,wr.heap.size=Xb:=⟨_,rfl⟩;rw [a9] at ad;rw [a9];have tX:=bx6 ad.o;obtain ⟨en,cL,bv⟩:=af a9 (λk hk=>(I.o k hk).below a5.o) (Q.o.trans (a5.o.mono Q.o.size))
   have cA:0<O->p=some (ar r 0)/\IB e7 r O/\r≠g/\w9.heap.size<=r/\r<Xb:=λh=>by
    obtain ⟨h1,h2,h3,h4,h5⟩:=cP.o h;exact ⟨h1,h2.below a5.o,h3,h4,by omega⟩
   have bi:=aa cA;clear cA cP HR I Q a5 a9;go_wp2_with fail;clear tX
   go_loopw [133] (λu wr=>∃k:Nat,k<=O/\u=OH k/\wr.heap[Xb]?=some (.cells #[OH t0,OH t1,OH t2,OH t3,OH t4,.slice p O ck] 79 (0,0))/\(∀k,k<n->MEl wr g w9.heap.size k)/\(0<O->IB wr r O)/\aq w9 wr) (λu _=>O-(intOf u).toNat)
   .exact ⟨0,NJ _,rfl,ad.o,cL.o,λh=>(bi.o h).2.1,bv.o⟩
   case round=>
    clear cL bv ad;obtain ⟨k,hk,rfl,ex,x,a8,q⟩:=hrel;obtain ⟨HE,dc,Q,EX⟩:=ag x a8 q ex;by_cases d3:k<O
    .obtain ⟨e1, -,e3,e4,e5⟩:=bi.o ap;subst e1;obtain ⟨v,cv,fv⟩:=a8 ap k d3;have tX:=bx6 ex;have em:(k:Int)<O:=ap;have ee:(0:Int)<=k:=ap;have ej:IntKind.i64.wrap ((k:Int)+1)=(k:Int)+1:=NK _ ap;clear x a8 q ex;go_wp2_with fail;go_roundw
     .exact ⟨k+1,by omega,by go_num,(Keep.block (S:=λj=>j=r) (Keep.setCell (S:=λj=>j=r) (Keep.refl _ _) (ar r k) (.inr rfl) _) _ (NE EX.o) ap).trans EX.o,λk hk=>(HE.o k hk).set _ _ _ e3,λh=>(dc.o h).set _ _ _,Q.o.setCell e4 _⟩
     .simp [intOf];omega
    .obtain rfl:k=O:=ap;have d5:¬((k:Int)<k):=ap;clear x a8 q ex;go_wp2_with fail;go_roundw
     .exact ⟨j+1,by omega,by go_num,HE.o,Q.o⟩
     .simp [intOf];omega
  .obtain rfl:j=n:=ap;have d5:¬((j:Int)<j):=ap;have Q:=aa q;clear x q;go_wp2_with fail;refine (gP _).mono ?_;rintro e ef ⟨rfl,bX⟩;have jr:=d8.o.below MtP.stab (Q.o.trans (bX.mono Q.o.size));obtain ⟨dn,b6,av⟩:=af jr.b (wh jr.j.win N.o (jr.j.p MtP.stab).2) jr;clear jr bX Q;go_wp2_with (refine jn bb (b:=Y) (o:=0) dn.o (by rw [b7.o];exact bE) rfl rfl rfl (by rw [Oc];exact Oq) ?_);refine b6.o.mono ?_;rintro e dT ⟨rfl,cc⟩;have bo:=(av.o.below MtP.stab cc).j.q;have bO:aq w3 dT:=bo.toBelow (NF _) (λk e=>by rw [show k=Y from e];exact bV.o);have dk:=aa (bt Q3.o bO);clear bo bO cc av;go_wp2_with fail;go_ret;exact ⟨rfl,Hx.o _ dk.o⟩
end Go.Proofs.YtgmajkppbhiopaaGreat
