/- No condition. -/
import Derived.Test.YtgmajkppbhiopaaGreatB14
set_option linter.unusedSimpArgs false
set_option linter.unusedVariables false
set_option maxRecDepth 100000
set_option maxHeartbeats 4000000
namespace Go.Proofs.YtgmajkppbhiopaaGreat
open Go.RowKit Go.ChangeShapes Go.WideShapes Go.ChangeAt
open Tryz
theorem DR {w:World}:Ext w (aF (fun _=>False) w):=fun k _=>.inr (iF id)
theorem wz (A:Option Addr) (c:Nat) (D:Option Addr) (y:Nat) (T:Option Addr) (u:Nat) (R:Option Addr) (x:Nat) (i:Inp) (B:Option Addr) (l:List Int) (Z:Nat) (w:World) (h:gi w A c D T u R i) (hs:cF i) (hb:Li i) (hl:l.length<=1000000) (hA:Rd w B (aB .i64 l)) {Bo:Bool} (hB:Bo=true↔(fv i (fL i) l).1.fin i):
  Calls prog 38 #[.agg (aL A c D y T u R x i),.slice B l.length Z] w fun e o=>e=.returned (.tuple #[.agg #[Nd ((fv i (fL i) l).2:Nat),Nd ((pN i:Int)-(fv i (fL i) l).2),Nd ((l.length:Int)-(fv i (fL i) l).2),.bool Bo],Nd 0])/\aq w o:=by
 have hr:=(vm hs l).1
 have a0:=hb.le
 have hg:=hs.g.c
 have O:=hg.w;have Y:=hg.mi;have Q:=hg.st;have N:=hg.bu;have a1:=hg.ch;have L:=hg.wi
 have e1:((aA i).W:Int)=i.cfg.workers:=by simp only [aA];omega
 have V:((aA i).mi:Int)=i.cfg.micros:=by simp only [aA];omega
 have e3:((i.cfg.steps.toNat:Nat):Int)=i.cfg.steps:=ap
 have e4:((aA i).bu:Int)=i.cfg.bucket:=by simp only [aA];omega
 have J:((aA i).ck:Int)=i.cfg.chunk:=by simp only [aA];omega
 have U:((aA i).wi:Int)=i.cfg.window:=by simp only [aA];omega
 have p:=fun o=>Fb (aA i) i.cfg.steps.toNat (.slice A i.cfg.sizes.length c) (Nd i.cfg.shift) (Nd i.cfg.rate) (Nd i.cfg.mom) (Nd i.cfg.batch) (Nd i.cfg.cap) o hs.ok (by simp only [aA];omega) (by simp only [aA];omega) (by have:=hs.s;omega)
 rw [<-mD hs.ok,e1,V,e3,e4,J,U] at p
 have hrl:=fun o=>jT A i.cfg.sizes.length c i.cfg.shift i.cfg.rate i.cfg.mom i.cfg.workers i.cfg.batch i.cfg.micros i.cfg.steps i.cfg.bucket i.cfg.chunk i.cfg.window i.cfg.cap D i.data.length y T i.start.length u R i.draws.length x o
 refine za (J0:=fun o vs=>RWm (aF (fun _=>False) o) vs i (fL i)) (J1:=fun o vs=>RWm (aF (fun _=>False) o) vs i (fv i (fL i) l).1) hl ap ap (fun I H vs v q=>v.ext (jl q)) (fun I H vs v q=>v.ext (jl q)) (fun o q=>?_) (fun o vs q C=>?_) hrl (fun o q=>p o) (fun o vs C=>?_)
 ·exact Lq (S:=fun _=>False) A c D y T u R x i (fun k e=>e.elim) (h.below q) (fun H q2=>fD ((h.below q).below q2) DR) hs
 ·exact Lp (S:=fun _=>False) hs (fun k e=>e.elim) C hl (hA.below q)
 ·exact Kj hs (C.ext (fg _ _)) hB
theorem nZ {H:Type} {b0:TypeId×Value->H} {base:Nat} {v0 v1:Value} {d0 d1:DataW H} {p0 p1:List MemPlace} (W:World)
  (o0:Value.okWide prog W .any base 29 v0) (h0:DataW.Trod b0 prog W 0 (fun _=>true) true 29 v0 d0 p0) (z0:j8 prog 29 d0)
  (o1:Value.okWide prog W .any base 22 v1) (h1:DataW.Trod b0 prog W 0 (fun _=>true) true 22 v1 d1 p1) (z1:j8 prog 22 d1):
  Calls prog 9 #[v0,v1] W fun e p=>e=.returned (.bool true)/\aq W p:=by
 obtain ⟨A,c,D,y,T,x,R,v,i,rfl,hI,_⟩:=FX o0 h0 z0
 obtain ⟨B0,L,B,rfl,aG⟩:=FV o1 h1 z1
 clear o0 h0 z0 o1 h1 z1
 have N:=fun p (q:aq W p)=>zm A c D y T x R v i p (hI.below q)
 have aR:=fun p (q:aq W p) (hs:kl i)=>(hI.below q).rd hs
 have ab:=fun p (q:aq W p)=>aG.hr.below q
 unfold tj at N
 obtain ⟨W1,V⟩:∃W1,W.alloc (.cells (aL A c D y T x R v i) 29)=W1:=⟨_,rfl⟩
 have hx:W1.heap[W.heap.size]?=some (.cells (aL A c D y T x R v i) 29 (0,0)):=by rw [<-V];exact Mh W _
 have hB:aq W W1:=by rw [<-V];exact (br W).alloc (Mg _) _
 have tl:=sl hx
 obtain ⟨I,aP,ao,a7,HB,ad,Hx,a6⟩:=ak hx V N aR hB ab (fun p (q:aq W1 p)=>hB.trans (q.mono hB.size)) (fun p (q:aq W1 p)=>(Cb p).mono fun e u (h:_/\Below _ _ _)=>(⟨h.1,hB.trans ((q.trans (h.2.mono q.size)).mono hB.size)⟩:e=.returned (.bool true)/\aq W u))
 obtain ⟨O,J⟩:∃O,L.length=O:=⟨_,rfl⟩
 rw [J]
 have U:=aa J;clear N aR hI hx hB V ab aG J
 go_enter func9,ntmps9
 go_wp2_with (refine aK (aL A c D y T x R v i) (b:=W.heap.size) (by rw [aP.o];exact I.o) gu rfl rfl rfl rfl ?_)
 rw [aP.o]
 have q1:=br W1
 refine (ao.o W1 (Hx.o _ q1)).mono ?_
 rintro e w2 ⟨⟨b,rfl,a1⟩,k2⟩
 have Z:=bt q1 k2
 clear q1 k2
 rcases eg b with rfl | rfl
 ·clear a1
  go_wp2_with fail
  refine (a6.o _ Z).mono ?_
  rintro e w3 ⟨rfl,h3⟩
  go_wp2_with fail
  go_ret
  exact ⟨rfl,h3⟩
 have Hs:=aa (a1 rfl);clear a1
 by_cases b1:300<O
 ·have a4:(300:Int)<O:=ap
  go_wp2_with fail
  refine (a6.o _ Z).mono ?_
  rintro e w4 ⟨rfl,h3⟩
  go_wp2_with fail
  go_ret
  exact ⟨rfl,h3⟩
 have a4:¬((300:Int)<O):=ap
 have Q2:=aa Z
 have av:=a7.o w2 (Hx.o _ Z) Hs.o.1.1
 have a9:=aa av;clear av Z
 have a5:(∃C:Int,C≠0/\(∀p,aq W1 p->Calls prog 37 #[.agg (aL A c D y T x R v i),.slice B0 O B] p fun e u=>e=.returned (.tuple #[.agg #[Nd 0,Nd 0,Nd 0,.bool false],Nd C])/\aq p u)/\
   (∀p,aq W1 p->Calls prog 38 #[.agg (aL A c D y T x R v i),.slice B0 O B] p fun e u=>e=.returned (.tuple #[.agg #[Nd 0,Nd 0,Nd 0,.bool false],Nd C])/\aq p u))\/
   (∃(n t z:Int) (Bo:Bool),(0<=t/\t<=1000000000)/\(t=0↔Bo=true)/\(∀p,aq W1 p->Calls prog 37 #[.agg (aL A c D y T x R v i),.slice B0 O B] p fun e u=>e=.returned (.tuple #[.agg #[Nd n,Nd t,Nd z,.bool Bo],Nd 0])/\aq p u)/\
   (∀p,aq W1 p->Calls prog 38 #[.agg (aL A c D y T x R v i),.slice B0 O B] p fun e u=>e=.returned (.tuple #[.agg #[Nd n,Nd t,Nd z,.bool Bo],Nd 0])/\aq p u)):=by
  have a0:=fun p (q:aq W1 p)=>a7.o p (Hx.o _ q) Hs.o.1.1
  by_cases hc:dP i=0
  ·have Q:=Hs.o.1.sm hc
   have a3:=Hs.o.1.bnd hc
   have b3:=(vm Q L).1
   have aM:=(vm Q L).2
   have b2:=a3.le
   classical
   refine .inr ⟨((fv i (fL i) L).2:Nat),(pN i:Int)-(fv i (fL i) L).2,(O:Int)-(fv i (fL i) L).2,decide ((fv i (fL i) L).1.fin i),⟨?_,?_⟩,?_,fun p q=>?_,fun p q=>?_⟩
   rotate_left 3
   ·have:=yC A c D y T x R v i B0 L B p (a0 p q) Q a3 (by rw [U.o];omega) (ad.o p (Hx.o _ q)) (Bo:=decide ((fv i (fL i) L).1.fin i)) decide_eq_true_iff
    rw [U.o] at this
    exact this
   ·have:=wz A c D y T x R v i B0 L B p (a0 p q) Q a3 (by rw [U.o];omega) (ad.o p (Hx.o _ q)) (Bo:=decide ((fv i (fL i) L).1.fin i)) decide_eq_true_iff
    rw [U.o] at this
    exact this
   ·omega
   ·omega
   ·rw [decide_eq_true_iff,aM];omega
  ·refine .inl ⟨dP i,hc,fun p q=>?_,fun p q=>?_⟩
   ·exact FI hc (fun w2 Z=>I4 hc (fun w3 q3=>qd A c D y T x R v i w3 (a0 w3 (bt (bt q Z) q3))))
   ·exact CO hc (fun w2 Z=>Fp hc (fun w3 q3=>jq A c D y T x R v i w3 (a0 w3 (bt (bt q Z) q3))))
 rcases a5 with ⟨C,hC,hP,hR⟩ | ⟨n,t,z,Bo,ht,a2,hP,hR⟩
 ·obtain ⟨HP,HR⟩:=ae hP hR
  have b4:(C != 0)=true:=by rw [bne_iff_ne];exact hC
  clear hP hR a9
  go_wp2_with (refine aK (aL A c D y T x R v i) (b:=W.heap.size) (sb I.o _ Q2.o) gu rfl rfl rfl rfl ?_)
  refine (HP.o _ Q2.o).mono ?_
  rintro e w3 ⟨rfl,k3⟩
  have Q3:=aa (bt Q2.o k3);clear k3
  go_upto_region 4 with (refine aH (Mh _ _) pQ rfl rfl rfl rfl rfl rfl rfl ?_;intro w4 e4 k4;obtain ⟨E4,K4⟩:=ae e4 (aO k4);clear e4 k4)
  have Q4:=aa (bt Q3.o K4.o)
  go_wp2_with (refine aK (aL A c D y T x R v i) (b:=W.heap.size) (sb I.o _ Q4.o) gu rfl rfl rfl rfl ?_)
  refine (HR.o _ Q4.o).mono ?_
  rintro e w5 ⟨rfl,k5⟩
  obtain ⟨E5,Q5⟩:=ae (sb E4.o _ k5) (bt Q4.o k5);clear k5
  go_upto_region 5 with (refine aH (Mh _ _) mJ rfl rfl rfl rfl rfl rfl rfl ?_;intro w6 e6 k6;obtain ⟨E6,K6⟩:=ae e6 (aO k6);clear e6 k6)
  have Q6:=aa (bt Q5.o K6.o)
  have t6:=bx4 E6.o
  have t5:=bx4 (sb E5.o _ K6.o)
  have b6:¬C=0:=hC
  go_wp2_with fail
  refine (a6.o _ Q6.o).mono ?_
  rintro e w7 ⟨rfl,h7⟩
  have H7:=aa h7;clear h7 t5 t6
  go_wp2_with fail
  go_ret
  exact ⟨rfl,H7.o⟩
 ·obtain ⟨HP,HR⟩:=ae hP hR
  have a8:(t==0)=Bo:=by
   by_cases h:t=0
   ·rw [h];exact (a2.1 h).symm
   ·cases Bo with
    | true=>exact absurd (a2.2 rfl) h
    | false=>rw [beq_eq_false_iff_ne];exact h
  have Y:decide (t=0)=Bo:=a8
  have b5:0<=t:=ht.1
  clear hP hR a9 a2
  go_wp2_with (refine aK (aL A c D y T x R v i) (b:=W.heap.size) (sb I.o _ Q2.o) gu rfl rfl rfl rfl ?_)
  refine (HP.o _ Q2.o).mono ?_
  rintro e w3 ⟨rfl,k3⟩
  have Q3:=aa (bt Q2.o k3);clear k3
  go_upto_region 4 with (refine aH (Mh _ _) pQ rfl rfl rfl rfl rfl rfl rfl ?_;intro w4 e4 k4;obtain ⟨E4,K4⟩:=ae e4 (aO k4);clear e4 k4)
  have Q4:=aa (bt Q3.o K4.o)
  go_wp2_with (refine aK (aL A c D y T x R v i) (b:=W.heap.size) (sb I.o _ Q4.o) gu rfl rfl rfl rfl ?_)
  refine (HR.o _ Q4.o).mono ?_
  rintro e w5 ⟨rfl,k5⟩
  obtain ⟨E5,Q5⟩:=ae (sb E4.o _ k5) (bt Q4.o k5);clear k5
  go_upto_region 5 with (refine aH (Mh _ _) mJ rfl rfl rfl rfl rfl rfl rfl ?_;intro w6 e6 k6;obtain ⟨E6,K6⟩:=ae e6 (aO k6);clear e6 k6)
  have Q6:=aa (bt Q5.o K6.o)
  have t6:=bx4 E6.o
  have t5:=bx4 (sb E5.o _ K6.o)
  go_wp2_with fail
  refine (Cb w6).mono ?_
  rintro e w7 ⟨rfl,k7⟩
  have H7:=aa (HB.o.trans ((bt Q6.o k7).mono HB.o.size))
  have t7:=bx4 (sb (sb E5.o _ K6.o) _ k7)
  clear t6 t5 k7
  cases Bo with
  | true=>
   have h0:t=0:=of_decide_eq_true Y
   subst h0
   clear a8 Y ht
   go_wp2_with fail
   go_ret
   exact ⟨rfl,H7.o⟩
  | false=>
   have h0:¬t=0:=of_decide_eq_false Y
   clear Y ht
   go_wp2_with fail
   go_ret
   exact ⟨rfl,H7.o⟩
end Go.Proofs.YtgmajkppbhiopaaGreat
