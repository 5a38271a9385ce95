/- No condition. -/
import Derived.Test.YtgmajkppbhiopaaGreatC14
set_option linter.unusedSimpArgs false
set_option linter.unusedVariables false
set_option maxRecDepth 100000
set_option maxHeartbeats 4000000
namespace Go.Proofs.YtgmajkppbhiopaaGreat
open Go.RowKit
open Tryz
theorem yR (A:Option Addr) (l:List Int) (c:Nat) (z:Int) (w:World) (h:Rd w A (aB .i64 l)) (hl:l.length<=140737488355328):
  Calls prog 68 #[.slice A l.length c,M8 z] w fun e J=>(∃r:Int,e=.returned (M8 r)/\(0<=r↔z∈l))/\∃n,J=w.drewN n:=by
 obtain ⟨m,hm⟩:∃m,l.length=m:=⟨_,rfl⟩
 rw [hm] at hl ⊢
 obtain ⟨H,D⟩:=ae h hm;clear h hm
 go_enter func68,ntmps68
 go_wp2_with fail
 go_loopw [4,8] (fun _ i wr=>∃k:Nat,k<=m/\i=M8 k/\(∀j,j<k->nth l j≠z)/\∃n,wr=w.drewN n) (fun _ i _=>m-(intOf i).toNat)
 case atStart=>exact ⟨0,Mf _,rfl,fun j v=>absurd v (Nat.not_lt_zero j),0,rfl⟩
 case round=>
  obtain ⟨k,hk,rfl,p,n,rfl⟩:=hrel
  have I:=aa p;clear p
  by_cases B:k<m
  ·have L:(k:Int)<m:=ap
   have u:k<l.length:=by rw [D.o];exact B
   obtain ⟨b,o,rfl,hc⟩:=H.o.num u
   have hr:∀C,(w.drewN C).cell? (ar b (o+k))=some (M8 (nth l k)):=fun C=>hc
   by_cases x:nth l k=z
   ·have y:z=nth l k:=x.symm
    subst y
    go_wp2
    go_ret
    exact ⟨⟨_,rfl,⟨fun _=>by rw [du _ _ u];exact List.getElem_mem u,fun _=>ap⟩⟩,_,rfl⟩
   ·have O:(z==nth l k)=false:=by rw [beq_eq_false_iff_ne];exact fun e=>x e.symm
    have N:=aa x;clear x
    go_wp2
    go_roundw
    case rel=>exact ⟨k+1,by omega,by go_num,fun j v=>by
      rcases Mq j k with h1 | h1
      ·exact I.o j h1
      ·obtain rfl:j=k:=ap
       exact N.o,_,rfl⟩
    case measure=>simp [intOf];omega
  ·obtain rfl:k=m:=ap
   go_wp2
   go_ret
   refine ⟨⟨_,rfl,⟨fun h=>absurd h ap,fun h=>?_⟩⟩,_,rfl⟩
   obtain ⟨j,v,e⟩:=List.mem_iff_getElem.1 h
   exact absurd (by rw [du _ _ v];exact e) (I.o j (by rw [<-D.o];exact v))
theorem vS (A:Option Addr) (l:List Int) (c:Nat) (z:Int) (w:World) (h:Rd w A (aB .i64 l)) (hl:l.length<=140737488355328):
  Calls prog 31 #[.slice A l.length c,M8 z] w fun e p=>e=.returned (.bool (decide (z∈l)))/\∃n,p=w.drewN n:=by
 have i:=fun n=>yR A l c z (w.drewN n) (h.drewN n) hl
 obtain ⟨m,hm⟩:∃m,l.length=m:=⟨_,rfl⟩
 rw [hm] at i ⊢
 have u:=aa i;clear i h
 go_enter func31,ntmps31
 go_wp2_with fail
 refine (u.o 0).mono ?_
 rintro e x ⟨⟨r,rfl,hr⟩,n,rfl⟩
 have v:=aa hr;clear hr
 go_wp2_with fail
 go_ret
 refine ⟨dN ?_,_,rfl⟩
 rw [decide_eq_decide]
 exact v.o
end Go.Proofs.YtgmajkppbhiopaaGreat
namespace Go.Proofs.YtgmajkppbhiopaaGreat
open Go.RowKit Go.ChangeShapes Go.WideShapes Go.ChangeAt
open Tryz
def m9 (h:Option Addr) (o:List Int) (Y:Nat) (vs:Array Value) (i:Inp) (M0:WSt) (u:World):Prop:=Rd u h (aB .i64 o)/\u.heap[Y]?=some (.cells vs 39 (0,0))/\RWm u vs i M0
theorem m9.stab {p:Option Addr} {B:List Int} {Y:Nat} {vs:Array Value} {i:Inp} {M0:WSt}:JU (m9 p B Y vs i M0):=by
 rintro u D he ⟨h1,x,h⟩
 refine ⟨aW h1 he,?_,h.ext he⟩
 obtain ⟨⟨mv,C,⟨⟨A,cm,o,v,rfl, -⟩, -, -⟩, -, -⟩, -⟩:=h
 exact JE (y:=.slice A (az i).W cm) (c:=[.slice o (az i).W v,M8 (M0.sum i:Nat)]) x he
theorem CC {i:Inp} {M:WSt} {l:List Int} {k:Nat} (hk:k<l.length):(pL i M (l.take (k+1))).1=(pkZ i (pL i M (l.take k)).1 (nth l k)).1:=by
 rw [List.take_add_one,MG hk,Option.toList_some,CD,du _ _ hk]
theorem Id {i:Inp} {M:WSt} {z:Int} (h:gQ i M) (hs:cz i):decide (z∈pz i M)=(pkZ i M z).2:=by
 cases hb:(pkZ i M z).2 with
 | true=>exact MX ((rX h hs).2 hb)
 | false=>exact MY fun o=>by rw [(rX h hs).1 o] at hb;cases hb
theorem qI {H:Type} {d4:TypeId×Value->H} {base:Nat} {v0 v1:Value} {d0 d1:DataW H} {p0 p1:List MemPlace} (W:World)
  (o0:Value.okWide prog W .any base 29 v0) (h0:DataW.Trod d4 prog W 0 (fun _=>true) true 29 v0 d0 p0) (z0:jX prog 29 d0)
  (o1:Value.okWide prog W .any base 22 v1) (h1:DataW.Trod d4 prog W 0 (fun _=>true) true 22 v1 d1 p1) (z1:jX prog 22 d1):
  Calls prog 6 #[v0,v1] W fun e x=>e=.returned (.bool true)/\aq W x:=by
 obtain ⟨A,c,D,cd,T,ct,R,cr,i,rfl,hI,_⟩:=FN o0 h0 z0
 obtain ⟨B0,N,d9,rfl,c8⟩:=FL o1 h1 z1
 clear o0 h0 z0 o1 h1 z1
 have a4:=fun x (q:aq W x)=>zn A c D cd T ct R cr i x (hI.below q)
 have cw:=fun x (q:aq W x) (hs:ke i)=>(hI.below q).rd hs
 have bO:=fun x (q:aq W x)=>c8.hr.below q
 unfold th at a4
 obtain ⟨W1,a9⟩:∃W1,W.alloc (.cells (aQ A c D cd T ct R cr i) 29)=W1:=⟨_,rfl⟩
 have hx:W1.heap[W.heap.size]?=some (.cells (aQ A c D cd T ct R cr i) 29 (0,0)):=by rw [<-a9];exact Mc W _
 have hB:aq W W1:=by rw [<-a9];exact (br W).alloc (Mb _) _
 have tl:=sl hx
 obtain ⟨ab,co,c6,a0,HB,bV,Hx,bh⟩:=ak hx a9 a4 cw hB bO (fun x (q:aq W1 x)=>hB.trans (q.mono hB.size)) (fun x (q:aq W1 x)=>(qF x).mono fun e dw (h:_/\Below _ _ _)=>(⟨h.1,hB.trans ((q.trans (h.2.mono q.size)).mono hB.size)⟩:e=.returned (.bool true)/\aq W dw))
 obtain ⟨bn,a2⟩:∃bn,N.length=bn:=⟨_,rfl⟩
 rw [a2]
 have a7:=aa a2;clear a4 cw hI hx hB a9 bO c8 a2
 go_enter func6,ntmps6
 go_wp2_with (refine aT (aQ A c D cd T ct R cr i) (b:=W.heap.size) (by rw [co.o];exact ab.o) ie rfl rfl rfl rfl ?_)
 rw [co.o]
 have q1:=br W1
 refine (c6.o W1 (Hx.o _ q1)).mono ?_
 rintro e w2 ⟨⟨b,rfl,b2⟩,k2⟩
 have q2:=bt q1 k2
 clear q1 k2
 rcases dZ b with rfl | rfl
 ·clear b2
  go_wp2_with fail
  refine (bh.o _ q2).mono ?_
  rintro e w3 ⟨rfl,h3⟩
  go_wp2_with fail
  go_ret
  exact ⟨rfl,h3⟩
 obtain ⟨Hs,Q2⟩:=ae (b2 rfl) q2;have c9:=aa (a0.o w2 (Hx.o _ q2) Hs.o.1.1);clear b2 q2
 go_wp2_with (refine qL (aQ A c D cd T ct R cr i) (sb ab.o _ Q2.o) ie rfl rfl rfl rfl ?_)
 refine (js A c D cd T ct R cr i w2 c9.o).mono ?_
 rintro e w3 ⟨rfl,k3⟩
 have Q3:=aa (bt Q2.o k3);clear k3 c9
 by_cases ao:dS i=0/\bn<=300
 rotate_left
 ·obtain ⟨C,hC⟩:∃C,dS i=C:=⟨_,rfl⟩
  rw [hC] at ao ⊢
  clear hC
  by_cases h0:C=0
  ·subst h0
   have bo:(300:Int)<bn:=ap
   clear ao
   go_wp2_with fail
   refine (bh.o _ Q3.o).mono ?_
   rintro e w4 ⟨rfl,h3⟩
   go_wp2_with fail
   go_ret
   exact ⟨rfl,h3⟩
  ·clear ao
   have e7:(C != 0)=true:=by rw [bne_iff_ne];exact h0
   go_wp2_with fail
   refine (bh.o _ Q3.o).mono ?_
   rintro e w4 ⟨rfl,h3⟩
   go_wp2_with fail
   go_ret
   exact ⟨rfl,h3⟩
 obtain ⟨hc,bo⟩:=ao
 have bz:=Hs.o.1.sm hc
 rw [hc]
 have y:=aa bz
 have dG:¬(300:Int)<bn:=ap
 have a6:=aa Hs.o.1.1;have e3:=aa (a0.o w3 (Hx.o _ Q3.o) a6.o).ra;have da:=aa (a0.o w3 (Hx.o _ Q3.o) a6.o).rm;clear hc bz Hs
 go_wp2_with (refine aT (aQ A c D cd T ct R cr i) (b:=W.heap.size) (sb ab.o _ Q3.o) ie rfl rfl rfl rfl ?_)
 have ci:=aa (a0.o w3 (Hx.o _ Q3.o) a6.o)
 have B:=tD (E:=fun _=>False) A c D cd T ct R cr i w3 ci.o y.o (fun _ e=>e.elim)
 refine B.mono ?_
 rintro e w4 hn
 obtain ⟨X,rfl,J4,hX,k4⟩:=hn.winP (P:=fun u=>gh u A c D T ct R i/\Rd u B0 (aB .i64 N)) (fun S hS=>⟨fp ci.o (BN hn.q fun k e=>(hS k e).elim id False.elim),aW (bV.o _ (Hx.o _ Q3.o)) (BN hn.q fun k e=>(hS k e).elim id False.elim)⟩)
 obtain ⟨bI,Q4⟩:=ae J4 (bt Q3.o k4);clear J4 hn B k4
 go_wp2_with (refine aT (aQ A c D cd T ct R cr i) (b:=W.heap.size) (sb ab.o _ Q4.o) ie rfl rfl rfl rfl ?_)
 obtain ⟨S,b7,⟨b4,d3⟩,dk,b0⟩:=bI.o.ref
 have B:=Ln (S:=S) A c D cd T ct R cr i b7 (a0.o w4 (Hx.o _ Q4.o) a6.o) (fun x q=>fp b4 (im q)) y.o
 obtain ⟨bb,d8,bG,aM⟩:=ag b7 b4 d3 b0;clear b7 b4 d3 dk b0
 refine B.mono ?_
 rintro e w5 ⟨vs,rfl,hz,ho,hm,k5⟩
 obtain ⟨Hz,Ho,HM,K5,Q5⟩:=ah hz ho hm k5 (bt Q4.o k5);clear B hz ho hm k5
 go_upto_region 5 with (refine aI (Mc _ _) cU rfl rfl rfl rfl Hz.o (by rw [Hz.o];rfl) Ho.o ?_;intro w6 e6 k6;obtain ⟨E6,K6⟩:=ae e6 (aK k6);clear e6 k6)
 have Q6:=aa (bt Q5.o K6.o)
 go_wp2_with (refine aT vs (b:=w5.heap.size) (o:=0) E6.o (by rw [Hz.o];exact cU) rfl rfl rfl (by rw [MD];exact MP) ?_)
 have Q:=Lm (S:=fun k=>S k\/k=w5.heap.size) (w:=w6) (A:=B0) (c:=d9) (l:=N) y.o (fun k e=>e.elim (fun e=>by have:=bb.o k e;have:=K5.o.size;have:=K6.o.size;omega) (fun e=>by have:=Ma E6.o;omega)) (HM.o.ext (bE (Keep.below K6.o) fun k hk e=>e.elim id fun e=>absurd hk ap)) (by rw [a7.o];omega) (bV.o _ (Hx.o _ Q6.o))
 rw [a7.o] at Q
 obtain ⟨M0,b8⟩:∃M0,M0=(pL i (kF i) N).1:=⟨_,rfl⟩
 obtain ⟨n0,bX⟩:∃n0,n0=(pL i (kF i) N).2:=⟨_,rfl⟩
 rw [<-b8,<-bX] at Q
 have dv:=aa b8;clear b8 bX
 refine Q.mono ?_
 rintro e w7 ⟨O,rfl,cf,c7,bN,k7⟩
 obtain ⟨b9,d6,cM,K7,Q7⟩:=ah cf c7 bN k7 (bt Q6.o k7);clear Q cf c7 bN k7
 go_upto_region 6 with (refine aI (b:=w5.heap.size) (sb E6.o _ K7.o) cU rfl rfl rfl rfl b9.o (by rw [Hz.o];exact b9.o.symm) d6.o ?_;intro w8 e8 k8;obtain ⟨E8,K8⟩:=ae e8 k8;clear e8 k8)
 obtain ⟨Y,hY⟩:∃Y,w5.heap.size=Y:=⟨_,rfl⟩
 have b5:aq w4 w8:=(bt (bt K5.o K6.o) K7.o).trans (K8.o.toBelow (by have:=K5.o.size;have:=K6.o.size;have:=K7.o.size;omega) (fun k e=>by have:=K5.o.size;omega))
 have cj:RWm (aF S w8) O i M0:=(cM.o.ext (bE (K8.o.mono fun k _ e=>.inr e) fun k _ e=>e)).ext (bE (Keep.refl _ _) fun k _ e=>.inl e)
 have cA:(aF S w8).heap[Y]?=some (.cells O 39 (0,0)):=by
  rw [gC (fun e=>by have:=bb.o Y e;have:=K5.o.size;omega),<-hY];exact E8.o
 have J8:=aM.o (m9 B0 N Y O i M0) w8 b5 ⟨aW bG.o (im b5),cA,cj⟩
 have I:=aa J8
 have e1:=J8.q
 clear HM cM E8 K8 K7 K6 K5 bb d8 bG aM bI b5 cj cA J8 E6 Q7 Q6 Q5
 rw [hY]
 clear hY
 go_wp2_with fail
 go_loopw [45] (fun u wr=>∃k:Nat,k<=bn/\u=M8 k/\lI (m9 B0 N Y O i M0) (fun _=>False) i w3 X (pL i (kF i) (N.take k)).1 wr) (fun u _=>bn-(intOf u).toNat)
 case atStart=>exact ⟨0,Mf _,rfl,I.o⟩
 case round=>
  clear I e1
  obtain ⟨k,hk,rfl,hj⟩:=hrel
  have I:=aa hj;clear hj
  by_cases dc:k<bn
  ·have eb:(k:Int)<bn:=ap
   have be:k<N.length:=by rw [a7.o];exact dc
   obtain ⟨b,o,rfl,p⟩:=(I.o.p m9.stab).1.num be
   obtain ⟨M,hM⟩:∃M,(pL i (kF i) (N.take k)).1=M:=⟨_,rfl⟩
   have a8:=CC (i:=i) (M:=kF i) be
   rw [hM] at a8
   rw [hM] at I
   obtain ⟨z,hz⟩:∃z,nth N k=z:=⟨_,rfl⟩
   rw [hz] at p a8
   have bM:=I.o.al
   have a3:(pz i M).length<=1000:=Mh (vC _ _) (by have:=y.o.ok.W8;omega)
   have aP:=Id (z:=z) bM y.o
   obtain ⟨cL,d2,aG⟩:=af a8 a3 aP
   have Z:=fun x (J:lI (m9 (some (ar b o)) N Y O i M0) (fun _=>False) i w3 X M x)=>J.win.on y.o
   have a1:=aa Z;clear hM a8 hz be bM a3 aP Z
   go_wp2_with fail
   refine (a1.o _ I.o).mono ?_
   rintro e w9 ⟨v,rfl,bd,k9⟩
   obtain ⟨A1,c1,rfl, -⟩:=aC bd
   obtain ⟨J9,bv⟩:=ae (I.o.below m9.stab k9) (Rd.own bd);clear bd k9 I p
   go_wp2_with fail
   refine (vS A1 (pz i M) c1 z w9 bv.o (by have:=d2.o;omega)).mono ?_
   rintro e cx ⟨rfl,dr,rfl⟩
   have cb:=aa (J9.o.below m9.stab (Mm (br w9) dr));clear J9 bv
   rw [aG.o]
   have bf:=cb.o.pick m9.stab y.o e3.o da.o z
   obtain ⟨M',b3⟩:∃M',(pkZ i M z).1=M':=⟨_,rfl⟩
   obtain ⟨pb,b1⟩:∃pb,(pkZ i M z).2=pb:=⟨_,rfl⟩
   rw [b3,b1] at bf
   rw [b1]
   rw [b3] at cL
   have cl:=aa bf;clear bf b3 b1 aG d2
   go_wp2_with fail
   refine cl.o.mono ?_
   rintro e ds ⟨rfl,cy⟩
   have a5:=aa cy;clear cy cl cb
   have e5:(pb != pb)=false:=by simp
   obtain ⟨fb,L⟩:∃fb:Bool,fb=true↔M'.fin i:=by classical exact ⟨decide (M'.fin i),decide_eq_true_iff⟩
   have bA:=a5.o.win.done y.o L
   have bw:=aa bA
   have V:=Im a5.o.al y.o (by have:=y.o.g.c.ca;omega)
   rw [<-L] at V
   have Z:=fun x (J:lI (m9 (some (ar b o)) N Y O i M0) (fun _=>False) i w3 X M' x)=>J.win.on y.o
   have a3:(pz i M').length<=1000:=Mh (vC _ _) (by have:=y.o.ok.W8;omega)
   have a1:=aa Z;clear bA L Z
   go_wp2_with fail
   refine bw.o.mono ?_
   rintro e ec ⟨rfl,d5⟩
   have b6:=aa (a5.o.below m9.stab d5);clear d5 bw a5
   obtain ⟨CL,bi⟩:∃CL,pz i M'=CL:=⟨_,rfl⟩
   rw [bi] at V a3 a1
   obtain ⟨cn,bs⟩:∃cn,CL.length=cn:=⟨_,rfl⟩
   rw [bs] at V a3 a1
   have ea:((cn:Int)==0)=fb:=by
    cases fb with
    | true=>rw [V.2 rfl];rfl
    | false=>rw [beq_eq_false_iff_ne];intro e;have:=V.1 ap;cases this
   clear bi bs V
   go_wp2_with fail
   refine (a1.o _ b6.o).mono ?_
   rintro e e9 ⟨v,rfl,aR,cv⟩
   obtain ⟨A2,c2,rfl, -⟩:=aC aR
   have dT:=aa (b6.o.below m9.stab cv);clear aR cv b6
   have dp:(fb != fb)=false:=by simp
   go_wp2_with fail
   go_roundw
   case rel=>exact ⟨k+1,by omega,by go_num,by rw [cL.o];exact dT.o⟩
   case measure=>simp [intOf];omega
  ·obtain rfl:k=bn:=ap
   have e4:¬((k:Int)<k):=ap
   have e0:N.take k=N:=List.take_of_length_le (by rw [a7.o];omega)
   rw [e0,<-dv.o] at I
   clear hk e0
   have hp:=I.o.p m9.stab
   obtain ⟨fb,L⟩:∃fb:Bool,fb=true↔M0.fin i:=by classical exact ⟨decide (M0.fin i),decide_eq_true_iff⟩
   obtain ⟨HY,d7,e2⟩:=af (fun x (q:aq wr x)=>sb hp.2.1 x q) (fun x (q:aq wr x)=>(I.o.below m9.stab q).win.done y.o L) (fun x (q:aq wr x)=>Kn y.o (((I.o.below m9.stab q).p m9.stab).2.2) L)
   have q0:=I.o.q.toBelow (Mb _) (fun _ e=>e.elim)
   have Q0:=aa (bt Q3.o q0);clear hp L q0 I
   go_upto_region 14 with (fail)
   have q9:=(br wr).drew
   refine HA.g (fun x=>aq wr x) ?_
   refine HA.c 0 (qF wr.drew) ?_
   rintro e w9 ⟨rfl,k9⟩
   have U:=bt q9 k9
   refine ⟨_,rfl,U,fun _=>?_⟩
   refine HA.t ?_ [1,2] U ?_
   refine HA.ld 4 O (b:=Y) (off:=0) (fun x q=>HY.o x q) (by rw [b9.o];exact cU) U ?_ (hcs:=by rw [MD];exact MP)
   refine HA.c 3 (d7.o w9 U) ?_
   rintro e cx ⟨rfl,cc⟩
   have av:=bt U cc
   refine ⟨_,rfl,av,fun _=>?_⟩
   refine HA.c 5 (e2.o cx av) ?_
   rintro e ds ⟨rfl,cs⟩
   have ad:=bt av cs
   refine ⟨_,rfl,ad,fun _=>?_⟩
   have dp:(fb==fb)=true:=by simp
   refine HA.t ?_ [6,7,8] ad ?_
   refine HA.d ?_
   have dn:=aa (bt Q0.o ad);clear q9 U av ad k9 cc cs
   go_wp2_with fail
   go_ret
   exact ⟨rfl,Hx.o _ dn.o⟩
end Go.Proofs.YtgmajkppbhiopaaGreat
