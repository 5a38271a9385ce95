/- No condition. -/
import Derived.Test.YtgmajkppbhiopaaGreatQ15
set_option linter.unusedSimpArgs false
set_option linter.unusedVariables false
set_option maxRecDepth 100000
set_option maxHeartbeats 4000000
namespace Go.Proofs.YtgmajkppbhiopaaGreat
open Go.RowKit
open Tryz
theorem GG {H O y J L B N D A I i u v h p:Value} {C:Int} {w:Qd} (hC:C≠0) (R:∀Q,aq w Q->Calls prog 18 #[.agg #[H,O,y,J,L,B,N,D,A,I,i,u,v,h,p]] Q fun e V=>e=.returned (OH C)/\aq Q V):Calls prog 14 #[.agg #[H,O,y,J,L,B,N,D,A,I,i,u,v,h,p]] w fun e Q=>e=.returned (.tuple #[.agg #[OJ,OJ,OH 0],OH C])/\aq w Q:=by
 obtain ⟨W1,x⟩:∃W1,(w.alloc (.cells #[H,O,y,J,L,B,N,D,A,I,i,u,v,h,p] 29)).alloc (.cells #[OJ,OJ,OH 0] 39)=W1:=⟨_,rfl⟩;have g0:W1.heap[w.heap.size]?=some (.cells #[H,O,y,J,L,B,N,D,A,I,i,u,v,h,p] 29 (0,0)):=by rw [<-x];exact sb (NG w _) _ ((br _).alloc (NF _) _)
 have g1:W1.heap[w.heap.size+1]?=some (.cells #[OJ,OJ,OH 0] 39 (0,0)):=by rw [<-x];have:=NG (w.alloc (.cells #[H,O,y,J,L,B,N,D,A,I,i,u,v,h,p] 29)) (.cells #[OJ,OJ,OH 0] 39);rwa [NZ] at this
 have q0:aq w W1:=by rw [<-x];exact ((br w).alloc (NF _) _).alloc (by rw [NZ];omega) _
 have tl:=sl g1;obtain ⟨Z,T,G0,G1,U⟩:=ah R x g0 g1 q0;have a0:(C != 0)=true:=by rw [bne_iff_ne];exact hC
 clear R x g0 g1 q0;go_enter func14,ntmps14;go_wp2_with (refine aK #[H,O,y,J,L,B,N,D,A,I,i,u,v,h,p] (b:=w.heap.size) (by rw [T.o];exact G0.o) wt rfl rfl rfl rfl ?_);rw [T.o];refine (Z.o _ U.o).mono ?_;rintro e w2 ⟨rfl,Y⟩;obtain ⟨H2,K2⟩:=ae (sb G1.o _ Y) Y;clear Y;go_wp2_with (refine aH (b:=w.heap.size+1) H2.o bE rfl rfl rfl rfl rfl rfl rfl ?_;intro w3 e3 k3;obtain ⟨E3,K3⟩:=ae e3 k3;clear e3 k3)
 try simp only [Exit.inBlock,Exit.then]
 refine NX (dg rfl rfl E3.o bE) rfl ?_;exact ⟨rfl,(U.o.trans (K2.o.mono U.o.size)).trans (K3.o.toBelow (by have:=U.o.size;have:=K2.o.size;omega) (fun j e=>ap))⟩
section
variable {i:Inp} {M:WSt}
theorem DH (l:Qa) (z:Int):jL i M (l++[z])=((pkZ i (jL i M l).1 z).1,(jL i M l).2+if (pkZ i (jL i M l).1 z).2 then 1 else 0):=by
 unfold jL;rw [List.foldl_append];rfl
end
section
variable {P:Qd->Prop} {E:Nat->Prop} {i:Inp} {V w w':Qd} {X:Nat} {M:WSt}
theorem fx.keepQ (h:fx P E i V X M w) (hP:mT P) {Q:Nat->Prop} (hk:Keep Q w w') (p:∀k,Q k->E k) (he:∀(j:Nat) (c:Qb),w.heap[j]?=some (.cells c 2 (0,0))->¬Q j):fx P E i V X M w':=by
 obtain ⟨⟨D,B,h1,o,N,J⟩,L⟩:=h;have u:Ext (aF (D.hid (az i).W E) w) (aF (D.hid (az i).W E) w'):=aX (hk.mono fun k _ e=>.inr (p k e)) fun k _ e=>e;refine ⟨⟨D,B,h1,⟨o.mem.keepQ hk (fun k e=>.inr (p k e)) (fun j c I _=>he j c I),o.al,?_⟩,N,hP _ _ u J⟩,L.trans (hk.mono fun k _ e=>p k e)⟩;obtain ⟨C,O,v,y,x,A,H⟩:=o.rows;exact ⟨C,O,v,y,(hk.block _ o.mem.xl fun e=>o.mem.ne _ (p _ e) (.inl rfl)).trans x,aQ A u,aQ H u⟩
end
end Go.Proofs.YtgmajkppbhiopaaGreat
namespace Go.Proofs.YtgmajkppbhiopaaGreat
open Go.RowKit Go.ChangeShapes Go.WideShapes Go.ChangeAt
open Tryz
theorem DG {i:Inp} {M:WSt} {l:Qa} {k:Nat} (hk:k<l.length):(jL i M (l.take (k+1))).1=(pkZ i (jL i M (l.take k)).1 (nth l k)).1:=by
 rw [List.take_add_one,Of hk,Option.toList_some,DH,dd _ _ hk]
end Go.Proofs.YtgmajkppbhiopaaGreat
namespace Go.Proofs.YtgmajkppbhiopaaGreat
open Go.RowKit
open Tryz
section
variable {P P':Qd->Prop} {E:Nat->Prop} {i:Inp} {V w w':Qd} {X Y:Nat} {M:WSt} {vs:Qb}
theorem fx.refE (h:fx P E i V X M w):∃S:Nat->Prop,(∀k,S k->k<w.heap.size)/\P (aF S w)/\(∀k,S k->V.heap.size<=k\/E k)/\∀(P':Qd->Prop) (o:Nat->Prop) w',aq w w'->(∀k,E k->o k)->(∀k,o k->k<w'.heap.size/\(E k\/w.heap.size<=k))->P' (aF (fun k=>S k\/o k) w')->fx P' o i V X M w':=by
 obtain ⟨⟨D,B,h1,u,x,y⟩,A⟩:=h;refine ⟨D.hid (az i).W E,fun k e=>e.elim (u.mem.lt k) (u.mem.ex k),y,fun k e=>e.imp (x k) id,fun P' o w' hb p he v=>⟨⟨D,B,h1,u.more hb he,x,?_⟩,mC (A.mono fun k _ e=>p k e) hb⟩⟩;rw [show (fun k=>D.hid (az i).W E k\/o k)=D.hid (az i).W o from funext fun k=>propext ⟨fun e=>e.elim (fun e=>e.imp id (p k)) .inr,fun e=>e.elim (fun e=>.inl (.inl e)) .inr⟩] at v;exact v
theorem fx.pickE (h:fx P E i V X M w) (hP:mT P) (hs:cq i) (u: -9223372036854775808<=i.cfg.rate/\i.cfg.rate<=9223372036854775807) (v: -9223372036854775808<=i.cfg.mom/\i.cfg.mom<=9223372036854775807) (z:Int):Calls prog 15 #[(au X),OH z] w fun e w'=>e=.returned (.bool (pkZ i M z).2)/\fx P E i V X (pkZ i M z).1 w'/\∀k,E k->w'.heap[k]?=w.heap[k]?:=by
 obtain ⟨⟨D,B,rfl,p,A,I⟩,y⟩:=h;refine (qu p hs u v z).mono ?_;rintro e w' ⟨he,J,C,L,o,x⟩;have N:=y.size;refine ⟨he,⟨⟨J,B,C,L,fun j H=>(x j H).elim (A j) fun h=>ap,hP _ _ (aX (o.mono fun k _ e=>.inl e) fun k hk e=>e.imp (fun e=>(x k e).elim id fun e=>absurd hk ap) id) I⟩,?_⟩,fun k hk=>o.block k (p.mem.ex k hk) (p.mem.ne k hk)⟩;exact fj y o fun k hk e=>absurd (A k e) ap
structure WB (P:Qd->Prop) (Y:Nat) (vs:Qb) (i:Inp) (V:Qd) (X:Nat) (M:WSt) (w:Qd):Prop where
 j:fx P (fun k=>k=Y) i V X M w
 b:w.heap[Y]?=some (.cells vs 39 (0,0))
theorem WB.below (h:WB P Y vs i V X M w) (hP:mT P) (hb:aq w w'):WB P Y vs i V X M w':=⟨h.j.below hP hb,sb h.b w' hb⟩
theorem WB.pick (h:WB P Y vs i V X M w) (hP:mT P) (hs:cq i) (p: -9223372036854775808<=i.cfg.rate/\i.cfg.rate<=9223372036854775807) (o: -9223372036854775808<=i.cfg.mom/\i.cfg.mom<=9223372036854775807) (z:Int):Calls prog 15 #[(au X),OH z] w fun e w'=>e=.returned (.bool (pkZ i M z).2)/\WB P Y vs i V X (pkZ i M z).1 w':=by
 refine (h.j.pickE hP hs p o z).mono ?_;rintro e w' ⟨he,u,hb⟩;exact ⟨he,u,(hb Y rfl).trans h.b⟩
theorem WB.put {o:Qb} (h:WB P Y vs i V X M w) (hP:mT P) (hk:Keep (fun k=>k=Y) w w') (hb:w'.heap[Y]?=some (.cells o 39 (0,0))):WB P Y o i V X M w':=
 ⟨h.j.keepQ hP hk (fun k e=>e) (fun j c p e=>mR p h.b (by decide) e),hb⟩
end
theorem Km {I T A N O D R H B J i u v h p:Value} {C:Int} {w:Qd} (hC:C≠0) (L:∀y,aq w y->Calls prog 43 #[.agg #[I,T,A,N,O,D,R,H,B,J,i,u,v,h,p]] y fun e U=>e=.returned (OH C)/\aq y U):Calls prog 13 #[.agg #[I,T,A,N,O,D,R,H,B,J,i,u,v,h,p]] w fun e y=>e=.returned (.tuple #[.pointer none,OH C])/\aq w y:=by
 obtain ⟨W1,x⟩:∃W1,w.alloc (.cells #[I,T,A,N,O,D,R,H,B,J,i,u,v,h,p] 29)=W1:=⟨_,rfl⟩;have g0:W1.heap[w.heap.size]?=some (.cells #[I,T,A,N,O,D,R,H,B,J,i,u,v,h,p] 29 (0,0)):=by rw [<-x];exact NG w _
 have Z:aq w W1:=by rw [<-x];exact (br w).alloc (NF _) _
 obtain ⟨V,Q,G0,Y⟩:=ag L x g0 Z;have a0:(C != 0)=true:=by rw [bne_iff_ne];exact hC
 clear L x g0 Z;go_enter func13,ntmps13;go_wp2_with (refine aK #[I,T,A,N,O,D,R,H,B,J,i,u,v,h,p] (b:=w.heap.size) (by rw [Q.o];exact G0.o) wn rfl rfl rfl rfl ?_);rw [Q.o];refine (V.o _ Y.o).mono ?_;rintro e w2 ⟨rfl,k2⟩;have K2:=aa (Y.o.trans (k2.mono Y.o.size));clear k2;go_wp2_with fail;go_ret2;exact ⟨rfl,K2.o⟩
end Go.Proofs.YtgmajkppbhiopaaGreat
namespace Go.Proofs.YtgmajkppbhiopaaGreat
open Go.RowKit Go.ChangeShapes Go.WideShapes Go.ChangeAt
open Tryz
def MtP (h:N_) (o:Qa) (vs:Qb) (i:Inp) (M0:WSt) (u:Qd):Prop:=Rd u h (aA .i64 o)/\RWm u vs i M0
theorem MtP.stab {o:N_} {p:Qa} {vs:Qb} {i:Inp} {M0:WSt}:mT (MtP o p vs i M0):=fun _ _ he h=>⟨aQ h.1 he,h.2.ext he⟩
theorem qs {H:Type} {cO:Qf×Value->H} {base:Nat} {v0 v1:Value} {d0 d1:DataW H} {p0 p1:List MemPlace} (W:Qd) (o0:Value.okWide prog W .any base 29 v0) (h0:DataW.Trod cO prog W 0 (fun _=>true) true 29 v0 d0 p0) (z0:fH prog 29 d0) (o1:Value.okWide prog W .any base 22 v1) (h1:DataW.Trod cO prog W 0 (fun _=>true) true 22 v1 d1 p1) (z1:fH prog 22 d1):Calls prog 3 #[v0,v1] W fun e v=>e=.returned (.bool true)/\aq W v:=by
 obtain ⟨A,c,D,Z,T,Q,R,V,i,rfl,hI,_⟩:=sS o0 h0 z0;obtain ⟨B0,B,dw,rfl,cb⟩:=sQ o1 h1 z1;clear o0 h0 z0 o1 h1 z1;have ab:=fun v (q:aq W v)=>oQ A c D Z T Q R V i v (hI.below q);have cw:=fun v (q:aq W v) (hs:ji i)=>(hI.below q).rd hs;have bX:=fun v (q:aq W v)=>cb.hr.below q;unfold qS at ab;obtain ⟨W1,aG⟩:∃W1,W.alloc (.cells (aN A c D Z T Q R V i) 29)=W1:=⟨_,rfl⟩;have hx:W1.heap[W.heap.size]?=some (.cells (aN A c D Z T Q R V i) 29 (0,0)):=by rw [<-aG];exact NG W _
 have hB:aq W W1:=by rw [<-aG];exact (br W).alloc (NF _) _
 have tl:=sl hx;obtain ⟨a6,cs,c8,L,HB,dk,Hx,bs⟩:=ak hx aG ab cw hB bX (fun v (q:aq W1 v)=>hB.trans (q.mono hB.size)) (fun v (q:aq W1 v)=>(gP v).mono fun e dn (h:_/\Below _ _ _)=>(⟨h.1,hB.trans ((q.trans (h.2.mono q.size)).mono hB.size)⟩:e=.returned (.bool true)/\aq W dn));obtain ⟨bn,a9⟩:∃bn,B.length=bn:=⟨_,rfl⟩;rw [a9];have c6:=aa a9;clear ab cw hI hx hB aG bX cb a9;go_enter func3,ntmps3;go_wp2_with (refine aK (aN A c D Z T Q R V i) (b:=W.heap.size) (by rw [cs.o];exact a6.o) dY rfl rfl rfl rfl ?_);rw [cs.o];have q1:=br W1;refine (c8.o W1 (Hx.o _ q1)).mono ?_;rintro e w2 ⟨⟨b,rfl,b3⟩,k2⟩;have q2:=bt q1 k2;clear q1 k2;rcases dI b with rfl | rfl
 ·clear b3;go_wp2_with fail;refine (bs.o _ q2).mono ?_;rintro e I ⟨rfl,h3⟩;go_wp2_with fail;go_ret;exact ⟨rfl,h3⟩
 have Hs:=aa (b3 rfl);clear b3;by_cases dT:60<bn
 ·have cc:(60:Int)<bn:=ap;go_wp2_with fail;refine (bs.o _ q2).mono ?_;rintro e I ⟨rfl,h3⟩;go_wp2_with fail;go_ret;exact ⟨rfl,h3⟩
 have cc:¬(60:Int)<bn:=ap;obtain ⟨Q3,N⟩:=ae q2 Hs.o.1.1;obtain ⟨I,rfl⟩:∃I,I=w2:=⟨_,rfl⟩;clear q2;by_cases hc:dF i=0;rotate_left
 ·obtain ⟨C,hC⟩:∃C,dF i=C:=⟨_,rfl⟩;have hP:=fun v (q:aq W1 v)=>Km (w:=v) hc (fun w4 q4=>qK A c D Z T Q R V i w4 (L.o w4 (Hx.o _ (bt q q4)) N.o));have hR:=fun v (q:aq W1 v)=>GG (w:=v) hc (fun w4 q4=>gD A c D Z T Q R V i w4 (L.o w4 (Hx.o _ (bt q q4)) N.o));rw [hC] at hc hP hR;obtain ⟨HP,HR⟩:=ae hP hR;clear hP hR hC;go_wp2_with (refine aK (aN A c D Z T Q R V i) (b:=W.heap.size) (sb a6.o _ Q3.o) dY rfl rfl rfl rfl ?_);refine (HP.o I Q3.o).mono ?_;rintro e w4 ⟨rfl,k4⟩;have Q4:=aa (bt Q3.o k4);clear k4;go_wp2_with (refine aK (aN A c D Z T Q R V i) (b:=W.heap.size) (sb a6.o _ Q4.o) dY rfl rfl rfl rfl ?_);refine (HR.o w4 Q4.o).mono ?_;rintro e w5 ⟨rfl,k5⟩;have Q5:=aa (bt Q4.o k5);clear k5;go_upto_region 5 with (refine aH (NG _ _) bE rfl rfl rfl rfl rfl rfl rfl ?_;intro w6 e6 k6;have K6:=aa (aL k6);clear e6 k6);have Q6:=aa (bt Q5.o K6.o);have e4:(C != C)=false:=by simp
  have dG:(C != 0)=true:=by rw [bne_iff_ne];exact hc
  have e7:(C==C)=true:=by simp
  go_wp2_with fail;refine (bs.o _ Q6.o).mono ?_;rintro e w7 ⟨rfl,h7⟩;have H7:=aa h7;clear h7;go_wp2_with fail;go_ret;exact ⟨rfl,H7.o⟩
 have bA:=Hs.o.1.sm hc;have U:=aa bA;have ds:=aa (L.o I (Hx.o _ Q3.o) N.o).ra;have d8:=aa (L.o I (Hx.o _ Q3.o) N.o).rm;clear hc bA Hs;go_wp2_with (refine aK (aN A c D Z T Q R V i) (b:=W.heap.size) (sb a6.o _ Q3.o) dY rfl rfl rfl rfl ?_);have cn:=aa (L.o I (Hx.o _ Q3.o) N.o);have y:=nr (E:=fun _=>False) A c D Z T Q R V i I cn.o U.o (fun _ e=>e.elim);refine y.mono ?_;rintro e w4 hn;obtain ⟨X,rfl,J4,hX,k4⟩:=hn.winP (P:=fun u=>fY u A c D T Q R i/\Rd u B0 (aA .i64 B)) (fun S hS=>⟨eg cn.o (mK hn.q fun k e=>(hS k e).elim id False.elim),aQ (dk.o _ (Hx.o _ Q3.o)) (mK hn.q fun k e=>(hS k e).elim id False.elim)⟩);obtain ⟨b7,Q4⟩:=ae J4 (bt Q3.o k4);clear J4 hn y k4;go_wp2_with (refine aK (aN A c D Z T Q R V i) (b:=W.heap.size) (sb a6.o _ Q4.o) dY rfl rfl rfl rfl ?_);obtain ⟨S,b8,⟨b6,cL⟩,da,b2⟩:=b7.o.refE;have y:=Gs (S:=S) A c D Z T Q R V i b8 (L.o w4 (Hx.o _ Q4.o) N.o) (fun v q=>eg b6 (dm q)) U.o;obtain ⟨dp,d7,bG,b0⟩:=ag b8 b6 cL b2;clear b8 b6 cL da b2;refine y.mono ?_;rintro e w5 ⟨vs,rfl,hz,ho,hm,k5⟩;obtain ⟨Hz,Ho,HM,K5,Q5⟩:=ah hz ho hm k5 (bt Q4.o k5);clear y hz ho hm k5;go_upto_region 5 with (refine aH (NG _ _) bE rfl rfl rfl rfl Hz.o (by rw [Hz.o];rfl) Ho.o ?_;intro w6 e6 k6;obtain ⟨E6,K6⟩:=ae e6 (aL k6);clear e6 k6);have Q6:=aa (bt Q5.o K6.o);obtain ⟨Y,hY⟩:∃Y,w5.heap.size=Y:=⟨_,rfl⟩;have bf:aq w4 w6:=bt K5.o K6.o
 have J6:=b0.o (MtP B0 B vs i (gW i)) (fun k=>k=Y) w6 bf (fun _ e=>e.elim) (fun k e=>⟨by have:=NE E6.o;omega,.inr (by have:=K5.o.size;omega)⟩)
  ⟨aQ bG.o (aX (Keep.below bf) fun k hk e=>e.elim id fun e=>by have:=K5.o.size;omega),HM.o.ext (aX (Keep.below K6.o) fun k hk e=>e.elim id fun e=>ap)⟩
 obtain ⟨bN,ci⟩:=ae (show WB (MtP B0 B vs i (gW i)) Y vs i I X (gW i) w6 from ⟨J6,by rw [<-hY];exact E6.o⟩) (show I.heap.size<=Y by have:=K5.o.size;have:=b7.o.q.size;omega);clear HM K5 K6 dp d7 bG b0 b7 bf J6 E6 Q6 Q5;rw [hY];clear hY;go_wp2_with fail
 go_loopw [52] (fun u wr=>∃(k:Nat) (vz:Qb),k<=bn/\u=OH k/\WB (MtP B0 B vz i (jL i (gW i) (B.take k)).1) Y vz i I X (jL i (gW i) (B.take k)).1 wr) (fun u _=>bn-(intOf u).toNat)
 ·exact ⟨0,vs,NJ _,rfl,bN.o⟩
 case round=>
  clear bN;obtain ⟨k,vz,hk,rfl,hj⟩:=hrel;have b5:=(hj.j.p MtP.stab).2.sz;have HZ:=aa b5.1;by_cases d9:k<bn
  ·have e3:(k:Int)<bn:=ap;have bi:k<B.length:=by rw [c6.o];exact d9
   obtain ⟨b,o,rfl,p⟩:=(hj.j.p MtP.stab).1.num bi;obtain ⟨M,hM⟩:∃M,(jL i (gW i) (B.take k)).1=M:=⟨_,rfl⟩;have a2:=DG (i:=i) (M:=gW i) bi;rw [hM] at a2 hj;obtain ⟨z,hz⟩:∃z,nth B k=z:=⟨_,rfl⟩;rw [hz] at p a2;have bo:=hj.pick MtP.stab U.o ds.o d8.o z;have b9:=fun (S:Nat->Prop) v hS h=>At (S:=S) (w:=v) (vs:=vz) (i:=i) (M:=M) U.o hS h z;obtain ⟨M',ad⟩:∃M',(pkZ i M z).1=M':=⟨_,rfl⟩;obtain ⟨pb,b4⟩:∃pb,(pkZ i M z).2=pb:=⟨_,rfl⟩;rw [ad,b4] at bo;simp only [ad,b4] at b9;rw [ad] at a2;obtain ⟨dr,co,bz⟩:=af a2 bo b9;clear hM a2 hz bi bo ad b4 b9 hj b5;go_wp2_with fail;refine co.o.mono ?_;rintro e bh ⟨rfl,ao⟩;obtain ⟨J,a8⟩:=ae ao ao.b;obtain ⟨S1,cM,be, -,a1⟩:=ao.j.ref;have cP:=bz.o S1 bh cM be.2;obtain ⟨cA,d2,a0⟩:=af cP be.1 a1;clear ao cM be a1 cP co bz p;go_wp2_with (refine aK vz (b:=Y) (o:=0) a8.o (by rw [HZ.o];exact bE) rfl rfl rfl (by rw [Oc];exact Oq) ?_);refine cA.o.mono ?_;rintro e av ⟨v2,rfl,cl,c9,bV,a7⟩;obtain ⟨O,bv,cy,bb⟩:=ag cl c9 bV a7;clear cA cl c9 bV a7;go_upto_region 12 with (refine aH (NG _ _) bE rfl rfl rfl rfl O.o (by rw [O.o];rfl) bv.o ?_;intro aR cx d5;obtain ⟨d6,aM⟩:=ae cx (aL d5);clear cx d5);have a3:=aa (sb (sb a8.o av bb.o) aR aM.o)
   go_upto_region 13 with (first
    | (refine aK v2 (b:=av.heap.size) (o:=0) d6.o (by rw [O.o];exact bE) rfl rfl rfl (by rw [Oc];exact Oq) ?_)
    | (refine aH (b:=Y) a3.o bE rfl rfl rfl rfl O.o (by rw [HZ.o];exact O.o.symm) bv.o ?_;intro e1 bw cv;obtain ⟨bd,bM⟩:=ae bw cv;clear bw cv))
   have a4:aq bh aR:=bt bb.o aM.o;have bI:=a0.o (MtP (some (ar b o)) B v2 i M') aR a4 ⟨aQ d2.o (dm a4),cy.o.ext (dm aM.o)⟩;have aP:=(show WB (MtP (some (ar b o)) B v2 i M') Y vz i I X M' aR from ⟨bI,a3.o⟩).put MtP.stab bM.o bd.o;obtain ⟨b1,x⟩:=ae aP (wh aP.j.win U.o (aP.j.p MtP.stab).2);have e5:(pb != pb)=false:=by simp
   clear a4 bI aP a0 d2 cy bb aM bM a8 d6 a3 J;go_wp2_with (refine jn v2 (b:=Y) (o:=0) bd.o (by rw [O.o];exact bE) rfl rfl rfl (by rw [Oc];exact Oq) ?_);refine x.o.mono ?_;rintro e e2 ⟨rfl,bO⟩;have d4:=aa (b1.o.below MtP.stab bO);clear bO b1 x bd;go_wp2_with fail;go_roundw
   ·exact ⟨k+1,v2,by omega,by go_num,by rw [dr.o];exact d4.o⟩
   ·simp [intOf];omega
  ·obtain rfl:k=bn:=ap;have dv:¬((k:Int)<k):=ap;have e0:B.take k=B:=List.take_of_length_le (by rw [c6.o];omega);rw [e0] at hj;obtain ⟨M0,c7⟩:∃M0,(jL i (gW i) B).1=M0:=⟨_,rfl⟩;rw [c7] at hj;have HJ:=aa hj;clear hk e0 c7 hj b5;go_wp2_with fail;refine (gP _).mono ?_;rintro e bh ⟨rfl,cj⟩;have a5:=HJ.o.below MtP.stab cj;obtain ⟨a8,x,J⟩:=af a5.b (wh a5.j.win U.o (a5.j.p MtP.stab).2) a5;clear cj a5 HJ;go_wp2_with (refine jn vz (b:=Y) (o:=0) a8.o (by rw [HZ.o];exact bE) rfl rfl rfl (by rw [Oc];exact Oq) ?_);refine x.o.mono ?_;rintro e av ⟨rfl,a7⟩;have d3:=(J.o.below MtP.stab a7).j.q;have cf:aq I av:=d3.toBelow (NF _) (fun k e=>by rw [show k=Y from e];exact ci.o);have dc:=aa (bt Q3.o cf);clear d3 cf a7 J;go_wp2_with fail;go_ret;exact ⟨rfl,Hx.o _ dc.o⟩
end Go.Proofs.YtgmajkppbhiopaaGreat
