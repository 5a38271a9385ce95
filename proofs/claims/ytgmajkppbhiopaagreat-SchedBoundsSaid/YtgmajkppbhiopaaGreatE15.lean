/- No condition. -/
import Derived.Test.YtgmajkppbhiopaaGreatE14
set_option linter.unusedSimpArgs false
set_option linter.unusedVariables false
set_option maxRecDepth 100000
set_option maxHeartbeats 4000000
namespace Go.Proofs.YtgmajkppbhiopaaGreat
open Go.RowKit Go.ChangeShapes Go.WideShapes Go.ChangeAt
open Tryz
theorem pY {H:Type} {d6:TypeId×Value->H} {base:Nat} {v0 v1:Value} {d0 d1:DataW H} {p0 p1:List MemPlace} (W:World)
  (o0:Value.okWide prog W .any base 29 v0) (h0:DataW.Trod d6 prog W 0 (fun _=>true) true 29 v0 d0 p0) (z0:j8 prog 29 d0)
  (o1:Value.okWide prog W .any base 22 v1) (h1:DataW.Trod d6 prog W 0 (fun _=>true) true 22 v1 d1 p1) (z1:j8 prog 22 d1):
  Calls prog 7 #[v0,v1] W fun e v=>e=.returned (.bool true)/\aq W v:=by
 obtain ⟨A,c,D,cd,T,ct,R,cr,i,rfl,hI,_⟩:=FE o0 h0 z0
 obtain ⟨B0,V,dk,rfl,cf⟩:=FC o1 h1 z1
 clear o0 h0 z0 o1 h1 z1
 have a9:=fun v (q:aq W v)=>yU A c D cd T ct R cr i v (hI.below q)
 have cA:=fun v (q:aq W v) (hs:km i)=>(hI.below q).rd hs
 have bX:=fun v (q:aq W v)=>cf.hr.below q
 unfold sR at a9
 obtain ⟨W1,aG⟩:∃W1,W.alloc (.cells (aO A c D cd T ct R cr i) 29)=W1:=⟨_,rfl⟩
 have hx:W1.heap[W.heap.size]?=some (.cells (aO A c D cd T ct R cr i) 29 (0,0)):=by rw [<-aG];exact LP W _
 have hB:aq W W1:=by rw [<-aG];exact (br W).alloc (LO _) _
 have tl:=sl hx
 obtain ⟨N,cx,c8,a5,HB,c6,Hx,bi⟩:=ak hx aG a9 cA hB bX (fun v (q:aq W1 v)=>hB.trans (q.mono hB.size)) (fun v (q:aq W1 v)=>(qz v).mono fun e dv (h:_/\Below _ _ _)=>(⟨h.1,hB.trans ((q.trans (h.2.mono q.size)).mono hB.size)⟩:e=.returned (.bool true)/\aq W dv))
 obtain ⟨bn,a8⟩:∃bn,V.length=bn:=⟨_,rfl⟩
 rw [a8]
 have av:=aa a8;clear a9 cA hI hx hB aG bX cf a8
 go_enter func7,ntmps7
 go_wp2_with (refine aS (aO A c D cd T ct R cr i) (b:=W.heap.size) (by rw [cx.o];exact N.o) ib rfl rfl rfl rfl ?_)
 rw [cx.o]
 have q1:=br W1
 refine (c8.o W1 (Hx.o _ q1)).mono ?_
 rintro e w2 ⟨⟨b,rfl,b1⟩,k2⟩
 have q2:=bt q1 k2
 clear q1 k2
 rcases eh b with rfl | rfl
 ·clear b1
  go_wp2_with fail
  refine (bi.o _ q2).mono ?_
  rintro e w3 ⟨rfl,h3⟩
  go_wp2_with fail
  go_ret
  exact ⟨rfl,h3⟩
 obtain ⟨Hs,Q2⟩:=ae (b1 rfl) q2;have cc:=aa (a5.o w2 (Hx.o _ q2) Hs.o.1.1);clear b1 q2
 go_wp2_with (refine Az (aO A c D cd T ct R cr i) (sb N.o _ Q2.o) ib rfl rfl rfl rfl ?_)
 refine (jr A c D cd T ct R cr i w2 cc.o).mono ?_
 rintro e w3 ⟨rfl,k3⟩
 have Q3:=aa (bt Q2.o k3);clear k3 cc
 by_cases aM:dV i=0/\bn<=300
 rotate_left
 ·obtain ⟨C,hC⟩:∃C,dV i=C:=⟨_,rfl⟩
  rw [hC] at aM ⊢
  clear hC
  by_cases h0:C=0
  ·subst h0
   have bw:(300:Int)<bn:=ap
   clear aM
   go_wp2_with fail
   refine (bi.o _ Q3.o).mono ?_
   rintro e w4 ⟨rfl,h3⟩
   go_wp2_with fail
   go_ret
   exact ⟨rfl,h3⟩
  ·clear aM
   have ea:(C != 0)=true:=by rw [bne_iff_ne];exact h0
   go_wp2_with fail
   refine (bi.o _ Q3.o).mono ?_
   rintro e w4 ⟨rfl,h3⟩
   go_wp2_with fail
   go_ret
   exact ⟨rfl,h3⟩
 obtain ⟨hc,bw⟩:=aM
 have bA:=Hs.o.1.sm hc
 rw [hc]
 have I:=aa bA
 have dT:¬(300:Int)<bn:=ap
 have ad:=aa Hs.o.1.1;have e5:=aa (a5.o w3 (Hx.o _ Q3.o) ad.o).ra;have dn:=aa (a5.o w3 (Hx.o _ Q3.o) ad.o).rm;clear hc bA Hs
 go_wp2_with (refine aS (aO A c D cd T ct R cr i) (b:=W.heap.size) (sb N.o _ Q3.o) ib rfl rfl rfl rfl ?_)
 have co:=aa (a5.o w3 (Hx.o _ Q3.o) ad.o)
 have O:=tp (E:=fun _=>False) A c D cd T ct R cr i w3 co.o I.o (fun _ e=>e.elim)
 refine O.mono ?_
 rintro e w4 hn
 obtain ⟨X,rfl,J4,hX,k4⟩:=hn.winP (P:=fun u=>ge u A c D T ct R i/\Rd u B0 (aA .i64 V)) (fun S hS=>⟨fu co.o (Bs hn.q fun k e=>(hS k e).elim id False.elim),aV (c6.o _ (Hx.o _ Q3.o)) (Bs hn.q fun k e=>(hS k e).elim id False.elim)⟩)
 obtain ⟨bM,Q4⟩:=ae J4 (bt Q3.o k4);clear J4 hn O k4
 go_wp2_with (refine aS (aO A c D cd T ct R cr i) (b:=W.heap.size) (sb N.o _ Q4.o) ib rfl rfl rfl rfl ?_)
 obtain ⟨S,b7,⟨b5,d4⟩,ds,b0⟩:=bM.o.ref
 have O:=KZ (S:=S) A c D cd T ct R cr i b7 (a5.o w4 (Hx.o _ Q4.o) ad.o) (fun v q=>fu b5 (ik q)) I.o
 obtain ⟨be,dc,bI,aR⟩:=ag b7 b5 d4 b0;clear b7 b5 d4 ds b0
 refine O.mono ?_
 rintro e w5 ⟨vs,rfl,hz,ho,hm,k5⟩
 obtain ⟨Hz,Ho,HM,K5,Q5⟩:=ah hz ho hm k5 (bt Q4.o k5);clear O hz ho hm k5
 go_upto_region 5 with (refine aJ (LP _ _) cX rfl rfl rfl rfl Hz.o (by rw [Hz.o];rfl) Ho.o ?_;intro w6 e6 k6;obtain ⟨E6,K6⟩:=ae e6 (aU k6);clear e6 k6)
 have Q6:=aa (bt Q5.o K6.o)
 go_wp2_with (refine aS vs (b:=w5.heap.size) (o:=0) E6.o (by rw [Hz.o];exact cX) rfl rfl rfl (by rw [Mn];exact Mz) ?_)
 have a0:=KY (S:=fun k=>S k\/k=w5.heap.size) (w:=w6) (A:=B0) (c:=dk) (l:=V) I.o (fun k e=>e.elim (fun e=>by have:=be.o k e;have:=K5.o.size;have:=K6.o.size;omega) (fun e=>by have:=LN E6.o;omega)) (HM.o.ext (bE (Keep.below K6.o) fun k hk e=>e.elim id fun e=>absurd hk ap)) (by rw [av.o];omega) (c6.o _ (Hx.o _ Q6.o))
 rw [av.o] at a0
 obtain ⟨M0,bd⟩:∃M0,M0=(pF i (kK i) V).1:=⟨_,rfl⟩
 obtain ⟨n0,c7⟩:∃n0,n0=(pF i (kK i) V).2:=⟨_,rfl⟩
 rw [<-bd,<-c7] at a0
 have cv:=aa bd;clear bd c7
 refine a0.mono ?_
 rintro e w7 ⟨a2,rfl,cn,c9,bV,k7⟩
 obtain ⟨cj,d8,d3,K7,Q7⟩:=ah cn c9 bV k7 (bt Q6.o k7);clear a0 cn c9 bV k7
 go_upto_region 6 with (refine aJ (b:=w5.heap.size) (sb E6.o _ K7.o) cX rfl rfl rfl rfl cj.o (by rw [Hz.o];exact cj.o.symm) d8.o ?_;intro w8 e8 k8;obtain ⟨E8,K8⟩:=ae e8 k8;clear e8 k8)
 obtain ⟨Y,hY⟩:∃Y,w5.heap.size=Y:=⟨_,rfl⟩
 have b6:aq w4 w8:=(bt (bt K5.o K6.o) K7.o).trans (K8.o.toBelow (by have:=K5.o.size;have:=K6.o.size;have:=K7.o.size;omega) (fun k e=>by have:=K5.o.size;omega))
 have cs:RWm (aF S w8) a2 i M0:=(d3.o.ext (bE (K8.o.mono fun k _ e=>.inr e) fun k _ e=>e)).ext (bE (Keep.refl _ _) fun k _ e=>.inl e)
 have d2:(aF S w8).heap[Y]?=some (.cells a2 39 (0,0)):=by
  rw [gD (fun e=>by have:=be.o Y e;have:=K5.o.size;omega),<-hY];exact E8.o
 have J8:=aR.o (m6 B0 V Y a2 i M0) w8 b6 ⟨aV bI.o (ik b6),d2,cs⟩
 have Q:=aa J8
 have e4:=J8.q
 clear HM d3 E8 K8 K7 K6 K5 be dc bI aR bM b6 cs d2 J8 E6 Q7 Q6 Q5
 rw [hY]
 clear hY
 go_wp2_with fail
 have ao:∀v,aq W1 v->v.cell? (ar W.heap.size 10)=some (MO i.cfg.window):=fun v q=>LQ v W.heap.size 10 _ _ _ (sb N.o v q)
 have cb:=aa ao;clear ao
 go_loopw [48] (fun u wr=>∃k:Nat,k<=bn/\u=MO k/\lK (m6 B0 V Y a2 i M0) (fun _=>False) i w3 X (pF i (kK i) (V.take k)).1 wr) (fun u _=>bn-(intOf u).toNat)
 case atStart=>exact ⟨0,LS _,rfl,Q.o⟩
 case round=>
  clear Q e4
  obtain ⟨k,hk,rfl,hj⟩:=hrel
  have Q:=aa hj;clear hj
  by_cases b8:k<bn
  ·have e2:(k:Int)<bn:=ap
   have bf:k<V.length:=by rw [av.o];exact b8
   obtain ⟨b,o,rfl,p⟩:=(Q.o.p m6.stab).1.num bf
   obtain ⟨M,hM⟩:∃M,(pF i (kK i) (V.take k)).1=M:=⟨_,rfl⟩
   have a7:=Cq (i:=i) (M:=kK i) bf
   rw [hM] at a7
   rw [hM] at Q
   obtain ⟨z,hz⟩:∃z,nth V k=z:=⟨_,rfl⟩
   rw [hz] at p a7
   have Z:=Q.o.pick m6.stab I.o e5.o dn.o z
   obtain ⟨M',b3⟩:∃M',(pkZ i M z).1=M':=⟨_,rfl⟩
   obtain ⟨pb,bv⟩:∃pb,(pkZ i M z).2=pb:=⟨_,rfl⟩
   rw [b3,bv] at Z
   rw [b3] at a7
   obtain ⟨e1,cw⟩:=ae a7 Z;clear hM a7 hz bf Z b3 bv Q
   go_wp2_with fail
   refine cw.o.mono ?_
   rintro e L ⟨rfl,cO⟩
   obtain ⟨y,ci⟩:=ae cO (fun v (J:lK (m6 (some (ar b o)) V Y a2 i M0) (fun _=>False) i w3 X M' v)=>J.win.openZ I.o z);clear cO cw p
   have a3:=bt Q3.o (y.o.q.toBelow (LO _) (fun _ e=>e.elim))
   have ao:=cb.o
   go_upto_region 10 with (fail)
   refine HA.g (fun v=>aq W1 v) ?_
   refine HA.t ?_ [0,1,4,5,6] a3.drew ?_
   refine HA.c 2 (ci.o L.drew (y.o.below m6.stab (br L).drew)) ?_
   rintro e e7 ⟨⟨A2,n2,c2,rfl,ef⟩,a4⟩
   have a6:=aa (y.o.below m6.stab (bt (br L).drew a4))
   have b4:=bt a3.drew a4
   have e9:¬(i.cfg.window<(n2:Int)):=ap
   refine ⟨_,rfl,b4,fun _=>?_⟩
   refine HA.t ?_ [3,7] b4 ?_
   refine HA.d ?_
   clear a4 y ci a3 b4 ao
   go_wp2_with fail
   go_roundw
   case rel=>exact ⟨k+1,by omega,by go_num,by rw [e1.o];exact a6.o⟩
   case measure=>simp [intOf];omega
  ·obtain rfl:k=bn:=ap
   have da:¬((k:Int)<k):=ap
   have e0:V.take k=V:=List.take_of_length_le (by rw [av.o];omega)
   rw [e0,<-cv.o] at Q
   clear hk e0
   have dr:=I.o.g.c.w;have d9:=I.o.g.c.ca;have dw:=I.o.ok.W8
   obtain ⟨Wn,bb⟩:∃Wn:Nat,i.cfg.workers=(Wn:Int):=⟨i.cfg.workers.toNat,by omega⟩
   have b2:(aB i).W=Wn:=by simp only [aB];omega
   obtain ⟨cp,bs⟩:∃cp:Nat,i.cfg.cap=(cp:Int):=⟨i.cfg.cap.toNat,by omega⟩
   have aP:i.cfg.cap.toNat=cp:=ap
   have qj:=bt Q3.o (Q.o.q.toBelow (LO _) (fun _ e=>e.elim))
   have c4:wr.cell? (ar W.heap.size 4)=some (MO (Wn:Nat)):=by rw [<-bb];exact LQ wr W.heap.size 4 _ _ _ (sb N.o wr qj)
   have bG:∀v,aq W1 v->v.cell? (ar W.heap.size 11)=some (MO (cp:Nat)):=fun v q=>by
    rw [<-bs];exact LQ v W.heap.size 11 _ _ _ (sb N.o v q)
   have t4:∀v,aq W1 v->v.cell? (ar W.heap.size 4)=some (MO (Wn:Nat)):=fun v q=>by
    rw [<-bb];exact LQ v W.heap.size 4 _ _ _ (sb N.o v q)
   obtain ⟨e3,T4,b9,cM⟩:=ag bG t4 b2 aP
   rw [b2] at dw
   clear bG t4 b2 dr d9 bb bs aP qj cv
   go_wp2_with fail
   clear c4
   go_loopw [67] (fun u wr=>∃k:Nat,k<=Wn/\u=MO k/\lK (m6 B0 V Y a2 i M0) (fun _=>False) i w3 X M0 wr) (fun u _=>Wn-(intOf u).toNat)
   case atStart=>exact ⟨0,LS _,rfl,Q.o⟩
   case round=>
    clear Q
    obtain ⟨k,hk,rfl,hj⟩:=hrel
    have Q:=aa hj
    by_cases b8:k<Wn
    ·have e2:(k:Int)<Wn:=ap
     have hx:k<(aB i).W:=by rw [b9.o];exact b8
     have a1:=hj.al.ok.lok k hx
     rw [cM.o] at a1
     obtain ⟨sk,ab⟩:∃sk,M0.s k=sk:=⟨_,rfl⟩
     rw [ab] at a1
     have hp:=hj.p m6.stab
     have B:=hj.win.linkIn I.o hx
     rw [ab] at B
     obtain ⟨⟨mv,lv,⟨⟨AM,cm,AL,cl,rfl, -,bo, -⟩, -,bO⟩, -,hrl⟩, -⟩:=hp.2.2
     obtain ⟨BL,cL,d7, -⟩:=hrl k hx
     obtain ⟨b,o,rfl,hr⟩:=iC bo (fun x hx=>(bO x hx).1) (by decide) hx
     have cP:=hr 3 (MO (sk.peak:Nat)) (by rw [d7,ab];rfl)
     have cY:=LQ wr Y 1 _ _ _ hp.2.1
     rw [b9.o] at cY
     obtain ⟨bz,d5,HL⟩:=af (fun v (q:aq wr v)=>(World.cell?_of_block (q.block _ (az cP))).trans cP) (fun v (q:aq wr v)=>(World.cell?_of_block (q.block _ (az cY))).trans cY) B;clear hj hp B bo bO hrl hr cP cY d7 ab hx
     go_wp2_with fail
     refine HL.o.mono ?_
     rintro e L ⟨A2,c2,rfl, -,U⟩
     have y:=aa (Q.o.below m6.stab U)
     have a3:=bt Q3.o (y.o.q.toBelow (LO _) (fun _ e=>e.elim))
     have ee:=e3.o L a3
     have cP:=bz.o L U
     have cY:=d5.o L U
     obtain ⟨pk,Z⟩:∃pk,sk.peak=pk:=⟨_,rfl⟩
     obtain ⟨ln,B⟩:∃ln,sk.msgs.length-sk.recv=ln:=⟨_,rfl⟩
     rw [Z] at cP a1
     rw [Z,B]
     have h1:¬((cp:Int)<ln):=ap
     have h2:¬((cp:Int)<pk):=ap
     have h3:((pk:Int) != pk)=false:=by simp
     have h0:(0:Int)<=k:=ap
     clear a1 Z B a3 U HL bz d5 Q
     go_wp2_with fail
     go_roundw
     case rel=>exact ⟨k+1,by omega,by go_num,y.o⟩
     case measure=>simp [intOf];omega
    ·obtain rfl:k=Wn:=ap
     have da:¬((k:Int)<k):=ap
     have hz:¬((0:Int)<=(k:Int)/\(k:Int)<((aB i).W:Int)):=by rw [b9.o];omega
     have B:=hj.win.linkOut hz
     have qj:=bt Q3.o (hj.q.toBelow (LO _) (fun _ e=>e.elim))
     have c4:=T4.o wr qj
     have HL:=aa B;clear hj B qj hz
     go_wp2_with fail
     refine HL.o.mono ?_
     rintro e L ⟨rfl,U⟩
     have y:=aa (Q.o.below m6.stab U);clear Q HL c4 U
     go_wp2_with fail
     refine (qz _).mono ?_
     rintro e e7 ⟨rfl,a4⟩
     have a6:=aa (y.o.below m6.stab a4);have HT:=aa (a6.o.win.trajOut (z:= -1) ap)
     clear y a4
     go_wp2_with fail
     refine HT.o.mono ?_
     rintro e eb ⟨rfl,cy⟩
     have bh:=aa (a6.o.below m6.stab cy);have HO:=aa (bh.o.win.openOut (z:= -1) ap)
     clear a6 HT cy
     go_wp2_with fail
     refine HO.o.mono ?_
     rintro e ec ⟨rfl,bN⟩
     have dG:=aa (bh.o.below m6.stab bN);have dp:=aa (bt Q3.o (dG.o.q.toBelow (LO _) (fun _ e=>e.elim)));clear bh HO bN
     go_wp2_with fail
     go_ret
     exact ⟨rfl,Hx.o _ dp.o⟩
end Go.Proofs.YtgmajkppbhiopaaGreat
