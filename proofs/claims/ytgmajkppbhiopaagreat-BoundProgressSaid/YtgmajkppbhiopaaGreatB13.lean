/- No condition. -/
import Derived.Test.YtgmajkppbhiopaaGreatB12
set_option linter.unusedSimpArgs false
set_option linter.unusedVariables false
set_option maxRecDepth 100000
set_option maxHeartbeats 4000000
namespace Go.Proofs.YtgmajkppbhiopaaGreat
open Go.RowKit
open Tryz
theorem zt {w:World} {vs:Array Value} {i:Inp} {x:Nat} {m:Mst} {s t:LSt} {u v:Array Value} {S:Nat->Prop} (hS:∀k,S k->k<w.heap.size) (h:ge (aF S w) vs i x m) (hu:RL (aF S w) u s) (hv:RL (aF S w) v t) (hs:cF i) {y:Itm} (hy:(dM i x)[bE i x m]?=some y) (k1 k2:Int) (b0 b1:Bool) (i0 i1 i2 i3 i4 i5 i6:Int) (cf:bj y=[Nd 5,Nd k1,Nd k2,.bool b0,.bool b1,Nd i0,Nd i1,Nd i2,Nd i3,Nd i4,Nd i5,Nd i6]) (bn lo B:Nat) (bv:k2=(bn:Nat)) (cw:bn<(aA i).buks.length) (co:aN (aA i).buks bn=(lo,B)) (bo:lo<B) (bG:B<=i.start.length)
  (m1:Mst) (h1:m1.P=apP i.cfg.rate i.cfg.mom i.cfg.shift m.P m.M ((m.G.drop lo).take (B-lo)) lo (B-lo)/\m1.M=apM i.cfg.mom i.cfg.shift m.M ((m.G.drop lo).take (B-lo)) lo (B-lo)/\m1.G=m.G/\m1.rc=m.rc) (bh:bE i x m1=bE i x m+1):
  Calls prog 89 #[.agg vs,.agg u,.agg v] w (fun e p=>nm S i x m1 (s) (t) 0 w e p):=by
 have es:=aa bv;clear bv
 obtain ⟨A,c,D,cd,T,ct,R,cr,PA,pc,MA,mc,GA,gc,SA,sc,bI,oI,ic,B1,c1,B2,c2,dn,il,W0,rfl,rfl,rfl,H⟩:=jW hS h hu hv hs hy
 have bf:=H.rw'
 rw [cf] at bf
 rw [H.dn'] at bh
 obtain ⟨dp,H1,d0⟩:=af bf h1 bh
 obtain ⟨em,ek,tl,e0,d2,ei,d7⟩:=H.loc
 have q0:=br W0
 clear h hu hv hs hy cf hS h1 bh bf
 go_enter func89,ntmps89
 go_upto_region 1 with (fail)
 rw [H.eW]
 go_upto_region 4 with (first | (refine jM dp.o iR rfl rfl rfl ?_) | (refine aH (Mh _ _) iR rfl rfl rfl rfl rfl rfl rfl ?_;intro W3 e3 k3;obtain ⟨E3,K3⟩:=ae e3 (aO k3);clear e3 k3))
 clear em ek tl q0 e0 d2 ei d7
 go_upto_region 5 with (first | (refine aK #[Nd i5,Nd i6] (b:=W0.heap.size) E3.o fR rfl rfl rfl rfl ?_) | (refine aH (Mh _ _) fR rfl rfl rfl rfl rfl rfl rfl ?_;intro Z e4 k4;obtain ⟨E4,K4⟩:=ae e4 (aO k4);clear e4 k4))
 have y0:Z.cell? (ar W0.heap.size 0)=some (Nd 5):=Mi Z _ 0 _ _ _ (sb E3.o _ K4.o)
 have aP:=aa (bt K3.o K4.o)
 go_upto_region 23 with (fail)
 have bV:=aa (H.bx _ aP.o).1;have ej:=aa (sb E3.o _ K4.o)
 have bN:=H.K.trans (aP.o.mono H.K.size)
 have q4:=(br Z).drew
 have x2:∀p,aq Z p->p.cell? (ar W0.heap.size 2)=some (Nd (bn:Nat)):=fun p q=>by rw [<-es.o];exact Mi p _ 2 _ _ _ (sb ej.o p q)
 have hc:=H.s'.g.c
 have ew:(((aA i).W:Nat):Int)=i.cfg.workers:=by have:=hc.w;simp only [aA];omega
 have eu:(((aA i).bu:Nat):Int)=i.cfg.bucket:=by have:=hc.bu;simp only [aA];omega
 have ec:(((aA i).ck:Nat):Int)=i.cfg.chunk:=by have:=hc.ch;simp only [aA];omega
 have en:(aA i).n=i.start.length:=rfl
 have a6:=fun p=>jT A i.cfg.sizes.length c i.cfg.shift i.cfg.rate i.cfg.mom i.cfg.workers i.cfg.batch i.cfg.micros i.cfg.steps i.cfg.bucket i.cfg.chunk i.cfg.window i.cfg.cap D i.data.length cd T i.start.length ct R i.draws.length cr p
 have a0:=fun p=>rM (aA i) (.slice A i.cfg.sizes.length c) (Nd i.cfg.shift) (Nd i.cfg.rate) (Nd i.cfg.mom) (Nd i.cfg.batch) (Nd i.cfg.micros) (Nd i.cfg.steps) (Nd i.cfg.window) (Nd i.cfg.cap) p H.s'.ok (by have:=hc.bu;simp only [aA];omega)
 simp only [ew,eu,ec,en] at a0
 have bb:=dO cw
 rw [co] at bb
 have dG:=H.s'.ok.buks
 obtain ⟨nb,b9⟩:∃nb,(aA i).buks.length=nb:=⟨_,rfl⟩
 rw [b9] at a0 cw dG
 have av:(bn:Int)<nb:=ap
 have a9:¬(bn:Int)<0:=ap
 have ab:¬nb<=bn:=ap
 obtain ⟨ad,a8,bX,a4,c6,aM⟩:=ai a6 a0 bN bb bo bG;clear a6 a0 bN bb co b9 ew eu ec en y0 bo bG
 go_cut [21] (fun v wx=>∃J,v=(au J)/\wx.heap[J]?=some (.cells #[Nd (lo:Nat),Nd (B:Nat)] 187 (0,0))/\aq Z wx)
 case first=>
  refine HA.g (fun p:World=>aq Z p) ?_
  refine HA.t ?_ [0,4,5] q4 ?_
  refine HA.ld 1 (aL A c D cd T ct R cr i) (fun p q=>sb bV.o p q) gu q4 ?_
  refine HA.two 2 8 ?_ ?_
  ·skip
   refine HAS.c (ad.o _) ?_
   rintro e w5 ⟨rfl,k5⟩
   have O:=q4.trans (k5.mono q4.size)
   refine ⟨_,rfl,O,fun _=>?_⟩
   refine HA.two 3 8 ?_ ?_
   ·skip
    refine HAS.c (a8.o _) ?_
    rintro e Q ⟨v6,rfl,L,k6⟩
    have C:=O.trans (k6.mono O.size)
    obtain ⟨g6,cv,rfl,_⟩:=L.form ap
    have a3:=L.1
    have c0:=L.cellAt (bn*2) ap
    have I:=L.cellAt (bn*2+1) ap
    rw [a4.o.1] at c0
    rw [a4.o.2] at I
    refine ⟨_,rfl,C,fun _=>?_⟩
    refine HA.t ?_ [6] C ?_
    have a2:=(L.lt g6 rfl).2
    refine HA.two 7 8 ?_ ?_
    rotate_left
    ·refine HAS.v (Q.alloc (.cells #[Nd 0,Nd 0] 187)) ((au Q.heap.size)) (C.alloc C.size _) ?_
     have c0:=aw ((br Q).alloc (Mg _) (.cells #[Nd 0,Nd 0] 187)) c0
     have I:=aw ((br Q).alloc (Mg _) (.cells #[Nd 0,Nd 0] 187)) I
     have e5:g6<(Q.alloc (.cells #[Nd 0,Nd 0] 187)).heap.size:=by rw [Mw];omega
     refine HA.v 7 (Q.alloc (.cells #[Nd 0,Nd 0] 187)) (.agg #[Nd (lo:Nat),Nd (B:Nat)]) (C.alloc C.size _) ?_
     refine HA.st 9 (Mh Q _) fR (fun w7 Y k7=>?_)
     have N:=C.trans ((aO k7).mono C.size)
     refine ⟨N,HA.d ?_⟩
     have HF:=aa (Mp Y N);clear Y k7 N C O q4 k5 k6 L c0 I a2 e5 a3 x2 av a9 ab
     go_wp2_with fail
     go_meet
     exact ⟨_,rfl,HF.o⟩
    refine HAS.v Q (.agg #[Nd (lo:Nat),Nd (B:Nat)]) C ?_
    refine HA.v 8 (Q.alloc (.cells #[Nd 0,Nd 0] 187)) ((au Q.heap.size)) (C.alloc C.size _) ?_
    refine HA.st 9 (Mh Q _) fR (fun w7 Y k7=>?_)
    have N:=C.trans ((aO k7).mono C.size)
    refine ⟨N,HA.d ?_⟩
    have HF:=aa (Mp Y N);clear Y k7 N C O q4 k5 k6 L c0 I a2 a3 x2 av a9 ab
    go_wp2_with fail
    go_meet
    exact ⟨_,rfl,HF.o⟩
   ·skip
    refine HAS.v (w5.alloc (.cells #[Nd 0,Nd 0] 187)) ((au w5.heap.size)) (O.alloc O.size _) ?_
    have gA:=Mh w5 (.cells #[Nd 0,Nd 0] 187)
    have qa:=O.alloc O.size (.cells #[Nd 0,Nd 0] 187)
    have jA:Z.heap.size<=w5.heap.size:=O.size
    obtain ⟨jj,a7⟩:∃jj,w5.heap.size=jj:=⟨_,rfl⟩
    obtain ⟨wa,ao⟩:∃wa,w5.alloc (.cells #[Nd 0,Nd 0] 187)=wa:=⟨_,rfl⟩
    rw [ao] at gA qa ⊢
    rw [a7] at gA jA ⊢
    clear ao a7
    refine HA.c 3 (a8.o _) ?_
    rintro e Q ⟨v6,rfl,L,k6⟩
    have C:=qa.trans (k6.mono qa.size)
    obtain ⟨g6,cv,rfl,_⟩:=L.form ap
    have a3:=L.1
    have c0:=L.cellAt (bn*2) ap
    have I:=L.cellAt (bn*2+1) ap
    rw [a4.o.1] at c0
    rw [a4.o.2] at I
    refine ⟨_,rfl,C,fun _=>?_⟩
    refine HA.t ?_ [6] C ?_
    have a2:=(L.lt g6 rfl).2
    refine HA.v 7 Q (.agg #[Nd (lo:Nat),Nd (B:Nat)]) C ?_
    refine HA.st 9 (sb gA _ k6) fR (fun w7 Y k7=>?_)
    have N:=C.trans (k7.toBelow C.size (fun j hj=>by have e':j=jj:=hj;omega))
    refine ⟨N,HA.d ?_⟩
    have HF:=aa (Mp Y N);clear Y k7 N C O q4 qa gA jA k5 k6 L c0 I a2 a3 x2 av a9 ab
    go_wp2_with fail
    go_meet
    exact ⟨_,rfl,HF.o⟩
  ·skip
   refine HAS.v (Z.drew.alloc (.cells #[Nd 0,Nd 0] 187)) ((au Z.drew.heap.size)) (q4.alloc q4.size _) ?_
   have gA:=Mh Z.drew (.cells #[Nd 0,Nd 0] 187)
   have qa:=q4.alloc q4.size (.cells #[Nd 0,Nd 0] 187)
   have jA:Z.heap.size<=Z.drew.heap.size:=q4.size
   obtain ⟨jj,a7⟩:∃jj,Z.drew.heap.size=jj:=⟨_,rfl⟩
   obtain ⟨wa,ao⟩:∃wa,Z.drew.alloc (.cells #[Nd 0,Nd 0] 187)=wa:=⟨_,rfl⟩
   rw [ao] at gA qa ⊢
   rw [a7] at gA jA ⊢
   clear ao a7
   refine HA.c 2 (ad.o _) ?_
   rintro e w5 ⟨rfl,k5⟩
   have O:=qa.trans (k5.mono qa.size)
   refine ⟨_,rfl,O,fun _=>?_⟩
   refine HA.c 3 (a8.o _) ?_
   rintro e Q ⟨v6,rfl,L,k6⟩
   have C:=O.trans (k6.mono O.size)
   obtain ⟨g6,cv,rfl,_⟩:=L.form ap
   have a3:=L.1
   have c0:=L.cellAt (bn*2) ap
   have I:=L.cellAt (bn*2+1) ap
   rw [a4.o.1] at c0
   rw [a4.o.2] at I
   refine ⟨_,rfl,C,fun _=>?_⟩
   refine HA.t ?_ [6] C ?_
   have a2:=(L.lt g6 rfl).2
   refine HA.v 7 Q (.agg #[Nd (lo:Nat),Nd (B:Nat)]) C ?_
   refine HA.st 9 (sb (sb gA _ k5) _ k6) fR (fun w7 Y k7=>?_)
   have N:=C.trans (k7.toBelow C.size (fun j hj=>by have e':j=jj:=hj;omega))
   refine ⟨N,HA.d ?_⟩
   have HF:=aa (Mp Y N);clear Y k7 N C O q4 qa gA jA k5 k6 L c0 I a2 a3 x2 av a9 ab
   go_wp2_with fail
   go_meet
   exact ⟨_,rfl,HF.o⟩
 case rest=>
 obtain ⟨J,rfl,Y,N⟩:=hcut
 obtain ⟨w7,rfl⟩:∃w7,w7=wc:=⟨_,rfl⟩
 obtain ⟨E7,Q7⟩:=ae Y N;clear Y N q4 x2 av a9 ab
 go_upto_region 24 with (fail)
 have b6:=aa (sb bV.o _ Q7.o)
 have q8:=(br w7).drew
 have eS:B<=gc:=by have:=H.hG.hc;have:=H.Gl;have:=aM.o;omega
 obtain ⟨gb,go,rfl, -⟩:=H.hG.hr.num (show 0<m.G.length by have:=H.Gl;have:=c6.o;have:=aM.o;omega)
 have e6:∀p,aq w7 p->p.cell? (ar w.heap.size 18)=some (.slice (some (ar gb go)) i.start.length gc):=fun p q=>Mi p _ 18 _ _ _ (sb b6.o p q)
 have y0:∀p,aq w7 p->p.cell? (ar J 0)=some (Nd (lo:Nat)):=fun p q=>Mi p _ 0 _ _ _ (sb E7.o p q)
 have y1:∀p,aq w7 p->p.cell? (ar J 1)=some (Nd (B:Nat)):=fun p q=>Mi p _ 1 _ _ _ (sb E7.o p q)
 have cA:=c6.o
 have eY:(lo:Int)<=B:=ap
 have eX:(B:Int)<=gc:=ap
 have eG:lo<=B:=ap
 have eL:¬gc=lo:=ap
 have aR:aq w w7:=bX.o.trans (Q7.o.mono bX.o.size)
 have b7:((m.G.drop lo).take (B-lo)).length=B-lo:=by have:=H.Gl;have:=aM.o;rw [MO,MR];omega
 have c7:=fun p (q:aq w7 p)=>by
  have be:aq w p:=aR.trans (q.mono aR.size)
  have dc:Rd p (some (ar gb (go+lo))) (aB .i64 ((m.G.drop lo).take (B-lo))):=by
   have:=((H.hG.hr.below be).drop lo).take (B-lo)
   rwa [dm,dd] at this
  exact zy i.cfg.rate i.cfg.mom i.cfg.shift PA MA (some (ar gb (go+lo))) m.P m.M ((m.G.drop lo).take (B-lo)) i.start.length pc mc (gc-lo) lo B (B-lo) p (H.hP.hr.below be) (H.hM.hr.below be) dc H.Pl H.Ml b7 ap ap (by have:=H.s'.n;omega) aM.o (by have:=H.hP.hc;have:=H.Pl;omega) (by have:=H.hM.hc;have:=H.Ml;omega) H.hM.hw H.hI.ra H.hI.rm
 have cc:=fun p=>E0 A c i.cfg p
 obtain ⟨e2,dk,eM⟩:=af c7 cc aR;clear c7 b7 aR cA cc
 refine XA.g 19 (fun p:World=>aq w7 p) ?_
 refine XA.t ?_ [0,1,4,7,8,9,10,11,12,13] q8 ?_
 refine XA.ld 2 #[.slice A i.cfg.sizes.length c,Nd i.cfg.shift,Nd i.cfg.rate,Nd i.cfg.mom,Nd i.cfg.workers,Nd i.cfg.batch,Nd i.cfg.micros,Nd i.cfg.steps,Nd i.cfg.bucket,Nd i.cfg.chunk,Nd i.cfg.window,Nd i.cfg.cap] (fun p q=>sb b6.o p q) yV q8 ?_
 refine XA.ld 5 #[.slice PA i.start.length pc,.slice MA i.start.length mc] (fun p q=>sb b6.o p q) ke q8 ?_
 refine XA.ld 6 #[Nd (lo:Nat),Nd (B:Nat)] (fun p q=>sb E7.o p q) fR q8 ?_
 refine XA.c 3 (dk.o _) ?_
 rintro e w8 ⟨rfl,k8⟩
 have q9:=q8.trans (k8.mono q8.size)
 refine ⟨_,rfl,q9,fun _=>?_⟩
 refine XA.c 14 (e2.o w8 q9) ?_
 rintro e w9 ⟨A9,c9,B9,d9,rfl,bM,cy,o9,p9,k9⟩
 have a5:=q9.trans (k9.mono q9.size)
 refine ⟨_,rfl,a5,fun _=>?_⟩
 refine XA.t0 ?_ [15,16,17] a5 ?_
 refine XA.t ?_ [18] a5 ?_
 refine XA.e ?_
 simp only [MH,MI]
 have U:=sb b6.o _ a5
 have d8:=Mi w9 w.heap.size 16 _ _ _ U
 have e1:=Mi w9 w.heap.size 17 _ _ _ U
 have d3:=Mq w9 w.heap.size 16 _ _ U
 have d6:=Mq w9 w.heap.size 17 _ _ U
 have ev:=Mf U
 obtain ⟨ee,cM,O9,P9,d4,el,L8⟩:=aj U a5 o9 p9 bM cy q9.size;clear U a5 q9 q8 o9 p9 k9 k8 bM cy e6 y0 y1
 go_upto_region 28 with (fail)
 have a1:=ss2 (i:=16) (j:=17) (v:=.slice A9 i.start.length c9) (u:=.slice B9 i.start.length d9) ee.o rfl
 have kk:Keep (fun k=>k=w.heap.size) w9 ((w9.setCell (ar w.heap.size 16) (.slice A9 i.start.length c9)).setCell (ar w.heap.size 17) (.slice B9 i.start.length d9)):=Keep.setCell (S:=fun k=>k=w.heap.size) (Keep.setCell (S:=fun k=>k=w.heap.size) (Keep.refl _ _) _ (.inr rfl) _) _ (.inr rfl) _
 obtain ⟨V,hV⟩:∃V,(w9.setCell (ar w.heap.size 16) (.slice A9 i.start.length c9)).setCell (ar w.heap.size 17) (.slice B9 i.start.length d9)=V:=⟨_,rfl⟩
 rw [hV] at a1 kk ⊢
 have aG:=bt aP.o (bt Q7.o cM.o)
 have hb:=fun {b:Nat} {o:Obj} (h:W0.heap[b]?=some o) (h1:b≠w.heap.size)=>(kk.block b (Mf (sb h _ aG)) h1).trans (sb h _ aG)
 have bA:=hb (H.bx _ (br W0)).2.1 ap
 have cs:=hb (H.bx _ (br W0)).2.2.1 ap
 have bw:=hb (H.bx _ (br W0)).2.2.2.1 ap
 have cl:=hb (H.bx _ (br W0)).2.2.2.2.1 ap
 have cx:=hb (H.bx _ (br W0)).2.2.2.2.2 ap
 have bd:=H.K.trans (aG.mono H.K.size)
 have cn:=bd.trans (kk.toBelow bd.size (fun j hj=>Nat.le_of_eq (Eq.symm hj)))
 have eV:=Mf (H.bx _ (br W0)).2.2.2.2.2
 have l8:w.heap.size+6<=w8.heap.size:=by have:=L8.o;have:=Q7.o.size;have:=aP.o.size;omega
 obtain ⟨ci,cb⟩:=ae (kk.own (aE O9.o l8) (fun j hj e=>by have h1:=(O9.o.lt j hj).1;have h2:j=w.heap.size:=e;omega)) (kk.own (aE P9.o l8) (fun j hj e=>by have h1:=(P9.o.lt j hj).1;have h2:j=w.heap.size:=e;omega));clear hV d8 e1 d3 d6 ev kk hb bd aG l8
 have ds:=Mi V w.heap.size 21 _ _ _ a1
 have cL:=Mq V w.heap.size 21 _ _ a1
 have lM:=Mf a1
 have dw:=H.wd
 have e9:=ss (i:=21) (v:=Nd ((dn:Int)+1)) a1 rfl
 have k9:Keep (fun k=>k=w.heap.size) V (V.setCell (ar w.heap.size 21) (Nd ((dn:Int)+1))):=Keep.setCell (S:=fun k=>k=w.heap.size) (Keep.refl _ _) _ (.inr rfl) _
 obtain ⟨E9,K9,da,dr,ef,dT,d5,eo⟩:=ak e9 k9 bA cs bw cl cx cn;clear e9 k9 bA cs bw cl cx cn a1
 go_upto_region 29 with (fail)
 obtain ⟨V9,bs⟩:∃V9,V.setCell (ar w.heap.size 21) (Nd ((dn:Int)+1))=V9:=⟨_,rfl⟩
 rw [bs] at E9 K9 ⊢
 clear bs ds cL lM dw
 obtain ⟨b1,b2,b3,b4,b5⟩:=uC K9.o da.o dr.o ef.o dT.o d5.o
 have hq:aq V9 V9.drew:=(br V9).drew
 refine HA.g (KB3 w.heap.size V9) ?_
 refine HA.ld3 (vs:=#[.slice A i.cfg.sizes.length c,Nd i.cfg.shift,Nd i.cfg.rate,Nd i.cfg.mom,Nd i.cfg.workers,Nd i.cfg.batch,Nd i.cfg.micros,Nd i.cfg.steps,Nd i.cfg.bucket,Nd i.cfg.chunk,Nd i.cfg.window,Nd i.cfg.cap,.slice D i.data.length cd,.slice T i.start.length ct,.slice R i.draws.length cr,Nd (x:Nat),.slice A9 i.start.length c9,.slice B9 i.start.length d9,.slice (some (ar gb go)) i.start.length gc,.slice SA m.rc.length sc,.slice (some (ar bI oI)) il ic,Nd (dn+1)]) E9.o b1 b2 dN bK bK (Keep.below hq) ?_
 refine HA.st3 3 4 5 b3 b4 b5 dN bK bK hq (fun w8 r3 r4 e8 q8=>?_)
 refine HA.t ?_ [6] q8 ?_
 refine HA.d ?_
 obtain ⟨R3,R4,R5⟩:=af r3 r4 e8
 have F:=jV K9.o q8 eo.o
 obtain ⟨bi,QW⟩:=ae F.1 F.2;clear b1 b2 b3 b4 b5 e8 q8 r3 r4 hq F
 go_wp2_with fail
 refine Mu (fk rfl rfl rfl rfl R3.o R4.o R5.o dN bK bK) rfl ?_
 have b8:∀j,w.heap.size+6<=j->¬(w.heap.size<=j/\j<w.heap.size+6):=fun j h1 h2=>ap
 have eb:=bi.o.own ci.o (fun j hj=>b8 j (ci.o.lt j hj).1)
 have ea:=bi.o.own cb.o (fun j hj=>b8 j (cb.o.lt j hj).1)
 have bz:∀k,S k->k<w.heap.size+6:=fun k hk=>by have:=H.S' k hk;omega
 have eB:=H.s'.n
 have lP:=m7 i.cfg.rate i.cfg.mom i.cfg.shift m.P m.M ((m.G.drop lo).take (B-lo)) lo (B-lo)
 have lM:=m8 i.cfg.mom i.cfg.shift m.M ((m.G.drop lo).take (B-lo)) lo (B-lo)
 have d1:cG (aF S w8) A9 (apP i.cfg.rate i.cfg.mom i.cfg.shift m.P m.M ((m.G.drop lo).take (B-lo)) lo (B-lo)) c9:=⟨by have:=d4.o;have:=H.Pl;omega,by have:=H.Pl;omega,iD eb bz,BZ H.hP.hw⟩
 have dv:cG (aF S w8) B9 (apM i.cfg.mom i.cfg.shift m.M ((m.G.drop lo).take (B-lo)) lo (B-lo)) d9:=⟨by have:=el.o;have:=H.Ml;omega,by have:=H.Ml;omega,iD ea bz,vQ H.hM.hw⟩
 have hX:Ext (aF S w) (aF S w8):=bQ (Keep.below QW.o) (fun _ _ h=>h)
 obtain ⟨bl,c8,cj,bO⟩:=H1.o
 exact ⟨_,_,_,rfl,rfl,rfl,⟨A,c,D,cd,T,ct,R,cr,A9,c9,B9,d9,some (ar gb go),gc,SA,sc,some (ar bI oI),ic,by rw [H.il',d0.o,bO];push_cast;rfl,fD H.I0 hX,by rw [bl];exact d1,by rw [c8];exact dv,by rw [cj];exact bH H.G0 hX,by rw [bO];exact ez cK H.R0 hX,aW H.It0 hX,by rw [bl];exact (lP.trans H.Pl),by rw [c8];exact (lM.trans H.Ml),by rw [cj];exact H.Gl⟩,⟨B1,c1,rfl,cX H.s0 hX,H.s2⟩,⟨B2,c2,rfl,cX H.t0 hX,H.t2⟩,QW.o⟩
section
variable {P:Program} {ops:Array Oper} {Q:Exit->Act->World->Prop} {S:World->Prop} {n:Nat}
structure XAS (P:Program) (ops:Array Oper) (Q:Exit->Act->World->Prop) (S:World->Prop) (n i:Nat) (L:List Nat) (a:Act) (w:World):Prop where
 out:∃o,ops[i]?=some o/\∀K':Act->World->Prop,Shut (∀a w,S w->(S w->XA P ops Q S n (i::L) a w)->K' a w)->if Region.wanted o (yielded ops a.tmps)=true then Oper.wp P o a w K' Q else K' (a.put o.dst undef) w
theorem XAS.v {L:List Nat} {a:Act} {w:World} {i:Nat} {o:Oper} (h:World) (v:Value) (u:S h) (k:XA P ops Q S n (i::L) (a.put o.dst v) h) (p:ops[i]?=some o:=by (simp only [ME,MF,MG];rfl))
  (hw:Region.wanted o (yielded ops a.tmps)=true:=by rfl) (he:(execOp a.eval o).run P w=.ok (.value v) h:=by go_simp):XAS P ops Q S n i L a w:=by
 refine ⟨o,p,fun y x=>?_⟩
 rw [if_pos hw]
 unfold Oper.wp
 rw [he]
 exact x.out _ _ u fun _=>k
theorem XAS.o {L:List Nat} {a:Act} {w:World} {o:Oper} {i:Nat}
  (h:∀p:Act->World->Prop,Shut (∀a w,S w->(S w->XA P ops Q S n (i::L) a w)->p a w)->if Region.wanted o (yielded ops a.tmps)=true then Oper.wp P o a w p Q else p (a.put o.dst undef) w)
  (u:ops[i]?=some o:=by (simp only [ME,MF,MG];rfl)):XAS P ops Q S n i L a w:=⟨o,u,h⟩
theorem XA.two {L:List Nat} {a:Act} {w:World} (i j:Nat) (y:XAS P ops Q S n i L a w) (p:XAS P ops Q S n j L a w) (hr:cZ ops L=[i,j]:=by decide +kernel):XA P ops Q S n L a w:=by
 obtain ⟨H,x,y⟩:=y
 obtain ⟨I,o,p⟩:=p
 have B:unl (bF ops.size L)=unl (bF ops.size (i::L))+1:=cI (by rw [hr];simp)
 have D:unl (bF ops.size L)=unl (bF ops.size (j::L))+1:=cI (by rw [hr];simp)
 have C:unl (bF ops.size (j::L))=unl (bF ops.size (i::L)):=ap
 refine ⟨?_⟩
 rw [B]
 refine cq (by rw [dL];exact hr) (by simp) (aT.cons x (fun A v=>y A fun a w u hw=>v.out a w u fun h=>(hw h).out) (aT.cons o (fun A v=>p A fun a w u hw=>v.out a w u fun h=>?_) aT.nil))
 have:=(hw h).out
 rw [C] at this
 exact this
end
theorem KH {w:World} {A:Option Addr} {l:List Ex} (h:dD rEx 2 w A l):∃rows:List (List Value),Rd w A (List.flatten rows)/\rows.length=l.length/\(∀r∈rows,r.length=2)/\(∀j x,l[j]?=some x->rEx w (cO rows j) x)/\(List.flatten rows).length=l.length*2/\∀u∈List.flatten rows,u.oneCell'=true:=by
 obtain ⟨rows,h1,o,v,p⟩:=h
 refine ⟨rows,h1,o,v,p,by rw [qH v,o],fun u i=>?_⟩
 obtain ⟨r,hr,i⟩:=List.mem_flatten.1 i
 obtain ⟨j,B,e⟩:=List.getElem_of_mem hr
 have C:=ML (show j<l.length by omega)
 obtain ⟨J,H,D,I,y,_⟩:=p j _ C
 rw [pT B,e] at y
 subst y
 simp only [List.mem_cons,List.not_mem_nil,or_false] at i
 rcases i with rfl | rfl<;>rfl
theorem gD {S:Nat->Prop} {w:World} {base:Nat} {e:TypeId} {size n c:Nat} {A:Option Addr} {xs:List Value} (h:w.ownsRow base e size (.slice A n c) n xs) (p:∀k,S k->k<base):Rd (aF S w) A xs:=by
 refine lq (Rd.own h) fun y i hs=>?_
 rcases h.2 with ⟨o,_⟩ | ⟨g,_,_,o,hb,_⟩
 ·injection o with e1;rw [e1] at i;cases i
 ·injection o with e1;rw [e1] at i;cases i;have u:g<base:=p _ hs;omega
theorem zu {w:World} {vs:Array Value} {i:Inp} {x:Nat} {m:Mst} {s t:LSt} {u v:Array Value} {S:Nat->Prop} (hS:∀k,S k->k<w.heap.size) (h:ge (aF S w) vs i x m) (hu:RL (aF S w) u s) (hv:RL (aF S w) v t) (hs:cF i) {y:Itm} (hy:(dM i x)[bE i x m]?=some y) (k1 k2:Int) (b0 b1:Bool) (i0 i1 i2 i3 i4 i5 i6:Int) (bv:bj y=[Nd 6,Nd k1,Nd k2,.bool b0,.bool b1,Nd i0,Nd i1,Nd i2,Nd i3,Nd i4,Nd i5,Nd i6]) (aG:m.rc.length<=1000)
  (m1:Mst) (h1:m1.P=m.P/\m1.M=m.M/\m1.G=List.replicate i.start.length 0/\m1.rc=m.rc++[(m.P,m.M)]) (aM:bE i x m1=bE i x m+1):
  Calls prog 89 #[.agg vs,.agg u,.agg v] w (fun e w'=>nm S i x m1 (s) (t) 0 w e w'):=by
 obtain ⟨A,c,D,cd,T,ct,R,cr,C,J,B,I,GA,gc,SA,sc,bI,oI,ic,B1,c1,B2,c2,dn,il,W0,rfl,rfl,rfl,H⟩:=jW hS h hu hv hs hy
 have ao:=H.rw'
 rw [bv] at ao
 rw [H.dn'] at aM
 obtain ⟨cl,H1,c6⟩:=af ao h1 aM
 obtain ⟨d3,d2,tl,cx,cb,d1,cf⟩:=H.loc
 have q0:=br W0
 clear h hu hv hs hy bv hS h1 aM ao
 go_enter func89,ntmps89
 go_upto_region 1 with (fail)
 rw [H.eW]
 go_upto_region 4 with (first | (refine jM cl.o iR rfl rfl rfl ?_) | (refine aH (Mh _ _) iR rfl rfl rfl rfl rfl rfl rfl ?_;intro W3 e3 k3;obtain ⟨E3,K3⟩:=ae e3 (aO k3);clear e3 k3))
 clear d3 d2 tl q0 cx cb d1 cf
 go_upto_region 5 with (first | (refine aK #[Nd i5,Nd i6] (b:=W0.heap.size) E3.o fR rfl rfl rfl rfl ?_) | (refine aH (Mh _ _) fR rfl rfl rfl rfl rfl rfl rfl ?_;intro p e4 k4;obtain ⟨E4,K4⟩:=ae e4 (aO k4);clear e4 k4))
 have y0:p.cell? (ar W0.heap.size 0)=some (Nd 6):=Mi p _ 0 _ _ _ (sb E3.o _ K4.o)
 have a1:=aa (bt K3.o K4.o)
 go_upto_region 26 with (fail)
 have N:=aa (H.bx _ a1.o).1
 have a8:=H.K.trans (a1.o.mono H.K.size)
 obtain ⟨rows,z1,z2,z3,z4,z5,z6⟩:=KH H.R0
 have zr:=fun w' (q:aq p w')=>aW z1 (gL (Keep.below (a8.trans (q.mono a8.size))))
 obtain ⟨rl,hrl⟩:∃rl,m.rc.length=rl:=⟨_,rfl⟩
 obtain ⟨bh,Z2,Z3,Z4,Zr,d7⟩:=ai a8 z2 z3 z4 zr hrl
 rw [hrl] at z5 aG
 obtain ⟨Z5,Z6,L⟩:=af z5 z6 aG
 rw [hrl] at N ⊢
 clear y0 a8 z1 z2 z3 z4 z5 z6 zr hrl aG
 go_cut [3] (fun v wx=>v=(au w.heap.size)/\∃Q c7,wx.heap[w.heap.size]?=some (.cells #[.slice A i.cfg.sizes.length c,Nd i.cfg.shift,Nd i.cfg.rate,Nd i.cfg.mom,Nd i.cfg.workers,Nd i.cfg.batch,Nd i.cfg.micros,Nd i.cfg.steps,Nd i.cfg.bucket,Nd i.cfg.chunk,Nd i.cfg.window,Nd i.cfg.cap,.slice D i.data.length cd,.slice T i.start.length ct,.slice R i.draws.length cr,Nd (x:Nat),.slice C i.start.length J,.slice B i.start.length I,.slice GA i.start.length gc,.slice Q (rl+1) c7,.slice (some (ar bI oI)) il ic,Nd (dn:Nat)] 106 (0,0))/\wx.ownsRow p.heap.size 103 2 (.slice Q (rl+1) c7) (rl+1) (List.flatten rows++[.slice C i.start.length J,.slice B i.start.length I])/\Keep (fun k=>k=w.heap.size) p wx)
 case first=>
  have q4:=(br p).drew
  have d9:∀w',aq p w'->w'.cell? (ar w.heap.size 19)=some (.slice SA rl sc):=fun w' q=>Mi w' _ 19 _ _ _ (sb N.o w' q)
  have tl:=fun w' (q:aq p w')=>Mo (Mf N.o) q.size
  refine XA.g 9 (fun w':World=>aq p w') ?_
  refine XA.t ?_ [1,2,4] q4 ?_
  refine XA.ld 5 #[.slice C i.start.length J,.slice B i.start.length I] (fun w' q=>sb N.o w' q) ke q4 ?_
  refine XA.two 0 6 ?_ ?_
  ·refine XAS.v (p.drew.alloc (.cells #[] 103)) (.slice (some (ar p.drew.heap.size 0)) 0 0) (q4.alloc (Mg _) _) ?_
   have O:(p.drew.alloc (.cells #[] 103)).ownsRow p.heap.size 103 2 (.slice (some (ar p.drew.heap.size 0)) 0 0) 0 []:=et p.drew 103 2
   have q1:=q4.alloc (Mg p.heap.size) (.cells #[] 103)
   have s1:(p.drew.alloc (.cells #[] 103)).heap.size=p.drew.heap.size+1:=Mw _ _
   obtain ⟨u1,a4⟩:∃u1,p.drew.alloc (.cells #[] 103)=u1:=⟨_,rfl⟩
   rw [a4] at O q1 s1 ⊢
   clear a4
   refine XA.two 3 6 ?_ ?_
   ·refine XAS.o (fun K' hK=>?_)
    refine bR mX (.tmp 161) (.tmp 163) rfl rfl p.heap.size _ 0 [] rfl O SA rl sc (List.flatten rows) rfl (Zr.o _ q1) Z5.o Z6.o (by have:=L.o;omega) (by unfold maxLen;have:=L.o;omega) q1.size ?_;intro A3 c3 u3 o3 a6 ab be;rw [M6,List.nil_append] at o3;have q3:=q1.trans a6;rw [M6];refine hK.out _ _ q3 fun _=>?_;clear hK K'
    refine XA.v 6 (u3.alloc (.cells #[.slice C i.start.length J,.slice B i.start.length I] 103)) (.slice (some (ar u3.heap.size 0)) 1 1) (q3.alloc q3.size _) ?_;have g6:=Mh u3 (.cells #[.slice C i.start.length J,.slice B i.start.length I] 103);have b6:=(br u3).alloc (Mg _) (.cells #[.slice C i.start.length J,.slice B i.start.length I] 103);have q6:=q3.alloc q3.size (.cells #[.slice C i.start.length J,.slice B i.start.length I] 103);have s6:(u3.alloc (.cells #[.slice C i.start.length J,.slice B i.start.length I] 103)).heap.size=u3.heap.size+1:=Mw _ _;obtain ⟨u6,a0⟩:∃v,u3.alloc (.cells #[.slice C i.start.length J,.slice B i.start.length I] 103)=v:=⟨_,rfl⟩;rw [a0] at g6 b6 q6 s6 ⊢;clear a0;have o6:=ay o3 b6
    refine XA.o 7 (fun K' hK=>?_);refine bR mX (.tmp 164) (.tmp 167) rfl rfl p.heap.size _ rl (List.flatten rows) rfl o6 (some (ar _ 0)) 1 1 [.slice C i.start.length J,.slice B i.start.length I] rfl (rL g6) rfl (by simp [Value.oneCell']) (by have:=L.o;omega) (by unfold maxLen;have:=L.o;omega) q6.size ?_;intro Q c7 u7 o7 b7 a7 a5;have Z:=q6.trans b7;refine hK.out _ _ Z fun _=>?_;clear hK K';refine XA.t ?_ [8] Z ?_;refine XA.e ?_;simp only [MH,MI];have U:=sb N.o _ Z;have bo:=Mi u7 w.heap.size 19 _ _ _ U;have bw:=Mq u7 w.heap.size 19 _ _ U;have l7:=Mf U;have e8:=ss (i:=19) (v:=.slice Q (rl+1) c7) U rfl;have k8:Keep (fun k=>k=w.heap.size) u7 (u7.setCell (ar w.heap.size 19) (.slice Q (rl+1) c7)):=Keep.setCell (S:=fun k=>k=w.heap.size) (Keep.refl _ _) _ (.inr rfl) _;have o8:=k8.own o7 (fun j Y e=>by have h1:=(o7.lt j Y).1;have h2:=Mf N.o;omega);have HF:=aa (⟨e8,o8,(Keep.below Z).trans k8⟩:_/\_/\Keep (fun k=>k=w.heap.size) p _);clear e8 k8 o8 o7 b7 a7 a5 Z U;go_wp2_with fail;go_meet;exact ⟨rfl,Q,c7,HF.o⟩
   ·refine XAS.v (u1.alloc (.cells #[.slice C i.start.length J,.slice B i.start.length I] 103)) (.slice (some (ar u1.heap.size 0)) 1 1) (q1.alloc q1.size _) ?_;have g6:=Mh u1 (.cells #[.slice C i.start.length J,.slice B i.start.length I] 103);have b6:=(br u1).alloc (Mg _) (.cells #[.slice C i.start.length J,.slice B i.start.length I] 103);have q6:=q1.alloc q1.size (.cells #[.slice C i.start.length J,.slice B i.start.length I] 103);have s6:(u1.alloc (.cells #[.slice C i.start.length J,.slice B i.start.length I] 103)).heap.size=u1.heap.size+1:=Mw _ _;obtain ⟨u6,a0⟩:∃v,u1.alloc (.cells #[.slice C i.start.length J,.slice B i.start.length I] 103)=v:=⟨_,rfl⟩;rw [a0] at g6 b6 q6 s6 ⊢;clear a0
    have bV:=ay O b6
    refine XA.o 3 (fun K' hK=>?_);refine bR mX (.tmp 161) (.tmp 163) rfl rfl p.heap.size _ 0 [] rfl bV SA rl sc (List.flatten rows) rfl (Zr.o _ q6) Z5.o Z6.o (by have:=L.o;omega) (by unfold maxLen;have:=L.o;omega) q6.size ?_;intro A3 c3 u3 o3 a6 ab be;rw [M6,List.nil_append] at o3;have q3:=q6.trans a6;rw [M6];refine hK.out _ _ q3 fun _=>?_;clear hK K'
    have av:=(ab.block _ (Mf g6) (fun e=>by have e':u1.heap.size=p.drew.heap.size:=Option.some.inj e;omega)).trans g6
    refine XA.o 7 (fun K' hK=>?_);refine bR mX (.tmp 164) (.tmp 167) rfl rfl p.heap.size _ rl (List.flatten rows) rfl o3 (some (ar _ 0)) 1 1 [.slice C i.start.length J,.slice B i.start.length I] rfl (rL av) rfl (by simp [Value.oneCell']) (by have:=L.o;omega) (by unfold maxLen;have:=L.o;omega) q3.size ?_;intro Q c7 u7 o7 b7 a7 a5;have Z:=q3.trans b7;refine hK.out _ _ Z fun _=>?_;clear hK K';refine XA.t ?_ [8] Z ?_;refine XA.e ?_;simp only [MH,MI];have U:=sb N.o _ Z;have bo:=Mi u7 w.heap.size 19 _ _ _ U;have bw:=Mq u7 w.heap.size 19 _ _ U;have l7:=Mf U;have e8:=ss (i:=19) (v:=.slice Q (rl+1) c7) U rfl;have k8:Keep (fun k=>k=w.heap.size) u7 (u7.setCell (ar w.heap.size 19) (.slice Q (rl+1) c7)):=Keep.setCell (S:=fun k=>k=w.heap.size) (Keep.refl _ _) _ (.inr rfl) _;have o8:=k8.own o7 (fun j Y e=>by have h1:=(o7.lt j Y).1;have h2:=Mf N.o;omega);have HF:=aa (⟨e8,o8,(Keep.below Z).trans k8⟩:_/\_/\Keep (fun k=>k=w.heap.size) p _);clear e8 k8 o8 o7 b7 a7 a5 Z U;go_wp2_with fail;go_meet;exact ⟨rfl,Q,c7,HF.o⟩
  ·refine XAS.v (p.drew.alloc (.cells #[.slice C i.start.length J,.slice B i.start.length I] 103)) (.slice (some (ar p.drew.heap.size 0)) 1 1) (q4.alloc q4.size _) ?_;have g6:=Mh p.drew (.cells #[.slice C i.start.length J,.slice B i.start.length I] 103);have b6:=(br p.drew).alloc (Mg _) (.cells #[.slice C i.start.length J,.slice B i.start.length I] 103);have q6:=q4.alloc q4.size (.cells #[.slice C i.start.length J,.slice B i.start.length I] 103);have s6:(p.drew.alloc (.cells #[.slice C i.start.length J,.slice B i.start.length I] 103)).heap.size=p.drew.heap.size+1:=Mw _ _;obtain ⟨u6,a0⟩:∃v,p.drew.alloc (.cells #[.slice C i.start.length J,.slice B i.start.length I] 103)=v:=⟨_,rfl⟩;rw [a0] at g6 b6 q6 s6 ⊢;clear a0
   refine XA.v 0 (u6.alloc (.cells #[] 103)) (.slice (some (ar u6.heap.size 0)) 0 0) (q6.alloc q6.size _) ?_
   have O:(u6.alloc (.cells #[] 103)).ownsRow p.heap.size 103 2 (.slice (some (ar u6.heap.size 0)) 0 0) 0 []:=aE (et u6 103 2) q6.size
   have q1:=q6.alloc q6.size (.cells #[] 103)
   have g6:=sb g6 _ ((br u6).alloc (Mg _) (.cells #[] 103))
   have l6:p.drew.heap.size<u6.heap.size:=by rw [s6];omega
   obtain ⟨u1,a4⟩:∃u1,u6.alloc (.cells #[] 103)=u1:=⟨_,rfl⟩
   rw [a4] at O q1 g6 ⊢
   clear a4
   refine XA.o 3 (fun K' hK=>?_);refine bR mX (.tmp 161) (.tmp 163) rfl rfl p.heap.size _ 0 [] rfl O SA rl sc (List.flatten rows) rfl (Zr.o _ q1) Z5.o Z6.o (by have:=L.o;omega) (by unfold maxLen;have:=L.o;omega) q1.size ?_;intro A3 c3 u3 o3 a6 ab be;rw [M6,List.nil_append] at o3;have q3:=q1.trans a6;rw [M6];refine hK.out _ _ q3 fun _=>?_;clear hK K'
   have av:=(ab.block _ (Mf g6) (fun e=>by have e':p.drew.heap.size=u6.heap.size:=Option.some.inj e;omega)).trans g6
   refine XA.o 7 (fun K' hK=>?_);refine bR mX (.tmp 164) (.tmp 167) rfl rfl p.heap.size _ rl (List.flatten rows) rfl o3 (some (ar _ 0)) 1 1 [.slice C i.start.length J,.slice B i.start.length I] rfl (rL av) rfl (by simp [Value.oneCell']) (by have:=L.o;omega) (by unfold maxLen;have:=L.o;omega) q3.size ?_;intro Q c7 u7 o7 b7 a7 a5;have Z:=q3.trans b7;refine hK.out _ _ Z fun _=>?_;clear hK K';refine XA.t ?_ [8] Z ?_;refine XA.e ?_;simp only [MH,MI];have U:=sb N.o _ Z;have bo:=Mi u7 w.heap.size 19 _ _ _ U;have bw:=Mq u7 w.heap.size 19 _ _ U;have l7:=Mf U;have e8:=ss (i:=19) (v:=.slice Q (rl+1) c7) U rfl;have k8:Keep (fun k=>k=w.heap.size) u7 (u7.setCell (ar w.heap.size 19) (.slice Q (rl+1) c7)):=Keep.setCell (S:=fun k=>k=w.heap.size) (Keep.refl _ _) _ (.inr rfl) _;have o8:=k8.own o7 (fun j Y e=>by have h1:=(o7.lt j Y).1;have h2:=Mf N.o;omega);have HF:=aa (⟨e8,o8,(Keep.below Z).trans k8⟩:_/\_/\Keep (fun k=>k=w.heap.size) p _);clear e8 k8 o8 o7 b7 a7 a5 Z U;go_wp2_with fail;go_meet;exact ⟨rfl,Q,c7,HF.o⟩
 case rest=>
  obtain ⟨rfl,Q,c7,a9,o7,kc⟩:=hcut
  obtain ⟨Wm,bn,oM,bM⟩:=lW jB wc rfl i.start.length (by have:=H.s'.n;omega) (by unfold maxLen;have:=H.s'.n;omega)
  rw [eT] at oM
  have ci:=Mi wc w.heap.size 18 _ _ _ a9
  have a3:=sb a9 _ bM
  have c8:=Mi Wm w.heap.size 18 _ _ _ a3
  have cM:=Mq Wm w.heap.size 18 _ _ a3
  have lc:=Mf a9
  have lm:=Mf a3
  have cv:¬(i.start.length:Int)<0:=ap
  obtain ⟨d0,O7,KC,OM,BM⟩:=ah a3 o7 kc oM bM;clear a3 o7 kc oM bM a9
  go_upto_region 28 with (fail)
  have a2:=ss (i:=18) (v:=.slice (some (ar wc.heap.size 0)) i.start.length i.start.length) d0.o rfl
  have kk:Keep (fun k=>k=w.heap.size) Wm (Wm.setCell (ar w.heap.size 18) (.slice (some (ar wc.heap.size 0)) i.start.length i.start.length)):=Keep.setCell (S:=fun k=>k=w.heap.size) (Keep.refl _ _) _ (.inr rfl) _
  obtain ⟨V,hV⟩:∃V,Wm.setCell (ar w.heap.size 18) (.slice (some (ar wc.heap.size 0)) i.start.length i.start.length)=V:=⟨_,rfl⟩
  rw [hV] at a2 kk ⊢
  have kV:Keep (fun k=>k=w.heap.size) p V:=(KC.o.trans (Keep.below BM.o)).trans kk
  have hb:=fun {b:Nat} {o:Obj} (h:W0.heap[b]?=some o) (h1:b≠w.heap.size)=>(kV.block b (Mf (sb h _ a1.o)) h1).trans (sb h _ a1.o)
  have bd:=hb (H.bx _ (br W0)).2.1 ap
  have bN:=hb (H.bx _ (br W0)).2.2.1 ap
  have b9:=hb (H.bx _ (br W0)).2.2.2.1 ap
  have bA:=hb (H.bx _ (br W0)).2.2.2.2.1 ap
  have bO:=hb (H.bx _ (br W0)).2.2.2.2.2 ap
  have bG:=bh.o.trans (kV.toBelow bh.o.size (fun j Y=>Nat.le_of_eq (Eq.symm Y)))
  have d8:=Mf (H.bx _ (br W0)).2.2.2.2.2
  obtain ⟨bl,bs⟩:=ae (kk.own (aE OM.o (show w.heap.size+6<=wc.heap.size by have:=KC.o.size;have:=a1.o.size;omega)) (fun j Y e=>by have h1:=(OM.o.lt j Y).1;have h2:j=w.heap.size:=e;have:=lc;omega)) (kk.own (ay (aE O7.o (show w.heap.size+6<=p.heap.size by have:=a1.o.size;omega)) BM.o) (fun j Y e=>by have h1:=(O7.o.lt j Y).1;have h2:j=w.heap.size:=e;have:=a1.o.size;omega));clear hV ci c8 cM lc lm cv kk kV hb bn
  have co:=Mi V w.heap.size 21 _ _ _ a2
  have bX:=Mq V w.heap.size 21 _ _ a2
  have lM:=Mf a2
  have cs:=H.wd
  have e9:=ss (i:=21) (v:=Nd ((dn:Int)+1)) a2 rfl
  have k9:Keep (fun k=>k=w.heap.size) V (V.setCell (ar w.heap.size 21) (Nd ((dn:Int)+1))):=Keep.setCell (S:=fun k=>k=w.heap.size) (Keep.refl _ _) _ (.inr rfl) _
  obtain ⟨E9,K9,cj,cn,cy,cw,cc,d4⟩:=ak e9 k9 bd bN b9 bA bO bG;clear e9 k9 bd bN b9 bA bO bG a2
  go_upto_region 29 with (fail)
  obtain ⟨V9,b8⟩:∃V9,V.setCell (ar w.heap.size 21) (Nd ((dn:Int)+1))=V9:=⟨_,rfl⟩
  rw [b8] at E9 K9 ⊢
  clear b8 co bX lM cs
  obtain ⟨b1,b2,b3,b4,b5⟩:=uC K9.o cj.o cn.o cy.o cw.o cc.o
  have hq:aq V9 V9.drew:=(br V9).drew
  refine HA.g (KB3 w.heap.size V9) ?_
  refine HA.ld3 (vs:=#[.slice A i.cfg.sizes.length c,Nd i.cfg.shift,Nd i.cfg.rate,Nd i.cfg.mom,Nd i.cfg.workers,Nd i.cfg.batch,Nd i.cfg.micros,Nd i.cfg.steps,Nd i.cfg.bucket,Nd i.cfg.chunk,Nd i.cfg.window,Nd i.cfg.cap,.slice D i.data.length cd,.slice T i.start.length ct,.slice R i.draws.length cr,Nd (x:Nat),.slice C i.start.length J,.slice B i.start.length I,.slice (some (ar wc.heap.size 0)) i.start.length i.start.length,.slice Q (rl+1) c7,.slice (some (ar bI oI)) il ic,Nd (dn+1)]) E9.o b1 b2 dN bK bK (Keep.below hq) ?_
  refine HA.st3 3 4 5 b3 b4 b5 dN bK bK hq (fun w8 r3 r4 e8 q8=>?_)
  refine HA.t ?_ [6] q8 ?_
  refine HA.d ?_
  obtain ⟨R3,R4,R5⟩:=af r3 r4 e8
  have F:=jV K9.o q8 d4.o
  obtain ⟨aP,QW⟩:=ae F.1 F.2;clear b1 b2 b3 b4 b5 e8 q8 r3 r4 hq F
  go_wp2_with fail
  refine Mu (fk rfl rfl rfl rfl R3.o R4.o R5.o dN bK bK) rfl ?_
  have ad:∀j,w.heap.size+6<=j->¬(w.heap.size<=j/\j<w.heap.size+6):=fun j h1 h2=>ap
  have d6:=aP.o.own bl.o (fun j Y=>ad j (bl.o.lt j Y).1)
  have c9:=aP.o.own bs.o (fun j Y=>ad j (bs.o.lt j Y).1)
  have bb:∀k,S k->k<w.heap.size+6:=fun k hk=>by have:=H.S' k hk;omega
  have d5:cG (aF S w8) (some (ar wc.heap.size 0)) (List.replicate i.start.length 0) i.start.length:=⟨by simp,by simp;have:=H.s'.n;omega,iD d6 bb,qO _⟩
  have hX:Ext (aF S w) (aF S w8):=bQ (Keep.below QW.o) (fun _ _ h=>h)
  have cL:dD rEx 2 (aF S w8) Q (m.rc++[(m.P,m.M)]):=by
   refine ⟨rows++[[.slice C i.start.length J,.slice B i.start.length I]],?_,by simp [Z2.o],?_,?_⟩
   ·rw [MT,List.flatten_cons,List.flatten_nil,List.append_nil];exact gD c9 bb
   ·intro r hr
    rcases MX.1 hr with hr | hr
    ·exact Z3.o r hr
    ·rw [List.mem_singleton.1 hr];rfl
   ·intro j y hy
    have cA:=Z2.o
    rcases Mv j m.rc.length with h | h
    ·rw [MM h] at hy
     have e:cO (rows++[[Value.slice C i.start.length J,.slice B i.start.length I]]) j=cO rows j:=by simp [cO,MM (show j<rows.length by omega)]
     rw [e];exact cK (Z4.o j y hy) hX
    ·have Y:j=m.rc.length:=by have:=(MK.1 hy).1;simp at this;omega
     subst Y
     simp at hy
     subst hy
     have e:cO (rows++[[Value.slice C i.start.length J,.slice B i.start.length I]]) m.rc.length=[.slice C i.start.length J,.slice B i.start.length I]:=by rw [<-cA];simp [cO]
     rw [e];exact ⟨C,J,B,I,by rw [H.Pl,H.Ml],bH H.P0 hX,bH H.M0 hX⟩
  have hX:Ext (aF S w) (aF S w8):=bQ (Keep.below QW.o) (fun _ _ h=>h)
  obtain ⟨aR,bi,bz,bf⟩:=H1.o
  exact ⟨_,_,_,rfl,rfl,rfl,⟨A,c,D,cd,T,ct,R,cr,C,J,B,I,some (ar wc.heap.size 0),i.start.length,Q,c7,some (ar bI oI),ic,by rw [H.il',c6.o,bf,MJ,MS,d7.o];push_cast;rfl,fD H.I0 hX,by rw [aR];exact bH H.P0 hX,by rw [bi];exact bH H.M0 hX,by rw [bz];exact d5,by rw [bf];exact cL,aW H.It0 hX,by rw [aR];exact H.Pl,by rw [bi];exact H.Ml,by rw [bz];exact (by simp)⟩,⟨B1,c1,rfl,cX H.s0 hX,H.s2⟩,⟨B2,c2,rfl,cX H.t0 hX,H.t2⟩,QW.o⟩
theorem Jf {w:World} {vs:Array Value} {i:Inp} {x:Nat} {m:Mst} {s t:LSt} {u v:Array Value} {S:Nat->Prop} (hS:∀k,S k->k<w.heap.size) (h:ge (aF S w) vs i x m) (hu:RL (aF S w) u s) (hv:RL (aF S w) v t) (hs:cF i) (hy:(dM i x).length<=bE i x m):
  Calls prog 89 #[.agg vs,.agg u,.agg v] w (fun e p=>nm S i x m s t 13 w e p):=by
 obtain ⟨A,c,D,cd,T,ct,R,cr,PA,pc,MA,mc,GA,gc,SA,sc,IA,ic,rfl,U,O,Y,Z,a4,y,a8,av,a7⟩:=h
 obtain ⟨B1,c1,rfl,L,ab⟩:=hu
 obtain ⟨B2,c2,rfl,a0,aR⟩:=hv
 have B:=fg S w
 have hI:=fD U B
 have hP:=bH O B
 have hM:=bH Y B
 have hG:=bH Z B
 have hR:dD rEx 2 w SA m.rc:=ez cK a4 B
 have a9:=aW y B
 have aM:=cX L B
 have aP:=cX a0 B
 have ad:(dM i x).length<=48000000:=vS hs x (Mg _)
 obtain ⟨dn,J⟩:∃dn,bE i x m=dn:=⟨_,rfl⟩
 obtain ⟨il,a5⟩:∃il,(dM i x).length=il:=⟨_,rfl⟩
 rw [J] at hy ⊢
 rw [a5] at ad hy ⊢
 obtain ⟨W0,aG,g0,g1,g2,g3,g4,g5,k0⟩:=wS w #[.slice A i.cfg.sizes.length c,Nd i.cfg.shift,Nd i.cfg.rate,Nd i.cfg.mom,Nd i.cfg.workers,Nd i.cfg.batch,Nd i.cfg.micros,Nd i.cfg.steps,Nd i.cfg.bucket,Nd i.cfg.chunk,Nd i.cfg.window,Nd i.cfg.cap,.slice D i.data.length cd,.slice T i.start.length ct,.slice R i.draws.length cr,Nd (x:Nat),.slice PA i.start.length pc,.slice MA i.start.length mc,.slice GA i.start.length gc,.slice SA m.rc.length sc,.slice IA il ic,Nd (dn:Nat)] #[Nd (s.cap:Nat),.slice B1 s.msgs.length c1,Nd (s.recv:Nat),Nd (s.peak:Nat)] #[Nd (t.cap:Nat),.slice B2 t.msgs.length c2,Nd (t.recv:Nat),Nd (t.peak:Nat)] Nh #[Nd 0,Nf,Nd 0,Nd 0] #[Nd 0,Nf,Nd 0,Nd 0] 106 75
 have bA:∀p,aq W0 p->p.cell? (ar w.heap.size 20)=some (.slice IA il ic):=fun p q=>Mi p w.heap.size 20 _ _ _ (sb g0 p q)
 have bw:∀p,aq W0 p->p.cell? (ar w.heap.size 21)=some (Nd (dn:Nat)):=fun p q=>Mi p w.heap.size 21 _ _ _ (sb g0 p q)
 have tl:=sl g0
 have bl:(il:Int)<=dn:=ap
 have b8:¬(dn:Int)<il:=ap
 have q0:=br W0
 obtain ⟨bv,G0,G1,G2,G3,G4,G5,K0⟩:=ak aG g0 g1 g2 g3 g4 g5 k0;obtain ⟨HI,HP,HM,HG,HR,bO,bi,bf⟩:=ak hI hP hM hG hR a9 a8 av;obtain ⟨bz,bN,be,bI,bh,bn,Hs,bG⟩:=ak a7 aM ab aP aR a5 hs U;obtain ⟨bb,bo,bs,b6,ao,b7,bd,HS⟩:=ak O Y Z a4 y L a0 hS;have b9:=aa J;clear U O Y Z a4 y L a0 hS B aG g0 g1 g2 g3 g4 g5 k0 hI hP hM hG hR a9 a8 av a7 aM ab aP aR J a5 hs hy ad
 go_enter func89,ntmps89
 go_upto_region 1 with (fail)
 rw [bv.o]
 go_upto_region 2 with (fail)
 clear bA bw tl q0 bl b8
 have H:=G0.o
 have Q:=G1.o
 have a3:=G2.o
 have N:=G3.o
 have a1:=G4.o
 have a6:=G5.o
 have a2:=K0.o
 obtain ⟨V,hV⟩:∃V,W0=V:=⟨_,rfl⟩
 rw [hV] at H Q a3 N a1 a6 a2 ⊢
 clear hV
 obtain ⟨E9,b0,K9⟩:=af H a2 (Keep.refl (fun k=>k=w.heap.size) V);clear H a2
 have b1:=Q
 have b2:=a3
 have b3:=N
 have b4:=a1
 have b5:=a6
 clear Q a3 N a1 a6
 have q9:Keep (fun k=>k=w.heap.size+1+1+1\/k=w.heap.size+1+1+1+1\/k=w.heap.size+1+1+1+1+1) V V.drew:=(Keep.refl _ _).drew
 refine HA.g (fun p:World=>Keep (fun k=>k=w.heap.size+1+1+1\/k=w.heap.size+1+1+1+1\/k=w.heap.size+1+1+1+1+1) V p) ?_
 refine HA.ld 0 #[.slice A i.cfg.sizes.length c,Nd i.cfg.shift,Nd i.cfg.rate,Nd i.cfg.mom,Nd i.cfg.workers,Nd i.cfg.batch,Nd i.cfg.micros,Nd i.cfg.steps,Nd i.cfg.bucket,Nd i.cfg.chunk,Nd i.cfg.window,Nd i.cfg.cap,.slice D i.data.length cd,.slice T i.start.length ct,.slice R i.draws.length cr,Nd (x:Nat),.slice PA i.start.length pc,.slice MA i.start.length mc,.slice GA i.start.length gc,.slice SA m.rc.length sc,.slice IA il ic,Nd (dn:Nat)] (fun p q=>(q.block _ (Mf E9.o) ap).trans E9.o) dN q9 ?_
 refine HA.ld 1 #[Nd (s.cap:Nat),.slice B1 s.msgs.length c1,Nd (s.recv:Nat),Nd (s.peak:Nat)] (fun p q=>(q.block _ (Mf b1) ap).trans b1) bK q9 ?_
 refine HA.ld 2 #[Nd (t.cap:Nat),.slice B2 t.msgs.length c2,Nd (t.recv:Nat),Nd (t.peak:Nat)] (fun p q=>(q.block _ (Mf b2) ap).trans b2) bK q9 ?_
 refine HA.st 3 b3 dN (fun w6 e6 k6=>?_)
 have q6:Keep (fun k=>k=w.heap.size+1+1+1\/k=w.heap.size+1+1+1+1\/k=w.heap.size+1+1+1+1+1) V w6:=q9.trans (k6.mono fun k _ e=>.inl e)
 refine ⟨q6,?_⟩
 have d4:=(k6.block _ (Mf b4) ap).trans b4
 have d5:=(k6.block _ (Mf b5) ap).trans b5
 refine HA.st 4 d4 bK (fun w7 e7 k7=>?_)
 have q7:Keep (fun k=>k=w.heap.size+1+1+1\/k=w.heap.size+1+1+1+1\/k=w.heap.size+1+1+1+1+1) V w7:=q6.trans (k7.mono fun k _ e=>.inr (.inl e))
 refine ⟨q7,?_⟩
 have f5:=(k7.block _ (Mf d5) ap).trans d5
 have f3:=(k7.block _ (Mf e6) ap).trans e6
 refine HA.st 5 f5 bK (fun w8 e8 k8=>?_)
 have q8:Keep (fun k=>k=w.heap.size+1+1+1\/k=w.heap.size+1+1+1+1\/k=w.heap.size+1+1+1+1+1) V w8:=q7.trans (k8.mono fun k _ e=>.inr (.inr e))
 refine ⟨q8,?_⟩
 have r3:=(k8.block _ (Mf f3) ap).trans f3
 have r4:=(k8.block _ (Mf e7) ap).trans e7
 refine HA.t ?_ [6] q8 ?_
 refine HA.d ?_
 obtain ⟨R3,R4,R5⟩:=af r3 r4 e8
 have I:Keep (fun k=>w.heap.size<=k/\k<w.heap.size+6) V w8:=(K9.o.mono fun k _ e=>ap).trans (q8.mono fun k _ e=>by rcases e with e | e | e<;>omega)
 obtain ⟨bM,QW⟩:=ae I (b0.o.trans (I.toBelow b0.o.size (fun j hj=>hj.1)));clear b1 b2 b3 b4 b5 e6 k6 q6 d4 d5 e7 k7 q7 f5 f3 e8 k8 q8 r3 r4 q9 I
 go_wp2_with fail
 refine Mu (fk rfl rfl rfl rfl R3.o R4.o R5.o dN bK bK) rfl ?_
 have C:Ext (aF S w) (aF S w8):=bQ (Keep.below QW.o) (fun _ _ h=>h)
 exact ⟨_,_,_,rfl,rfl,rfl,⟨A,c,D,cd,T,ct,R,cr,PA,pc,MA,mc,GA,gc,SA,sc,IA,ic,by rw [bn.o,b9.o],fD bG.o C,bH bb.o C,bH bo.o C,bH bs.o C,ez cK b6.o C,aW ao.o C,bi.o,bf.o,bz.o⟩,⟨B1,c1,rfl,cX b7.o C,be.o⟩,⟨B2,c2,rfl,cX bd.o C,bh.o⟩,QW.o⟩
theorem pt (i:Inp) (x:Nat) (m:Mst) (y:Itm):(jJ i x m y).st=m.st/\(jJ i x m y).nx=m.nx:=by
 unfold jJ
 split
 ·exact ⟨rfl,rfl⟩
 ·split
  ·exact ⟨rfl,rfl⟩
  ·split<;>exact ⟨rfl,rfl⟩
theorem ql (i:Inp) (x:Nat) (m:Mst):(adv i x m).P=m.P/\(adv i x m).M=m.M/\(adv i x m).G=m.G/\(adv i x m).rc=m.rc:=by
 unfold adv
 split<;>exact ⟨rfl,rfl,rfl,rfl⟩
theorem kH {i:Inp} (hs:cF i) {x:Nat} {m m1:Mst} {y:Itm} (o:(cQ i x m.st)[m.nx]?=some y) (h1:m1.st=m.st) (h:m1.nx=m.nx):bE i x (adv i x m1)=bE i x m+1:=by
 have hl:=(MK.1 o).1
 have e:bE i x m1=bE i x m:=by unfold bE;rw [h1,h]
 unfold adv
 by_cases hc:m1.nx+1<(cQ i x m1.st).length
 ·rw [if_pos hc,<-e];exact sR i x m1
 ·rw [if_neg hc,<-e];exact sQ hs (by rw [h1,h] at *;omega)
theorem kD {y:Itm} {a:Acn} {k:Nat} (h:y.a=some a) (hk:y.kind=k):bj y=[Nd (k:Nat),Nd (y.st:Nat),Nd (y.n:Nat),.bool a.send,.bool a.add,Nd (a.st:Nat),Nd (a.bk:Nat),Nd (a.ph:Nat),Nd (a.rd:Nat),Nd (a.ch:Nat),Nd (a.at'.1:Nat),Nd (a.at'.2:Nat)]:=by
 unfold bj
 rw [h,hk]
 rfl
theorem mZ {y:Itm} {k:Nat} (h:y.a=none) (hk:y.kind=k):bj y=[Nd (k:Nat),Nd (y.st:Nat),Nd (y.n:Nat),.bool false,.bool false,Nd 0,Nd 0,Nd 0,Nd 0,Nd 0,Nd 0,Nd 0]:=by
 unfold bj
 rw [h,hk]
 rfl
theorem Je {w:World} {vs:Array Value} {i:Inp} {x:Nat} {m m1:Mst} {s t s1 t1:LSt} {u v:Array Value} {S:Nat->Prop} {C:Nat} (H:∀k,S k->k<w.heap.size) (h:ge (aF S w) vs i x m) (D:RL (aF S w) u s) (I:RL (aF S w) v t) (hs:cF i) (hm:MOk i x m) (a0:IR i x s) (Q:t.recv<=t.msgs.length)
  (N:s.msgs.length<=100000000000) (V:t.msgs.length<=100000000000) (a1:x<i.cfg.workers.toNat) (hr:jF i x m s t m1 s1 t1 C):
  Calls prog 89 #[.agg vs,.agg u,.agg v] w (fun e O=>nm S i x m1 s1 t1 (C:Nat) w e O):=by
 have B:∀{y:Itm} {ac:Acn},(cQ i x m.st)[m.nx]?=some y->y.a=some ac->ac.at'.1<ac.at'.2/\ac.at'.2<=i.start.length:=fun o A=>AQ hs.ok (dC o).2 A
 have p:=hm.cur hs
 cases hr with
 | fin hf=>
  rw [List.getElem?_eq_none hf] at p
  exact Jf H h D I hs (List.getElem?_eq_none_iff.1 p.symm)
 | own y o A=>
  have Y:=hm.okAt hs o A
  obtain ⟨c1,c2⟩:=dC o
  have a2:=vN o
  have J:=p.symm.trans o
  obtain ⟨aP,aM,aG,aR⟩:=ql i x (jJ i x m y)
  have Z:bE i x (adv i x (jJ i x m y))=bE i x m+1:=kH hs o (pt i x m y).1 (pt i x m y).2
  rcases Y.1 with k | k | k | k
  ·refine FF H h D I hs J _ _ _ _ _ _ _ _ _ _ _ (mZ A k) y.st y.n rfl rfl (by rw [a2];exact c1) (sw c2 k) a1 _ ?_ Z
   rw [aP,aM,aG,aR];unfold jJ;rw [if_pos k];exact ⟨rfl,rfl,rfl,rfl⟩
  ·refine zv H h D I hs J _ _ _ _ _ _ _ _ _ _ _ (mZ A k) _ ?_ Z
   rw [aP,aM,aG,aR];unfold jJ;rw [if_neg ap,if_pos k];exact ⟨rfl,rfl,rfl,rfl⟩
  ·obtain ⟨g,hg,g1,g2⟩:=uE c2 (.inr k)
   obtain ⟨j,hj,rfl⟩:=List.getElem_of_mem hg
   have a3:=hs.ok.grp hj
   rw [cJ _ _ hj] at a3
   have T:y.n<(aA i).buks.length:=ap
   have L:=T
   rw [Pln.buks,kE] at L
   obtain ⟨b1,b2,b3⟩:=Iu hs.ok.bu L
   have R:aN (aA i).buks y.n=(bB (aA i).n (aA i).bu (y.n+1),bB (aA i).n (aA i).bu y.n):=b1
   refine zt H h D I hs J _ _ _ _ _ _ _ _ _ _ _ (mZ A k) y.n _ _ rfl T R b2 b3 _ ?_ Z
   rw [aP,aM,aG,aR];unfold jJ;rw [if_neg ap,if_neg ap,if_pos k,R];exact ⟨rfl,rfl,rfl,rfl⟩
  ·refine zu H h D I hs J _ _ _ _ _ _ _ _ _ _ _ (mZ A k) (Y.2.2.2 k) _ ?_ Z
   rw [aP,aM,aG,aR];unfold jJ;rw [if_neg ap,if_neg ap,if_neg ap];exact ⟨rfl,rfl,rfl,rfl⟩
 | send y ac o A hk hroom=>
  exact FC H h D I hs (p.symm.trans o) _ _ _ _ _ _ _ _ _ _ _ (kD A hk) _ _ rfl rfl (B o A).1 (B o A).2 Q V hroom _ (ql i x m) (kH hs o rfl rfl)
 | full y ac o A hk hf=>
  exact FE H h D I hs (p.symm.trans o) _ _ _ _ _ _ _ _ _ _ _ (kD A hk) _ _ rfl rfl (B o A).1 (B o A).2 Q V ap _ ⟨rfl,rfl,rfl,rfl⟩ rfl
 | recv y ac o A hk hlt heq=>
  have U:=a0.len hs (dC o).1 (dC o).2 A (pZ (dC o).2 A hk) hlt heq
  exact FD H h D I hs (p.symm.trans o) _ _ _ _ _ _ _ _ _ _ _ (kD A hk) _ _ rfl (Nat.le_of_lt (B o A).1) (B o A).2 N hlt heq U.1 U.2 _ (ql i x _) (kH hs o rfl rfl)
 | none y ac o A hk h0=>
  refine rK H h D I hs (p.symm.trans o) _ _ _ _ _ _ _ _ _ _ _ (kD A hk) 12 (by decide) (fun B1 c1 O hB=>?_) _ ⟨rfl,rfl,rfl,rfl⟩ rfl
  have:=tr s.cap B1 s.msgs.length c1 s.peak ac.tg O N
  rw [h0]
  exact this
 | other y ac o A hk hlt hne=>
  exact rK H h D I hs (p.symm.trans o) _ _ _ _ _ _ _ _ _ _ _ (kD A hk) 10 (by decide) (fun B1 c1 O hB=>wQ s.cap B1 s.msgs c1 s.recv s.peak ac.tg O hB hlt N hne) _ ⟨rfl,rfl,rfl,rfl⟩ rfl
def Cor.tg (c:Cor):Tg:=⟨c.st,c.bk,c.ph,c.rd,c.ch⟩
theorem Il (a:Acn):a.cor.tg=a.tg:=rfl
structure WSt where
 m:Nat->Mst
 s:Nat->LSt
def aZ {α:Type} (f:Nat->α) (k:Nat) (v:α) (y:Nat):α:=if y=k then v else f y
theorem bJ {α:Type} (f:Nat->α) (k:Nat) (v:α):aZ f k v k=v:=if_pos rfl
theorem bC {α:Type} (f:Nat->α) {k y:Nat} (v:α) (h:y≠k):aZ f k v y=f y:=if_neg h
theorem jb {α:Type} (f:Nat->α) (k:Nat):aZ f k (f k)=f:=by
 funext y
 unfold aZ
 split
 ·next h=>rw [h]
 ·rfl
def WSt.pos (i:Inp) (M:WSt) (x:Nat):Nat:=bE i x (M.m x)
structure WOk (i:Inp) (M:WSt):Prop where
 mok:∀x,x<(aA i).W->MOk i x (M.m x)
 lok:∀x,x<(aA i).W->(M.s x).cap=i.cfg.cap.toNat/\(M.s x).recv<=(M.s x).msgs.length/\(M.s x).msgs.length<=(M.s x).recv+i.cfg.cap.toNat/\(M.s x).peak<=i.cfg.cap.toNat
 sn:∀x,x<(aA i).W->(M.s x).msgs.length=sN i x (M.pos i x)
 rn:∀x,x<(aA i).W->(M.s x).recv=rN i (nxW (aA i).W x) (M.pos i (nxW (aA i).W x))
 tg:∀x,x<(aA i).W->∀j,j<(M.s x).msgs.length->∃c,(gQ (dM i x))[j]?=some c/\(aS (M.s x).msgs j).tag=c.tg/\(aS (M.s x).msgs j).vals.length=c.at'.2-c.at'.1/\W64 (aS (M.s x).msgs j).vals
def Pk (i:Inp) (M:WSt) (x:Nat) (M1:WSt) (C:Nat):Prop:=
 ∃m1 s1 t1,jF i x (M.m x) (M.s (pvW (aA i).W x)) (M.s x) m1 s1 t1 C/\M1=⟨aZ M.m x m1,aZ (aZ M.s (pvW (aA i).W x) s1) x t1⟩
theorem tI {l:List Itm} {p:Nat} {y:Itm} (h:l[p]?=some y):l.take (p+1)=l.take p++[y]:=by
 rw [List.take_add_one,h];rfl
theorem vl {i:Inp} {x p:Nat} {y:Itm} (h:(dM i x)[p]?=some y):sN i x (p+1)=sN i x p+(if y.kind=3 then 1 else 0):=by
 unfold sN
 rw [tI h,tQ,MJ]
 congr 1
 rcases yu (List.mem_of_getElem? h) with ⟨u,v,_⟩ | ⟨a,o,hk⟩
 ·rw [if_neg v];unfold gQ gj;simp [u]
 ·cases hs:a.send<;>rw [hs] at hk<;>rw [hk]<;>unfold gQ gj<;>simp [o,hs]
theorem vz {i:Inp} {x p:Nat} {y:Itm} (h:(dM i x)[p]?=some y):rN i x (p+1)=rN i x p+(if y.kind=4 then 1 else 0):=by
 unfold rN
 rw [tI h,ud,MJ]
 congr 1
 rcases yu (List.mem_of_getElem? h) with ⟨u,_,v⟩ | ⟨a,o,hk⟩
 ·rw [if_neg v];unfold iC gj;simp [u]
 ·cases hs:a.send<;>rw [hs] at hk<;>rw [hk]<;>unfold iC gj<;>simp [o,hs]
theorem Ls {W x:Nat} (h:x<W):pvW W (nxW W x)=x:=by
 unfold nxW pvW
 rcases Mv (x+1) W with h1 | h1
 ·rw [Nat.mod_eq_of_lt h1,show x+1+W-1=x+W by omega,Nat.add_mod_right,Nat.mod_eq_of_lt h]
 ·have e:x+1=W:=ap
  rw [e,Nat.mod_self,show 0+W-1=x by omega,Nat.mod_eq_of_lt h]
theorem FH {W x:Nat} (h:x<W) (i:2<=W):pvW W x≠x:=by
 unfold pvW
 rcases Nat.eq_zero_or_pos x with e | e
 ·subst e
  rw [show 0+W-1=W-1 by omega,Nat.mod_eq_of_lt ap]
  omega
 ·rw [show x+W-1=(x-1)+W by omega,Nat.add_mod_right,Nat.mod_eq_of_lt ap]
  omega
theorem Cd {p:Pln} {x st:Nat} {a:Acn} (h:a∈gj (aJ p x st)):2<=p.W:=by
 rw [uX] at h
 simp only [yw,yx,List.mem_flatMap,List.mem_range] at h
 obtain ⟨_,_,_,_,r,hr,_⟩:=h
 omega
theorem te {l:List Itm} {y:Itm} {a:Acn} (h:y∈l) (i:y.a=some a):a∈gj l:=by
 unfold gj
 exact List.mem_filterMap.2 ⟨y,h,i⟩
theorem JQ {i:Inp} {x:Nat} {a:Acn} (h:a∈gj (dM i x)):∃st,st<i.cfg.steps.toNat/\a∈gj (aJ (aA i) x st):=by
 unfold gj at h
 obtain ⟨y,p,u⟩:=List.mem_filterMap.1 h
 obtain ⟨st,o,p⟩:=List.mem_flatMap.1 p
 exact ⟨st,List.mem_range.1 o,te p u⟩
section
variable {i:Inp} {M M1:WSt} {x C:Nat}
theorem WOk.msgI (h:WOk i M) (H:x<(aA i).W):IR i x (M.s (pvW (aA i).W x)):=fun j v=>by
 have u:pvW (aA i).W x<(aA i).W:=mb ap
 obtain ⟨c,h1,A,D,B⟩:=h.tg _ u j v
 refine ⟨B,.inr ?_⟩
 have e:=xo i (pvW (aA i).W x) i.cfg.steps.toNat
 rw [show (pvW (aA i).W x+1)%(aA i).W=x from Bw H] at e
 rw [show gQ (dM i (pvW (aA i).W x))=iC (dM i x) from e] at h1
 obtain ⟨a,o,hs,hc⟩:=C7 h1
 obtain ⟨st,_,o⟩:=JQ o
 unfold gj at o
 obtain ⟨y,C,p⟩:=List.mem_filterMap.1 o
 rw [D,A,<-hc,Il,<-IK C p hs]
 rfl
theorem WOk.cur (h:WOk i M) (hs:cF i) (o:x<(aA i).W):(cQ i x (M.m x).st)[(M.m x).nx]?=(dM i x)[M.pos i x]?:=(h.mok x o).cur hs
theorem WOk.pick (h:WOk i M) (hs:cF i) (o:x<(aA i).W):∃M1 C,Pk i M x M1 C:=by
 have p:pvW (aA i).W x<(aA i).W:=mb ap
 obtain ⟨m1,s1,t1,C,u⟩:=Cp i x (M.m x) (M.s (pvW (aA i).W x)) (M.s x) (h.lok _ p).2.1 (by rw [(h.lok x o).1];exact (h.lok x o).2.2.1)
 exact ⟨_,C,m1,s1,t1,u,rfl⟩
theorem oQ (i:Inp) (M:WSt) (x:Nat) (m1:Mst) (S:Nat->LSt) (z:Nat):(⟨aZ M.m x m1,S⟩:WSt).pos i z=if z=x then bE i x m1 else M.pos i z:=by
 unfold WSt.pos
 show bE i z (aZ M.m x m1 z)=_
 by_cases e:z=x
 ·subst e;rw [if_pos rfl,bJ]
 ·rw [if_neg e,bC _ _ e]
theorem EP (M:WSt) (x p:Nat):(⟨aZ M.m x (M.m x),aZ (aZ M.s p (M.s p)) x (M.s x)⟩:WSt)=M:=by
 rw [jb,jb,jb]
theorem WOk.own (h:WOk i M) (C:x<(aA i).W) {m1:Mst} {y:Itm} (u:(dM i x)[M.pos i x]?=some y) (hm:MOk i x m1) (v:bE i x m1=M.pos i x+1) (B:y.kind≠3) (A:y.kind≠4):WOk i ⟨aZ M.m x m1,M.s⟩:=by
 have o:∀z,(⟨aZ M.m x m1,M.s⟩:WSt).pos i z=if z=x then M.pos i x+1 else M.pos i z:=fun z=>by rw [oQ,v]
 refine ⟨fun z p=>?_,h.lok,fun z p=>?_,fun z p=>?_,h.tg⟩
 ·by_cases e:z=x
  ·subst e;show MOk i z (aZ M.m z m1 z);rw [bJ];exact hm
  ·show MOk i z (aZ M.m x m1 z);rw [bC _ _ e];exact h.mok z p
 ·rw [o z]
  by_cases e:z=x
  ·subst e;rw [if_pos rfl,vl u,if_neg B];exact h.sn z p
  ·rw [if_neg e];exact h.sn z p
 ·rw [o]
  by_cases e:nxW (aA i).W z=x
  ·rw [if_pos e,e,vz u,if_neg A];have:=h.rn z p;rw [e] at this;exact this
  ·rw [if_neg e];exact h.rn z p
theorem Pk.ok (hp:Pk i M x M1 C) (h:WOk i M) (hs:cF i) (L:x<(aA i).W) (hw:W64 (M.m x).G):
  WOk i M1/\(C=0->M1.pos i x=M.pos i x+1/\(∀z,z≠x->M1.m z=M.m z)/\M.pos i x<(dM i x).length)/\(C≠0->M1=M)/\(C=0↔can i i.cfg.cap.toNat (M.pos i) x):=by
 obtain ⟨m1,s1,t1,ht,rfl⟩:=hp
 have N:pvW (aA i).W x<(aA i).W:=mb ap
 have a9:nxW (aA i).W x<(aA i).W:=Kv ap
 have u:=h.cur hs L
 have B:=ht.ok hs (h.mok x L)
 have O:=h.sn x L
 have I:=h.rn _ N
 rw [Bw L] at I
 have a1:=h.rn x L
 have a0:=h.sn _ N
 have a7:=(h.lok x L).1
 have A:∀{C:Nat},C≠0->¬can i i.cfg.cap.toNat (M.pos i) x->WOk i ⟨aZ M.m x (M.m x),aZ (aZ M.s (pvW (aA i).W x) (M.s (pvW (aA i).W x))) x (M.s x)⟩/\(C=0->(⟨aZ M.m x (M.m x),aZ (aZ M.s (pvW (aA i).W x) (M.s (pvW (aA i).W x))) x (M.s x)⟩:WSt).pos i x=M.pos i x+1/\(∀z,z≠x->(⟨aZ M.m x (M.m x),aZ (aZ M.s (pvW (aA i).W x) (M.s (pvW (aA i).W x))) x (M.s x)⟩:WSt).m z=M.m z)/\M.pos i x<(dM i x).length)/\(C≠0->(⟨aZ M.m x (M.m x),aZ (aZ M.s (pvW (aA i).W x) (M.s (pvW (aA i).W x))) x (M.s x)⟩:WSt)=M)/\(C=0↔can i i.cfg.cap.toNat (M.pos i) x):=fun hC hn=>by
  rw [EP]
  exact ⟨h,fun e=>absurd e hC,fun _=>rfl,⟨fun e=>absurd e hC,fun e=>absurd e hn⟩⟩
 have go:∀{y:Itm} {M1:WSt},(dM i x)[M.pos i x]?=some y->WOk i M1->M1.m=aZ M.m x m1->bE i x m1=M.pos i x+1->can i i.cfg.cap.toNat (M.pos i) x->WOk i M1/\((0:Nat)=0->M1.pos i x=M.pos i x+1/\(∀z,z≠x->M1.m z=M.m z)/\M.pos i x<(dM i x).length)/\((0:Nat)≠0->M1=M)/\((0:Nat)=0↔can i i.cfg.cap.toNat (M.pos i) x):=fun o a6 hm H hc=>
  ⟨a6,fun _=>⟨by unfold WSt.pos;rw [hm,bJ];exact H,fun z p=>by rw [hm,bC _ _ p],(MK.1 o).1⟩,fun e=>absurd rfl e,⟨fun _=>hc,fun _=>rfl⟩⟩
 cases ht with
 | fin hf=>
  refine A (by decide) ?_
  rintro ⟨y,o,_⟩
  rw [<-u,List.getElem?_eq_none hf] at o
  cases o
 | own y o ha=>
  have hk:=qG (dC o).2 ha
  have H:bE i x (adv i x (jJ i x (M.m x) y))=M.pos i x+1:=kH hs o (pt i x (M.m x) y).1 (pt i x (M.m x) y).2
  rw [u] at o
  rw [jb,jb]
  exact go o (h.own L o B H ap ap) rfl H ⟨y,o,fun e=>absurd e ap,fun e=>absurd e ap⟩
 | send y a o ha hk hroom=>
  have D:=dC o
  have H:bE i x (adv i x (M.m x))=M.pos i x+1:=kH hs o rfl rfl
  have a8:=AQ hs.ok D.2 ha
  rw [u] at o
  have a3:a.send=true:=by
   have:=(jk D.2 ha).1
   cases e:a.send with
   | true=>rfl
   | false=>rw [e,hk] at this;cases this
  rw [jb]
  obtain ⟨l1,l2,l3,l4⟩:=h.lok x L
  have J:(⟨aZ M.m x (adv i x (M.m x)),M.s⟩:WSt).pos i x=M.pos i x+1:=by rw [oQ,if_pos rfl];exact H
  have v:∀z (S:Nat->LSt),z≠x->(⟨aZ M.m x (adv i x (M.m x)),S⟩:WSt).pos i z=M.pos i z:=fun z S e=>by rw [oQ,if_neg e]
  refine go o ⟨fun z p=>?_,fun z p=>?_,fun z p=>?_,fun z p=>?_,fun z p j U=>?_⟩ rfl H ⟨y,o,fun _=>by rw [<-O,<-a1];omega,fun e=>ap⟩
  ·by_cases e:z=x
   ·subst e;show MOk i z (aZ M.m z _ z);rw [bJ];exact B
   ·show MOk i z (aZ M.m x _ z);rw [bC _ _ e];exact h.mok z p
  ·by_cases e:z=x
   ·subst e
    rw [show (⟨aZ M.m z (adv i z (M.m z)),aZ M.s z ((M.s z).send ⟨a.tg,((M.m z).G.drop a.at'.1).take (a.at'.2-a.at'.1)⟩)⟩:WSt).s z=(M.s z).send ⟨a.tg,((M.m z).G.drop a.at'.1).take (a.at'.2-a.at'.1)⟩ from bJ _ _ _]
    refine ⟨l1,?_,?_,?_⟩
    ·show (M.s z).recv<=((M.s z).msgs++[_]).length;rw [MJ];omega
    ·show ((M.s z).msgs++[_]).length<=(M.s z).recv+_;rw [MJ];simp only [MS];omega
    ·show max (M.s z).peak ((M.s z).msgs.length+1-(M.s z).recv)<=_;omega
   ·rw [show (⟨aZ M.m x (adv i x (M.m x)),aZ M.s x ((M.s x).send ⟨a.tg,((M.m x).G.drop a.at'.1).take (a.at'.2-a.at'.1)⟩)⟩:WSt).s z=M.s z from bC _ _ e];exact h.lok z p
  ·by_cases e:z=x
   ·subst e
    rw [show (⟨aZ M.m z (adv i z (M.m z)),aZ M.s z ((M.s z).send ⟨a.tg,((M.m z).G.drop a.at'.1).take (a.at'.2-a.at'.1)⟩)⟩:WSt).s z=(M.s z).send ⟨a.tg,((M.m z).G.drop a.at'.1).take (a.at'.2-a.at'.1)⟩ from bJ _ _ _]
    rw [show (⟨aZ M.m z (adv i z (M.m z)),aZ M.s z ((M.s z).send ⟨a.tg,((M.m z).G.drop a.at'.1).take (a.at'.2-a.at'.1)⟩)⟩:WSt).pos i z=M.pos i z+1 from J,vl o,if_pos hk,<-O]
    simp [LSt.send]
   ·rw [show (⟨aZ M.m x (adv i x (M.m x)),aZ M.s x ((M.s x).send ⟨a.tg,((M.m x).G.drop a.at'.1).take (a.at'.2-a.at'.1)⟩)⟩:WSt).s z=M.s z from bC _ _ e,v z _ e];exact h.sn z p
  ·have hr:((⟨aZ M.m x (adv i x (M.m x)),aZ M.s x ((M.s x).send ⟨a.tg,((M.m x).G.drop a.at'.1).take (a.at'.2-a.at'.1)⟩)⟩:WSt).s z).recv=(M.s z).recv:=by
    by_cases e:z=x
    ·subst e;show (aZ M.s z _ z).recv=_;rw [bJ];rfl
    ·show (aZ M.s x _ z).recv=_;rw [bC _ _ e]
   rw [hr,h.rn z p]
   by_cases e:nxW (aA i).W z=x
   ·rw [e,show (⟨aZ M.m x (adv i x (M.m x)),aZ M.s x ((M.s x).send ⟨a.tg,((M.m x).G.drop a.at'.1).take (a.at'.2-a.at'.1)⟩)⟩:WSt).pos i x=M.pos i x+1 from J,vz o,if_neg ap];rfl
   ·rw [v _ _ e]
  ·by_cases e:z=x
   ·subst e
    have e1:((⟨aZ M.m z (adv i z (M.m z)),aZ M.s z ((M.s z).send ⟨a.tg,((M.m z).G.drop a.at'.1).take (a.at'.2-a.at'.1)⟩)⟩:WSt).s z).msgs=(M.s z).msgs++[⟨a.tg,((M.m z).G.drop a.at'.1).take (a.at'.2-a.at'.1)⟩]:=by
     show (aZ M.s z _ z).msgs=_;rw [bJ];rfl
    rw [e1] at U ⊢
    rw [zN]
    by_cases hl:j<(M.s z).msgs.length
    ·rw [if_pos hl];exact h.tg z p j hl
    ·rw [MJ,MS] at U
     have Z:j=(M.s z).msgs.length:=ap
     rw [if_neg hl,if_pos Z]
     refine ⟨a.cor,?_,rfl,?_,fun k hk=>?_⟩
     ·rw [Z,O];exact EQ o ha a3
     ·show (((M.m z).G.drop a.at'.1).take (a.at'.2-a.at'.1)).length=a.at'.2-a.at'.1
      rw [MO,MR,(h.mok z p).lG]
      have:(aA i).n=i.start.length:=rfl
      omega
     ·have a4:k<a.at'.2-a.at'.1:=Mo hk (by show (((M.m z).G.drop a.at'.1).take (a.at'.2-a.at'.1)).length<=_;rw [MO];omega)
      show _<=nth (((M.m z).G.drop a.at'.1).take (a.at'.2-a.at'.1)) k/\nth (((M.m z).G.drop a.at'.1).take (a.at'.2-a.at'.1)) k<=_
      rw [eU a4,eZ]
      exact hw.nth _
   ·rw [show (⟨aZ M.m x (adv i x (M.m x)),aZ M.s x ((M.s x).send ⟨a.tg,((M.m x).G.drop a.at'.1).take (a.at'.2-a.at'.1)⟩)⟩:WSt).s z=M.s z from bC _ _ e] at U ⊢;exact h.tg z p j U
 | full y a o ha hk hf=>
  refine A (by decide) ?_
  rintro ⟨y',T,V,_⟩
  rw [u,T] at o
  injection o with o;subst o
  have:=V hk
  rw [<-O,<-a1] at this
  omega
 | recv y a o ha hk hlt heq=>
  have D:=dC o
  have H:bE i x (adv i x {M.m x with G:=ki (M.m x).G a.at'.1 (aS (M.s (pvW (aA i).W x)).msgs (M.s (pvW (aA i).W x)).recv).vals a.add})=M.pos i x+1:=kH hs o rfl rfl
  have h2:2<=(aA i).W:=Cd (te D.2 ha)
  have a2:=FH L h2
  rw [u] at o
  obtain ⟨m1,a5⟩:∃m1,adv i x {M.m x with G:=ki (M.m x).G a.at'.1 (aS (M.s (pvW (aA i).W x)).msgs (M.s (pvW (aA i).W x)).recv).vals a.add}=m1:=⟨_,rfl⟩
  rw [a5] at H B go ⊢
  obtain ⟨S,hS⟩:∃S,aZ (aZ M.s (pvW (aA i).W x) {M.s (pvW (aA i).W x) with recv:=(M.s (pvW (aA i).W x)).recv+1}) x (M.s x)=S:=⟨_,rfl⟩
  have R:S (pvW (aA i).W x)={M.s (pvW (aA i).W x) with recv:=(M.s (pvW (aA i).W x)).recv+1}:=by rw [<-hS,bC _ _ a2,bJ]
  have Q:∀z,z≠pvW (aA i).W x->S z=M.s z:=fun z e=>by
   rw [<-hS]
   by_cases e2:z=x
   ·subst e2;rw [bJ]
   ·rw [bC _ _ e2,bC _ _ e]
  have Y:∀z,(S z).msgs=(M.s z).msgs:=fun z=>by
   by_cases e:z=pvW (aA i).W x
   ·rw [e,R]
   ·rw [Q z e]
  rw [hS]
  have J:(⟨aZ M.m x m1,S⟩:WSt).pos i x=M.pos i x+1:=by rw [oQ,if_pos rfl];exact H
  have v:∀z,z≠x->(⟨aZ M.m x m1,S⟩:WSt).pos i z=M.pos i z:=fun z e=>by rw [oQ,if_neg e]
  refine go o ⟨fun z p=>?_,fun z p=>?_,fun z p=>?_,fun z p=>?_,fun z p j U=>?_⟩ rfl H ⟨y,o,fun e=>ap,fun _=>by rw [<-I,<-a0];exact hlt⟩
  ·by_cases e:z=x
   ·subst e;show MOk i z (aZ M.m z _ z);rw [bJ];exact B
   ·show MOk i z (aZ M.m x _ z);rw [bC _ _ e];exact h.mok z p
  ·by_cases e:z=pvW (aA i).W x
   ·obtain ⟨l1,l2,l3,l4⟩:=h.lok _ N
    rw [show (⟨aZ M.m x m1,S⟩:WSt).s z=S z from rfl,e,R]
    exact ⟨l1,hlt,by show (M.s (pvW (aA i).W x)).msgs.length<=(M.s (pvW (aA i).W x)).recv+1+_;omega,l4⟩
   ·rw [show (⟨aZ M.m x m1,S⟩:WSt).s z=S z from rfl,Q z e];exact h.lok z p
  ·show (S z).msgs.length=_
   rw [Y,h.sn z p]
   by_cases e:z=x
   ·subst e;rw [J,vl o,if_neg ap];rfl
   ·rw [v z e]
  ·show (S z).recv=_
   by_cases e:z=pvW (aA i).W x
   ·rw [e,R,Bw L,J,vz o,if_pos hk]
    show _+1=_
    rw [I]
   ·have e2:nxW (aA i).W z≠x:=fun e3=>e (by rw [<-e3,Ls p])
    rw [Q z e,v _ e2];exact h.rn z p
  ·have e:(⟨aZ M.m x m1,S⟩:WSt).s z=S z:=rfl
   rw [e,Y] at U ⊢
   exact h.tg z p j U
 | none y a o ha hk h0=>
  refine A (by decide) ?_
  rintro ⟨y',T,_,h4⟩
  rw [u,T] at o
  injection o with o;subst o
  have:=h4 hk
  rw [<-a0,<-I] at this
  omega
 | other y a o ha hk hlt hne=>
  exfalso
  have D:=dC o
  rw [u] at o
  obtain ⟨c,h1,h2,_⟩:=h.tg _ N _ hlt
  have e:=xo i (pvW (aA i).W x) i.cfg.steps.toNat
  rw [show (pvW (aA i).W x+1)%(aA i).W=x from Bw L] at e
  rw [show gQ (dM i (pvW (aA i).W x))=iC (dM i x) from e,I] at h1
  have V:=FA o ha (pZ D.2 ha hk)
  rw [show (iC (List.take (M.pos i x) (dM i x))).length=rN i x (M.pos i x) from rfl,h1] at V
  injection V with V
  rw [h2,V,Il] at hne
  exact hne rfl
end
def fL (i:Inp):WSt:=⟨fun _=>fC i,fun _=>LSt.new i.cfg.cap.toNat⟩
theorem WOk.zero (i:Inp):WOk i (fL i):=by
 refine ⟨fun x _=>MOk.zero x,fun x _=>⟨rfl,Mg _,Mk _,Mk _⟩,fun x _=>?_,fun x _=>?_,fun x _ j h=>by simp [fL,LSt.new] at h⟩
 ·show 0=sN i x (bE i x (fC i))
  rw [show bE i x (fC i)=0 by simp [bE,fC]]
  rfl
 ·show 0=rN i _ (bE i _ (fC i))
  rw [show bE i (nxW (aA i).W x) (fC i)=0 by simp [bE,fC]]
  rfl
structure WAd where
 X:Nat
 b:Nat->Nat
 l:Nat->Nat
 a:Nat->MAd
 g:Nat->Option Nat
def WAd.mu (D:WAd) (x k:Nat):Prop:=Mut (D.b x) (D.a x) k
def WAd.li (D:WAd) (x k:Nat):Prop:=dJ (D.l x) (D.g x) k
def WAd.all (D:WAd) (n k:Nat):Prop:=k=D.X\/∃x,x<n/\(D.mu x k\/D.li x k)
def WAd.oth (D:WAd) (n:Nat) (E:Nat->Prop) (x k:Nat):Prop:=(D.all n k\/E k)/\¬D.mu x k
structure gn (E:Nat->Prop) (i:Inp) (w:World) (D:WAd) (B:Nat) (M:WSt):Prop where
 mach:∀x,x<(aA i).W->aU (D.oth (aA i).W E x) w (D.b x) i x (D.a x) (M.m x)
 lnk:∀x,x<(aA i).W->aV w B (D.l x) (D.g x) (M.s x)
 mm:∀x y k,x<(aA i).W->y<(aA i).W->D.mu x k->D.mu y k->x=y
 ml:∀x y k,x<(aA i).W->y<(aA i).W->D.mu x k->¬D.li y k
 ll:∀x y k,x<(aA i).W->y<(aA i).W->D.li x k->D.li y k->x=y
 xm:∀x,x<(aA i).W->¬D.mu x D.X/\¬D.li x D.X
 lo:∀x,x<(aA i).W->D.b x<B/\(D.a x).bp<B/\(D.a x).bm<B/\(D.a x).bg<B
 hB:B<=w.heap.size
 xl:D.X<w.heap.size
 ne:∀k,E k->¬D.all (aA i).W k
 ex:∀k,E k->k<w.heap.size
section
variable {E E':Nat->Prop} {i:Inp} {w w':World} {D:WAd} {B:Nat} {M:WSt} {x:Nat}
theorem gn.lt (h:gn E i w D B M):∀k,D.all (aA i).W k->k<w.heap.size:=by
 rintro k (rfl | ⟨x,o,e | e⟩)
 ·exact h.xl
 ·exact (h.mach x o).mlt k e
 ·exact (h.lnk x o).lt k e
theorem gn.more (h:gn E i w D B M) (hb:aq w w') (he:∀k,E' k->k<w'.heap.size/\(E k\/w.heap.size<=k)):gn E' i w' D B M:=
 ⟨fun x o=>(h.mach x o).step (Keep.below hb) (fun k hk e=>⟨e.1.imp id fun e=>(he k e).2.elim id fun e=>absurd hk ap,e.2⟩) (fun k hm e=>e.2 hm),fun x o=>(h.lnk x o).below hb,h.mm,h.ml,h.ll,h.xm,h.lo,Mn h.hB hb.size,Mo h.xl hb.size,
  fun k e=>(he k e).2.elim (h.ne k) fun e p=>by have:=h.lt k p;omega,fun k e=>(he k e).1⟩
theorem gn.below (h:gn E i w D B M) (hb:aq w w'):gn E i w' D B M:=h.more hb fun k e=>⟨Mo (h.ex k e) hb.size,.inl e⟩
theorem gn.keepQ (h:gn E i w D B M) {Q:Nat->Prop} (hk:Keep Q w w') (p:∀k,Q k->k=D.X\/E k) (he:∀(j:Nat) (c:Array Value),w.heap[j]?=some (.cells c 2 (0,0))->B<=j->¬Q j):gn E i w' D B M:=
 ⟨fun x o=>(h.mach x o).step (hk.mono fun k _ e=>⟨(p k e).imp .inl id,fun hm=>(p k e).elim (fun e=>(h.xm x o).1 (e▸hm)) fun e=>h.ne k e (.inr ⟨x,o,.inl hm⟩)⟩) (fun k _ e=>e) (fun k hm e=>e.2 hm),
  fun x o=>(h.lnk x o).keep hk (fun e=>(p _ e).elim (fun e=>(h.xm x o).2 (e▸.inl rfl)) fun e=>h.ne _ e (.inr ⟨x,o,.inr (.inl rfl)⟩)) (fun j u e=>(p _ e).elim (fun e=>(h.xm x o).2 (e▸.inr u)) fun e=>h.ne _ e (.inr ⟨x,o,.inr (.inr u)⟩)) he,
  h.mm,h.ml,h.ll,h.xm,h.lo,Mn h.hB hk.size,Mo h.xl hk.size,h.ne,fun k e=>Mo (h.ex k e) hk.size⟩
def WAd.rest (D:WAd) (n:Nat) (E:Nat->Prop) (x k:Nat):Prop:=(D.all n k\/E k)/\¬D.mu x k/\¬D.li (pvW n x) k/\¬D.li x k
theorem gn.wld (h:gn E i w D B M) (o:x<(aA i).W) (y:2<=(aA i).W):Wld (D.rest (aA i).W E x) B w (D.b x) (D.l (pvW (aA i).W x)) (D.l x) i x (D.a x) (M.m x) (M.s (pvW (aA i).W x)) (M.s x) (D.g (pvW (aA i).W x)) (D.g x):=by
 have p:pvW (aA i).W x<(aA i).W:=mb ap
 have v:=FH o y
 refine ⟨(h.mach x o).step (Keep.refl _ _) ?_ ?_,?_,h.lnk _ p,h.lnk x o,fun k e u=>v (h.ll _ _ k p o e u),h.lo x o,h.hB,?_,?_⟩
 ·rintro k _ ((e | e) | e)
  ·exact ⟨.inl (.inr ⟨_,p,.inr e⟩),fun hm=>h.ml _ _ k o p hm e⟩
  ·exact ⟨.inl (.inr ⟨_,o,.inr e⟩),fun hm=>h.ml _ _ k o o hm e⟩
  ·exact ⟨e.1,e.2.1⟩
 ·rintro k hm ((e | e) | e)
  ·exact h.ml _ _ k o p hm e
  ·exact h.ml _ _ k o o hm e
  ·exact e.2.1 hm
 ·rintro k hm ((e | e) | e)
  ·exact h.ml _ _ k o p hm e
  ·exact h.ml _ _ k o o hm e
  ·exact e.2.1 hm
 ·rintro k (e | e) u
  ·exact u.2.2.1 e
  ·exact u.2.2.2 e
 ·rintro k ⟨e | e,_⟩
  ·exact h.lt k e
  ·exact h.ex k e
def WAd.upd (D:WAd) (x:Nat) (a1:MAd) (g1:Option Nat):WAd:=⟨D.X,D.b,D.l,aZ D.a x a1,aZ D.g x g1⟩
def AR (E:Nat->Prop) (i:Inp) (w:World) (D:WAd) (B:Nat) (x:Nat) (h:WSt) (w':World):Prop:=
 ∃a1 g1,gn E i w' (D.upd x a1 g1) B h/\Keep (fun k=>D.all (aA i).W k/\k≠D.X) w w'/\∀k,(D.upd x a1 g1).all (aA i).W k->D.all (aA i).W k\/w.heap.size<=k
theorem gn.did (h:gn E i w D B M) (V:x<(aA i).W) {p:Nat} (hp:p<(aA i).W) {C:Nat->Prop} (hC:∀k,C k->D.mu x k\/D.li p k\/D.li x k) {a1:MAd} {g1:Option Nat} {m1:Mst} {s1 t1:LSt} {H:Nat->Prop}
  (hm:aU H w' (D.b x) i x a1 m1) (hH:∀k,(D.upd x a1 g1).oth (aA i).W E x k->H k) (hk:Keep C w w') (a5:p≠x->aV w' B (D.l p) (D.g p) s1) (a8:aV w' B (D.l x) g1 t1) (ao:p=x->t1=s1)
  (U:∀k,Mut (D.b x) a1 k->C k\/w.heap.size<=k) (Y:∀k,dJ (D.l x) g1 k->C k\/w.heap.size<=k) (a2:∀k,Mut (D.b x) a1 k->¬dJ (D.l x) g1 k/\¬D.li p k/\¬E k) (ab:p≠x->∀k,dJ (D.l x) g1 k->¬D.li p k) (a7:∀k,dJ (D.l x) g1 k->¬E k)
  (a9:a1.bp<B/\a1.bm<B/\a1.bg<B):AR E i w D B x ⟨aZ M.m x m1,aZ (aZ M.s p s1) x t1⟩ w':=by
 have T:∀k,C k->D.all (aA i).W k/\k≠D.X:=fun k e=>by
  rcases hC k e with e | e | e
  ·exact ⟨.inr ⟨x,V,.inl e⟩,fun h2=>(h.xm x V).1 (h2▸e)⟩
  ·exact ⟨.inr ⟨p,hp,.inr e⟩,fun h2=>(h.xm p hp).2 (h2▸e)⟩
  ·exact ⟨.inr ⟨x,V,.inr e⟩,fun h2=>(h.xm x V).2 (h2▸e)⟩
 have L:∀k,(D.upd x a1 g1).mu x k->Mut (D.b x) a1 k:=fun k e=>by
  have:(aZ D.a x a1 x)=a1:=bJ _ _ _
  unfold WAd.mu WAd.upd at e
  simp only [this] at e
  exact e
 have J:∀y k,y≠x->(D.upd x a1 g1).mu y k->D.mu y k:=fun y k A e=>by
  have:(aZ D.a x a1 y)=D.a y:=bC _ _ A
  unfold WAd.mu WAd.upd at e
  simp only [this] at e
  exact e
 have R:∀k,(D.upd x a1 g1).li x k->dJ (D.l x) g1 k:=fun k e=>by
  have:(aZ D.g x g1 x)=g1:=bJ _ _ _
  unfold WAd.li WAd.upd at e
  simp only [this] at e
  exact e
 have I:∀y k,y≠x->(D.upd x a1 g1).li y k->D.li y k:=fun y k A e=>by
  have:(aZ D.g x g1 y)=D.g y:=bC _ _ A
  unfold WAd.li WAd.upd at e
  simp only [this] at e
  exact e
 have a3:∀k,(D.upd x a1 g1).all (aA i).W k->D.all (aA i).W k\/w.heap.size<=k:=by
  rintro k (e | ⟨y,A,e⟩)
  ·exact .inl (.inl e)
  ·by_cases o:y=x
   ·subst o
    rcases e with e | e
    ·exact (U k (L k e)).imp (fun e=>(T k e).1) id
    ·exact (Y k (R k e)).imp (fun e=>(T k e).1) id
   ·exact .inl (.inr ⟨y,A,e.imp (J y k o) (I y k o)⟩)
 -- what is changed or new is none of another worker's
 have N:∀y k,y<(aA i).W->y≠x->(C k\/w.heap.size<=k)->¬D.mu y k/\(y≠p->¬D.li y k):=fun y k A o e=>by
  rcases e with e | e
  ·rcases hC k e with e | e | e
   ·exact ⟨fun u=>o (h.mm y x k A V u e),fun _ u=>h.ml x y k V A e u⟩
   ·exact ⟨fun u=>h.ml y p k A hp u e,fun hn u=>hn (h.ll y p k A hp u e)⟩
   ·exact ⟨fun u=>h.ml y x k A V u e,fun _ u=>o (h.ll y x k A V u e)⟩
  ·exact ⟨fun u=>by have:=h.lt k (.inr ⟨y,A,.inl u⟩);omega,fun _ u=>by have:=h.lt k (.inr ⟨y,A,.inr u⟩);omega⟩
 have a0:∀y k,y<(aA i).W->y≠x->dJ (D.l x) g1 k->¬D.mu y k/\¬D.li y k:=fun y k A o e=>by
  refine ⟨(N y k A o (Y k e)).1,?_⟩
  by_cases Q:y=p
  ·subst Q;exact ab o k e
  ·exact (N y k A o (Y k e)).2 Q
 have a6:∀(j:Nat) (c:Array Value),w.heap[j]?=some (.cells c 2 (0,0))->B<=j->¬C j:=fun j c hj hb e=>by
  have ad:=h.lo x V
  rcases hC j e with e | e | e
  ·rcases (h.mach x V).i64 hj e with e | e | e<;>omega
  ·exact (h.lnk p hp).noI64 hj e
  ·exact (h.lnk x V).noI64 hj e
 refine ⟨a1,g1,⟨fun y A=>?_,fun y A=>?_,fun y z k A Z O u=>?_,fun y z k A Z O u=>?_,fun y z k A Z O u=>?_,fun y A=>?_,fun y A=>?_,Mn h.hB hk.size,Mo h.xl hk.size,fun k e u=>?_,fun k e=>Mo (h.ex k e) hk.size⟩,hk.mono fun k _ e=>T k e,a3⟩
 ·by_cases o:y=x
  ·subst o
   show aU _ w' (D.b y) i y (aZ D.a y a1 y) (aZ M.m y m1 y)
   rw [bJ,bJ]
   exact hm.step (Keep.refl _ _) (fun k _ e=>hH k e) (fun k O u=>u.2 (by unfold WAd.mu WAd.upd;simp only [bJ];exact O))
  ·show aU _ w' (D.b y) i y (aZ D.a x a1 y) (aZ M.m x m1 y)
   rw [bC _ _ o,bC _ _ o]
   refine (h.mach y A).step (hk.mono fun k _ e=>⟨.inl (T k e).1,(N y k A o (.inl e)).1⟩) (fun k hl e=>⟨e.1.imp (fun e=>(a3 k e).elim id fun e=>absurd hl ap) id,fun u=>e.2 ?_⟩) (fun k O u=>u.2 ?_)
   ·unfold WAd.mu WAd.upd;simp only [bC _ _ o];exact u
   ·unfold WAd.mu WAd.upd;simp only [bC _ _ o];exact O
 ·by_cases o:y=x
  ·subst o
   show aV w' B (D.l y) (aZ D.g y g1 y) (aZ (aZ M.s p s1) y t1 y)
   rw [bJ,bJ]
   exact a8
  ·show aV w' B (D.l y) (aZ D.g x g1 y) (aZ (aZ M.s p s1) x t1 y)
   rw [bC _ _ o,bC _ _ o]
   by_cases Q:y=p
   ·subst Q
    rw [bJ]
    exact a5 o
   ·rw [bC _ _ Q]
    exact (h.lnk y A).keep hk (fun e=>(N y _ A o (.inl e)).2 Q (.inl rfl)) (fun j hj e=>(N y _ A o (.inl e)).2 Q (.inr hj)) a6
 ·by_cases o:y=x
  ·by_cases v:z=x
   ·rw [o,v]
   ·subst o
    exact absurd (J z k v u) (N z k Z v (U k (L k O))).1
  ·by_cases v:z=x
   ·subst v
    exact absurd (J y k o O) (N y k A o (U k (L k u))).1
   ·exact h.mm y z k A Z (J y k o O) (J z k v u)
 ·by_cases o:y=x
  ·subst o
   by_cases v:z=y
   ·subst v
    exact (a2 k (L k O)).1 (R k u)
   ·by_cases a4:z=p
    ·subst a4
     exact (a2 k (L k O)).2.1 (I z k v u)
    ·exact (N z k Z v (U k (L k O))).2 a4 (I z k v u)
  ·by_cases v:z=x
   ·subst v
    exact (a0 y k A o (R k u)).1 (J y k o O)
   ·exact h.ml y z k A Z (J y k o O) (I z k v u)
 ·by_cases o:y=x
  ·by_cases v:z=x
   ·rw [o,v]
   ·subst o
    exact absurd (I z k v u) (a0 z k Z v (R k O)).2
  ·by_cases v:z=x
   ·subst v
    exact absurd (I y k o O) (a0 y k A o (R k u)).2
   ·exact h.ll y z k A Z (I y k o O) (I z k v u)
 ·by_cases o:y=x
  ·subst o
   refine ⟨fun e=>?_,fun e=>?_⟩
   ·rcases U _ (L _ e) with e | e
    ·exact (T _ e).2 rfl
    ·have:=h.xl;exact absurd this (Nat.not_lt.2 e)
   ·rcases Y _ (R _ e) with e | e
    ·exact (T _ e).2 rfl
    ·have:=h.xl;exact absurd this (Nat.not_lt.2 e)
  ·exact ⟨fun e=>(h.xm y A).1 (J y _ o e),fun e=>(h.xm y A).2 (I y _ o e)⟩
 ·by_cases o:y=x
  ·subst o
   show D.b y<B/\(aZ D.a y a1 y).bp<B/\(aZ D.a y a1 y).bm<B/\(aZ D.a y a1 y).bg<B
   rw [bJ]
   exact ⟨(h.lo y A).1,a9⟩
  ·show D.b y<B/\(aZ D.a x a1 y).bp<B/\(aZ D.a x a1 y).bm<B/\(aZ D.a x a1 y).bg<B
   rw [bC _ _ o]
   exact h.lo y A
 ·rcases u with u | ⟨y,A,u⟩
  ·exact h.ne k e (.inl u)
  ·by_cases o:y=x
   ·subst o
    rcases u with u | u
    ·exact (a2 k (L k u)).2.2 e
    ·exact a7 k (R k u) e
   ·exact h.ne k e (.inr ⟨y,A,u.imp (J y k o) (I y k o)⟩)
end
structure gY (i:Inp) (w:World) (lo:Nat) (b l:Nat->Nat) (a:Nat->MAd) (s t:Nat->Nat) (k:Nat):Prop where
 mach:∀y,y<k->aU (fun j=>j<s y\/t y<=j) w (b y) i y (a y) (fC i)
 win:∀y,y<k->∀j,Mut (b y) (a y) j->s y<=j/\j<t y
 chain:∀y,y<k->lo<=s y/\s y<=t y/\t y<=l y/\l y<w.heap.size
 next:∀y z,y<z->z<k->l y<s z
 lnk:∀y,y<k->∀B,aV w B (l y) none (LSt.new i.cfg.cap.toNat)
section
variable {i:Inp} {w w':World} {lo k:Nat} {b l:Nat->Nat} {a:Nat->MAd} {s t:Nat->Nat}
theorem gY.zero:gY i w lo b l a s t 0:=⟨fun _ h=>absurd h (Nat.not_lt_zero _),fun _ h=>absurd h (Nat.not_lt_zero _),fun _ h=>absurd h (Nat.not_lt_zero _),fun _ _ _ h=>absurd h (Nat.not_lt_zero _),fun _ h=>absurd h (Nat.not_lt_zero _)⟩
theorem jZ {l j:Nat} (e:dJ l none j):j=l:=e.elim id fun e=>by cases e
theorem gY.keep (h:gY i w lo b l a s t k) {Q:Nat->Prop} (hk:Keep Q w w') (u:∀j,j<w.heap.size->Q j->(∀y,y<k->(j<s y\/t y<=j)/\j≠l y)/\∀c,w.heap[j]?≠some (.cells c 2 (0,0))):gY i w' lo b l a s t k:=by
 refine ⟨fun y o=>(h.mach y o).step (hk.mono fun j p e=>((u j p e).1 y o).1) (fun j _ e=>e) (fun j hm e=>?_),h.win,fun y o=>?_,h.next,fun y o B=>(h.lnk y o B).keep (hk.mono fun j p e=>((⟨p,e⟩:j<w.heap.size/\Q j))) (fun e=>((u _ e.1 e.2).1 y o).2 rfl) (fun j e=>by cases e) fun j c p _ e=>(u j e.1 e.2).2 c p⟩
 ·have:=h.win y o j hm
  omega
 ·have:=h.chain y o
  have:=hk.size
  omega
theorem gY.below (h:gY i w lo b l a s t k) (hb:aq w w'):gY i w' lo b l a s t k:=h.keep (Q:=fun _=>False) (Keep.below hb) fun _ _ e=>e.elim
theorem gY.more (h:gY i w lo b l a s t k) {A:Nat} {a1:MAd} {l1:Nat} {u:World} (L:lo<=w.heap.size) (x:∀j,Mut A a1 j->w.heap.size<=j)
  (hm:∀(H:Nat->Prop) w'',Keep (fun k=>k<w.heap.size) u w''->(∀k,H k->k<w.heap.size)->aU H w'' A i k a1 (fC i)) (h1:gY i u lo b l a s t k) (C:gY i w' lo b l a s t k) (hs:w.heap.size<=u.heap.size) (hk:Keep (fun j=>j<w.heap.size\/u.heap.size<=j) u w') (hl:u.heap.size<=l1) (J:l1<w'.heap.size) (R:∀B,aV w' B l1 none (LSt.new i.cfg.cap.toNat)):
  gY i w' lo (aZ b k A) (aZ l k l1) (aZ a k a1) (aZ s k w.heap.size) (aZ t k u.heap.size) (k+1):=by
 have D:=hm (fun j=>j<w.heap.size) u (Keep.refl _ _) (fun _ e=>e)
 have v:=fun j (e:Mut A a1 j)=>D.mlt j e
 have Q:aU (fun j=>j<w.heap.size\/u.heap.size<=j) w' A i k a1 (fC i):=
  (D.step (H':=fun j=>j<w.heap.size\/u.heap.size<=j) (Keep.refl _ _) (fun j Y e=>e.elim id fun e=>absurd Y ap) (fun j e T=>by have:=x j e;have:=v j e;omega)).step hk (fun _ _ e=>e) (fun j e T=>by have:=x j e;have:=v j e;omega)
 have o:∀y,y<k+1->y=k\/(y≠k/\y<k):=fun y I=>ap
 refine ⟨fun y I=>?_,fun y I=>?_,fun y I=>?_,fun y z N U=>?_,fun y I=>?_⟩<;>rcases o y ap with rfl | ⟨e,p⟩
 ·simp only [bJ];exact Q
 ·simp only [bC _ _ e];exact C.mach y p
 ·simp only [bJ];exact fun j e=>⟨x j e,v j e⟩
 ·simp only [bC _ _ e];exact C.win y p
 ·simp only [bJ];exact ⟨L,hs,hl,J⟩
 ·simp only [bC _ _ e];exact C.chain y p
 ·omega
 ·rcases o z U with rfl | ⟨V,O⟩
  ·simp only [bJ,bC _ _ e]
   exact (h.chain y p).2.2.2
  ·simp only [bC _ _ e,bC _ _ V]
   exact C.next y z N O
 ·simp only [bJ];exact R
 ·simp only [bC _ _ e];exact C.lnk y p
theorem gY.mem (h:gY i w lo b l a s t (aA i).W) {X:Nat} (hX:X<lo) (Q:X<w.heap.size) {E:Nat->Prop} (L:∀j,E j->j<lo/\j≠X) (Y:lo<=w.heap.size):
  gn E i w ⟨X,b,l,a,fun _=>none⟩ w.heap.size ⟨fun _=>fC i,fun _=>LSt.new i.cfg.cap.toNat⟩:=by
 have p:∀y z,y<z->z<(aA i).W->t y<=s z/\l y<s z:=fun y z O o=>by
  have h1:=h.next y z O o
  have h2:=h.chain y ap
  omega
 have J:∀y z j,y<(aA i).W->z<(aA i).W->Mut (b y) (a y) j->Mut (b z) (a z) j->y=z:=fun y z j A o D u=>by
  have I:=h.win y A j D
  have w2:=h.win z o j u
  rcases Nat.lt_trichotomy y z with e | e | e
  ·have:=p y z e o;omega
  ·exact e
  ·have:=p z y e A;omega
 have B:∀y z,y<(aA i).W->z<(aA i).W->l z<s y\/t y<=l z:=fun y z A o=>by
  rcases Nat.lt_trichotomy y z with e | e | e
  ·have:=p y z e o;have:=h.chain z o;omega
  ·subst e;have:=h.chain y A;omega
  ·have:=p z y e A;omega
 refine ⟨fun x v=>(h.mach x v).step (Keep.refl _ _) ?_ (fun j e u=>u.2 e),fun x v=>h.lnk x v _,J,fun y z j A o D u=>?_,fun y z j A o D u=>?_,fun x v=>⟨fun e=>?_,fun e=>?_⟩,fun x v=>?_,Mg _,Q,fun j e u=>?_,fun j e=>by have:=L j e;omega⟩
 ·rintro j R ⟨(e | ⟨z,o,e | e⟩) | e,u⟩
  ·have U:j=X:=e
   have:=h.chain x v
   omega
  ·have N:z≠x:=fun H=>by subst H;exact u e
   have I:=h.win z o j e
   rcases Nat.lt_or_gt_of_ne N with H | H
   ·have:=p z x H v;omega
   ·have:=p x z H o;omega
  ·have C:j=l z:=jZ e
   rw [C]
   exact B x z v o
  ·have:=h.chain x v
   have:=L j e
   omega
 ·have C:j=l z:=jZ u
  have I:=h.win y A j D
  have:=B y z A o
  omega
 ·have Z:j=l y:=jZ D
  have T:j=l z:=jZ u
  rcases Nat.lt_trichotomy y z with e | e | e
  ·have:=p y z e o;have:=h.chain z o;omega
  ·exact e
  ·have:=p z y e A;have:=h.chain y A;omega
 ·have I:s x<=X/\X<t x:=h.win x v _ e
  have:=h.chain x v
  omega
 ·have V:X=l x:=jZ e
  have:=h.chain x v
  omega
 ·have hl:=fun j (e:Mut (b x) (a x) j)=>(h.mach x v).mlt j e
  exact ⟨hl _ (.inl rfl),hl _ (.inr (.inl rfl)),hl _ (.inr (.inr (.inl rfl))),hl _ (.inr (.inr (.inr (.inl rfl))))⟩
 ·have R:=L j e
  rcases u with u | ⟨z,o,u | u⟩
  ·exact R.2 u
  ·have:=h.win z o j u
   have:=h.chain z o
   omega
  ·have V:j=l z:=jZ u
   have:=h.chain z o
   omega
end
section
variable {E:Nat->Prop} {i:Inp} {w w':World} {D:WAd} {B:Nat} {M M1:WSt} {x C:Nat}
theorem gn.oth_lt (h:gn E i w D B M):∀k,w.heap.size<=k->¬D.oth (aA i).W E x k:=by
 rintro k hk ⟨e | e,_⟩
 ·have:=h.lt k e;omega
 ·have:=h.ex k e;omega
theorem gn.restE (h:gn E i w D B M) {k:Nat} (p:x<(aA i).W) (u:pvW (aA i).W x<(aA i).W) (e:E k):D.rest (aA i).W E x k:=
 ⟨.inr e,fun o=>h.ne k e (.inr ⟨x,p,.inl o⟩),fun o=>h.ne k e (.inr ⟨_,u,.inr o⟩),fun o=>h.ne k e (.inr ⟨x,p,.inr o⟩)⟩
theorem gn.try (h:gn E i w D B M) (o:x<(aA i).W) (N:2<=(aA i).W) {m1:Mst} {s1 t1:LSt} (Q:jE (D.rest (aA i).W E x) B w (D.b x) (D.l (pvW (aA i).W x)) (D.l x) i x (D.a x) (D.g (pvW (aA i).W x)) (D.g x) m1 s1 t1 w'):
  AR E i w D B x ⟨aZ M.m x m1,aZ (aZ M.s (pvW (aA i).W x) s1) x t1⟩ w':=by
 have J:pvW (aA i).W x<(aA i).W:=mb ap
 have L:=FH o N
 obtain ⟨a1,g1,hw,hk,hn⟩:=Q
 have V:=h.wld o N
 refine h.did o J (C:=JS (D.b x) (D.a x) (D.l (pvW (aA i).W x)) (D.g (pvW (aA i).W x)) (D.l x) (D.g x)) (fun k e=>e.imp id id) hw.mach ?_ hk (fun _=>hw.lf) hw.lt (fun e=>absurd e L) (fun k e=>hn k (.inl e)) (fun k e=>hn k (.inr (.inr e))) (fun k e=>⟨fun A=>hw.hn k e (.inl (.inr A)),fun A=>hw.hn k e (.inl (.inl A)),fun A=>hw.hn k e (.inr ?_)⟩)
  (fun _ k e A=>hw.dj k A e) (fun k e A=>?_) hw.lo.2
 ·rintro k ⟨e,T⟩
  by_cases O:dJ (D.l x) g1 k
  ·exact .inl (.inr O)
  by_cases I:D.li (pvW (aA i).W x) k
  ·exact .inl (.inl I)
  refine .inr ?_
  rcases e with (e | ⟨y,H,e⟩) | e
  ·have U:k=D.X:=e
   subst U
   exact ⟨.inl (.inl rfl),(h.xm x o).1,I,(h.xm x o).2⟩
  ·by_cases v:y=x
   ·subst v
    rcases e with e | e
    ·exact absurd e T
    ·refine absurd ?_ O
     have R:aZ D.g y g1 y=g1:=bJ _ _ _
     unfold WAd.li WAd.upd at e
     simp only [R] at e
     exact e
   ·have p:D.mu y k\/D.li y k:=by
     unfold WAd.mu WAd.li WAd.upd at e
     simp only [bC _ _ v] at e
     exact e
    refine ⟨.inl (.inr ⟨y,H,p⟩),fun u=>?_,I,fun u=>?_⟩
    ·rcases p with p | p
     ·exact v (h.mm y x k H o p u)
     ·exact h.ml x y k o H u p
    ·rcases p with p | p
     ·exact h.ml y x k H o p u
     ·exact v (h.ll y x k H o p u)
  ·exact ⟨.inr e,fun u=>h.ne k e (.inr ⟨x,o,.inl u⟩),I,fun u=>h.ne k e (.inr ⟨x,o,.inr u⟩)⟩
 ·exact h.restE o J A
 ·exact absurd (h.restE o J A) (hw.ne k (.inr e))
theorem gn.lone (h:gn E i w D B M) (o:x<(aA i).W) {a1:MAd} {m1:Mst} (hm:aU (D.oth (aA i).W E x) w' (D.b x) i x a1 m1) (hk:Keep (fun k=>D.mu x k) w w') (J:∀k,Mut (D.b x) a1 k->D.mu x k\/w.heap.size<=k) (U:Fxd (D.a x) a1):
  AR E i w D B x ⟨aZ M.m x m1,aZ (aZ M.s x (M.s x)) x (M.s x)⟩ w':=by
 have L:=h.lo x o
 have out:∀k,Mut (D.b x) a1 k->¬D.li x k/\¬E k:=fun k e=>by
  rcases J k e with e | e
  ·exact ⟨h.ml x x k o o e,fun u=>h.ne k u (.inr ⟨x,o,.inl e⟩)⟩
  ·exact ⟨fun u=>by have:=h.lt k (.inr ⟨x,o,.inr u⟩);omega,fun u=>by have:=h.ex k u;omega⟩
 have T:aV w' B (D.l x) (D.g x) (M.s x):=(h.lnk x o).keep hk (fun e=>h.ml x x _ o o e (.inl rfl)) (fun j N e=>h.ml x x _ o o e (.inr N)) fun j c N hb e=>by
  rcases (h.mach x o).i64 N e with e | e | e<;>omega
 refine h.did o o (C:=fun k=>D.mu x k\/D.li x k) (H:=D.oth (aA i).W E x) (a1:=a1) (g1:=D.g x) (m1:=m1) (s1:=M.s x) (t1:=M.s x) (fun k e=>e.imp id .inr) hm ?_ (hk.mono fun k _ e=>.inl e) (fun e=>absurd rfl e) T (fun _=>rfl) (fun k e=>(J k e).imp .inl id) (fun k e=>.inl (.inr e)) (fun k e=>⟨(out k e).1,(out k e).1,(out k e).2⟩) (fun e=>absurd rfl e)
  (fun k e u=>h.ne k u (.inr ⟨x,o,.inr e⟩)) (by obtain ⟨R,V,Z⟩:=U;rw [R,V,Z];exact L.2)
 rintro k ⟨e,Y⟩
 rcases e with (e | ⟨y,I,e⟩) | e
 ·have Q:k=D.X:=e
  subst Q
  exact ⟨.inl (.inl rfl),(h.xm x o).1⟩
 ·by_cases p:y=x
  ·subst p
   rcases e with e | e
   ·exact absurd e Y
   ·have O:aZ D.g y (D.g y) y=D.g y:=bJ _ _ _
    unfold WAd.li WAd.upd at e
    simp only [O] at e
    exact ⟨.inl (.inr ⟨y,I,.inr e⟩),fun v=>h.ml y y k I I v e⟩
  ·have A:D.mu y k\/D.li y k:=by
    unfold WAd.mu WAd.li WAd.upd at e
    simp only [bC _ _ p] at e
    exact e
   refine ⟨.inl (.inr ⟨y,I,A⟩),fun v=>?_⟩
   rcases A with A | A
   ·exact p (h.mm y x k I o A v)
   ·exact h.ml x y k o I v A
 ·exact ⟨.inr e,fun v=>h.ne k e (.inr ⟨x,o,.inl v⟩)⟩
theorem F4 (h:x<(aA i).W) (h1:(aA i).W<2):pvW (aA i).W x=x:=by
 unfold pvW;rw [show (aA i).W=1 by omega,Nat.mod_one];omega
theorem nK (h1:(aA i).W<2) {m:Mst} {y:Itm} {h:Acn} (p:(cQ i x m.st)[m.nx]?=some y) (o:y.a=some h):False:=by
 have:=Cd (te (dC p).2 o)
 omega
theorem gn.pick (h:gn E i w D B M) (hs:cF i) (o:x<(aA i).W) (hw:WOk i M) (p:(M.s x).msgs.length<100000000000) (v: -9223372036854775808<=i.cfg.rate/\i.cfg.rate<=9223372036854775807) (u: -9223372036854775808<=i.cfg.mom/\i.cfg.mom<=9223372036854775807) (I:Pk i M x M1 C):
  Calls prog 216 #[.pointer (some ⟨D.b x,0,none⟩),.pointer (some ⟨D.l (pvW (aA i).W x),0,none⟩),.pointer (some ⟨D.l x,0,none⟩)] w fun e w'=>e=.returned (Nd (C:Nat))/\AR E i w D B x M1 w':=by
 obtain ⟨m1,s1,t1,hr,rfl⟩:=I
 rcases Mv (aA i).W 2 with h1 | A
 ·rw [F4 o h1] at hr ⊢
  cases hr with
  | fin hf=>
   refine (BF (h.mach x o) hf _ _).mono ?_
   rintro e w' ⟨he,k⟩
   exact ⟨he,h.lone o ((h.below k).mach x o) (Keep.below k) (fun k e=>.inl e) ⟨rfl,rfl,rfl⟩⟩
  | own y hy ha=>
   refine (xD (h.mach x o) (fun k e O=>O.2 e) h.oth_lt hs hy ((hw.mok x o).okAt hs hy ha) v u _ _).mono ?_
   rintro e w' ⟨he,R,Q,h1, -, -,L,N,J,rfl⟩
   exact ⟨he,h.lone o h1 (L.mono fun k _ e=>e.elim id False.elim) N J⟩
  | send y ac hy ha=>exact (nK h1 hy ha).elim
  | full y ac hy ha=>exact (nK h1 hy ha).elim
  | recv y ac hy ha=>exact (nK h1 hy ha).elim
  | none y ac hy ha=>exact (nK h1 hy ha).elim
  | other y ac hy ha=>exact (nK h1 hy ha).elim
 ·refine (Jv (h.wld o A) hs (hw.mok x o) (hw.msgI o) p v u hr).mono ?_
  rintro e w' ⟨he,H⟩
  exact ⟨he,h.try o A H⟩
end
theorem Cx {X z b:Nat} {l D v0 v1:Value} {cnt C:Nat} {w:World} {R:World->Prop}
  (u:∀i,aq w i->Calls prog 47 #[(au X),Nd (z:Nat)] i fun e h=>e=.returned (.tuple #[.iface 97 ((au b)),l,D,.bool true])/\aq i h)
  (p:∀i,aq w i->Calls prog 216 #[(au b),l,D] i fun e h=>e=.returned (Nd (C:Nat))/\h.heap[X]?=some (.cells #[v0,v1,Nd (cnt:Nat)] 96 (0,0))/\R h) (hc:cnt<=1000000000) (J:C=0):
  Calls prog 15 #[(au X),Nd (z:Nat)] w fun e i=>e=.returned (.bool true)/\∃v,R v/\i=v.setCell (ar X 2) (Nd ((cnt+1:Nat):Int)):=by
 subst J
 obtain ⟨x,A⟩:=ae u p
 have hm:∀w:World,(method 496 97 ((au b)) "Do").run prog w=.ok (216,(au b)) w:=fun _=>by kernel_rfl
 have H:=br w
 clear u p
 go_enter func15,ntmps15
 go_wp2_with fail
 refine (x.o _ H).mono ?_
 rintro e v ⟨rfl,I⟩
 go_wp2_with fail
 refine (A.o _ I).mono ?_
 rintro e N ⟨rfl,y,B⟩
 have t:=bx3 y
 obtain ⟨L,Q⟩:=ae B y
 have O:IntKind.i64.wrap ((cnt:Int)+1)=(cnt:Int)+1:=Mm _ ap
 clear y B
 go_wp2_with fail
 go_ret
 exact ⟨rfl,_,L.o,by push_cast;rfl⟩
theorem EH {X z b:Nat} {l A:Value} {C:Nat} {w:World} {R:World->Prop}
  (u:∀h,aq w h->Calls prog 47 #[(au X),Nd (z:Nat)] h fun e i=>e=.returned (.tuple #[.iface 97 ((au b)),l,A,.bool true])/\aq h i)
  (p:∀h,aq w h->Calls prog 216 #[(au b),l,A] h fun e i=>e=.returned (Nd (C:Nat))/\R i) (L:C≠0):
  Calls prog 15 #[(au X),Nd (z:Nat)] w fun e h=>e=.returned (.bool false)/\R h:=by
 obtain ⟨v,x⟩:=ae u p
 have hm:∀w:World,(method 496 97 ((au b)) "Do").run prog w=.ok (216,(au b)) w:=fun _=>by kernel_rfl
 have B:=br w
 clear u p
 go_enter func15,ntmps15
 go_wp2_with fail
 refine (v.o _ B).mono ?_
 rintro e I ⟨rfl,D⟩
 go_wp2_with fail
 refine (x.o _ D).mono ?_
 rintro e N ⟨rfl,y⟩
 have H:=aa y;clear y
 have J:¬(C:Int)=0:=ap
 go_wp2_with fail
 go_ret
 exact ⟨rfl,H.o⟩
theorem Cy {X:Value} {z:Int} {w:World} (i:∀h,aq w h->Calls prog 47 #[X,Nd z] h fun e u=>e=.returned (.tuple #[.nilIface,.pointer none,.pointer none,.bool false])/\aq h u):
  Calls prog 15 #[X,Nd z] w fun e h=>e=.returned (.bool false)/\aq w h:=by
 have p:=aa i
 have x:=br w
 clear i
 go_enter func15,ntmps15
 go_wp2_with fail
 refine (p.o _ x).mono ?_
 rintro e A ⟨rfl,y⟩
 have v:=aa y
 go_wp2_with fail
 go_ret
 exact ⟨rfl,v.o⟩
def kU {σ:Type} (st:σ->Int->σ×Bool) (s:σ) (l:List Int):σ×Nat:=l.foldl (fun p z=>((st p.1 z).1,p.2+if (st p.1 z).2 then 1 else 0)) (s,0)
theorem pP {σ:Type} (st:σ->Int->σ×Bool) (s:σ) (l:List Int) (z:Int):kU st s (l++[z])=((st (kU st s l).1 z).1,(kU st s l).2+if (st (kU st s l).1 z).2 then 1 else 0):=by
 unfold kU
 rw [List.foldl_append]
 rfl
theorem vn {σ:Type} (st:σ->Int->σ×Bool) (s:σ) (l:List Int):∀k,(kU st s (l.take k)).2<=k
 | 0=>by simp [kU]
 | k+1=>by
  have i:=vn st s l k
  rw [List.take_add_one]
  cases h:l[k]? with
  | none=>simp;omega
  | some z=>
   rw [Option.toList_some,pP]
   dsimp only
   split<;>omega
theorem EG {σ:Type} {st:σ->Int->σ×Bool} {I:World->σ->Prop} {X:Value} {A:Option Addr} {c:Nat} {l:List Int} {s:σ} {w:World} (hl:l.length<=1000000) (hA:∀w s,I w s->Rd w A (aB .i64 l))
  (R:∀w s z,I w s->z∈l->Calls prog 15 #[X,Nd z] w fun e J=>e=.returned (.bool (st s z).2)/\I J (st s z).1) (Q:I w s):
  Calls prog 19 #[X,.slice A l.length c] w fun e J=>e=.returned (Nd ((kU st s l).2:Nat))/\I J (kU st s l).1:=by
 obtain ⟨n,hn⟩:∃n,l.length=n:=⟨_,rfl⟩
 rw [hn] at hl ⊢
 obtain ⟨HA,HP,V,T⟩:=ag hA R Q hn;clear hA R Q hn
 go_enter func19,ntmps19
 go_wp2_with fail
 go_loopw [5,10] (fun v i wr=>∃k:Nat,k<=n/\i=Nd k/\v=Nd ((kU st s (l.take k)).2:Nat)/\I wr (kU st s (l.take k)).1) (fun _ i _=>n-(intOf i).toNat)
 case atStart=>exact ⟨0,Mk _,rfl,rfl,V.o⟩
 case round=>
  obtain ⟨k,hk,rfl,rfl,u⟩:=hrel
  by_cases H:k<n
  ·have h:k<l.length:=by rw [T.o];exact H
   obtain ⟨b,o,rfl,p⟩:=(HA.o _ _ u).num h
   have Z:(k:Int)<n:=ap
   have N:=vn st s l k
   obtain ⟨M,B⟩:∃M,kU st s (l.take k)=M:=⟨_,rfl⟩
   have y:kU st s (l.take (k+1))=((st M.1 (nth l k)).1,M.2+if (st M.1 (nth l k)).2 then 1 else 0):=by
    rw [List.take_add_one,ML h,Option.toList_some,pP,B,du _ _ h]
   rw [B] at u N ⊢
   have hc:=HP.o _ _ (nth l k) u (by rw [du _ _ h];exact List.getElem_mem h)
   obtain ⟨Y,C,HM⟩:=af hc y B;clear u hc y B h
   have w1:IntKind.i64.wrap ((M.2:Int)+1)=(M.2:Int)+1:=Mm _ ap
   go_wp2_with fail
   refine Y.o.mono ?_
   rintro e w5 ⟨rfl,x⟩
   have D:=aa x;clear x p
   cases hb:(st M.1 (nth l k)).2 with
   | true=>
    have L:=aa hb;clear hb
    go_wp2_with fail
    go_roundw
    case rel=>exact ⟨k+1,by omega,by go_num,by rw [C.o,L.o];simp,by rw [C.o];exact D.o⟩
    case measure=>simp [intOf];omega
   | false=>
    have L:=aa hb;clear hb
    go_wp2_with fail
    go_roundw
    case rel=>exact ⟨k+1,by omega,by go_num,by rw [C.o,L.o];simp,by rw [C.o];exact D.o⟩
    case measure=>simp [intOf];omega
  ·obtain rfl:k=n:=ap
   have D:=aa u;clear u
   have O:l.take k=l:=by rw [<-T.o,MU]
   have U:=aa O;clear O
   go_wp2_with fail
   go_ret
   exact ⟨by rw [U.o];rfl,by rw [<-U.o];exact D.o⟩
structure gP (i:Inp) (M:WSt):Prop where
 ok:WOk i M
 wG:∀x,x<(aA i).W->W64 (M.m x).G
theorem An (i:Inp) (P:List Int):∀(l:List Ex) (G:List Int),W64 G->W64 (ey i P G l):=by
 intro l
 induction l with
 | nil=>intro G h;exact h
 | cons x l ih=>intro G h;exact ih _ (fx fun _ _=>fW _)
theorem tC (n:Nat):W64 (List.replicate n 0):=fun k hk=>by
 rw [MQ] at hk
 simp [nth,hk]
theorem Gz {i:Inp} {x:Nat} {m:Mst} {y:Itm} (h:W64 m.G):W64 (jJ i x m y).G:=by
 unfold jJ
 split
 ·exact An i _ _ _ h
 ·split
  ·exact h
  ·split
   ·exact h
   ·exact tC _
theorem IH {i:Inp} {x:Nat} {m:Mst}:(adv i x m).G=m.G:=by unfold adv;split<;>rfl
theorem jF.w64 {i:Inp} {x:Nat} {m m1:Mst} {s t s1 t1:LSt} {C:Nat} (h:jF i x m s t m1 s1 t1 C) (hw:W64 m.G) (o:∀j,j<s.msgs.length->W64 (aS s.msgs j).vals):W64 m1.G:=by
 cases h with
 | fin=>exact hw
 | full=>exact hw
 | none=>exact hw
 | other=>exact hw
 | own=>rw [IH];exact Gz hw
 | send=>rw [IH];exact hw
 | recv y a _ _ _ hlt=>rw [IH];exact sW hw (o _ hlt)
theorem gP.zero {i:Inp} (hs:cF i):gP i (fL i):=⟨WOk.zero i,fun x _=>tC _⟩
theorem gP.pick {i:Inp} {M v:WSt} {x C:Nat} (h:gP i M) (hs:cF i) (u:x<(aA i).W) (p:Pk i M x v C):gP i v:=by
 have o:pvW (aA i).W x<(aA i).W:=mb ap
 refine ⟨(p.ok h.ok hs u (h.wG x u)).1,fun z y=>?_⟩
 obtain ⟨m1,s1,t1,B,rfl⟩:=p
 show W64 (aZ M.m x m1 z).G
 by_cases e:z=x
 ·subst e
  rw [bJ]
  exact B.w64 (h.wG z y) fun j A=>(h.ok.tg _ o j A).choose_spec.2.2.2
 ·rw [bC _ _ e];exact h.wG z y
noncomputable def pkF (i:Inp) (M:WSt) (x:Nat):WSt×Bool:=open Classical in
 if h:∃p:WSt×Nat,Pk i M x p.1 p.2 then ((Classical.choose h).1,decide ((Classical.choose h).2=0)) else (M,false)
theorem zE {i:Inp} {M:WSt} {x:Nat} (h:gP i M) (hs:cF i) (v:x<(aA i).W):∃C,Pk i M x (pkF i M x).1 C/\(pkF i M x).2=decide (C=0):=by
 obtain ⟨y,C,u⟩:=h.ok.pick hs v
 have o:∃p:WSt×Nat,Pk i M x p.1 p.2:=⟨(y,C),u⟩
 unfold pkF
 rw [dif_pos o]
 exact ⟨_,Classical.choose_spec o,rfl⟩
noncomputable def pkZ (i:Inp) (M:WSt) (z:Int):WSt×Bool:=if 0<=z/\z<((aA i).W:Int) then pkF i M z.toNat else (M,false)
noncomputable def fv (i:Inp) (M:WSt) (l:List Int):WSt×Nat:=l.foldl (fun p z=>((pkZ i p.1 z).1,p.2+if (pkZ i p.1 z).2 then 1 else 0)) (M,0)
def WSt.sum (i:Inp) (M:WSt):Nat:=((List.range (aA i).W).map fun x=>M.pos i x).sum
def pN (i:Inp):Nat:=((List.range (aA i).W).map fun x=>(dM i x).length).sum
def WSt.fin (i:Inp) (M:WSt):Prop:=∀x,x<(aA i).W->M.pos i x=(dM i x).length
theorem IZ {f g:Nat->Nat} {W x:Nat} (p:x<W) (h1:g x=f x+1) (h:∀z,z≠x->g z=f z):((List.range W).map g).sum=((List.range W).map f).sum+1:=by
 induction W with
 | zero=>omega
 | succ W ih=>
  rw [MY,List.map_append,List.map_append,List.sum_append,List.sum_append]
  simp only [List.map_cons,List.map_nil,List.sum_cons,List.sum_nil,Nat.add_zero]
  by_cases e:x=W
  ·subst e
   rw [h1,List.map_congr_left (g:=f) (fun z o=>h z (by have:=List.mem_range.1 o;omega))]
   omega
  ·rw [ih ap,h W (fun i=>e i.symm)]
   omega
theorem EA {f g:Nat->Nat}:∀{W:Nat},(∀x,x<W->f x<=g x)->((List.range W).map f).sum<=((List.range W).map g).sum
 | 0,_=>Mg _
 | W+1,h=>by
  rw [MY,List.map_append,List.map_append,List.sum_append,List.sum_append]
  simp only [List.map_cons,List.map_nil,List.sum_cons,List.sum_nil,Nat.add_zero]
  have:=EA (W:=W) fun x i=>h x ap
  have:=h W ap
  omega
theorem EB {f g:Nat->Nat}:∀{W:Nat},(∀x,x<W->f x<=g x)->((List.range W).map f).sum=((List.range W).map g).sum->∀x,x<W->f x=g x
 | 0,_,_,x,o=>ap
 | W+1,h,e,x,o=>by
  rw [MY,List.map_append,List.map_append,List.sum_append,List.sum_append] at e
  simp only [List.map_cons,List.map_nil,List.sum_cons,List.sum_nil,Nat.add_zero] at e
  have h1:=EA (W:=W) fun x o=>h x ap
  have p:=h W ap
  rcases Mv x W with hl | hl
  ·exact EB (W:=W) (fun x o=>h x ap) ap x hl
  ·obtain rfl:x=W:=ap
   omega
section
variable {i:Inp} {M:WSt}
theorem gP.pos_le (h:gP i M) (hs:cF i) {x:Nat} (o:x<(aA i).W):M.pos i x<=(dM i x).length:=(h.ok.mok x o).done hs
theorem gP.sum_le (h:gP i M) (hs:cF i):M.sum i<=pN i:=EA fun _ o=>h.pos_le hs o
theorem gP.fin_iff (h:gP i M) (hs:cF i):M.fin i↔M.sum i=pN i:=by
 constructor
 ·intro p
  unfold WSt.sum pN
  congr 1
  exact List.map_congr_left fun x o=>p x (List.mem_range.1 o)
 ·intro he
  exact EB (fun _ o=>h.pos_le hs o) he
theorem zF (h:gP i M) (hs:cF i) {x:Nat} (o:x<(aA i).W):gP i (pkF i M x).1/\((pkF i M x).2=true↔can i i.cfg.cap.toNat (M.pos i) x)/\((pkF i M x).2=true->(pkF i M x).1.pos i x=M.pos i x+1/\(∀z,z≠x->(pkF i M x).1.pos i z=M.pos i z)/\(pkF i M x).1.sum i=M.sum i+1)/\((pkF i M x).2=false->(pkF i M x).1=M):=by
 obtain ⟨C,p,hb⟩:=zE h hs o
 obtain ⟨_,B,H,D⟩:=p.ok h.ok hs o (h.wG x o)
 refine ⟨h.pick hs o p,by rw [hb,<-D];simp,fun A=>?_,fun u=>H (by rw [hb] at u;simpa using u)⟩
 obtain ⟨v,I,_⟩:=B (by rw [hb] at A;simpa using A)
 have y:∀z,z≠x->(pkF i M x).1.pos i z=M.pos i z:=fun z J=>by unfold WSt.pos;rw [I z J]
 exact ⟨v,y,IZ o v y⟩
theorem Kt (h:gP i M) (hs:cF i) (z:Int):gP i (pkZ i M z).1/\(pkZ i M z).1.sum i=M.sum i+(if (pkZ i M z).2 then 1 else 0)/\((pkZ i M z).2=false->(pkZ i M z).1=M):=by
 unfold pkZ
 split
 ·next hz=>
  obtain ⟨h1,_,p,o⟩:=zF h hs (x:=z.toNat) ap
  refine ⟨h1,?_,o⟩
  cases hb:(pkF i M z.toNat).2 with
  | true=>rw [if_pos rfl];exact (p hb).2.2
  | false=>rw [o hb];simp
 ·exact ⟨h,by simp,fun _=>rfl⟩
theorem CH (l:List Int) (z:Int):fv i M (l++[z])=((pkZ i (fv i M l).1 z).1,(fv i M l).2+if (pkZ i (fv i M l).1 z).2 then 1 else 0):=by
 unfold fv
 rw [List.foldl_append]
 rfl
theorem I6 (h:gP i M) (hs:cF i):∀l:List Int,gP i (fv i M l).1/\(fv i M l).1.sum i=M.sum i+(fv i M l).2:=by
 have o:∀l:List Int,gP i (fv i M l.reverse).1/\(fv i M l.reverse).1.sum i=M.sum i+(fv i M l.reverse).2:=by
  intro l
  induction l with
  | nil=>exact ⟨h,rfl⟩
  | cons z l ih=>
   rw [List.reverse_cons,CH]
   obtain ⟨h1,p,_⟩:=Kt ih.1 hs z
   refine ⟨h1,?_⟩
   show (pkZ i (fv i M l.reverse).1 z).1.sum i=_
   rw [p,ih.2]
   omega
 intro l
 have:=o l.reverse
 rwa [List.reverse_reverse] at this
end
section
variable {i:Inp} {M:WSt}
end
theorem qN {p:Pln} (h:cY p):ko p<=810000:=by
 have h1:=vg h (Mg p.buks.length)
 have i:=h.W8;have v:=h.mi;have o:=h.buks
 have u:p.W*(p.mi+2*p.buks.length+1)<=8*141:=Nat.mul_le_mul i ap
 unfold ko
 omega
theorem mD {i:Inp} (o:cY (aA i)):pN i=ko (aA i)*i.cfg.steps.toNat:=by
 have h:pN i=bD (aA i).W fun x=>bD i.cfg.steps.toNat fun st=>(aJ (aA i) x st).length:=by
  unfold pN bD dM
  congr 1
  refine List.map_congr_left fun x _=>?_
  show (iX i x i.cfg.steps.toNat).length=_
  unfold iX
  rw [List.length_flatMap]
 rw [h,ib,dF fun st _=>AU o st,eH,Nat.mul_comm]
def rh (D:WAd) (n:Nat):List Value:=(List.range n).map fun y=>.iface 97 (.pointer (some ⟨D.b y,0,none⟩))
def vE (D:WAd) (n:Nat):List Value:=(List.range n).map fun y=>.pointer (some ⟨D.l y,0,none⟩)
theorem Ll (D:WAd) {n y:Nat} (h:y<n):(rh D n)[y]?=some (.iface 97 (.pointer (some ⟨D.b y,0,none⟩))):=by simp [rh,h]
theorem J4 (D:WAd) {n y:Nat} (h:y<n):(vE D n)[y]?=some (.pointer (some ⟨D.l y,0,none⟩)):=by simp [vE,h]
def WAd.hid (D:WAd) (n:Nat) (E:Nat->Prop) (k:Nat):Prop:=D.all n k\/E k
structure WAt (E:Nat->Prop) (i:Inp) (w:World) (D:WAd) (B:Nat) (M:WSt):Prop where
 mem:gn E i w D B M
 al:gP i M
 rows:∃AW cw AL cl,w.heap[D.X]?=some (.cells #[.slice AW (aA i).W cw,.slice AL (aA i).W cl,Nd (M.sum i:Nat)] 96 (0,0))/\Rd (aF (D.hid (aA i).W E) w) AW (rh D (aA i).W)/\Rd (aF (D.hid (aA i).W E) w) AL (vE D (aA i).W)
section
variable {E:Nat->Prop} {i:Inp} {w w':World} {D:WAd} {B x:Nat} {M:WSt}
theorem WAt.more {o:Nat->Prop} (h:WAt E i w D B M) (hb:aq w w') (he:∀k,o k->k<w'.heap.size/\(E k\/w.heap.size<=k)):WAt o i w' D B M:=by
 obtain ⟨x,A,u,v,h1,y,C⟩:=h.rows
 have p:Ext (aF (D.hid (aA i).W E) w) (aF (D.hid (aA i).W o) w'):=bQ (Keep.below hb) fun k hk e=>e.imp id fun e=>(he k e).2.elim id fun e=>absurd hk ap
 exact ⟨h.mem.more hb he,h.al,x,A,u,v,(hb.block _ h.mem.xl).trans h1,aW y p,aW C p⟩
theorem WAt.below (h:WAt E i w D B M) (hb:aq w w'):WAt E i w' D B M:=h.more hb fun k e=>⟨Mo (h.mem.ex k e) hb.size,.inl e⟩
theorem WAt.at (h:WAt E i w D B M) (hs:cF i) (o:x<(aA i).W):Calls prog 47 #[(au D.X),Nd (x:Nat)] w fun e w'=>e=.returned (.tuple #[.iface 97 (.pointer (some ⟨D.b x,0,none⟩)),.pointer (some ⟨D.l (pvW (aA i).W x),0,none⟩),.pointer (some ⟨D.l x,0,none⟩),.bool true])/\aq w w':=by
 obtain ⟨C,H,y,A,h1,u,v⟩:=h.rows
 have p:=hs.ok.W8
 exact Kg h1 (aW u (fg _ _)) (aW v (fg _ _)) o ap rfl (Ll D o) (J4 D (mb ap)) (J4 D o)
theorem WAt.did (h:WAt E i w D B M) {I:WSt} (L:AR E i w D B x I w'):∃o,o.X=D.X/\gn E i w' o B I/\Keep (fun k=>D.all (aA i).W k/\k≠D.X) w w'/\(∀k,o.all (aA i).W k->D.all (aA i).W k\/w.heap.size<=k)/\
  ∃u A p v,w'.heap[D.X]?=some (.cells #[.slice u (aA i).W A,.slice p (aA i).W v,Nd (M.sum i:Nat)] 96 (0,0))/\Rd (aF (o.hid (aA i).W E) w') u (rh o (aA i).W)/\Rd (aF (o.hid (aA i).W E) w') p (vE o (aA i).W):=by
 obtain ⟨a1,g1,h1,y,C⟩:=L
 obtain ⟨u,A,p,v,J,N,O⟩:=h.rows
 have H:Ext (aF (D.hid (aA i).W E) w) (aF ((D.upd x a1 g1).hid (aA i).W E) w'):=bQ (y.mono fun k _ e=>.inl e.1) fun k hk e=>e.imp (fun e=>(C k e).elim id fun e=>absurd hk ap) id
 exact ⟨D.upd x a1 g1,rfl,h1,y,C,u,A,p,v,(y.block _ h.mem.xl fun e=>e.2 rfl).trans J,aW N H,aW O H⟩
theorem WAt.sum_le (h:WAt E i w D B M) (hs:cF i):M.sum i<=1000000000:=by
 have h1:=h.al.sum_le hs
 have p:=mD hs.ok
 have o:=qN hs.ok
 have u:=hs.s
 have v:ko (aA i)*i.cfg.steps.toNat<=810000*6:=Nat.mul_le_mul o ap
 omega
theorem JY (i:Inp) (x p:Nat):sN i x p<=p:=by
 unfold sN gQ gj
 rw [List.length_map]
 refine Mn (List.length_filter_le _ _) (Mn (List.length_filterMap_le _ _) ?_)
 rw [MO];omega
theorem BH (f:Nat->Nat):∀{n x:Nat},x<n->f x<=((List.range n).map f).sum
 | 0,_,h=>ap
 | n+1,x,h=>by
  rw [MY,List.map_append,List.sum_append]
  simp only [List.map_cons,List.map_nil,List.sum_cons,List.sum_nil,Nat.add_zero]
  by_cases e:x=n
  ·subst e;omega
  ·have:=BH f (n:=n) (x:=x) ap;omega
theorem Bq (h:x<(aA i).W):M.pos i x<=M.sum i:=BH _ h
def LD (E:Nat->Prop) (i:Inp) (w:World) (D:WAd) (B:Nat) (o:WSt) (w':World):Prop:=∃h,h.X=D.X/\WAt E i w' h B o/\Keep (fun k=>D.all (aA i).W k) w w'/\∀k,h.all (aA i).W k->D.all (aA i).W k\/w.heap.size<=k
theorem Cl (h:WAt E i w D B M) (hs:cF i) (Y: -9223372036854775808<=i.cfg.rate/\i.cfg.rate<=9223372036854775807) (a0: -9223372036854775808<=i.cfg.mom/\i.cfg.mom<=9223372036854775807) (z:Int):
  Calls prog 15 #[(au D.X),Nd z] w fun e w'=>e=.returned (.bool (pkZ i M z).2)/\LD E i w D B (pkZ i M z).1 w':=by
 by_cases hz:0<=z/\z<((aA i).W:Int)
 ·obtain ⟨x,rfl⟩:∃x:Nat,z=x:=⟨z.toNat,by omega⟩
  have y:x<(aA i).W:=ap
  have e1:pkZ i M x=pkF i M x:=by unfold pkZ;rw [if_pos hz,Int.toNat_natCast]
  rw [e1]
  obtain ⟨C,hp,hb⟩:=zE h.al hs y
  obtain ⟨hA, -,O,U⟩:=zF h.al hs y
  have v:(M.s x).msgs.length<100000000000:=by
   have h1:=h.al.ok.sn x y
   have h2:=h.al.pos_le hs y
   have h3:sN i x (M.pos i x)<=M.pos i x:=JY i x _
   have h4:M.pos i x<=M.sum i:=Bq y
   have h5:=h.sum_le hs
   omega
  have L:=fun w' (q:aq w w')=>(h.below q).at hs y
  have I:=fun w' (q:aq w w')=>(h.below q).mem.pick hs y h.al.ok v Y a0 hp
  by_cases T:C=0
  ·have ht:(pkF i M x).2=true:=by rw [hb];simp [T]
   rw [ht]
   obtain ⟨-, -,J⟩:=O ht
   have Z:=h.sum_le hs
   obtain ⟨AW,cw,AL,cl,k1,k2,k3⟩:=h.rows
   refine (Cx (X:=D.X) (v0:=.slice AW (aA i).W cw) (v1:=.slice AL (aA i).W cl) L (R:=fun p=>∃o,aq w o/\AR E i o D B x (pkF i M x).1 p) (fun o q=>(I o q).mono fun e p A=>⟨A.1,?_,o,q,A.2⟩) Z T).mono ?_
   ·obtain ⟨a1,g1, -,Q, -⟩:=A.2
    exact (Q.block _ (Mo h.mem.xl q.size) fun e=>e.2 rfl).trans (sb k1 o q)
   ·rintro e w3 ⟨he,p,⟨o,q,V⟩,rfl⟩
    obtain ⟨N,u,Q,f3,f4,BW,dw,BL,dl,g1,g2,g3⟩:=(h.below q).did V
    have hk:Keep (fun k=>k=D.X) p (p.setCell (ar D.X 2) (Nd ((M.sum i+1:Nat):Int))):=Keep.setCell (S:=fun k=>k=D.X) (Keep.refl _ _) _ (.inr rfl) _
    have H:Ext (aF (N.hid (aA i).W E) p) (aF (N.hid (aA i).W E) (p.setCell (ar D.X 2) (Nd ((M.sum i+1:Nat):Int)))):=bQ (hk.mono fun k _ e=>.inl (.inl (e.trans u.symm))) fun k _ e=>e
    refine ⟨he,N,u,⟨Q.keepQ hk (fun k e=>.inl (e.trans u.symm)) (fun j c hj _ e=>nW hj g1 (by decide) e),hA,BW,dw,BL,dl,?_,aW g2 H,aW g3 H⟩,?_,fun k e=>(f4 k e).imp id fun e=>Mn q.size e⟩
    ·rw [u,J]
     exact ss g1
    ·refine (Keep.below q).trans ((f3.mono fun k _ e=>e.1).trans (hk.mono fun k _ e=>.inl e))
  ·have hf:(pkF i M x).2=false:=by rw [hb];simp [T]
   rw [hf]
   refine (EH L (fun w' q=>(I w' q).mono fun e p A=>⟨A.1,(⟨w',q,A.2⟩:∃o,aq w o/\AR E i o D B x (pkF i M x).1 p)⟩) T).mono ?_
   rintro e p ⟨he,o,q,V⟩
   obtain ⟨N,u,Q,f3,f4,f5⟩:=(h.below q).did V
   exact ⟨he,N,u,⟨Q,hA,by rw [U hf,u];exact f5⟩,(Keep.below q).trans (f3.mono fun k _ e=>e.1),fun k e=>(f4 k e).imp id fun e=>Mn q.size e⟩
 ·have e1:pkZ i M z=(M,false):=by unfold pkZ;rw [if_neg hz]
  rw [e1]
  obtain ⟨AW,cw,AL,cl,h1, -, -⟩:=h.rows
  refine (Cy fun w' q=>I5 (sb h1 w' q) ap).mono ?_
  rintro e p ⟨he,q⟩
  exact ⟨he,D,rfl,h.below q,Keep.below q,fun k e=>.inl e⟩
end
theorem zX {w:World} {base l c:Nat} (hc:1<=c) (h:c<=1048576) (hb:aC w l (Nf) c 0 0 0):aV w base l none (LSt.new c):=
 ⟨⟨hc,h,Mg _,by simp [LSt.new],Mk _,by simp [LSt.new],by simp [LSt.new]⟩,Nf,[],hb,by simpa [LSt.new] using Ms _ _ _ _,rfl,by simp [LSt.new],by simp,by simp [LSt.new]⟩
def WMk (i:Inp) (X:Nat) (bs h:List Nat) (rb:Nat->Prop) (w:World):Prop:=∃b l a s t,bs=(List.range bs.length).map b/\h=(List.range bs.length).map l/\gY i w (X+1) b l a s t bs.length/\X<w.heap.size/\
 ∀j,rb j->X<j/\j<w.heap.size/\∀y,y<bs.length->(j<s y\/t y<=j)/\j≠l y
theorem xF (b:Nat->Nat) (k v:Nat):(List.range (k+1)).map (aZ b k v)=(List.range k).map b++[v]:=by
 rw [MY,List.map_append]
 congr 1
 ·exact List.map_congr_left fun x h=>bC _ _ (by have:=List.mem_range.1 h;omega)
 ·simp [bJ]
theorem WMk.next {i:Inp} {X k D l1 cap:Nat} {bs T:List Nat} {rb u:Nat->Prop} {w I O:World} {a1:MAd} (h:WMk i X bs T rb w) (hk:bs.length=k) (v:i.cfg.cap.toNat=cap) (hc:1<=cap/\cap<=1048576) (U:aq w I) (L:∀j,Mut D a1 j->w.heap.size<=j)
  (hm:∀(H:Nat->Prop) w'',Keep (fun k=>k<w.heap.size) I w''->(∀k,H k->k<w.heap.size)->aU H w'' D i k a1 (fC i)) (hs:IN X cap rb u l1 I O):WMk i X (bs++[D]) (T++[l1]) u O:=by
 obtain ⟨b,l,a,s,t,h1,R,A,Z,p⟩:=h
 rw [hk] at h1 R A p
 have V:=U.size
 have x:=A.below U
 have Q:∀j,(j=X\/rb j)->j<w.heap.size:=fun j e=>e.elim (fun e=>ap) fun e=>(p j e).2.1
 have J:gY i O (X+1) b l a s t k:=x.keep hs.hk fun j _ e=>by
  refine ⟨fun y N=>?_,fun c=>hs.hty j c e⟩
  rcases e with rfl | e
  ·have:=A.chain y N
   omega
  ·exact (p j e).2.2 y N
 have Y:=A.more (l1:=l1) ap L hm x J V (hs.hk.mono fun j _ e=>.inl (Q j e)) hs.hl.1 hs.hl.2 (fun B=>by
  rw [v];exact zX hc.1 hc.2 hs.hb)
 have o:(bs++[D]).length=k+1:=by simp [hk]
 refine ⟨_,_,_,_,_,?_,?_,by rw [o];exact Y,by have:=hs.hk.size;omega,fun j e=>?_⟩
 ·rw [o,xF,<-h1]
 ·rw [o,xF,<-R]
 ·rw [o]
  refine ⟨(hs.hrb j e).elim (fun e=>(p j e).1) fun e=>ap,hs.hrl j e,fun y N=>?_⟩
  by_cases C:y=k
  ·subst C
   simp only [bJ]
   rcases hs.hrb j e with e | e
   ·have:=(p j e).2.1
    have:=hs.hl.1
    omega
   ·omega
  ·simp only [bC _ _ C]
   rcases hs.hrb j e with e | e
   ·exact (p j e).2.2 y ap
   ·have:=A.chain y ap
    omega
theorem rp (i:Inp):(fL i).sum i=0:=by
 unfold WSt.sum
 have:∀x,(fL i).pos i x=0:=fun x=>by simp [WSt.pos,fL,bE,fC]
 rw [List.map_congr_left (g:=fun _=>0) fun x _=>this x]
 induction (List.range (aA i).W) with
 | nil=>rfl
 | cons _ l ih=>simpa using ih
def KW (E:Nat->Prop) (i:Inp) (w:World) (e:Ending) (h:World):Prop:=∃D B,e=.returned (.tuple #[(au D.X),Nd 0])/\WAt E i h D B (fL i)/\aq w h/\∀j,D.all (aA i).W j->w.heap.size<=j
theorem Cm {E:Nat->Prop} (A:Option Addr) (c:Nat) (D:Option Addr) (O:Nat) (T:Option Addr) (L:Nat) (R:Option Addr) (N:Nat) (i:Inp) (w:World) (h:gi w A c D T L R i) (hs:cF i) (hE:∀j,E j->j<w.heap.size):
  Calls prog 13 #[.agg (aL A c D O T L R N i)] w (KW E i w):=by
 obtain ⟨W1,u⟩:∃W1,w.alloc (.cells (aL A c D O T L R N i) 29)=W1:=⟨_,rfl⟩
 have V:aq w W1:=by rw [<-u];exact (br w).alloc (Mg _) _
 have ad:W1.heap.size=w.heap.size+1:=by rw [<-u];simp
 have hg:=hs.g.c
 have a9:=hg.w;have a7:=hg.ca
 have ew:((aA i).W:Int)=i.cfg.workers:=by simp only [aA];omega
 have ec:((i.cfg.cap.toNat:Nat):Int)=i.cfg.cap:=ap
 have av:=hs.ok.W8
 have hI:=fun o (q:aq W1 o)=>(h.below V).below q
 have I:=fun o (q:aq W1 o)=>qd A c D O T L R N i o (hI o q)
 have Y:=fun (x:Nat) o (q:aq W1 o) (hx:x<(aA i).W)=>DA A c D O T L R N i x o (hI o q) hs hx
 have hv:aL A c D O T L R N i=#[.slice A i.cfg.sizes.length c,Nd i.cfg.shift,Nd i.cfg.rate,Nd i.cfg.mom,Nd ((aA i).W:Nat),Nd i.cfg.batch,Nd i.cfg.micros,Nd i.cfg.steps,Nd i.cfg.bucket,Nd i.cfg.chunk,Nd i.cfg.window,Nd (i.cfg.cap.toNat:Nat),.slice D i.data.length O,.slice T i.start.length L,.slice R i.draws.length N]:=by rw [ew,ec]
 rw [pA.2 hs.g] at I
 rw [hv] at I Y u ⊢
 refine (EI (J:=fun X bs ls rb o=>WMk i X bs ls rb o) u ap ap I (fun o=>Jy _ o ap) (fun X o _ hX _=>⟨fun _=>0,fun _=>0,fun _=>⟨0,none,0,0,0,none,0,0,0,0,0,0,0,0,0,none,0,Nf⟩,fun _=>0,fun _=>0,rfl,rfl,gY.zero,hX,fun j e=>e.elim⟩) (fun X k bs ls rb o hk a5 hX q a1 a6 hJ=>?_)).mono ?_
 ·refine (Y k o q hk).mono ?_
  rintro e w1 ⟨b,a,rfl,a0,a4,hm⟩
  exact ⟨b,rfl,a0,fun l1 ab w2 a2=>hJ.next a1 rfl ap a0 a4 hm a2⟩
 ·rintro e o ⟨X,bs,ls,AW,AL,cw,cl,rfl,m⟩
  obtain ⟨b,l,a,s,t,h1,h2,Q,h4,h5⟩:=m.j
  rw [m.hb] at h1 h2 Q h5
  have hq:=m.q.size
  have a5:=m.lo
  have Z:gn E i o ⟨X,b,l,a,fun _=>none⟩ o.heap.size (fL i):=Q.mem (Nat.lt_succ_self X) h4 (fun j e=>by have:=hE j e;omega) ap
  have H:∀{e:TypeId} {v:Value} {xs:List Value},o.ownsRow (X+1) e 1 v (aA i).W xs->(∀j,v.ownBlock=some j->lR (.slice AW (aA i).W cw) (.slice AL (aA i).W cl) j)->∀A n c',v=.slice A n c'->n=(aA i).W->Rd (aF ((⟨X,b,l,a,fun _=>none⟩:WAd).hid (aA i).W E) o) A xs:=by
   rintro e v xs ho hv A n c' rfl rfl
   refine lq (Rd.own ho) fun y p C=>?_
   have a8:X+1<=y.block:=by
    rcases ho.2 with ⟨B,_⟩ | ⟨g,_,_,B,_⟩
    ·injection B with e1;rw [e1] at p;cases p
    ·have U:=(ho.lt g (by rw [B];simp [Value.ownBlock])).1
     injection B with e1;rw [e1] at p;cases p;exact U
   have a3:lR (.slice AW (aA i).W cw) (.slice AL (aA i).W cl) y.block:=by
    rcases ho.2 with ⟨B,_⟩ | ⟨g,_,_,B,_⟩
    ·injection B with e1;rw [e1] at p;cases p
    ·have U:=hv g (by rw [B];simp [Value.ownBlock])
     injection B with e1;rw [e1] at p;cases p;exact U
   have U:=h5 _ a3
   rcases C with (C | ⟨z,hz,C | C⟩) | C
   ·have ao:y.block=X:=C
    omega
   ·have:=Q.win z hz _ C
    have:=(U.2.2 z hz).1
    omega
   ·exact (U.2.2 z hz).2 (jZ C)
   ·have:=hE _ C
    omega
  refine ⟨⟨X,b,l,a,fun _=>none⟩,o.heap.size,rfl,⟨Z,gP.zero hs,AW,cw,AL,cl,?_,?_,?_⟩,V.trans (m.q.mono ap),?_⟩
  ·have:=m.box
   rw [rp]
   exact this
  ·have:=H m.oW (fun j e=>.inl e) AW _ cw rfl rfl
   rw [h1,List.map_map] at this
   exact this
  ·have:=H m.oL (fun j e=>.inr e) AL _ cl rfl rfl
   rw [h2,List.map_map] at this
   exact this
  ·rintro j (e | ⟨y,p,e | e⟩)
   ·have hj:j=X:=e
    omega
   ·have:=Q.win y p j e
    have:=Q.chain y p
    omega
   ·have hj:j=l y:=jZ e
    have:=Q.chain y p
    omega
theorem wA:cR prog 152 12:=⟨⟨_,underlying152,rfl⟩,by kernel_rfl⟩
theorem CF {X n cw:Nat} {Z:Option Addr} {bs:List Nat} {v1 v2:Value} {w:World} {ok:Nat->Bool} {B:Bool} (hb:w.heap[X]?=some (.cells #[.slice Z n cw,v1,v2] 96 (0,0))) (U:Rd w Z (bs.map fun b=>.iface 97 ((au b)))) (hn:bs.length=n) (a1:n<=1000)
  (hB:B=true↔∀k,k<n->ok k=false)
  (hx:∀k b u,bs[k]?=some b->aq w u->Calls prog 218 #[(au b)] u fun e Q=>∃H:Array Value,e=.returned (.tuple #[.agg H,.bool (ok k)])/\(H.size=12/\H.toList.all (·.oneCell')=true)/\aq u Q):
  Calls prog 32 #[(au X)] w fun e u=>e=.returned (.bool B)/\aq w u:=by
 have t:=fun u q=>bx3 (sb hb u q)
 have hm:∀(b:Nat) (w:World),(method 496 97 ((au b)) "Next").run prog w=.ok (218,(au b)) w:=fun _ _=>by kernel_rfl
 obtain ⟨HW,HX,V,Hn,HM⟩:=ah U hx hB hn hm
 have q0:=br w
 clear hb U hx hB hn hm
 go_enter func32,ntmps32
 go_wp2_with fail
 go_loopw [14] (fun v wr=>∃k:Nat,k<=n/\v=Nd k/\(∀j,j<k->ok j=false)/\aq w wr) (fun v _=>n-(intOf v).toNat)
 case atStart=>exact ⟨0,Mk _,rfl,fun j hj=>absurd hj (Nat.not_lt_zero j),q0⟩
 case round=>
  obtain ⟨k,hk,rfl,p,q⟩:=hrel
  have HA:=aa p;clear p
  by_cases y:k<n
  ·have a0:(k:Int)<n:=ap
   obtain ⟨b,x⟩:∃b,bs[k]?=some b:=⟨_,ML (by rw [Hn.o];exact y)⟩
   have hr:=HW.o k (.iface 97 ((au b))) (by rw [List.getElem?_map,x];rfl)
   obtain ⟨b1,o1,rfl,c1⟩:=hr
   have c2:=(World.cell?_of_block (q.block b1 (az c1))).trans c1
   have Y:=HX.o k b wr x q
   obtain ⟨CX,D⟩:=ae Y q
   have L:=HM.o b
   clear Y x c1
   have tq:=t wr q
   clear t
   go_wp2_with fail
   refine CX.o.mono ?_
   rintro e w1 ⟨H,rfl,⟨C,i⟩,T⟩
   obtain ⟨I,HO,h⟩:=af C i (D.o.trans (T.mono D.o.size));clear C i T q tq c2 L
   cases hok:ok k with
   | true=>
    have O:=aa hok;clear hok
    go_wp2_with (refine aH (Mh _ _) wA rfl rfl rfl rfl I.o (by rw [I.o];rfl) HO.o ?_;intro w3 R A;have J:=aa A;clear R A)
    go_ret
    have N:B=false:=by
     cases hBB:B with
     | false=>rfl
     | true=>have:=V.o.1 hBB k y;rw [O.o] at this;cases this
    refine ⟨by rw [N];rfl,?_⟩
    exact (h.o.alloc h.o.size _).trans (J.o.toBelow (by rw [Mw];have:=h.o.size;omega) (fun j e=>by have:=h.o.size;omega))
   | false=>
    have O:=aa hok;clear hok
    go_wp2_with (refine aH (Mh _ _) wA rfl rfl rfl rfl I.o (by rw [I.o];rfl) HO.o ?_;intro w3 R A;have J:=aa ((h.o.alloc h.o.size _).trans (A.toBelow (by rw [Mw];have:=h.o.size;omega) (fun j e=>by have:=h.o.size;omega)));clear R A)
    go_roundw
    case rel=>
     refine ⟨k+1,by omega,by go_num,fun j hj=>?_,J.o⟩
     rcases Mv j k with h1 | h1
     ·exact HA.o j h1
     ·obtain rfl:j=k:=ap
      exact O.o
    case measure=>simp [intOf];omega
  ·obtain rfl:k=n:=ap
   have D:=aa q;clear t q
   go_wp2_with fail
   go_ret
   exact ⟨by rw [V.o.2 HA.o];rfl,D.o⟩
end Go.Proofs.YtgmajkppbhiopaaGreat
