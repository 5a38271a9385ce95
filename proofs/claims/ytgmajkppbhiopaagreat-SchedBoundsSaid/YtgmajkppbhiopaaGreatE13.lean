/- No condition. -/
import Derived.Test.YtgmajkppbhiopaaGreatE12
set_option linter.unusedSimpArgs false
set_option linter.unusedVariables false
set_option maxRecDepth 100000
set_option maxHeartbeats 4000000
namespace Go.Proofs.YtgmajkppbhiopaaGreat
open Go.RowKit
open Tryz
theorem yZ {w:World} {vs:Array Value} {i:Inp} {x:Nat} {m:Mst} {s t:LSt} {u v:Array Value} {S:Nat->Prop} (hS:∀k,S k->k<w.heap.size) (h:fY (aF S w) vs i x m) (hu:RL (aF S w) u s) (hv:RL (aF S w) v t) (hs:cK i) {y:Itm} (hy:(dQ i x)[bD i x m]?=some y) (k1 k2:Int) (b0 b1:Bool) (i0 i1 i2 i3 i4 i5 i6:Int) (cf:bq y=[MO 5,MO k1,MO k2,.bool b0,.bool b1,MO i0,MO i1,MO i2,MO i3,MO i4,MO i5,MO i6]) (bn lo B:Nat) (bv:k2=(bn:Nat)) (cw:bn<(aB i).buks.length) (co:aL (aB i).buks bn=(lo,B)) (bo:lo<B) (bG:B<=i.start.length)
  (m1:Mst) (h1:m1.P=apP i.cfg.rate i.cfg.mom i.cfg.shift m.P m.M ((m.G.drop lo).take (B-lo)) lo (B-lo)/\m1.M=apM i.cfg.mom i.cfg.shift m.M ((m.G.drop lo).take (B-lo)) lo (B-lo)/\m1.G=m.G/\m1.rc=m.rc) (bh:bD i x m1=bD i x m+1):
  Calls prog 89 #[.agg vs,.agg u,.agg v] w (fun e p=>nj S i x m1 (s) (t) 0 w e p):=by
 have el:=aa bv;clear bv
 obtain ⟨A,c,D,cd,T,ct,R,cr,PA,pc,MA,mc,GA,gc,SA,sc,bI,oI,ic,B1,c1,B2,c2,dn,il,W0,rfl,rfl,rfl,H⟩:=jW hS h hu hv hs hy
 have bf:=H.rw'
 rw [cf] at bf
 rw [H.dn'] at bh
 obtain ⟨da,H1,cO⟩:=af bf h1 bh
 obtain ⟨ej,ef,tl,dw,cY,eb,d4⟩:=H.loc
 have q0:=br W0
 clear h hu hv hs hy cf hS h1 bh bf
 go_enter func89,ntmps89
 go_upto_region 1 with (fail)
 rw [H.eW]
 go_upto_region 4 with (first | (refine jN da.o iR rfl rfl rfl ?_) | (refine aJ (LP _ _) iR rfl rfl rfl rfl rfl rfl rfl ?_;intro W3 e3 k3;obtain ⟨E3,K3⟩:=ae e3 (aU k3);clear e3 k3))
 clear ej ef tl q0 dw cY eb d4
 go_upto_region 5 with (first | (refine aS #[MO i5,MO i6] (b:=W0.heap.size) E3.o fP rfl rfl rfl rfl ?_) | (refine aJ (LP _ _) fP rfl rfl rfl rfl rfl rfl rfl ?_;intro Z e4 k4;obtain ⟨E4,K4⟩:=ae e4 (aU k4);clear e4 k4))
 have y0:Z.cell? (ar W0.heap.size 0)=some (MO 5):=LQ Z _ 0 _ _ _ (sb E3.o _ K4.o)
 have aP:=aa (bt K3.o K4.o)
 go_upto_region 23 with (fail)
 have bV:=aa (H.bx _ aP.o).1;have ee:=aa (sb E3.o _ K4.o)
 have bN:=H.K.trans (aP.o.mono H.K.size)
 have q4:=(br Z).drew
 have x2:∀p,aq Z p->p.cell? (ar W0.heap.size 2)=some (MO (bn:Nat)):=fun p q=>by rw [<-el.o];exact LQ p _ 2 _ _ _ (sb ee.o p q)
 have hc:=H.s'.g.c
 have ew:(((aB i).W:Nat):Int)=i.cfg.workers:=by have:=hc.w;simp only [aB];omega
 have eu:(((aB i).bu:Nat):Int)=i.cfg.bucket:=by have:=hc.bu;simp only [aB];omega
 have ec:(((aB i).ck:Nat):Int)=i.cfg.chunk:=by have:=hc.ch;simp only [aB];omega
 have en:(aB i).n=i.start.length:=rfl
 have a6:=fun p=>lX A i.cfg.sizes.length c i.cfg.shift i.cfg.rate i.cfg.mom i.cfg.workers i.cfg.batch i.cfg.micros i.cfg.steps i.cfg.bucket i.cfg.chunk i.cfg.window i.cfg.cap D i.data.length cd T i.start.length ct R i.draws.length cr p
 have a0:=fun p=>rz (aB i) (.slice A i.cfg.sizes.length c) (MO i.cfg.shift) (MO i.cfg.rate) (MO i.cfg.mom) (MO i.cfg.batch) (MO i.cfg.micros) (MO i.cfg.steps) (MO i.cfg.window) (MO i.cfg.cap) p H.s'.ok (by have:=hc.bu;simp only [aB];omega)
 simp only [ew,eu,ec,en] at a0
 have bb:=dY cw
 rw [co] at bb
 have ds:=H.s'.ok.buks
 obtain ⟨nb,b9⟩:∃nb,(aB i).buks.length=nb:=⟨_,rfl⟩
 rw [b9] at a0 cw ds
 have av:(bn:Int)<nb:=ap
 have a9:¬(bn:Int)<0:=ap
 have ab:¬nb<=bn:=ap
 obtain ⟨ad,a8,bX,a4,c6,aM⟩:=ai a6 a0 bN bb bo bG;clear a6 a0 bN bb co b9 ew eu ec en y0 bo bG
 go_cut [21] (fun v wx=>∃J,v=(au J)/\wx.heap[J]?=some (.cells #[MO (lo:Nat),MO (B:Nat)] 187 (0,0))/\aq Z wx)
 case first=>
  refine HA.g (fun p:World=>aq Z p) ?_
  refine HA.t ?_ [0,4,5] q4 ?_
  refine HA.ld 1 (aO A c D cd T ct R cr i) (fun p q=>sb bV.o p q) ib q4 ?_
  refine HA.two 2 8 ?_ ?_
  ·skip
   refine HAS.c (ad.o _) ?_
   rintro e w5 ⟨rfl,k5⟩
   have O:=q4.trans (k5.mono q4.size)
   refine ⟨_,rfl,O,fun _=>?_⟩
   refine HA.two 3 8 ?_ ?_
   ·skip
    refine HAS.c (a8.o _) ?_
    rintro e Q ⟨v6,rfl,L,k6⟩
    have C:=O.trans (k6.mono O.size)
    obtain ⟨g6,cv,rfl,_⟩:=L.form ap
    have a3:=L.1
    have c0:=L.cellAt (bn*2) ap
    have I:=L.cellAt (bn*2+1) ap
    rw [a4.o.1] at c0
    rw [a4.o.2] at I
    refine ⟨_,rfl,C,fun _=>?_⟩
    refine HA.t ?_ [6] C ?_
    have a2:=(L.lt g6 rfl).2
    refine HA.two 7 8 ?_ ?_
    rotate_left
    ·refine HAS.v (Q.alloc (.cells #[MO 0,MO 0] 187)) ((au Q.heap.size)) (C.alloc C.size _) ?_
     have c0:=aw ((br Q).alloc (LO _) (.cells #[MO 0,MO 0] 187)) c0
     have I:=aw ((br Q).alloc (LO _) (.cells #[MO 0,MO 0] 187)) I
     have e0:g6<(Q.alloc (.cells #[MO 0,MO 0] 187)).heap.size:=by rw [Mb];omega
     refine HA.v 7 (Q.alloc (.cells #[MO 0,MO 0] 187)) (.agg #[MO (lo:Nat),MO (B:Nat)]) (C.alloc C.size _) ?_
     refine HA.st 9 (LP Q _) fP (fun w7 Y k7=>?_)
     have N:=C.trans ((aU k7).mono C.size)
     refine ⟨N,HA.d ?_⟩
     have HF:=aa (LW Y N);clear Y k7 N C O q4 k5 k6 L c0 I a2 e0 a3 x2 av a9 ab
     go_wp2_with fail
     go_meet
     exact ⟨_,rfl,HF.o⟩
    refine HAS.v Q (.agg #[MO (lo:Nat),MO (B:Nat)]) C ?_
    refine HA.v 8 (Q.alloc (.cells #[MO 0,MO 0] 187)) ((au Q.heap.size)) (C.alloc C.size _) ?_
    refine HA.st 9 (LP Q _) fP (fun w7 Y k7=>?_)
    have N:=C.trans ((aU k7).mono C.size)
    refine ⟨N,HA.d ?_⟩
    have HF:=aa (LW Y N);clear Y k7 N C O q4 k5 k6 L c0 I a2 a3 x2 av a9 ab
    go_wp2_with fail
    go_meet
    exact ⟨_,rfl,HF.o⟩
   ·skip
    refine HAS.v (w5.alloc (.cells #[MO 0,MO 0] 187)) ((au w5.heap.size)) (O.alloc O.size _) ?_
    have gA:=LP w5 (.cells #[MO 0,MO 0] 187)
    have qa:=O.alloc O.size (.cells #[MO 0,MO 0] 187)
    have jA:Z.heap.size<=w5.heap.size:=O.size
    obtain ⟨jj,a7⟩:∃jj,w5.heap.size=jj:=⟨_,rfl⟩
    obtain ⟨wa,ao⟩:∃wa,w5.alloc (.cells #[MO 0,MO 0] 187)=wa:=⟨_,rfl⟩
    rw [ao] at gA qa ⊢
    rw [a7] at gA jA ⊢
    clear ao a7
    refine HA.c 3 (a8.o _) ?_
    rintro e Q ⟨v6,rfl,L,k6⟩
    have C:=qa.trans (k6.mono qa.size)
    obtain ⟨g6,cv,rfl,_⟩:=L.form ap
    have a3:=L.1
    have c0:=L.cellAt (bn*2) ap
    have I:=L.cellAt (bn*2+1) ap
    rw [a4.o.1] at c0
    rw [a4.o.2] at I
    refine ⟨_,rfl,C,fun _=>?_⟩
    refine HA.t ?_ [6] C ?_
    have a2:=(L.lt g6 rfl).2
    refine HA.v 7 Q (.agg #[MO (lo:Nat),MO (B:Nat)]) C ?_
    refine HA.st 9 (sb gA _ k6) fP (fun w7 Y k7=>?_)
    have N:=C.trans (k7.toBelow C.size (fun j hj=>by have e':j=jj:=hj;omega))
    refine ⟨N,HA.d ?_⟩
    have HF:=aa (LW Y N);clear Y k7 N C O q4 qa gA jA k5 k6 L c0 I a2 a3 x2 av a9 ab
    go_wp2_with fail
    go_meet
    exact ⟨_,rfl,HF.o⟩
  ·skip
   refine HAS.v (Z.drew.alloc (.cells #[MO 0,MO 0] 187)) ((au Z.drew.heap.size)) (q4.alloc q4.size _) ?_
   have gA:=LP Z.drew (.cells #[MO 0,MO 0] 187)
   have qa:=q4.alloc q4.size (.cells #[MO 0,MO 0] 187)
   have jA:Z.heap.size<=Z.drew.heap.size:=q4.size
   obtain ⟨jj,a7⟩:∃jj,Z.drew.heap.size=jj:=⟨_,rfl⟩
   obtain ⟨wa,ao⟩:∃wa,Z.drew.alloc (.cells #[MO 0,MO 0] 187)=wa:=⟨_,rfl⟩
   rw [ao] at gA qa ⊢
   rw [a7] at gA jA ⊢
   clear ao a7
   refine HA.c 2 (ad.o _) ?_
   rintro e w5 ⟨rfl,k5⟩
   have O:=qa.trans (k5.mono qa.size)
   refine ⟨_,rfl,O,fun _=>?_⟩
   refine HA.c 3 (a8.o _) ?_
   rintro e Q ⟨v6,rfl,L,k6⟩
   have C:=O.trans (k6.mono O.size)
   obtain ⟨g6,cv,rfl,_⟩:=L.form ap
   have a3:=L.1
   have c0:=L.cellAt (bn*2) ap
   have I:=L.cellAt (bn*2+1) ap
   rw [a4.o.1] at c0
   rw [a4.o.2] at I
   refine ⟨_,rfl,C,fun _=>?_⟩
   refine HA.t ?_ [6] C ?_
   have a2:=(L.lt g6 rfl).2
   refine HA.v 7 Q (.agg #[MO (lo:Nat),MO (B:Nat)]) C ?_
   refine HA.st 9 (sb (sb gA _ k5) _ k6) fP (fun w7 Y k7=>?_)
   have N:=C.trans (k7.toBelow C.size (fun j hj=>by have e':j=jj:=hj;omega))
   refine ⟨N,HA.d ?_⟩
   have HF:=aa (LW Y N);clear Y k7 N C O q4 qa gA jA k5 k6 L c0 I a2 a3 x2 av a9 ab
   go_wp2_with fail
   go_meet
   exact ⟨_,rfl,HF.o⟩
 case rest=>
 obtain ⟨J,rfl,Y,N⟩:=hcut
 obtain ⟨w7,rfl⟩:∃w7,w7=wc:=⟨_,rfl⟩
 obtain ⟨E7,Q7⟩:=ae Y N;clear Y N q4 x2 av a9 ab
 go_upto_region 24 with (fail)
 have b6:=aa (sb bV.o _ Q7.o)
 have q8:=(br w7).drew
 have eG:B<=gc:=by have:=H.hG.hc;have:=H.Gl;have:=aM.o;omega
 obtain ⟨gb,go,rfl, -⟩:=H.hG.hr.num (show 0<m.G.length by have:=H.Gl;have:=c6.o;have:=aM.o;omega)
 have e1:∀p,aq w7 p->p.cell? (ar w.heap.size 18)=some (.slice (some (ar gb go)) i.start.length gc):=fun p q=>LQ p _ 18 _ _ _ (sb b6.o p q)
 have y0:∀p,aq w7 p->p.cell? (ar J 0)=some (MO (lo:Nat)):=fun p q=>LQ p _ 0 _ _ _ (sb E7.o p q)
 have y1:∀p,aq w7 p->p.cell? (ar J 1)=some (MO (B:Nat)):=fun p q=>LQ p _ 1 _ _ _ (sb E7.o p q)
 have cA:=c6.o
 have eS:(lo:Int)<=B:=ap
 have eM:(B:Int)<=gc:=ap
 have es:lo<=B:=ap
 have ev:¬gc=lo:=ap
 have aR:aq w w7:=bX.o.trans (Q7.o.mono bX.o.size)
 have b7:((m.G.drop lo).take (B-lo)).length=B-lo:=by have:=H.Gl;have:=aM.o;rw [Mt,Mw];omega
 have c7:=fun p (q:aq w7 p)=>by
  have be:aq w p:=aR.trans (q.mono aR.size)
  have d7:Rd p (some (ar gb (go+lo))) (aA .i64 ((m.G.drop lo).take (B-lo))):=by
   have:=((H.hG.hr.below be).drop lo).take (B-lo)
   rwa [dm,de] at this
  exact ze i.cfg.rate i.cfg.mom i.cfg.shift PA MA (some (ar gb (go+lo))) m.P m.M ((m.G.drop lo).take (B-lo)) i.start.length pc mc (gc-lo) lo B (B-lo) p (H.hP.hr.below be) (H.hM.hr.below be) d7 H.Pl H.Ml b7 ap ap (by have:=H.s'.n;omega) aM.o (by have:=H.hP.hc;have:=H.Pl;omega) (by have:=H.hM.hc;have:=H.Ml;omega) H.hM.hw H.hI.ra H.hI.rm
 have cc:=fun p=>EG A c i.cfg p
 obtain ⟨dT,d8,eB⟩:=af c7 cc aR;clear c7 b7 aR cA cc
 refine XA.g 19 (fun p:World=>aq w7 p) ?_
 refine XA.t ?_ [0,1,4,7,8,9,10,11,12,13] q8 ?_
 refine XA.ld 2 #[.slice A i.cfg.sizes.length c,MO i.cfg.shift,MO i.cfg.rate,MO i.cfg.mom,MO i.cfg.workers,MO i.cfg.batch,MO i.cfg.micros,MO i.cfg.steps,MO i.cfg.bucket,MO i.cfg.chunk,MO i.cfg.window,MO i.cfg.cap] (fun p q=>sb b6.o p q) yF q8 ?_
 refine XA.ld 5 #[.slice PA i.start.length pc,.slice MA i.start.length mc] (fun p q=>sb b6.o p q) ke q8 ?_
 refine XA.ld 6 #[MO (lo:Nat),MO (B:Nat)] (fun p q=>sb E7.o p q) fP q8 ?_
 refine XA.c 3 (d8.o _) ?_
 rintro e w8 ⟨rfl,k8⟩
 have q9:=q8.trans (k8.mono q8.size)
 refine ⟨_,rfl,q9,fun _=>?_⟩
 refine XA.c 14 (dT.o w8 q9) ?_
 rintro e w9 ⟨A9,c9,B9,d9,rfl,bM,cy,o9,p9,k9⟩
 have a5:=q9.trans (k9.mono q9.size)
 refine ⟨_,rfl,a5,fun _=>?_⟩
 refine XA.t0 ?_ [15,16,17] a5 ?_
 refine XA.t ?_ [18] a5 ?_
 refine XA.e ?_
 simp only [Mm,Mn]
 have U:=sb b6.o _ a5
 have d5:=LQ w9 w.heap.size 16 _ _ _ U
 have dG:=LQ w9 w.heap.size 17 _ _ _ U
 have d0:=LX w9 w.heap.size 16 _ _ U
 have d3:=LX w9 w.heap.size 17 _ _ U
 have em:=LN U
 obtain ⟨e6,cM,O9,P9,d1,ei,L8⟩:=aj U a5 o9 p9 bM cy q9.size;clear U a5 q9 q8 o9 p9 k9 k8 bM cy e1 y0 y1
 go_upto_region 28 with (fail)
 have a1:=ss2 (i:=16) (j:=17) (v:=.slice A9 i.start.length c9) (u:=.slice B9 i.start.length d9) e6.o rfl
 have kk:Keep (fun k=>k=w.heap.size) w9 ((w9.setCell (ar w.heap.size 16) (.slice A9 i.start.length c9)).setCell (ar w.heap.size 17) (.slice B9 i.start.length d9)):=Keep.setCell (S:=fun k=>k=w.heap.size) (Keep.setCell (S:=fun k=>k=w.heap.size) (Keep.refl _ _) _ (.inr rfl) _) _ (.inr rfl) _
 obtain ⟨V,hV⟩:∃V,(w9.setCell (ar w.heap.size 16) (.slice A9 i.start.length c9)).setCell (ar w.heap.size 17) (.slice B9 i.start.length d9)=V:=⟨_,rfl⟩
 rw [hV] at a1 kk ⊢
 have aG:=bt aP.o (bt Q7.o cM.o)
 have hb:=fun {b:Nat} {o:Obj} (h:W0.heap[b]?=some o) (h1:b≠w.heap.size)=>(kk.block b (LN (sb h _ aG)) h1).trans (sb h _ aG)
 have bA:=hb (H.bx _ (br W0)).2.1 ap
 have cs:=hb (H.bx _ (br W0)).2.2.1 ap
 have bw:=hb (H.bx _ (br W0)).2.2.2.1 ap
 have cl:=hb (H.bx _ (br W0)).2.2.2.2.1 ap
 have cx:=hb (H.bx _ (br W0)).2.2.2.2.2 ap
 have bd:=H.K.trans (aG.mono H.K.size)
 have cn:=bd.trans (kk.toBelow bd.size (fun j hj=>Nat.le_of_eq (Eq.symm hj)))
 have eL:=LN (H.bx _ (br W0)).2.2.2.2.2
 have l8:w.heap.size+6<=w8.heap.size:=by have:=L8.o;have:=Q7.o.size;have:=aP.o.size;omega
 obtain ⟨ci,cb⟩:=ae (kk.own (aE O9.o l8) (fun j hj e=>by have h1:=(O9.o.lt j hj).1;have h2:j=w.heap.size:=e;omega)) (kk.own (aE P9.o l8) (fun j hj e=>by have h1:=(P9.o.lt j hj).1;have h2:j=w.heap.size:=e;omega));clear hV d5 dG d0 d3 em kk hb bd aG l8
 have dk:=LQ V w.heap.size 21 _ _ _ a1
 have cL:=LX V w.heap.size 21 _ _ a1
 have lM:=LN a1
 have dr:=H.wd
 have e9:=ss (i:=21) (v:=MO ((dn:Int)+1)) a1 rfl
 have k9:Keep (fun k=>k=w.heap.size) V (V.setCell (ar w.heap.size 21) (MO ((dn:Int)+1))):=Keep.setCell (S:=fun k=>k=w.heap.size) (Keep.refl _ _) _ (.inr rfl) _
 obtain ⟨E9,K9,d6,dc,ea,dv,d2,ek⟩:=ak e9 k9 bA cs bw cl cx cn;clear e9 k9 bA cs bw cl cx cn a1
 go_upto_region 29 with (fail)
 obtain ⟨V9,bs⟩:∃V9,V.setCell (ar w.heap.size 21) (MO ((dn:Int)+1))=V9:=⟨_,rfl⟩
 rw [bs] at E9 K9 ⊢
 clear bs dk cL lM dr
 obtain ⟨b1,b2,b3,b4,b5⟩:=uj K9.o d6.o dc.o ea.o dv.o d2.o
 have hq:aq V9 V9.drew:=(br V9).drew
 refine HA.g (KB3 w.heap.size V9) ?_
 refine HA.ld3 (vs:=#[.slice A i.cfg.sizes.length c,MO i.cfg.shift,MO i.cfg.rate,MO i.cfg.mom,MO i.cfg.workers,MO i.cfg.batch,MO i.cfg.micros,MO i.cfg.steps,MO i.cfg.bucket,MO i.cfg.chunk,MO i.cfg.window,MO i.cfg.cap,.slice D i.data.length cd,.slice T i.start.length ct,.slice R i.draws.length cr,MO (x:Nat),.slice A9 i.start.length c9,.slice B9 i.start.length d9,.slice (some (ar gb go)) i.start.length gc,.slice SA m.rc.length sc,.slice (some (ar bI oI)) il ic,MO (dn+1)]) E9.o b1 b2 dO bP bP (Keep.below hq) ?_
 refine HA.st3 3 4 5 b3 b4 b5 dO bP bP hq (fun w8 r3 r4 e8 q8=>?_)
 refine HA.t ?_ [6] q8 ?_
 refine HA.d ?_
 obtain ⟨R3,R4,R5⟩:=af r3 r4 e8
 have F:=jV K9.o q8 ek.o
 obtain ⟨bi,QW⟩:=ae F.1 F.2;clear b1 b2 b3 b4 b5 e8 q8 r3 r4 hq F
 go_wp2_with fail
 refine L7 (fk rfl rfl rfl rfl R3.o R4.o R5.o dO bP bP) rfl ?_
 have b8:∀j,w.heap.size+6<=j->¬(w.heap.size<=j/\j<w.heap.size+6):=fun j h1 h2=>ap
 have e5:=bi.o.own ci.o (fun j hj=>b8 j (ci.o.lt j hj).1)
 have e2:=bi.o.own cb.o (fun j hj=>b8 j (cb.o.lt j hj).1)
 have bz:∀k,S k->k<w.heap.size+6:=fun k hk=>by have:=H.S' k hk;omega
 have eo:=H.s'.n
 have lP:=mW i.cfg.rate i.cfg.mom i.cfg.shift m.P m.M ((m.G.drop lo).take (B-lo)) lo (B-lo)
 have lM:=mX i.cfg.mom i.cfg.shift m.M ((m.G.drop lo).take (B-lo)) lo (B-lo)
 have cP:cH (aF S w8) A9 (apP i.cfg.rate i.cfg.mom i.cfg.shift m.P m.M ((m.G.drop lo).take (B-lo)) lo (B-lo)) c9:=⟨by have:=d1.o;have:=H.Pl;omega,by have:=H.Pl;omega,iE e5 bz,BD H.hP.hw⟩
 have dp:cH (aF S w8) B9 (apM i.cfg.mom i.cfg.shift m.M ((m.G.drop lo).take (B-lo)) lo (B-lo)) d9:=⟨by have:=ei.o;have:=H.Ml;omega,by have:=H.Ml;omega,iE e2 bz,vB H.hM.hw⟩
 have hX:Ext (aF S w) (aF S w8):=bE (Keep.below QW.o) (fun _ _ h=>h)
 obtain ⟨bl,c8,cj,bO⟩:=H1.o
 exact ⟨_,_,_,rfl,rfl,rfl,⟨A,c,D,cd,T,ct,R,cr,A9,c9,B9,d9,some (ar gb go),gc,SA,sc,some (ar bI oI),ic,by rw [H.il',cO.o,bO];push_cast;rfl,fu H.I0 hX,by rw [bl];exact cP,by rw [c8];exact dp,by rw [cj];exact bH H.G0 hX,by rw [bO];exact eA cJ H.R0 hX,aV H.It0 hX,by rw [bl];exact (lP.trans H.Pl),by rw [c8];exact (lM.trans H.Ml),by rw [cj];exact H.Gl⟩,⟨B1,c1,rfl,cV H.s0 hX,H.s2⟩,⟨B2,c2,rfl,cV H.t0 hX,H.t2⟩,QW.o⟩
section
variable {P:Program} {ops:Array Oper} {Q:Exit->Act->World->Prop} {S:World->Prop} {n:Nat}
structure XAS (P:Program) (ops:Array Oper) (Q:Exit->Act->World->Prop) (S:World->Prop) (n i:Nat) (L:List Nat) (a:Act) (w:World):Prop where
 out:∃o,ops[i]?=some o/\∀K':Act->World->Prop,Shut (∀a w,S w->(S w->XA P ops Q S n (i::L) a w)->K' a w)->if Region.wanted o (yielded ops a.tmps)=true then Oper.wp P o a w K' Q else K' (a.put o.dst undef) w
theorem XAS.v {L:List Nat} {a:Act} {w:World} {i:Nat} {o:Oper} (h:World) (v:Value) (u:S h) (k:XA P ops Q S n (i::L) (a.put o.dst v) h) (p:ops[i]?=some o:=by (simp only [Mi,Mj,Mk];rfl))
  (hw:Region.wanted o (yielded ops a.tmps)=true:=by rfl) (he:(execOp a.eval o).run P w=.ok (.value v) h:=by go_simp):XAS P ops Q S n i L a w:=by
 refine ⟨o,p,fun y x=>?_⟩
 rw [if_pos hw]
 unfold Oper.wp
 rw [he]
 exact x.out _ _ u fun _=>k
theorem XAS.o {L:List Nat} {a:Act} {w:World} {o:Oper} {i:Nat}
  (h:∀p:Act->World->Prop,Shut (∀a w,S w->(S w->XA P ops Q S n (i::L) a w)->p a w)->if Region.wanted o (yielded ops a.tmps)=true then Oper.wp P o a w p Q else p (a.put o.dst undef) w)
  (u:ops[i]?=some o:=by (simp only [Mi,Mj,Mk];rfl)):XAS P ops Q S n i L a w:=⟨o,u,h⟩
theorem XA.two {L:List Nat} {a:Act} {w:World} (i j:Nat) (y:XAS P ops Q S n i L a w) (p:XAS P ops Q S n j L a w) (hr:cZ ops L=[i,j]:=by decide +kernel):XA P ops Q S n L a w:=by
 obtain ⟨H,x,y⟩:=y
 obtain ⟨I,o,p⟩:=p
 have B:unl (bF ops.size L)=unl (bF ops.size (i::L))+1:=cI (by rw [hr];simp)
 have D:unl (bF ops.size L)=unl (bF ops.size (j::L))+1:=cI (by rw [hr];simp)
 have C:unl (bF ops.size (j::L))=unl (bF ops.size (i::L)):=ap
 refine ⟨?_⟩
 rw [B]
 refine cz (by rw [dN];exact hr) (by simp) (aQ.cons x (fun A v=>y A fun a w u hw=>v.out a w u fun h=>(hw h).out) (aQ.cons o (fun A v=>p A fun a w u hw=>v.out a w u fun h=>?_) aQ.nil))
 have:=(hw h).out
 rw [C] at this
 exact this
end
theorem Ks {w:World} {A:Option Addr} {l:List Ex} (h:dA rEx 2 w A l):∃rows:List (List Value),Rd w A (List.flatten rows)/\rows.length=l.length/\(∀r∈rows,r.length=2)/\(∀j x,l[j]?=some x->rEx w (cq rows j) x)/\(List.flatten rows).length=l.length*2/\∀u∈List.flatten rows,u.oneCell'=true:=by
 obtain ⟨rows,h1,o,v,p⟩:=h
 refine ⟨rows,h1,o,v,p,by rw [qx v,o],fun u i=>?_⟩
 obtain ⟨r,hr,i⟩:=List.mem_flatten.1 i
 obtain ⟨j,B,e⟩:=List.getElem_of_mem hr
 have C:=Mq (show j<l.length by omega)
 obtain ⟨J,H,D,I,y,_⟩:=p j _ C
 rw [pI B,e] at y
 subst y
 simp only [List.mem_cons,List.not_mem_nil,or_false] at i
 rcases i with rfl | rfl<;>rfl
theorem gu {S:Nat->Prop} {w:World} {base:Nat} {e:TypeId} {size n c:Nat} {A:Option Addr} {xs:List Value} (h:w.ownsRow base e size (.slice A n c) n xs) (p:∀k,S k->k<base):Rd (aF S w) A xs:=by
 refine lh (Rd.own h) fun y i hs=>?_
 rcases h.2 with ⟨o,_⟩ | ⟨g,_,_,o,hb,_⟩
 ·injection o with e1;rw [e1] at i;cases i
 ·injection o with e1;rw [e1] at i;cases i;have u:g<base:=p _ hs;omega
theorem za {w:World} {vs:Array Value} {i:Inp} {x:Nat} {m:Mst} {s t:LSt} {u v:Array Value} {S:Nat->Prop} (hS:∀k,S k->k<w.heap.size) (h:fY (aF S w) vs i x m) (hu:RL (aF S w) u s) (hv:RL (aF S w) v t) (hs:cK i) {y:Itm} (hy:(dQ i x)[bD i x m]?=some y) (k1 k2:Int) (b0 b1:Bool) (i0 i1 i2 i3 i4 i5 i6:Int) (bv:bq y=[MO 6,MO k1,MO k2,.bool b0,.bool b1,MO i0,MO i1,MO i2,MO i3,MO i4,MO i5,MO i6]) (aG:m.rc.length<=1000)
  (m1:Mst) (h1:m1.P=m.P/\m1.M=m.M/\m1.G=List.replicate i.start.length 0/\m1.rc=m.rc++[(m.P,m.M)]) (aM:bD i x m1=bD i x m+1):
  Calls prog 89 #[.agg vs,.agg u,.agg v] w (fun e w'=>nj S i x m1 (s) (t) 0 w e w'):=by
 obtain ⟨A,c,D,cd,T,ct,R,cr,C,J,B,I,GA,gc,SA,sc,bI,oI,ic,B1,c1,B2,c2,dn,il,W0,rfl,rfl,rfl,H⟩:=jW hS h hu hv hs hy
 have ao:=H.rw'
 rw [bv] at ao
 rw [H.dn'] at aM
 obtain ⟨cl,H1,c6⟩:=af ao h1 aM
 obtain ⟨d0,cY,tl,cx,cb,cP,cf⟩:=H.loc
 have q0:=br W0
 clear h hu hv hs hy bv hS h1 aM ao
 go_enter func89,ntmps89
 go_upto_region 1 with (fail)
 rw [H.eW]
 go_upto_region 4 with (first | (refine jN cl.o iR rfl rfl rfl ?_) | (refine aJ (LP _ _) iR rfl rfl rfl rfl rfl rfl rfl ?_;intro W3 e3 k3;obtain ⟨E3,K3⟩:=ae e3 (aU k3);clear e3 k3))
 clear d0 cY tl q0 cx cb cP cf
 go_upto_region 5 with (first | (refine aS #[MO i5,MO i6] (b:=W0.heap.size) E3.o fP rfl rfl rfl rfl ?_) | (refine aJ (LP _ _) fP rfl rfl rfl rfl rfl rfl rfl ?_;intro p e4 k4;obtain ⟨E4,K4⟩:=ae e4 (aU k4);clear e4 k4))
 have y0:p.cell? (ar W0.heap.size 0)=some (MO 6):=LQ p _ 0 _ _ _ (sb E3.o _ K4.o)
 have a1:=aa (bt K3.o K4.o)
 go_upto_region 26 with (fail)
 have N:=aa (H.bx _ a1.o).1
 have a8:=H.K.trans (a1.o.mono H.K.size)
 obtain ⟨rows,z1,z2,z3,z4,z5,z6⟩:=Ks H.R0
 have zr:=fun w' (q:aq p w')=>aV z1 (gH (Keep.below (a8.trans (q.mono a8.size))))
 obtain ⟨rl,hrl⟩:∃rl,m.rc.length=rl:=⟨_,rfl⟩
 obtain ⟨bh,Z2,Z3,Z4,Zr,d4⟩:=ai a8 z2 z3 z4 zr hrl
 rw [hrl] at z5 aG
 obtain ⟨Z5,Z6,L⟩:=af z5 z6 aG
 rw [hrl] at N ⊢
 clear y0 a8 z1 z2 z3 z4 z5 z6 zr hrl aG
 go_cut [3] (fun v wx=>v=(au w.heap.size)/\∃Q c7,wx.heap[w.heap.size]?=some (.cells #[.slice A i.cfg.sizes.length c,MO i.cfg.shift,MO i.cfg.rate,MO i.cfg.mom,MO i.cfg.workers,MO i.cfg.batch,MO i.cfg.micros,MO i.cfg.steps,MO i.cfg.bucket,MO i.cfg.chunk,MO i.cfg.window,MO i.cfg.cap,.slice D i.data.length cd,.slice T i.start.length ct,.slice R i.draws.length cr,MO (x:Nat),.slice C i.start.length J,.slice B i.start.length I,.slice GA i.start.length gc,.slice Q (rl+1) c7,.slice (some (ar bI oI)) il ic,MO (dn:Nat)] 106 (0,0))/\wx.ownsRow p.heap.size 103 2 (.slice Q (rl+1) c7) (rl+1) (List.flatten rows++[.slice C i.start.length J,.slice B i.start.length I])/\Keep (fun k=>k=w.heap.size) p wx)
 case first=>
  have q4:=(br p).drew
  have d6:∀w',aq p w'->w'.cell? (ar w.heap.size 19)=some (.slice SA rl sc):=fun w' q=>LQ w' _ 19 _ _ _ (sb N.o w' q)
  have tl:=fun w' (q:aq p w')=>LV (LN N.o) q.size
  refine XA.g 9 (fun w':World=>aq p w') ?_
  refine XA.t ?_ [1,2,4] q4 ?_
  refine XA.ld 5 #[.slice C i.start.length J,.slice B i.start.length I] (fun w' q=>sb N.o w' q) ke q4 ?_
  refine XA.two 0 6 ?_ ?_
  ·refine XAS.v (p.drew.alloc (.cells #[] 103)) (.slice (some (ar p.drew.heap.size 0)) 0 0) (q4.alloc (LO _) _) ?_
   have O:(p.drew.alloc (.cells #[] 103)).ownsRow p.heap.size 103 2 (.slice (some (ar p.drew.heap.size 0)) 0 0) 0 []:=ey p.drew 103 2
   have q1:=q4.alloc (LO p.heap.size) (.cells #[] 103)
   have s1:(p.drew.alloc (.cells #[] 103)).heap.size=p.drew.heap.size+1:=Mb _ _
   obtain ⟨u1,a4⟩:∃u1,p.drew.alloc (.cells #[] 103)=u1:=⟨_,rfl⟩
   rw [a4] at O q1 s1 ⊢
   clear a4
   refine XA.two 3 6 ?_ ?_
   ·refine XAS.o (fun K' hK=>?_)
    refine bR mT (.tmp 161) (.tmp 163) rfl rfl p.heap.size _ 0 [] rfl O SA rl sc (List.flatten rows) rfl (Zr.o _ q1) Z5.o Z6.o (by have:=L.o;omega) (by unfold maxLen;have:=L.o;omega) q1.size ?_;intro A3 c3 u3 o3 a6 ab be;rw [MH,List.nil_append] at o3;have q3:=q1.trans a6;rw [MH];refine hK.out _ _ q3 fun _=>?_;clear hK K'
    refine XA.v 6 (u3.alloc (.cells #[.slice C i.start.length J,.slice B i.start.length I] 103)) (.slice (some (ar u3.heap.size 0)) 1 1) (q3.alloc q3.size _) ?_;have g6:=LP u3 (.cells #[.slice C i.start.length J,.slice B i.start.length I] 103);have b6:=(br u3).alloc (LO _) (.cells #[.slice C i.start.length J,.slice B i.start.length I] 103);have q6:=q3.alloc q3.size (.cells #[.slice C i.start.length J,.slice B i.start.length I] 103);have s6:(u3.alloc (.cells #[.slice C i.start.length J,.slice B i.start.length I] 103)).heap.size=u3.heap.size+1:=Mb _ _;obtain ⟨u6,a0⟩:∃v,u3.alloc (.cells #[.slice C i.start.length J,.slice B i.start.length I] 103)=v:=⟨_,rfl⟩;rw [a0] at g6 b6 q6 s6 ⊢;clear a0;have o6:=ay o3 b6
    refine XA.o 7 (fun K' hK=>?_);refine bR mT (.tmp 164) (.tmp 167) rfl rfl p.heap.size _ rl (List.flatten rows) rfl o6 (some (ar _ 0)) 1 1 [.slice C i.start.length J,.slice B i.start.length I] rfl (ry g6) rfl (by simp [Value.oneCell']) (by have:=L.o;omega) (by unfold maxLen;have:=L.o;omega) q6.size ?_;intro Q c7 u7 o7 b7 a7 a5;have Z:=q6.trans b7;refine hK.out _ _ Z fun _=>?_;clear hK K';refine XA.t ?_ [8] Z ?_;refine XA.e ?_;simp only [Mm,Mn];have U:=sb N.o _ Z;have bo:=LQ u7 w.heap.size 19 _ _ _ U;have bw:=LX u7 w.heap.size 19 _ _ U;have l7:=LN U;have e8:=ss (i:=19) (v:=.slice Q (rl+1) c7) U rfl;have k8:Keep (fun k=>k=w.heap.size) u7 (u7.setCell (ar w.heap.size 19) (.slice Q (rl+1) c7)):=Keep.setCell (S:=fun k=>k=w.heap.size) (Keep.refl _ _) _ (.inr rfl) _;have o8:=k8.own o7 (fun j Y e=>by have h1:=(o7.lt j Y).1;have h2:=LN N.o;omega);have HF:=aa (⟨e8,o8,(Keep.below Z).trans k8⟩:_/\_/\Keep (fun k=>k=w.heap.size) p _);clear e8 k8 o8 o7 b7 a7 a5 Z U;go_wp2_with fail;go_meet;exact ⟨rfl,Q,c7,HF.o⟩
   ·refine XAS.v (u1.alloc (.cells #[.slice C i.start.length J,.slice B i.start.length I] 103)) (.slice (some (ar u1.heap.size 0)) 1 1) (q1.alloc q1.size _) ?_;have g6:=LP u1 (.cells #[.slice C i.start.length J,.slice B i.start.length I] 103);have b6:=(br u1).alloc (LO _) (.cells #[.slice C i.start.length J,.slice B i.start.length I] 103);have q6:=q1.alloc q1.size (.cells #[.slice C i.start.length J,.slice B i.start.length I] 103);have s6:(u1.alloc (.cells #[.slice C i.start.length J,.slice B i.start.length I] 103)).heap.size=u1.heap.size+1:=Mb _ _;obtain ⟨u6,a0⟩:∃v,u1.alloc (.cells #[.slice C i.start.length J,.slice B i.start.length I] 103)=v:=⟨_,rfl⟩;rw [a0] at g6 b6 q6 s6 ⊢;clear a0
    have bV:=ay O b6
    refine XA.o 3 (fun K' hK=>?_);refine bR mT (.tmp 161) (.tmp 163) rfl rfl p.heap.size _ 0 [] rfl bV SA rl sc (List.flatten rows) rfl (Zr.o _ q6) Z5.o Z6.o (by have:=L.o;omega) (by unfold maxLen;have:=L.o;omega) q6.size ?_;intro A3 c3 u3 o3 a6 ab be;rw [MH,List.nil_append] at o3;have q3:=q6.trans a6;rw [MH];refine hK.out _ _ q3 fun _=>?_;clear hK K'
    have av:=(ab.block _ (LN g6) (fun e=>by have e':u1.heap.size=p.drew.heap.size:=Option.some.inj e;omega)).trans g6
    refine XA.o 7 (fun K' hK=>?_);refine bR mT (.tmp 164) (.tmp 167) rfl rfl p.heap.size _ rl (List.flatten rows) rfl o3 (some (ar _ 0)) 1 1 [.slice C i.start.length J,.slice B i.start.length I] rfl (ry av) rfl (by simp [Value.oneCell']) (by have:=L.o;omega) (by unfold maxLen;have:=L.o;omega) q3.size ?_;intro Q c7 u7 o7 b7 a7 a5;have Z:=q3.trans b7;refine hK.out _ _ Z fun _=>?_;clear hK K';refine XA.t ?_ [8] Z ?_;refine XA.e ?_;simp only [Mm,Mn];have U:=sb N.o _ Z;have bo:=LQ u7 w.heap.size 19 _ _ _ U;have bw:=LX u7 w.heap.size 19 _ _ U;have l7:=LN U;have e8:=ss (i:=19) (v:=.slice Q (rl+1) c7) U rfl;have k8:Keep (fun k=>k=w.heap.size) u7 (u7.setCell (ar w.heap.size 19) (.slice Q (rl+1) c7)):=Keep.setCell (S:=fun k=>k=w.heap.size) (Keep.refl _ _) _ (.inr rfl) _;have o8:=k8.own o7 (fun j Y e=>by have h1:=(o7.lt j Y).1;have h2:=LN N.o;omega);have HF:=aa (⟨e8,o8,(Keep.below Z).trans k8⟩:_/\_/\Keep (fun k=>k=w.heap.size) p _);clear e8 k8 o8 o7 b7 a7 a5 Z U;go_wp2_with fail;go_meet;exact ⟨rfl,Q,c7,HF.o⟩
  ·refine XAS.v (p.drew.alloc (.cells #[.slice C i.start.length J,.slice B i.start.length I] 103)) (.slice (some (ar p.drew.heap.size 0)) 1 1) (q4.alloc q4.size _) ?_;have g6:=LP p.drew (.cells #[.slice C i.start.length J,.slice B i.start.length I] 103);have b6:=(br p.drew).alloc (LO _) (.cells #[.slice C i.start.length J,.slice B i.start.length I] 103);have q6:=q4.alloc q4.size (.cells #[.slice C i.start.length J,.slice B i.start.length I] 103);have s6:(p.drew.alloc (.cells #[.slice C i.start.length J,.slice B i.start.length I] 103)).heap.size=p.drew.heap.size+1:=Mb _ _;obtain ⟨u6,a0⟩:∃v,p.drew.alloc (.cells #[.slice C i.start.length J,.slice B i.start.length I] 103)=v:=⟨_,rfl⟩;rw [a0] at g6 b6 q6 s6 ⊢;clear a0
   refine XA.v 0 (u6.alloc (.cells #[] 103)) (.slice (some (ar u6.heap.size 0)) 0 0) (q6.alloc q6.size _) ?_
   have O:(u6.alloc (.cells #[] 103)).ownsRow p.heap.size 103 2 (.slice (some (ar u6.heap.size 0)) 0 0) 0 []:=aE (ey u6 103 2) q6.size
   have q1:=q6.alloc q6.size (.cells #[] 103)
   have g6:=sb g6 _ ((br u6).alloc (LO _) (.cells #[] 103))
   have l6:p.drew.heap.size<u6.heap.size:=by rw [s6];omega
   obtain ⟨u1,a4⟩:∃u1,u6.alloc (.cells #[] 103)=u1:=⟨_,rfl⟩
   rw [a4] at O q1 g6 ⊢
   clear a4
   refine XA.o 3 (fun K' hK=>?_);refine bR mT (.tmp 161) (.tmp 163) rfl rfl p.heap.size _ 0 [] rfl O SA rl sc (List.flatten rows) rfl (Zr.o _ q1) Z5.o Z6.o (by have:=L.o;omega) (by unfold maxLen;have:=L.o;omega) q1.size ?_;intro A3 c3 u3 o3 a6 ab be;rw [MH,List.nil_append] at o3;have q3:=q1.trans a6;rw [MH];refine hK.out _ _ q3 fun _=>?_;clear hK K'
   have av:=(ab.block _ (LN g6) (fun e=>by have e':p.drew.heap.size=u6.heap.size:=Option.some.inj e;omega)).trans g6
   refine XA.o 7 (fun K' hK=>?_);refine bR mT (.tmp 164) (.tmp 167) rfl rfl p.heap.size _ rl (List.flatten rows) rfl o3 (some (ar _ 0)) 1 1 [.slice C i.start.length J,.slice B i.start.length I] rfl (ry av) rfl (by simp [Value.oneCell']) (by have:=L.o;omega) (by unfold maxLen;have:=L.o;omega) q3.size ?_;intro Q c7 u7 o7 b7 a7 a5;have Z:=q3.trans b7;refine hK.out _ _ Z fun _=>?_;clear hK K';refine XA.t ?_ [8] Z ?_;refine XA.e ?_;simp only [Mm,Mn];have U:=sb N.o _ Z;have bo:=LQ u7 w.heap.size 19 _ _ _ U;have bw:=LX u7 w.heap.size 19 _ _ U;have l7:=LN U;have e8:=ss (i:=19) (v:=.slice Q (rl+1) c7) U rfl;have k8:Keep (fun k=>k=w.heap.size) u7 (u7.setCell (ar w.heap.size 19) (.slice Q (rl+1) c7)):=Keep.setCell (S:=fun k=>k=w.heap.size) (Keep.refl _ _) _ (.inr rfl) _;have o8:=k8.own o7 (fun j Y e=>by have h1:=(o7.lt j Y).1;have h2:=LN N.o;omega);have HF:=aa (⟨e8,o8,(Keep.below Z).trans k8⟩:_/\_/\Keep (fun k=>k=w.heap.size) p _);clear e8 k8 o8 o7 b7 a7 a5 Z U;go_wp2_with fail;go_meet;exact ⟨rfl,Q,c7,HF.o⟩
 case rest=>
  obtain ⟨rfl,Q,c7,a9,o7,kc⟩:=hcut
  obtain ⟨Wm,bn,oM,bM⟩:=lV jE wc rfl i.start.length (by have:=H.s'.n;omega) (by unfold maxLen;have:=H.s'.n;omega)
  rw [eZ] at oM
  have ci:=LQ wc w.heap.size 18 _ _ _ a9
  have a3:=sb a9 _ bM
  have c8:=LQ Wm w.heap.size 18 _ _ _ a3
  have cM:=LX Wm w.heap.size 18 _ _ a3
  have lc:=LN a9
  have lm:=LN a3
  have cv:¬(i.start.length:Int)<0:=ap
  obtain ⟨cO,O7,KC,OM,BM⟩:=ah a3 o7 kc oM bM;clear a3 o7 kc oM bM a9
  go_upto_region 28 with (fail)
  have a2:=ss (i:=18) (v:=.slice (some (ar wc.heap.size 0)) i.start.length i.start.length) cO.o rfl
  have kk:Keep (fun k=>k=w.heap.size) Wm (Wm.setCell (ar w.heap.size 18) (.slice (some (ar wc.heap.size 0)) i.start.length i.start.length)):=Keep.setCell (S:=fun k=>k=w.heap.size) (Keep.refl _ _) _ (.inr rfl) _
  obtain ⟨V,hV⟩:∃V,Wm.setCell (ar w.heap.size 18) (.slice (some (ar wc.heap.size 0)) i.start.length i.start.length)=V:=⟨_,rfl⟩
  rw [hV] at a2 kk ⊢
  have kV:Keep (fun k=>k=w.heap.size) p V:=(KC.o.trans (Keep.below BM.o)).trans kk
  have hb:=fun {b:Nat} {o:Obj} (h:W0.heap[b]?=some o) (h1:b≠w.heap.size)=>(kV.block b (LN (sb h _ a1.o)) h1).trans (sb h _ a1.o)
  have bd:=hb (H.bx _ (br W0)).2.1 ap
  have bN:=hb (H.bx _ (br W0)).2.2.1 ap
  have b9:=hb (H.bx _ (br W0)).2.2.2.1 ap
  have bA:=hb (H.bx _ (br W0)).2.2.2.2.1 ap
  have bO:=hb (H.bx _ (br W0)).2.2.2.2.2 ap
  have bG:=bh.o.trans (kV.toBelow bh.o.size (fun j Y=>Nat.le_of_eq (Eq.symm Y)))
  have d5:=LN (H.bx _ (br W0)).2.2.2.2.2
  obtain ⟨bl,bs⟩:=ae (kk.own (aE OM.o (show w.heap.size+6<=wc.heap.size by have:=KC.o.size;have:=a1.o.size;omega)) (fun j Y e=>by have h1:=(OM.o.lt j Y).1;have h2:j=w.heap.size:=e;have:=lc;omega)) (kk.own (ay (aE O7.o (show w.heap.size+6<=p.heap.size by have:=a1.o.size;omega)) BM.o) (fun j Y e=>by have h1:=(O7.o.lt j Y).1;have h2:j=w.heap.size:=e;have:=a1.o.size;omega));clear hV ci c8 cM lc lm cv kk kV hb bn
  have co:=LQ V w.heap.size 21 _ _ _ a2
  have bX:=LX V w.heap.size 21 _ _ a2
  have lM:=LN a2
  have cs:=H.wd
  have e9:=ss (i:=21) (v:=MO ((dn:Int)+1)) a2 rfl
  have k9:Keep (fun k=>k=w.heap.size) V (V.setCell (ar w.heap.size 21) (MO ((dn:Int)+1))):=Keep.setCell (S:=fun k=>k=w.heap.size) (Keep.refl _ _) _ (.inr rfl) _
  obtain ⟨E9,K9,cj,cn,cy,cw,cc,d1⟩:=ak e9 k9 bd bN b9 bA bO bG;clear e9 k9 bd bN b9 bA bO bG a2
  go_upto_region 29 with (fail)
  obtain ⟨V9,b8⟩:∃V9,V.setCell (ar w.heap.size 21) (MO ((dn:Int)+1))=V9:=⟨_,rfl⟩
  rw [b8] at E9 K9 ⊢
  clear b8 co bX lM cs
  obtain ⟨b1,b2,b3,b4,b5⟩:=uj K9.o cj.o cn.o cy.o cw.o cc.o
  have hq:aq V9 V9.drew:=(br V9).drew
  refine HA.g (KB3 w.heap.size V9) ?_
  refine HA.ld3 (vs:=#[.slice A i.cfg.sizes.length c,MO i.cfg.shift,MO i.cfg.rate,MO i.cfg.mom,MO i.cfg.workers,MO i.cfg.batch,MO i.cfg.micros,MO i.cfg.steps,MO i.cfg.bucket,MO i.cfg.chunk,MO i.cfg.window,MO i.cfg.cap,.slice D i.data.length cd,.slice T i.start.length ct,.slice R i.draws.length cr,MO (x:Nat),.slice C i.start.length J,.slice B i.start.length I,.slice (some (ar wc.heap.size 0)) i.start.length i.start.length,.slice Q (rl+1) c7,.slice (some (ar bI oI)) il ic,MO (dn+1)]) E9.o b1 b2 dO bP bP (Keep.below hq) ?_
  refine HA.st3 3 4 5 b3 b4 b5 dO bP bP hq (fun w8 r3 r4 e8 q8=>?_)
  refine HA.t ?_ [6] q8 ?_
  refine HA.d ?_
  obtain ⟨R3,R4,R5⟩:=af r3 r4 e8
  have F:=jV K9.o q8 d1.o
  obtain ⟨aP,QW⟩:=ae F.1 F.2;clear b1 b2 b3 b4 b5 e8 q8 r3 r4 hq F
  go_wp2_with fail
  refine L7 (fk rfl rfl rfl rfl R3.o R4.o R5.o dO bP bP) rfl ?_
  have ad:∀j,w.heap.size+6<=j->¬(w.heap.size<=j/\j<w.heap.size+6):=fun j h1 h2=>ap
  have d3:=aP.o.own bl.o (fun j Y=>ad j (bl.o.lt j Y).1)
  have c9:=aP.o.own bs.o (fun j Y=>ad j (bs.o.lt j Y).1)
  have bb:∀k,S k->k<w.heap.size+6:=fun k hk=>by have:=H.S' k hk;omega
  have d2:cH (aF S w8) (some (ar wc.heap.size 0)) (List.replicate i.start.length 0) i.start.length:=⟨by simp,by simp;have:=H.s'.n;omega,iE d3 bb,qE _⟩
  have hX:Ext (aF S w) (aF S w8):=bE (Keep.below QW.o) (fun _ _ h=>h)
  have cL:dA rEx 2 (aF S w8) Q (m.rc++[(m.P,m.M)]):=by
   refine ⟨rows++[[.slice C i.start.length J,.slice B i.start.length I]],?_,by simp [Z2.o],?_,?_⟩
   ·rw [My,List.flatten_cons,List.flatten_nil,List.append_nil];exact gu c9 bb
   ·intro r hr
    rcases MD.1 hr with hr | hr
    ·exact Z3.o r hr
    ·rw [List.mem_singleton.1 hr];rfl
   ·intro j y hy
    have cA:=Z2.o
    rcases Ma j m.rc.length with h | h
    ·rw [Mr h] at hy
     have e:cq (rows++[[Value.slice C i.start.length J,.slice B i.start.length I]]) j=cq rows j:=by simp [cq,Mr (show j<rows.length by omega)]
     rw [e];exact cJ (Z4.o j y hy) hX
    ·have Y:j=m.rc.length:=by have:=(Mp.1 hy).1;simp at this;omega
     subst Y
     simp at hy
     subst hy
     have e:cq (rows++[[Value.slice C i.start.length J,.slice B i.start.length I]]) m.rc.length=[.slice C i.start.length J,.slice B i.start.length I]:=by rw [<-cA];simp [cq]
     rw [e];exact ⟨C,J,B,I,by rw [H.Pl,H.Ml],bH H.P0 hX,bH H.M0 hX⟩
  have hX:Ext (aF S w) (aF S w8):=bE (Keep.below QW.o) (fun _ _ h=>h)
  obtain ⟨aR,bi,bz,bf⟩:=H1.o
  exact ⟨_,_,_,rfl,rfl,rfl,⟨A,c,D,cd,T,ct,R,cr,C,J,B,I,some (ar wc.heap.size 0),i.start.length,Q,c7,some (ar bI oI),ic,by rw [H.il',c6.o,bf,Mo,Mx,d4.o];push_cast;rfl,fu H.I0 hX,by rw [aR];exact bH H.P0 hX,by rw [bi];exact bH H.M0 hX,by rw [bz];exact d2,by rw [bf];exact cL,aV H.It0 hX,by rw [aR];exact H.Pl,by rw [bi];exact H.Ml,by rw [bz];exact (by simp)⟩,⟨B1,c1,rfl,cV H.s0 hX,H.s2⟩,⟨B2,c2,rfl,cV H.t0 hX,H.t2⟩,QW.o⟩
theorem IX {w:World} {vs:Array Value} {i:Inp} {x:Nat} {m:Mst} {s t:LSt} {u v:Array Value} {S:Nat->Prop} (hS:∀k,S k->k<w.heap.size) (h:fY (aF S w) vs i x m) (hu:RL (aF S w) u s) (hv:RL (aF S w) v t) (hs:cK i) (hy:(dQ i x).length<=bD i x m):
  Calls prog 89 #[.agg vs,.agg u,.agg v] w (fun e p=>nj S i x m s t 13 w e p):=by
 obtain ⟨A,c,D,cd,T,ct,R,cr,PA,pc,MA,mc,GA,gc,SA,sc,IA,ic,rfl,U,O,Z,a0,a5,y,a9,aG,a8⟩:=h
 obtain ⟨B1,c1,rfl,L,ad⟩:=hu
 obtain ⟨B2,c2,rfl,a1,b0⟩:=hv
 have B:=eC S w
 have hI:=fu U B
 have hP:=bH O B
 have hM:=bH Z B
 have hG:=bH a0 B
 have hR:dA rEx 2 w SA m.rc:=eA cJ a5 B
 have ab:=aV y B
 have aP:=cV L B
 have aR:=cV a1 B
 have ao:(dQ i x).length<=48000000:=vC hs x (LO _)
 obtain ⟨Y,J⟩:∃Y,bD i x m=Y:=⟨_,rfl⟩
 obtain ⟨il,a6⟩:∃il,(dQ i x).length=il:=⟨_,rfl⟩
 rw [J] at hy ⊢
 rw [a6] at ao hy ⊢
 obtain ⟨W0,aM,g0,g1,g2,g3,g4,g5,k0⟩:=wA w #[.slice A i.cfg.sizes.length c,MO i.cfg.shift,MO i.cfg.rate,MO i.cfg.mom,MO i.cfg.workers,MO i.cfg.batch,MO i.cfg.micros,MO i.cfg.steps,MO i.cfg.bucket,MO i.cfg.chunk,MO i.cfg.window,MO i.cfg.cap,.slice D i.data.length cd,.slice T i.start.length ct,.slice R i.draws.length cr,MO (x:Nat),.slice PA i.start.length pc,.slice MA i.start.length mc,.slice GA i.start.length gc,.slice SA m.rc.length sc,.slice IA il ic,MO (Y:Nat)] #[MO (s.cap:Nat),.slice B1 s.msgs.length c1,MO (s.recv:Nat),MO (s.peak:Nat)] #[MO (t.cap:Nat),.slice B2 t.msgs.length c2,MO (t.recv:Nat),MO (t.peak:Nat)] MR #[MO 0,MP,MO 0,MO 0] #[MO 0,MP,MO 0,MO 0] 106 75
 have bG:∀p,aq W0 p->p.cell? (ar w.heap.size 20)=some (.slice IA il ic):=fun p q=>LQ p w.heap.size 20 _ _ _ (sb g0 p q)
 have bz:∀p,aq W0 p->p.cell? (ar w.heap.size 21)=some (MO (Y:Nat)):=fun p q=>LQ p w.heap.size 21 _ _ _ (sb g0 p q)
 have tl:=sl g0
 have bn:(il:Int)<=Y:=ap
 have b9:¬(Y:Int)<il:=ap
 have q0:=br W0
 obtain ⟨bw,G0,G1,G2,G3,G4,G5,K0⟩:=ak aM g0 g1 g2 g3 g4 g5 k0;obtain ⟨HI,HP,HM,HG,HR,bV,bl,bh⟩:=ak hI hP hM hG hR ab a9 aG;obtain ⟨bA,bO,bf,bM,bi,bo,Hs,bI⟩:=ak a8 aP ad aR b0 a6 hs U;obtain ⟨bd,bs,bv,b7,av,b8,be,HS⟩:=ak O Z a0 a5 y L a1 hS;have bb:=aa J;clear U O Z a0 a5 y L a1 hS B aM g0 g1 g2 g3 g4 g5 k0 hI hP hM hG hR ab a9 aG a8 aP ad aR b0 J a6 hs hy ao
 go_enter func89,ntmps89
 go_upto_region 1 with (fail)
 rw [bw.o]
 go_upto_region 2 with (fail)
 clear bG bz tl q0 bn b9
 have H:=G0.o
 have Q:=G1.o
 have a4:=G2.o
 have N:=G3.o
 have a2:=G4.o
 have a7:=G5.o
 have a3:=K0.o
 obtain ⟨V,hV⟩:∃V,W0=V:=⟨_,rfl⟩
 rw [hV] at H Q a4 N a2 a7 a3 ⊢
 clear hV
 obtain ⟨E9,b6,K9⟩:=af H a3 (Keep.refl (fun k=>k=w.heap.size) V);clear H a3
 have b1:=Q
 have b2:=a4
 have b3:=N
 have b4:=a2
 have b5:=a7
 clear Q a4 N a2 a7
 have q9:Keep (fun k=>k=w.heap.size+1+1+1\/k=w.heap.size+1+1+1+1\/k=w.heap.size+1+1+1+1+1) V V.drew:=(Keep.refl _ _).drew
 refine HA.g (fun p:World=>Keep (fun k=>k=w.heap.size+1+1+1\/k=w.heap.size+1+1+1+1\/k=w.heap.size+1+1+1+1+1) V p) ?_
 refine HA.ld 0 #[.slice A i.cfg.sizes.length c,MO i.cfg.shift,MO i.cfg.rate,MO i.cfg.mom,MO i.cfg.workers,MO i.cfg.batch,MO i.cfg.micros,MO i.cfg.steps,MO i.cfg.bucket,MO i.cfg.chunk,MO i.cfg.window,MO i.cfg.cap,.slice D i.data.length cd,.slice T i.start.length ct,.slice R i.draws.length cr,MO (x:Nat),.slice PA i.start.length pc,.slice MA i.start.length mc,.slice GA i.start.length gc,.slice SA m.rc.length sc,.slice IA il ic,MO (Y:Nat)] (fun p q=>(q.block _ (LN E9.o) ap).trans E9.o) dO q9 ?_
 refine HA.ld 1 #[MO (s.cap:Nat),.slice B1 s.msgs.length c1,MO (s.recv:Nat),MO (s.peak:Nat)] (fun p q=>(q.block _ (LN b1) ap).trans b1) bP q9 ?_
 refine HA.ld 2 #[MO (t.cap:Nat),.slice B2 t.msgs.length c2,MO (t.recv:Nat),MO (t.peak:Nat)] (fun p q=>(q.block _ (LN b2) ap).trans b2) bP q9 ?_
 refine HA.st 3 b3 dO (fun w6 e6 k6=>?_)
 have q6:Keep (fun k=>k=w.heap.size+1+1+1\/k=w.heap.size+1+1+1+1\/k=w.heap.size+1+1+1+1+1) V w6:=q9.trans (k6.mono fun k _ e=>.inl e)
 refine ⟨q6,?_⟩
 have d4:=(k6.block _ (LN b4) ap).trans b4
 have d5:=(k6.block _ (LN b5) ap).trans b5
 refine HA.st 4 d4 bP (fun w7 e7 k7=>?_)
 have q7:Keep (fun k=>k=w.heap.size+1+1+1\/k=w.heap.size+1+1+1+1\/k=w.heap.size+1+1+1+1+1) V w7:=q6.trans (k7.mono fun k _ e=>.inr (.inl e))
 refine ⟨q7,?_⟩
 have f5:=(k7.block _ (LN d5) ap).trans d5
 have f3:=(k7.block _ (LN e6) ap).trans e6
 refine HA.st 5 f5 bP (fun w8 e8 k8=>?_)
 have q8:Keep (fun k=>k=w.heap.size+1+1+1\/k=w.heap.size+1+1+1+1\/k=w.heap.size+1+1+1+1+1) V w8:=q7.trans (k8.mono fun k _ e=>.inr (.inr e))
 refine ⟨q8,?_⟩
 have r3:=(k8.block _ (LN f3) ap).trans f3
 have r4:=(k8.block _ (LN e7) ap).trans e7
 refine HA.t ?_ [6] q8 ?_
 refine HA.d ?_
 obtain ⟨R3,R4,R5⟩:=af r3 r4 e8
 have I:Keep (fun k=>w.heap.size<=k/\k<w.heap.size+6) V w8:=(K9.o.mono fun k _ e=>ap).trans (q8.mono fun k _ e=>by rcases e with e | e | e<;>omega)
 obtain ⟨bN,QW⟩:=ae I (b6.o.trans (I.toBelow b6.o.size (fun j hj=>hj.1)));clear b1 b2 b3 b4 b5 e6 k6 q6 d4 d5 e7 k7 q7 f5 f3 e8 k8 q8 r3 r4 q9 I
 go_wp2_with fail
 refine L7 (fk rfl rfl rfl rfl R3.o R4.o R5.o dO bP bP) rfl ?_
 have C:Ext (aF S w) (aF S w8):=bE (Keep.below QW.o) (fun _ _ h=>h)
 exact ⟨_,_,_,rfl,rfl,rfl,⟨A,c,D,cd,T,ct,R,cr,PA,pc,MA,mc,GA,gc,SA,sc,IA,ic,by rw [bo.o,bb.o],fu bI.o C,bH bd.o C,bH bs.o C,bH bv.o C,eA cJ b7.o C,aV av.o C,bl.o,bh.o,bA.o⟩,⟨B1,c1,rfl,cV b8.o C,bf.o⟩,⟨B2,c2,rfl,cV be.o C,bi.o⟩,QW.o⟩
theorem oQ (i:Inp) (x:Nat) (m:Mst) (y:Itm):(jL i x m y).st=m.st/\(jL i x m y).nx=m.nx:=by
 unfold jL
 split
 ·exact ⟨rfl,rfl⟩
 ·split
  ·exact ⟨rfl,rfl⟩
  ·split<;>exact ⟨rfl,rfl⟩
theorem pW (i:Inp) (x:Nat) (m:Mst):(adv i x m).P=m.P/\(adv i x m).M=m.M/\(adv i x m).G=m.G/\(adv i x m).rc=m.rc:=by
 unfold adv
 split<;>exact ⟨rfl,rfl,rfl,rfl⟩
theorem kF {i:Inp} (hs:cK i) {x:Nat} {m m1:Mst} {y:Itm} (o:(cR i x m.st)[m.nx]?=some y) (h1:m1.st=m.st) (h:m1.nx=m.nx):bD i x (adv i x m1)=bD i x m+1:=by
 have hl:=(Mp.1 o).1
 have e:bD i x m1=bD i x m:=by unfold bD;rw [h1,h]
 unfold adv
 by_cases hc:m1.nx+1<(cR i x m1.st).length
 ·rw [if_pos hc,<-e];exact sD i x m1
 ·rw [if_neg hc,<-e];exact sC hs (by rw [h1,h] at *;omega)
theorem kC {y:Itm} {a:Acn} {k:Nat} (h:y.a=some a) (hk:y.kind=k):bq y=[MO (k:Nat),MO (y.st:Nat),MO (y.n:Nat),.bool a.send,.bool a.add,MO (a.st:Nat),MO (a.bk:Nat),MO (a.ph:Nat),MO (a.rd:Nat),MO (a.ch:Nat),MO (a.at'.1:Nat),MO (a.at'.2:Nat)]:=by
 unfold bq
 rw [h,hk]
 rfl
theorem mU {y:Itm} {k:Nat} (h:y.a=none) (hk:y.kind=k):bq y=[MO (k:Nat),MO (y.st:Nat),MO (y.n:Nat),.bool false,.bool false,MO 0,MO 0,MO 0,MO 0,MO 0,MO 0,MO 0]:=by
 unfold bq
 rw [h,hk]
 rfl
theorem IW {w:World} {vs:Array Value} {i:Inp} {x:Nat} {m m1:Mst} {s t s1 t1:LSt} {u v:Array Value} {S:Nat->Prop} {C:Nat} (H:∀k,S k->k<w.heap.size) (h:fY (aF S w) vs i x m) (D:RL (aF S w) u s) (I:RL (aF S w) v t) (hs:cK i) (hm:MOk i x m) (a0:IB i x s) (Q:t.recv<=t.msgs.length)
  (N:s.msgs.length<=100000000000) (V:t.msgs.length<=100000000000) (a1:x<i.cfg.workers.toNat) (hr:jI i x m s t m1 s1 t1 C):
  Calls prog 89 #[.agg vs,.agg u,.agg v] w (fun e O=>nj S i x m1 s1 t1 (C:Nat) w e O):=by
 have B:∀{y:Itm} {ac:Acn},(cR i x m.st)[m.nx]?=some y->y.a=some ac->ac.at'.1<ac.at'.2/\ac.at'.2<=i.start.length:=fun o A=>Ar hs.ok (dF o).2 A
 have p:=hm.cur hs
 cases hr with
 | fin hf=>
  rw [List.getElem?_eq_none hf] at p
  exact IX H h D I hs (List.getElem?_eq_none_iff.1 p.symm)
 | own y o A=>
  have Y:=hm.okAt hs o A
  obtain ⟨c1,c2⟩:=dF o
  have a2:=vx o
  have J:=p.symm.trans o
  obtain ⟨aP,aM,aG,aR⟩:=pW i x (jL i x m y)
  have Z:bD i x (adv i x (jL i x m y))=bD i x m+1:=kF hs o (oQ i x m y).1 (oQ i x m y).2
  rcases Y.1 with k | k | k | k
  ·refine Fl H h D I hs J _ _ _ _ _ _ _ _ _ _ _ (mU A k) y.st y.n rfl rfl (by rw [a2];exact c1) (rV c2 k) a1 _ ?_ Z
   rw [aP,aM,aG,aR];unfold jL;rw [if_pos k];exact ⟨rfl,rfl,rfl,rfl⟩
  ·refine zb H h D I hs J _ _ _ _ _ _ _ _ _ _ _ (mU A k) _ ?_ Z
   rw [aP,aM,aG,aR];unfold jL;rw [if_neg ap,if_pos k];exact ⟨rfl,rfl,rfl,rfl⟩
  ·obtain ⟨g,hg,g1,g2⟩:=ul c2 (.inr k)
   obtain ⟨j,hj,rfl⟩:=List.getElem_of_mem hg
   have a3:=hs.ok.grp hj
   rw [cN _ _ hj] at a3
   have T:y.n<(aB i).buks.length:=ap
   have L:=T
   rw [Pln.buks,kD] at L
   obtain ⟨b1,b2,b3⟩:=If hs.ok.bu L
   have R:aL (aB i).buks y.n=(bB (aB i).n (aB i).bu (y.n+1),bB (aB i).n (aB i).bu y.n):=b1
   refine yZ H h D I hs J _ _ _ _ _ _ _ _ _ _ _ (mU A k) y.n _ _ rfl T R b2 b3 _ ?_ Z
   rw [aP,aM,aG,aR];unfold jL;rw [if_neg ap,if_neg ap,if_pos k,R];exact ⟨rfl,rfl,rfl,rfl⟩
  ·refine za H h D I hs J _ _ _ _ _ _ _ _ _ _ _ (mU A k) (Y.2.2.2 k) _ ?_ Z
   rw [aP,aM,aG,aR];unfold jL;rw [if_neg ap,if_neg ap,if_neg ap];exact ⟨rfl,rfl,rfl,rfl⟩
 | send y ac o A hk hroom=>
  exact Fi H h D I hs (p.symm.trans o) _ _ _ _ _ _ _ _ _ _ _ (kC A hk) _ _ rfl rfl (B o A).1 (B o A).2 Q V hroom _ (pW i x m) (kF hs o rfl rfl)
 | full y ac o A hk hf=>
  exact Fk H h D I hs (p.symm.trans o) _ _ _ _ _ _ _ _ _ _ _ (kC A hk) _ _ rfl rfl (B o A).1 (B o A).2 Q V ap _ ⟨rfl,rfl,rfl,rfl⟩ rfl
 | recv y ac o A hk hlt heq=>
  have U:=a0.len hs (dF o).1 (dF o).2 A (pO (dF o).2 A hk) hlt heq
  exact Fj H h D I hs (p.symm.trans o) _ _ _ _ _ _ _ _ _ _ _ (kC A hk) _ _ rfl (Nat.le_of_lt (B o A).1) (B o A).2 N hlt heq U.1 U.2 _ (pW i x _) (kF hs o rfl rfl)
 | none y ac o A hk h0=>
  refine rx H h D I hs (p.symm.trans o) _ _ _ _ _ _ _ _ _ _ _ (kC A hk) 12 (by decide) (fun B1 c1 O hB=>?_) _ ⟨rfl,rfl,rfl,rfl⟩ rfl
  have:=sU s.cap B1 s.msgs.length c1 s.peak ac.tg O N
  rw [h0]
  exact this
 | other y ac o A hk hlt hne=>
  exact rx H h D I hs (p.symm.trans o) _ _ _ _ _ _ _ _ _ _ _ (kC A hk) 10 (by decide) (fun B1 c1 O hB=>ww s.cap B1 s.msgs c1 s.recv s.peak ac.tg O hB hlt N hne) _ ⟨rfl,rfl,rfl,rfl⟩ rfl
def Cor.tg (c:Cor):Tg:=⟨c.st,c.bk,c.ph,c.rd,c.ch⟩
theorem G9 (a:Acn):a.cor.tg=a.tg:=rfl
structure WSt where
 m:Nat->Mst
 s:Nat->LSt
def aZ {α:Type} (f:Nat->α) (k:Nat) (v:α) (y:Nat):α:=if y=k then v else f y
theorem bJ {α:Type} (f:Nat->α) (k:Nat) (v:α):aZ f k v k=v:=if_pos rfl
theorem bC {α:Type} (f:Nat->α) {k y:Nat} (v:α) (h:y≠k):aZ f k v y=f y:=if_neg h
theorem jb {α:Type} (f:Nat->α) (k:Nat):aZ f k (f k)=f:=by
 funext y
 unfold aZ
 split
 ·next h=>rw [h]
 ·rfl
def WSt.pos (i:Inp) (M:WSt) (x:Nat):Nat:=bD i x (M.m x)
structure WOk (i:Inp) (M:WSt):Prop where
 mok:∀x,x<(aB i).W->MOk i x (M.m x)
 lok:∀x,x<(aB i).W->(M.s x).cap=i.cfg.cap.toNat/\(M.s x).recv<=(M.s x).msgs.length/\(M.s x).msgs.length<=(M.s x).recv+i.cfg.cap.toNat/\(M.s x).peak<=i.cfg.cap.toNat
 sn:∀x,x<(aB i).W->(M.s x).msgs.length=sN i x (M.pos i x)
 rn:∀x,x<(aB i).W->(M.s x).recv=rN i (nxW (aB i).W x) (M.pos i (nxW (aB i).W x))
 tg:∀x,x<(aB i).W->∀j,j<(M.s x).msgs.length->∃c,(gP (dQ i x))[j]?=some c/\(aK (M.s x).msgs j).tag=c.tg/\(aK (M.s x).msgs j).vals.length=c.at'.2-c.at'.1/\W64 (aK (M.s x).msgs j).vals
def Pk (i:Inp) (M:WSt) (x:Nat) (M1:WSt) (C:Nat):Prop:=
 ∃m1 s1 t1,jI i x (M.m x) (M.s (pvW (aB i).W x)) (M.s x) m1 s1 t1 C/\M1=⟨aZ M.m x m1,aZ (aZ M.s (pvW (aB i).W x) s1) x t1⟩
theorem tr {l:List Itm} {p:Nat} {y:Itm} (h:l[p]?=some y):l.take (p+1)=l.take p++[y]:=by
 rw [List.take_add_one,h];rfl
theorem uX {i:Inp} {x p:Nat} {y:Itm} (h:(dQ i x)[p]?=some y):sN i x (p+1)=sN i x p+(if y.kind=3 then 1 else 0):=by
 unfold sN
 rw [tr h,tw,Mo]
 congr 1
 rcases yb (List.mem_of_getElem? h) with ⟨u,v,_⟩ | ⟨a,o,hk⟩
 ·rw [if_neg v];unfold gP gh;simp [u]
 ·cases hs:a.send<;>rw [hs] at hk<;>rw [hk]<;>unfold gP gh<;>simp [o,hs]
theorem vf {i:Inp} {x p:Nat} {y:Itm} (h:(dQ i x)[p]?=some y):rN i x (p+1)=rN i x p+(if y.kind=4 then 1 else 0):=by
 unfold rN
 rw [tr h,tH,Mo]
 congr 1
 rcases yb (List.mem_of_getElem? h) with ⟨u,_,v⟩ | ⟨a,o,hk⟩
 ·rw [if_neg v];unfold iD gh;simp [u]
 ·cases hs:a.send<;>rw [hs] at hk<;>rw [hk]<;>unfold iD gh<;>simp [o,hs]
theorem Lb {W x:Nat} (h:x<W):pvW W (nxW W x)=x:=by
 unfold nxW pvW
 rcases Ma (x+1) W with h1 | h1
 ·rw [Nat.mod_eq_of_lt h1,show x+1+W-1=x+W by omega,Nat.add_mod_right,Nat.mod_eq_of_lt h]
 ·have e:x+1=W:=ap
  rw [e,Nat.mod_self,show 0+W-1=x by omega,Nat.mod_eq_of_lt h]
theorem Fo {W x:Nat} (h:x<W) (i:2<=W):pvW W x≠x:=by
 unfold pvW
 rcases Nat.eq_zero_or_pos x with e | e
 ·subst e
  rw [show 0+W-1=W-1 by omega,Nat.mod_eq_of_lt ap]
  omega
 ·rw [show x+W-1=(x-1)+W by omega,Nat.add_mod_right,Nat.mod_eq_of_lt ap]
  omega
theorem BH {p:Pln} {x st:Nat} {a:Acn} (h:a∈gh (aI p x st)):2<=p.W:=by
 rw [uD] at h
 simp only [yd,ye,List.mem_flatMap,List.mem_range] at h
 obtain ⟨_,_,_,_,r,hr,_⟩:=h
 omega
theorem sO {l:List Itm} {y:Itm} {a:Acn} (h:y∈l) (i:y.a=some a):a∈gh l:=by
 unfold gh
 exact List.mem_filterMap.2 ⟨y,h,i⟩
theorem JC {i:Inp} {x:Nat} {a:Acn} (h:a∈gh (dQ i x)):∃st,st<i.cfg.steps.toNat/\a∈gh (aI (aB i) x st):=by
 unfold gh at h
 obtain ⟨y,p,u⟩:=List.mem_filterMap.1 h
 obtain ⟨st,o,p⟩:=List.mem_flatMap.1 p
 exact ⟨st,List.mem_range.1 o,sO p u⟩
section
variable {i:Inp} {M M1:WSt} {x C:Nat}
theorem WOk.msgI (h:WOk i M) (H:x<(aB i).W):IB i x (M.s (pvW (aB i).W x)):=fun j v=>by
 have u:pvW (aB i).W x<(aB i).W:=lZ ap
 obtain ⟨c,h1,A,D,B⟩:=h.tg _ u j v
 refine ⟨B,.inr ?_⟩
 have e:=wW i (pvW (aB i).W x) i.cfg.steps.toNat
 rw [show (pvW (aB i).W x+1)%(aB i).W=x from Be H] at e
 rw [show gP (dQ i (pvW (aB i).W x))=iD (dQ i x) from e] at h1
 obtain ⟨a,o,hs,hc⟩:=CO h1
 obtain ⟨st,_,o⟩:=JC o
 unfold gh at o
 obtain ⟨y,C,p⟩:=List.mem_filterMap.1 o
 rw [D,A,<-hc,G9,<-Iu C p hs]
 rfl
theorem WOk.cur (h:WOk i M) (hs:cK i) (o:x<(aB i).W):(cR i x (M.m x).st)[(M.m x).nx]?=(dQ i x)[M.pos i x]?:=(h.mok x o).cur hs
theorem WOk.pick (h:WOk i M) (hs:cK i) (o:x<(aB i).W):∃M1 C,Pk i M x M1 C:=by
 have p:pvW (aB i).W x<(aB i).W:=lZ ap
 obtain ⟨m1,s1,t1,C,u⟩:=BS i x (M.m x) (M.s (pvW (aB i).W x)) (M.s x) (h.lok _ p).2.1 (by rw [(h.lok x o).1];exact (h.lok x o).2.2.1)
 exact ⟨_,C,m1,s1,t1,u,rfl⟩
theorem ou (i:Inp) (M:WSt) (x:Nat) (m1:Mst) (S:Nat->LSt) (z:Nat):(⟨aZ M.m x m1,S⟩:WSt).pos i z=if z=x then bD i x m1 else M.pos i z:=by
 unfold WSt.pos
 show bD i z (aZ M.m x m1 z)=_
 by_cases e:z=x
 ·subst e;rw [if_pos rfl,bJ]
 ·rw [if_neg e,bC _ _ e]
theorem Ey (M:WSt) (x p:Nat):(⟨aZ M.m x (M.m x),aZ (aZ M.s p (M.s p)) x (M.s x)⟩:WSt)=M:=by
 rw [jb,jb,jb]
theorem WOk.own (h:WOk i M) (C:x<(aB i).W) {m1:Mst} {y:Itm} (u:(dQ i x)[M.pos i x]?=some y) (hm:MOk i x m1) (v:bD i x m1=M.pos i x+1) (B:y.kind≠3) (A:y.kind≠4):WOk i ⟨aZ M.m x m1,M.s⟩:=by
 have o:∀z,(⟨aZ M.m x m1,M.s⟩:WSt).pos i z=if z=x then M.pos i x+1 else M.pos i z:=fun z=>by rw [ou,v]
 refine ⟨fun z p=>?_,h.lok,fun z p=>?_,fun z p=>?_,h.tg⟩
 ·by_cases e:z=x
  ·subst e;show MOk i z (aZ M.m z m1 z);rw [bJ];exact hm
  ·show MOk i z (aZ M.m x m1 z);rw [bC _ _ e];exact h.mok z p
 ·rw [o z]
  by_cases e:z=x
  ·subst e;rw [if_pos rfl,uX u,if_neg B];exact h.sn z p
  ·rw [if_neg e];exact h.sn z p
 ·rw [o]
  by_cases e:nxW (aB i).W z=x
  ·rw [if_pos e,e,vf u,if_neg A];have:=h.rn z p;rw [e] at this;exact this
  ·rw [if_neg e];exact h.rn z p
theorem Pk.ok (hp:Pk i M x M1 C) (h:WOk i M) (hs:cK i) (L:x<(aB i).W) (hw:W64 (M.m x).G):
  WOk i M1/\(C=0->M1.pos i x=M.pos i x+1/\(∀z,z≠x->M1.m z=M.m z)/\M.pos i x<(dQ i x).length)/\(C≠0->M1=M)/\(C=0↔can i i.cfg.cap.toNat (M.pos i) x):=by
 obtain ⟨m1,s1,t1,ht,rfl⟩:=hp
 have N:pvW (aB i).W x<(aB i).W:=lZ ap
 have a9:nxW (aB i).W x<(aB i).W:=Kg ap
 have u:=h.cur hs L
 have B:=ht.ok hs (h.mok x L)
 have O:=h.sn x L
 have I:=h.rn _ N
 rw [Be L] at I
 have a1:=h.rn x L
 have a0:=h.sn _ N
 have a7:=(h.lok x L).1
 have A:∀{C:Nat},C≠0->¬can i i.cfg.cap.toNat (M.pos i) x->WOk i ⟨aZ M.m x (M.m x),aZ (aZ M.s (pvW (aB i).W x) (M.s (pvW (aB i).W x))) x (M.s x)⟩/\(C=0->(⟨aZ M.m x (M.m x),aZ (aZ M.s (pvW (aB i).W x) (M.s (pvW (aB i).W x))) x (M.s x)⟩:WSt).pos i x=M.pos i x+1/\(∀z,z≠x->(⟨aZ M.m x (M.m x),aZ (aZ M.s (pvW (aB i).W x) (M.s (pvW (aB i).W x))) x (M.s x)⟩:WSt).m z=M.m z)/\M.pos i x<(dQ i x).length)/\(C≠0->(⟨aZ M.m x (M.m x),aZ (aZ M.s (pvW (aB i).W x) (M.s (pvW (aB i).W x))) x (M.s x)⟩:WSt)=M)/\(C=0↔can i i.cfg.cap.toNat (M.pos i) x):=fun hC hn=>by
  rw [Ey]
  exact ⟨h,fun e=>absurd e hC,fun _=>rfl,⟨fun e=>absurd e hC,fun e=>absurd e hn⟩⟩
 have go:∀{y:Itm} {M1:WSt},(dQ i x)[M.pos i x]?=some y->WOk i M1->M1.m=aZ M.m x m1->bD i x m1=M.pos i x+1->can i i.cfg.cap.toNat (M.pos i) x->WOk i M1/\((0:Nat)=0->M1.pos i x=M.pos i x+1/\(∀z,z≠x->M1.m z=M.m z)/\M.pos i x<(dQ i x).length)/\((0:Nat)≠0->M1=M)/\((0:Nat)=0↔can i i.cfg.cap.toNat (M.pos i) x):=fun o a6 hm H hc=>
  ⟨a6,fun _=>⟨by unfold WSt.pos;rw [hm,bJ];exact H,fun z p=>by rw [hm,bC _ _ p],(Mp.1 o).1⟩,fun e=>absurd rfl e,⟨fun _=>hc,fun _=>rfl⟩⟩
 cases ht with
 | fin hf=>
  refine A (by decide) ?_
  rintro ⟨y,o,_⟩
  rw [<-u,List.getElem?_eq_none hf] at o
  cases o
 | own y o ha=>
  have hk:=qv (dF o).2 ha
  have H:bD i x (adv i x (jL i x (M.m x) y))=M.pos i x+1:=kF hs o (oQ i x (M.m x) y).1 (oQ i x (M.m x) y).2
  rw [u] at o
  rw [jb,jb]
  exact go o (h.own L o B H ap ap) rfl H ⟨y,o,fun e=>absurd e ap,fun e=>absurd e ap⟩
 | send y a o ha hk hroom=>
  have D:=dF o
  have H:bD i x (adv i x (M.m x))=M.pos i x+1:=kF hs o rfl rfl
  have a8:=Ar hs.ok D.2 ha
  rw [u] at o
  have a3:a.send=true:=by
   have:=(jk D.2 ha).1
   cases e:a.send with
   | true=>rfl
   | false=>rw [e,hk] at this;cases this
  rw [jb]
  obtain ⟨l1,l2,l3,l4⟩:=h.lok x L
  have J:(⟨aZ M.m x (adv i x (M.m x)),M.s⟩:WSt).pos i x=M.pos i x+1:=by rw [ou,if_pos rfl];exact H
  have v:∀z (S:Nat->LSt),z≠x->(⟨aZ M.m x (adv i x (M.m x)),S⟩:WSt).pos i z=M.pos i z:=fun z S e=>by rw [ou,if_neg e]
  refine go o ⟨fun z p=>?_,fun z p=>?_,fun z p=>?_,fun z p=>?_,fun z p j U=>?_⟩ rfl H ⟨y,o,fun _=>by rw [<-O,<-a1];omega,fun e=>ap⟩
  ·by_cases e:z=x
   ·subst e;show MOk i z (aZ M.m z _ z);rw [bJ];exact B
   ·show MOk i z (aZ M.m x _ z);rw [bC _ _ e];exact h.mok z p
  ·by_cases e:z=x
   ·subst e
    rw [show (⟨aZ M.m z (adv i z (M.m z)),aZ M.s z ((M.s z).send ⟨a.tg,((M.m z).G.drop a.at'.1).take (a.at'.2-a.at'.1)⟩)⟩:WSt).s z=(M.s z).send ⟨a.tg,((M.m z).G.drop a.at'.1).take (a.at'.2-a.at'.1)⟩ from bJ _ _ _]
    refine ⟨l1,?_,?_,?_⟩
    ·show (M.s z).recv<=((M.s z).msgs++[_]).length;rw [Mo];omega
    ·show ((M.s z).msgs++[_]).length<=(M.s z).recv+_;rw [Mo];simp only [Mx];omega
    ·show max (M.s z).peak ((M.s z).msgs.length+1-(M.s z).recv)<=_;omega
   ·rw [show (⟨aZ M.m x (adv i x (M.m x)),aZ M.s x ((M.s x).send ⟨a.tg,((M.m x).G.drop a.at'.1).take (a.at'.2-a.at'.1)⟩)⟩:WSt).s z=M.s z from bC _ _ e];exact h.lok z p
  ·by_cases e:z=x
   ·subst e
    rw [show (⟨aZ M.m z (adv i z (M.m z)),aZ M.s z ((M.s z).send ⟨a.tg,((M.m z).G.drop a.at'.1).take (a.at'.2-a.at'.1)⟩)⟩:WSt).s z=(M.s z).send ⟨a.tg,((M.m z).G.drop a.at'.1).take (a.at'.2-a.at'.1)⟩ from bJ _ _ _]
    rw [show (⟨aZ M.m z (adv i z (M.m z)),aZ M.s z ((M.s z).send ⟨a.tg,((M.m z).G.drop a.at'.1).take (a.at'.2-a.at'.1)⟩)⟩:WSt).pos i z=M.pos i z+1 from J,uX o,if_pos hk,<-O]
    simp [LSt.send]
   ·rw [show (⟨aZ M.m x (adv i x (M.m x)),aZ M.s x ((M.s x).send ⟨a.tg,((M.m x).G.drop a.at'.1).take (a.at'.2-a.at'.1)⟩)⟩:WSt).s z=M.s z from bC _ _ e,v z _ e];exact h.sn z p
  ·have hr:((⟨aZ M.m x (adv i x (M.m x)),aZ M.s x ((M.s x).send ⟨a.tg,((M.m x).G.drop a.at'.1).take (a.at'.2-a.at'.1)⟩)⟩:WSt).s z).recv=(M.s z).recv:=by
    by_cases e:z=x
    ·subst e;show (aZ M.s z _ z).recv=_;rw [bJ];rfl
    ·show (aZ M.s x _ z).recv=_;rw [bC _ _ e]
   rw [hr,h.rn z p]
   by_cases e:nxW (aB i).W z=x
   ·rw [e,show (⟨aZ M.m x (adv i x (M.m x)),aZ M.s x ((M.s x).send ⟨a.tg,((M.m x).G.drop a.at'.1).take (a.at'.2-a.at'.1)⟩)⟩:WSt).pos i x=M.pos i x+1 from J,vf o,if_neg ap];rfl
   ·rw [v _ _ e]
  ·by_cases e:z=x
   ·subst e
    have e1:((⟨aZ M.m z (adv i z (M.m z)),aZ M.s z ((M.s z).send ⟨a.tg,((M.m z).G.drop a.at'.1).take (a.at'.2-a.at'.1)⟩)⟩:WSt).s z).msgs=(M.s z).msgs++[⟨a.tg,((M.m z).G.drop a.at'.1).take (a.at'.2-a.at'.1)⟩]:=by
     show (aZ M.s z _ z).msgs=_;rw [bJ];rfl
    rw [e1] at U ⊢
    rw [zq]
    by_cases hl:j<(M.s z).msgs.length
    ·rw [if_pos hl];exact h.tg z p j hl
    ·rw [Mo,Mx] at U
     have Z:j=(M.s z).msgs.length:=ap
     rw [if_neg hl,if_pos Z]
     refine ⟨a.cor,?_,rfl,?_,fun k hk=>?_⟩
     ·rw [Z,O];exact Ez o ha a3
     ·show (((M.m z).G.drop a.at'.1).take (a.at'.2-a.at'.1)).length=a.at'.2-a.at'.1
      rw [Mt,Mw,(h.mok z p).lG]
      have:(aB i).n=i.start.length:=rfl
      omega
     ·have a4:k<a.at'.2-a.at'.1:=LV hk (by show (((M.m z).G.drop a.at'.1).take (a.at'.2-a.at'.1)).length<=_;rw [Mt];omega)
      show _<=nth (((M.m z).G.drop a.at'.1).take (a.at'.2-a.at'.1)) k/\nth (((M.m z).G.drop a.at'.1).take (a.at'.2-a.at'.1)) k<=_
      rw [ff a4,fg]
      exact hw.nth _
   ·rw [show (⟨aZ M.m x (adv i x (M.m x)),aZ M.s x ((M.s x).send ⟨a.tg,((M.m x).G.drop a.at'.1).take (a.at'.2-a.at'.1)⟩)⟩:WSt).s z=M.s z from bC _ _ e] at U ⊢;exact h.tg z p j U
 | full y a o ha hk hf=>
  refine A (by decide) ?_
  rintro ⟨y',T,V,_⟩
  rw [u,T] at o
  injection o with o;subst o
  have:=V hk
  rw [<-O,<-a1] at this
  omega
 | recv y a o ha hk hlt heq=>
  have D:=dF o
  have H:bD i x (adv i x {M.m x with G:=kh (M.m x).G a.at'.1 (aK (M.s (pvW (aB i).W x)).msgs (M.s (pvW (aB i).W x)).recv).vals a.add})=M.pos i x+1:=kF hs o rfl rfl
  have h2:2<=(aB i).W:=BH (sO D.2 ha)
  have a2:=Fo L h2
  rw [u] at o
  obtain ⟨m1,a5⟩:∃m1,adv i x {M.m x with G:=kh (M.m x).G a.at'.1 (aK (M.s (pvW (aB i).W x)).msgs (M.s (pvW (aB i).W x)).recv).vals a.add}=m1:=⟨_,rfl⟩
  rw [a5] at H B go ⊢
  obtain ⟨S,hS⟩:∃S,aZ (aZ M.s (pvW (aB i).W x) {M.s (pvW (aB i).W x) with recv:=(M.s (pvW (aB i).W x)).recv+1}) x (M.s x)=S:=⟨_,rfl⟩
  have R:S (pvW (aB i).W x)={M.s (pvW (aB i).W x) with recv:=(M.s (pvW (aB i).W x)).recv+1}:=by rw [<-hS,bC _ _ a2,bJ]
  have Q:∀z,z≠pvW (aB i).W x->S z=M.s z:=fun z e=>by
   rw [<-hS]
   by_cases e2:z=x
   ·subst e2;rw [bJ]
   ·rw [bC _ _ e2,bC _ _ e]
  have Y:∀z,(S z).msgs=(M.s z).msgs:=fun z=>by
   by_cases e:z=pvW (aB i).W x
   ·rw [e,R]
   ·rw [Q z e]
  rw [hS]
  have J:(⟨aZ M.m x m1,S⟩:WSt).pos i x=M.pos i x+1:=by rw [ou,if_pos rfl];exact H
  have v:∀z,z≠x->(⟨aZ M.m x m1,S⟩:WSt).pos i z=M.pos i z:=fun z e=>by rw [ou,if_neg e]
  refine go o ⟨fun z p=>?_,fun z p=>?_,fun z p=>?_,fun z p=>?_,fun z p j U=>?_⟩ rfl H ⟨y,o,fun e=>ap,fun _=>by rw [<-I,<-a0];exact hlt⟩
  ·by_cases e:z=x
   ·subst e;show MOk i z (aZ M.m z _ z);rw [bJ];exact B
   ·show MOk i z (aZ M.m x _ z);rw [bC _ _ e];exact h.mok z p
  ·by_cases e:z=pvW (aB i).W x
   ·obtain ⟨l1,l2,l3,l4⟩:=h.lok _ N
    rw [show (⟨aZ M.m x m1,S⟩:WSt).s z=S z from rfl,e,R]
    exact ⟨l1,hlt,by show (M.s (pvW (aB i).W x)).msgs.length<=(M.s (pvW (aB i).W x)).recv+1+_;omega,l4⟩
   ·rw [show (⟨aZ M.m x m1,S⟩:WSt).s z=S z from rfl,Q z e];exact h.lok z p
  ·show (S z).msgs.length=_
   rw [Y,h.sn z p]
   by_cases e:z=x
   ·subst e;rw [J,uX o,if_neg ap];rfl
   ·rw [v z e]
  ·show (S z).recv=_
   by_cases e:z=pvW (aB i).W x
   ·rw [e,R,Be L,J,vf o,if_pos hk]
    show _+1=_
    rw [I]
   ·have e2:nxW (aB i).W z≠x:=fun e3=>e (by rw [<-e3,Lb p])
    rw [Q z e,v _ e2];exact h.rn z p
  ·have e:(⟨aZ M.m x m1,S⟩:WSt).s z=S z:=rfl
   rw [e,Y] at U ⊢
   exact h.tg z p j U
 | none y a o ha hk h0=>
  refine A (by decide) ?_
  rintro ⟨y',T,_,h4⟩
  rw [u,T] at o
  injection o with o;subst o
  have:=h4 hk
  rw [<-a0,<-I] at this
  omega
 | other y a o ha hk hlt hne=>
  exfalso
  have D:=dF o
  rw [u] at o
  obtain ⟨c,h1,h2,_⟩:=h.tg _ N _ hlt
  have e:=wW i (pvW (aB i).W x) i.cfg.steps.toNat
  rw [show (pvW (aB i).W x+1)%(aB i).W=x from Be L] at e
  rw [show gP (dQ i (pvW (aB i).W x))=iD (dQ i x) from e,I] at h1
  have V:=Fg o ha (pO D.2 ha hk)
  rw [show (iD (List.take (M.pos i x) (dQ i x))).length=rN i x (M.pos i x) from rfl,h1] at V
  injection V with V
  rw [h2,V,G9] at hne
  exact hne rfl
end
def kK (i:Inp):WSt:=⟨fun _=>fB i,fun _=>LSt.new i.cfg.cap.toNat⟩
theorem WOk.zero (i:Inp):WOk i (kK i):=by
 refine ⟨fun x _=>MOk.zero x,fun x _=>⟨rfl,LO _,LS _,LS _⟩,fun x _=>?_,fun x _=>?_,fun x _ j h=>by simp [kK,LSt.new] at h⟩
 ·show 0=sN i x (bD i x (fB i))
  rw [show bD i x (fB i)=0 by simp [bD,fB]]
  rfl
 ·show 0=rN i _ (bD i _ (fB i))
  rw [show bD i (nxW (aB i).W x) (fB i)=0 by simp [bD,fB]]
  rfl
structure WAd where
 X:Nat
 b:Nat->Nat
 l:Nat->Nat
 a:Nat->MAd
 g:Nat->Option Nat
def WAd.mu (D:WAd) (x k:Nat):Prop:=Mut (D.b x) (D.a x) k
def WAd.li (D:WAd) (x k:Nat):Prop:=dL (D.l x) (D.g x) k
def WAd.all (D:WAd) (n k:Nat):Prop:=k=D.X\/∃x,x<n/\(D.mu x k\/D.li x k)
def WAd.oth (D:WAd) (n:Nat) (E:Nat->Prop) (x k:Nat):Prop:=(D.all n k\/E k)/\¬D.mu x k
structure gi (E:Nat->Prop) (i:Inp) (w:World) (D:WAd) (B:Nat) (M:WSt):Prop where
 mach:∀x,x<(aB i).W->aT (D.oth (aB i).W E x) w (D.b x) i x (D.a x) (M.m x)
 lnk:∀x,x<(aB i).W->aW w B (D.l x) (D.g x) (M.s x)
 mm:∀x y k,x<(aB i).W->y<(aB i).W->D.mu x k->D.mu y k->x=y
 ml:∀x y k,x<(aB i).W->y<(aB i).W->D.mu x k->¬D.li y k
 ll:∀x y k,x<(aB i).W->y<(aB i).W->D.li x k->D.li y k->x=y
 xm:∀x,x<(aB i).W->¬D.mu x D.X/\¬D.li x D.X
 lo:∀x,x<(aB i).W->D.b x<B/\(D.a x).bp<B/\(D.a x).bm<B/\(D.a x).bg<B
 hB:B<=w.heap.size
 xl:D.X<w.heap.size
 ne:∀k,E k->¬D.all (aB i).W k
 ex:∀k,E k->k<w.heap.size
section
variable {E E':Nat->Prop} {i:Inp} {w w':World} {D:WAd} {B:Nat} {M:WSt} {x:Nat}
theorem gi.lt (h:gi E i w D B M):∀k,D.all (aB i).W k->k<w.heap.size:=by
 rintro k (rfl | ⟨x,o,e | e⟩)
 ·exact h.xl
 ·exact (h.mach x o).mlt k e
 ·exact (h.lnk x o).lt k e
theorem gi.more (h:gi E i w D B M) (hb:aq w w') (he:∀k,E' k->k<w'.heap.size/\(E k\/w.heap.size<=k)):gi E' i w' D B M:=
 ⟨fun x o=>(h.mach x o).step (Keep.below hb) (fun k hk e=>⟨e.1.imp id fun e=>(he k e).2.elim id fun e=>absurd hk ap,e.2⟩) (fun k hm e=>e.2 hm),fun x o=>(h.lnk x o).below hb,h.mm,h.ml,h.ll,h.xm,h.lo,LU h.hB hb.size,LV h.xl hb.size,
  fun k e=>(he k e).2.elim (h.ne k) fun e p=>by have:=h.lt k p;omega,fun k e=>(he k e).1⟩
theorem gi.below (h:gi E i w D B M) (hb:aq w w'):gi E i w' D B M:=h.more hb fun k e=>⟨LV (h.ex k e) hb.size,.inl e⟩
theorem gi.keepQ (h:gi E i w D B M) {Q:Nat->Prop} (hk:Keep Q w w') (p:∀k,Q k->k=D.X\/E k) (he:∀(j:Nat) (c:Array Value),w.heap[j]?=some (.cells c 2 (0,0))->B<=j->¬Q j):gi E i w' D B M:=
 ⟨fun x o=>(h.mach x o).step (hk.mono fun k _ e=>⟨(p k e).imp .inl id,fun hm=>(p k e).elim (fun e=>(h.xm x o).1 (e▸hm)) fun e=>h.ne k e (.inr ⟨x,o,.inl hm⟩)⟩) (fun k _ e=>e) (fun k hm e=>e.2 hm),
  fun x o=>(h.lnk x o).keep hk (fun e=>(p _ e).elim (fun e=>(h.xm x o).2 (e▸.inl rfl)) fun e=>h.ne _ e (.inr ⟨x,o,.inr (.inl rfl)⟩)) (fun j u e=>(p _ e).elim (fun e=>(h.xm x o).2 (e▸.inr u)) fun e=>h.ne _ e (.inr ⟨x,o,.inr (.inr u)⟩)) he,
  h.mm,h.ml,h.ll,h.xm,h.lo,LU h.hB hk.size,LV h.xl hk.size,h.ne,fun k e=>LV (h.ex k e) hk.size⟩
def WAd.rest (D:WAd) (n:Nat) (E:Nat->Prop) (x k:Nat):Prop:=(D.all n k\/E k)/\¬D.mu x k/\¬D.li (pvW n x) k/\¬D.li x k
theorem gi.wld (h:gi E i w D B M) (o:x<(aB i).W) (y:2<=(aB i).W):Wld (D.rest (aB i).W E x) B w (D.b x) (D.l (pvW (aB i).W x)) (D.l x) i x (D.a x) (M.m x) (M.s (pvW (aB i).W x)) (M.s x) (D.g (pvW (aB i).W x)) (D.g x):=by
 have p:pvW (aB i).W x<(aB i).W:=lZ ap
 have v:=Fo o y
 refine ⟨(h.mach x o).step (Keep.refl _ _) ?_ ?_,?_,h.lnk _ p,h.lnk x o,fun k e u=>v (h.ll _ _ k p o e u),h.lo x o,h.hB,?_,?_⟩
 ·rintro k _ ((e | e) | e)
  ·exact ⟨.inl (.inr ⟨_,p,.inr e⟩),fun hm=>h.ml _ _ k o p hm e⟩
  ·exact ⟨.inl (.inr ⟨_,o,.inr e⟩),fun hm=>h.ml _ _ k o o hm e⟩
  ·exact ⟨e.1,e.2.1⟩
 ·rintro k hm ((e | e) | e)
  ·exact h.ml _ _ k o p hm e
  ·exact h.ml _ _ k o o hm e
  ·exact e.2.1 hm
 ·rintro k hm ((e | e) | e)
  ·exact h.ml _ _ k o p hm e
  ·exact h.ml _ _ k o o hm e
  ·exact e.2.1 hm
 ·rintro k (e | e) u
  ·exact u.2.2.1 e
  ·exact u.2.2.2 e
 ·rintro k ⟨e | e,_⟩
  ·exact h.lt k e
  ·exact h.ex k e
def WAd.upd (D:WAd) (x:Nat) (a1:MAd) (g1:Option Nat):WAd:=⟨D.X,D.b,D.l,aZ D.a x a1,aZ D.g x g1⟩
def Au (E:Nat->Prop) (i:Inp) (w:World) (D:WAd) (B:Nat) (x:Nat) (h:WSt) (w':World):Prop:=
 ∃a1 g1,gi E i w' (D.upd x a1 g1) B h/\Keep (fun k=>D.all (aB i).W k/\k≠D.X) w w'/\∀k,(D.upd x a1 g1).all (aB i).W k->D.all (aB i).W k\/w.heap.size<=k
theorem gi.did (h:gi E i w D B M) (V:x<(aB i).W) {p:Nat} (hp:p<(aB i).W) {C:Nat->Prop} (hC:∀k,C k->D.mu x k\/D.li p k\/D.li x k) {a1:MAd} {g1:Option Nat} {m1:Mst} {s1 t1:LSt} {H:Nat->Prop}
  (hm:aT H w' (D.b x) i x a1 m1) (hH:∀k,(D.upd x a1 g1).oth (aB i).W E x k->H k) (hk:Keep C w w') (a5:p≠x->aW w' B (D.l p) (D.g p) s1) (a8:aW w' B (D.l x) g1 t1) (ao:p=x->t1=s1)
  (U:∀k,Mut (D.b x) a1 k->C k\/w.heap.size<=k) (Y:∀k,dL (D.l x) g1 k->C k\/w.heap.size<=k) (a2:∀k,Mut (D.b x) a1 k->¬dL (D.l x) g1 k/\¬D.li p k/\¬E k) (ab:p≠x->∀k,dL (D.l x) g1 k->¬D.li p k) (a7:∀k,dL (D.l x) g1 k->¬E k)
  (a9:a1.bp<B/\a1.bm<B/\a1.bg<B):Au E i w D B x ⟨aZ M.m x m1,aZ (aZ M.s p s1) x t1⟩ w':=by
 have T:∀k,C k->D.all (aB i).W k/\k≠D.X:=fun k e=>by
  rcases hC k e with e | e | e
  ·exact ⟨.inr ⟨x,V,.inl e⟩,fun h2=>(h.xm x V).1 (h2▸e)⟩
  ·exact ⟨.inr ⟨p,hp,.inr e⟩,fun h2=>(h.xm p hp).2 (h2▸e)⟩
  ·exact ⟨.inr ⟨x,V,.inr e⟩,fun h2=>(h.xm x V).2 (h2▸e)⟩
 have L:∀k,(D.upd x a1 g1).mu x k->Mut (D.b x) a1 k:=fun k e=>by
  have:(aZ D.a x a1 x)=a1:=bJ _ _ _
  unfold WAd.mu WAd.upd at e
  simp only [this] at e
  exact e
 have J:∀y k,y≠x->(D.upd x a1 g1).mu y k->D.mu y k:=fun y k A e=>by
  have:(aZ D.a x a1 y)=D.a y:=bC _ _ A
  unfold WAd.mu WAd.upd at e
  simp only [this] at e
  exact e
 have R:∀k,(D.upd x a1 g1).li x k->dL (D.l x) g1 k:=fun k e=>by
  have:(aZ D.g x g1 x)=g1:=bJ _ _ _
  unfold WAd.li WAd.upd at e
  simp only [this] at e
  exact e
 have I:∀y k,y≠x->(D.upd x a1 g1).li y k->D.li y k:=fun y k A e=>by
  have:(aZ D.g x g1 y)=D.g y:=bC _ _ A
  unfold WAd.li WAd.upd at e
  simp only [this] at e
  exact e
 have a3:∀k,(D.upd x a1 g1).all (aB i).W k->D.all (aB i).W k\/w.heap.size<=k:=by
  rintro k (e | ⟨y,A,e⟩)
  ·exact .inl (.inl e)
  ·by_cases o:y=x
   ·subst o
    rcases e with e | e
    ·exact (U k (L k e)).imp (fun e=>(T k e).1) id
    ·exact (Y k (R k e)).imp (fun e=>(T k e).1) id
   ·exact .inl (.inr ⟨y,A,e.imp (J y k o) (I y k o)⟩)
 -- what is changed or new is none of another worker's
 have N:∀y k,y<(aB i).W->y≠x->(C k\/w.heap.size<=k)->¬D.mu y k/\(y≠p->¬D.li y k):=fun y k A o e=>by
  rcases e with e | e
  ·rcases hC k e with e | e | e
   ·exact ⟨fun u=>o (h.mm y x k A V u e),fun _ u=>h.ml x y k V A e u⟩
   ·exact ⟨fun u=>h.ml y p k A hp u e,fun hn u=>hn (h.ll y p k A hp u e)⟩
   ·exact ⟨fun u=>h.ml y x k A V u e,fun _ u=>o (h.ll y x k A V u e)⟩
  ·exact ⟨fun u=>by have:=h.lt k (.inr ⟨y,A,.inl u⟩);omega,fun _ u=>by have:=h.lt k (.inr ⟨y,A,.inr u⟩);omega⟩
 have a0:∀y k,y<(aB i).W->y≠x->dL (D.l x) g1 k->¬D.mu y k/\¬D.li y k:=fun y k A o e=>by
  refine ⟨(N y k A o (Y k e)).1,?_⟩
  by_cases Q:y=p
  ·subst Q;exact ab o k e
  ·exact (N y k A o (Y k e)).2 Q
 have a6:∀(j:Nat) (c:Array Value),w.heap[j]?=some (.cells c 2 (0,0))->B<=j->¬C j:=fun j c hj hb e=>by
  have ad:=h.lo x V
  rcases hC j e with e | e | e
  ·rcases (h.mach x V).i64 hj e with e | e | e<;>omega
  ·exact (h.lnk p hp).noI64 hj e
  ·exact (h.lnk x V).noI64 hj e
 refine ⟨a1,g1,⟨fun y A=>?_,fun y A=>?_,fun y z k A Z O u=>?_,fun y z k A Z O u=>?_,fun y z k A Z O u=>?_,fun y A=>?_,fun y A=>?_,LU h.hB hk.size,LV h.xl hk.size,fun k e u=>?_,fun k e=>LV (h.ex k e) hk.size⟩,hk.mono fun k _ e=>T k e,a3⟩
 ·by_cases o:y=x
  ·subst o
   show aT _ w' (D.b y) i y (aZ D.a y a1 y) (aZ M.m y m1 y)
   rw [bJ,bJ]
   exact hm.step (Keep.refl _ _) (fun k _ e=>hH k e) (fun k O u=>u.2 (by unfold WAd.mu WAd.upd;simp only [bJ];exact O))
  ·show aT _ w' (D.b y) i y (aZ D.a x a1 y) (aZ M.m x m1 y)
   rw [bC _ _ o,bC _ _ o]
   refine (h.mach y A).step (hk.mono fun k _ e=>⟨.inl (T k e).1,(N y k A o (.inl e)).1⟩) (fun k hl e=>⟨e.1.imp (fun e=>(a3 k e).elim id fun e=>absurd hl ap) id,fun u=>e.2 ?_⟩) (fun k O u=>u.2 ?_)
   ·unfold WAd.mu WAd.upd;simp only [bC _ _ o];exact u
   ·unfold WAd.mu WAd.upd;simp only [bC _ _ o];exact O
 ·by_cases o:y=x
  ·subst o
   show aW w' B (D.l y) (aZ D.g y g1 y) (aZ (aZ M.s p s1) y t1 y)
   rw [bJ,bJ]
   exact a8
  ·show aW w' B (D.l y) (aZ D.g x g1 y) (aZ (aZ M.s p s1) x t1 y)
   rw [bC _ _ o,bC _ _ o]
   by_cases Q:y=p
   ·subst Q
    rw [bJ]
    exact a5 o
   ·rw [bC _ _ Q]
    exact (h.lnk y A).keep hk (fun e=>(N y _ A o (.inl e)).2 Q (.inl rfl)) (fun j hj e=>(N y _ A o (.inl e)).2 Q (.inr hj)) a6
 ·by_cases o:y=x
  ·by_cases v:z=x
   ·rw [o,v]
   ·subst o
    exact absurd (J z k v u) (N z k Z v (U k (L k O))).1
  ·by_cases v:z=x
   ·subst v
    exact absurd (J y k o O) (N y k A o (U k (L k u))).1
   ·exact h.mm y z k A Z (J y k o O) (J z k v u)
 ·by_cases o:y=x
  ·subst o
   by_cases v:z=y
   ·subst v
    exact (a2 k (L k O)).1 (R k u)
   ·by_cases a4:z=p
    ·subst a4
     exact (a2 k (L k O)).2.1 (I z k v u)
    ·exact (N z k Z v (U k (L k O))).2 a4 (I z k v u)
  ·by_cases v:z=x
   ·subst v
    exact (a0 y k A o (R k u)).1 (J y k o O)
   ·exact h.ml y z k A Z (J y k o O) (I z k v u)
 ·by_cases o:y=x
  ·by_cases v:z=x
   ·rw [o,v]
   ·subst o
    exact absurd (I z k v u) (a0 z k Z v (R k O)).2
  ·by_cases v:z=x
   ·subst v
    exact absurd (I y k o O) (a0 y k A o (R k u)).2
   ·exact h.ll y z k A Z (I y k o O) (I z k v u)
 ·by_cases o:y=x
  ·subst o
   refine ⟨fun e=>?_,fun e=>?_⟩
   ·rcases U _ (L _ e) with e | e
    ·exact (T _ e).2 rfl
    ·have:=h.xl;exact absurd this (Nat.not_lt.2 e)
   ·rcases Y _ (R _ e) with e | e
    ·exact (T _ e).2 rfl
    ·have:=h.xl;exact absurd this (Nat.not_lt.2 e)
  ·exact ⟨fun e=>(h.xm y A).1 (J y _ o e),fun e=>(h.xm y A).2 (I y _ o e)⟩
 ·by_cases o:y=x
  ·subst o
   show D.b y<B/\(aZ D.a y a1 y).bp<B/\(aZ D.a y a1 y).bm<B/\(aZ D.a y a1 y).bg<B
   rw [bJ]
   exact ⟨(h.lo y A).1,a9⟩
  ·show D.b y<B/\(aZ D.a x a1 y).bp<B/\(aZ D.a x a1 y).bm<B/\(aZ D.a x a1 y).bg<B
   rw [bC _ _ o]
   exact h.lo y A
 ·rcases u with u | ⟨y,A,u⟩
  ·exact h.ne k e (.inl u)
  ·by_cases o:y=x
   ·subst o
    rcases u with u | u
    ·exact (a2 k (L k u)).2.2 e
    ·exact a7 k (R k u) e
   ·exact h.ne k e (.inr ⟨y,A,u.imp (J y k o) (I y k o)⟩)
end
structure gW (i:Inp) (w:World) (lo:Nat) (b l:Nat->Nat) (a:Nat->MAd) (s t:Nat->Nat) (k:Nat):Prop where
 mach:∀y,y<k->aT (fun j=>j<s y\/t y<=j) w (b y) i y (a y) (fB i)
 win:∀y,y<k->∀j,Mut (b y) (a y) j->s y<=j/\j<t y
 chain:∀y,y<k->lo<=s y/\s y<=t y/\t y<=l y/\l y<w.heap.size
 next:∀y z,y<z->z<k->l y<s z
 lnk:∀y,y<k->∀B,aW w B (l y) none (LSt.new i.cfg.cap.toNat)
section
variable {i:Inp} {w w':World} {lo k:Nat} {b l:Nat->Nat} {a:Nat->MAd} {s t:Nat->Nat}
theorem gW.zero:gW i w lo b l a s t 0:=⟨fun _ h=>absurd h (Nat.not_lt_zero _),fun _ h=>absurd h (Nat.not_lt_zero _),fun _ h=>absurd h (Nat.not_lt_zero _),fun _ _ _ h=>absurd h (Nat.not_lt_zero _),fun _ h=>absurd h (Nat.not_lt_zero _)⟩
theorem jY {l j:Nat} (e:dL l none j):j=l:=e.elim id fun e=>by cases e
theorem gW.keep (h:gW i w lo b l a s t k) {Q:Nat->Prop} (hk:Keep Q w w') (u:∀j,j<w.heap.size->Q j->(∀y,y<k->(j<s y\/t y<=j)/\j≠l y)/\∀c,w.heap[j]?≠some (.cells c 2 (0,0))):gW i w' lo b l a s t k:=by
 refine ⟨fun y o=>(h.mach y o).step (hk.mono fun j p e=>((u j p e).1 y o).1) (fun j _ e=>e) (fun j hm e=>?_),h.win,fun y o=>?_,h.next,fun y o B=>(h.lnk y o B).keep (hk.mono fun j p e=>((⟨p,e⟩:j<w.heap.size/\Q j))) (fun e=>((u _ e.1 e.2).1 y o).2 rfl) (fun j e=>by cases e) fun j c p _ e=>(u j e.1 e.2).2 c p⟩
 ·have:=h.win y o j hm
  omega
 ·have:=h.chain y o
  have:=hk.size
  omega
theorem gW.below (h:gW i w lo b l a s t k) (hb:aq w w'):gW i w' lo b l a s t k:=h.keep (Q:=fun _=>False) (Keep.below hb) fun _ _ e=>e.elim
theorem gW.more (h:gW i w lo b l a s t k) {A:Nat} {a1:MAd} {l1:Nat} {u:World} (L:lo<=w.heap.size) (x:∀j,Mut A a1 j->w.heap.size<=j)
  (hm:∀(H:Nat->Prop) w'',Keep (fun k=>k<w.heap.size) u w''->(∀k,H k->k<w.heap.size)->aT H w'' A i k a1 (fB i)) (h1:gW i u lo b l a s t k) (C:gW i w' lo b l a s t k) (hs:w.heap.size<=u.heap.size) (hk:Keep (fun j=>j<w.heap.size\/u.heap.size<=j) u w') (hl:u.heap.size<=l1) (J:l1<w'.heap.size) (R:∀B,aW w' B l1 none (LSt.new i.cfg.cap.toNat)):
  gW i w' lo (aZ b k A) (aZ l k l1) (aZ a k a1) (aZ s k w.heap.size) (aZ t k u.heap.size) (k+1):=by
 have D:=hm (fun j=>j<w.heap.size) u (Keep.refl _ _) (fun _ e=>e)
 have v:=fun j (e:Mut A a1 j)=>D.mlt j e
 have Q:aT (fun j=>j<w.heap.size\/u.heap.size<=j) w' A i k a1 (fB i):=
  (D.step (H':=fun j=>j<w.heap.size\/u.heap.size<=j) (Keep.refl _ _) (fun j Y e=>e.elim id fun e=>absurd Y ap) (fun j e T=>by have:=x j e;have:=v j e;omega)).step hk (fun _ _ e=>e) (fun j e T=>by have:=x j e;have:=v j e;omega)
 have o:∀y,y<k+1->y=k\/(y≠k/\y<k):=fun y I=>ap
 refine ⟨fun y I=>?_,fun y I=>?_,fun y I=>?_,fun y z N U=>?_,fun y I=>?_⟩<;>rcases o y ap with rfl | ⟨e,p⟩
 ·simp only [bJ];exact Q
 ·simp only [bC _ _ e];exact C.mach y p
 ·simp only [bJ];exact fun j e=>⟨x j e,v j e⟩
 ·simp only [bC _ _ e];exact C.win y p
 ·simp only [bJ];exact ⟨L,hs,hl,J⟩
 ·simp only [bC _ _ e];exact C.chain y p
 ·omega
 ·rcases o z U with rfl | ⟨V,O⟩
  ·simp only [bJ,bC _ _ e]
   exact (h.chain y p).2.2.2
  ·simp only [bC _ _ e,bC _ _ V]
   exact C.next y z N O
 ·simp only [bJ];exact R
 ·simp only [bC _ _ e];exact C.lnk y p
theorem gW.mem (h:gW i w lo b l a s t (aB i).W) {X:Nat} (hX:X<lo) (Q:X<w.heap.size) {E:Nat->Prop} (L:∀j,E j->j<lo/\j≠X) (Y:lo<=w.heap.size):
  gi E i w ⟨X,b,l,a,fun _=>none⟩ w.heap.size ⟨fun _=>fB i,fun _=>LSt.new i.cfg.cap.toNat⟩:=by
 have p:∀y z,y<z->z<(aB i).W->t y<=s z/\l y<s z:=fun y z O o=>by
  have h1:=h.next y z O o
  have h2:=h.chain y ap
  omega
 have J:∀y z j,y<(aB i).W->z<(aB i).W->Mut (b y) (a y) j->Mut (b z) (a z) j->y=z:=fun y z j A o D u=>by
  have I:=h.win y A j D
  have w2:=h.win z o j u
  rcases Nat.lt_trichotomy y z with e | e | e
  ·have:=p y z e o;omega
  ·exact e
  ·have:=p z y e A;omega
 have B:∀y z,y<(aB i).W->z<(aB i).W->l z<s y\/t y<=l z:=fun y z A o=>by
  rcases Nat.lt_trichotomy y z with e | e | e
  ·have:=p y z e o;have:=h.chain z o;omega
  ·subst e;have:=h.chain y A;omega
  ·have:=p z y e A;omega
 refine ⟨fun x v=>(h.mach x v).step (Keep.refl _ _) ?_ (fun j e u=>u.2 e),fun x v=>h.lnk x v _,J,fun y z j A o D u=>?_,fun y z j A o D u=>?_,fun x v=>⟨fun e=>?_,fun e=>?_⟩,fun x v=>?_,LO _,Q,fun j e u=>?_,fun j e=>by have:=L j e;omega⟩
 ·rintro j R ⟨(e | ⟨z,o,e | e⟩) | e,u⟩
  ·have U:j=X:=e
   have:=h.chain x v
   omega
  ·have N:z≠x:=fun H=>by subst H;exact u e
   have I:=h.win z o j e
   rcases Nat.lt_or_gt_of_ne N with H | H
   ·have:=p z x H v;omega
   ·have:=p x z H o;omega
  ·have C:j=l z:=jY e
   rw [C]
   exact B x z v o
  ·have:=h.chain x v
   have:=L j e
   omega
 ·have C:j=l z:=jY u
  have I:=h.win y A j D
  have:=B y z A o
  omega
 ·have Z:j=l y:=jY D
  have T:j=l z:=jY u
  rcases Nat.lt_trichotomy y z with e | e | e
  ·have:=p y z e o;have:=h.chain z o;omega
  ·exact e
  ·have:=p z y e A;have:=h.chain y A;omega
 ·have I:s x<=X/\X<t x:=h.win x v _ e
  have:=h.chain x v
  omega
 ·have V:X=l x:=jY e
  have:=h.chain x v
  omega
 ·have hl:=fun j (e:Mut (b x) (a x) j)=>(h.mach x v).mlt j e
  exact ⟨hl _ (.inl rfl),hl _ (.inr (.inl rfl)),hl _ (.inr (.inr (.inl rfl))),hl _ (.inr (.inr (.inr (.inl rfl))))⟩
 ·have R:=L j e
  rcases u with u | ⟨z,o,u | u⟩
  ·exact R.2 u
  ·have:=h.win z o j u
   have:=h.chain z o
   omega
  ·have V:j=l z:=jY u
   have:=h.chain z o
   omega
end
section
variable {E:Nat->Prop} {i:Inp} {w w':World} {D:WAd} {B:Nat} {M M1:WSt} {x C:Nat}
theorem gi.oth_lt (h:gi E i w D B M):∀k,w.heap.size<=k->¬D.oth (aB i).W E x k:=by
 rintro k hk ⟨e | e,_⟩
 ·have:=h.lt k e;omega
 ·have:=h.ex k e;omega
theorem gi.restE (h:gi E i w D B M) {k:Nat} (p:x<(aB i).W) (u:pvW (aB i).W x<(aB i).W) (e:E k):D.rest (aB i).W E x k:=
 ⟨.inr e,fun o=>h.ne k e (.inr ⟨x,p,.inl o⟩),fun o=>h.ne k e (.inr ⟨_,u,.inr o⟩),fun o=>h.ne k e (.inr ⟨x,p,.inr o⟩)⟩
theorem gi.try (h:gi E i w D B M) (o:x<(aB i).W) (N:2<=(aB i).W) {m1:Mst} {s1 t1:LSt} (Q:jH (D.rest (aB i).W E x) B w (D.b x) (D.l (pvW (aB i).W x)) (D.l x) i x (D.a x) (D.g (pvW (aB i).W x)) (D.g x) m1 s1 t1 w'):
  Au E i w D B x ⟨aZ M.m x m1,aZ (aZ M.s (pvW (aB i).W x) s1) x t1⟩ w':=by
 have J:pvW (aB i).W x<(aB i).W:=lZ ap
 have L:=Fo o N
 obtain ⟨a1,g1,hw,hk,hn⟩:=Q
 have V:=h.wld o N
 refine h.did o J (C:=JE (D.b x) (D.a x) (D.l (pvW (aB i).W x)) (D.g (pvW (aB i).W x)) (D.l x) (D.g x)) (fun k e=>e.imp id id) hw.mach ?_ hk (fun _=>hw.lf) hw.lt (fun e=>absurd e L) (fun k e=>hn k (.inl e)) (fun k e=>hn k (.inr (.inr e))) (fun k e=>⟨fun A=>hw.hn k e (.inl (.inr A)),fun A=>hw.hn k e (.inl (.inl A)),fun A=>hw.hn k e (.inr ?_)⟩)
  (fun _ k e A=>hw.dj k A e) (fun k e A=>?_) hw.lo.2
 ·rintro k ⟨e,T⟩
  by_cases O:dL (D.l x) g1 k
  ·exact .inl (.inr O)
  by_cases I:D.li (pvW (aB i).W x) k
  ·exact .inl (.inl I)
  refine .inr ?_
  rcases e with (e | ⟨y,H,e⟩) | e
  ·have U:k=D.X:=e
   subst U
   exact ⟨.inl (.inl rfl),(h.xm x o).1,I,(h.xm x o).2⟩
  ·by_cases v:y=x
   ·subst v
    rcases e with e | e
    ·exact absurd e T
    ·refine absurd ?_ O
     have R:aZ D.g y g1 y=g1:=bJ _ _ _
     unfold WAd.li WAd.upd at e
     simp only [R] at e
     exact e
   ·have p:D.mu y k\/D.li y k:=by
     unfold WAd.mu WAd.li WAd.upd at e
     simp only [bC _ _ v] at e
     exact e
    refine ⟨.inl (.inr ⟨y,H,p⟩),fun u=>?_,I,fun u=>?_⟩
    ·rcases p with p | p
     ·exact v (h.mm y x k H o p u)
     ·exact h.ml x y k o H u p
    ·rcases p with p | p
     ·exact h.ml y x k H o p u
     ·exact v (h.ll y x k H o p u)
  ·exact ⟨.inr e,fun u=>h.ne k e (.inr ⟨x,o,.inl u⟩),I,fun u=>h.ne k e (.inr ⟨x,o,.inr u⟩)⟩
 ·exact h.restE o J A
 ·exact absurd (h.restE o J A) (hw.ne k (.inr e))
theorem gi.lone (h:gi E i w D B M) (o:x<(aB i).W) {a1:MAd} {m1:Mst} (hm:aT (D.oth (aB i).W E x) w' (D.b x) i x a1 m1) (hk:Keep (fun k=>D.mu x k) w w') (J:∀k,Mut (D.b x) a1 k->D.mu x k\/w.heap.size<=k) (U:Fxd (D.a x) a1):
  Au E i w D B x ⟨aZ M.m x m1,aZ (aZ M.s x (M.s x)) x (M.s x)⟩ w':=by
 have L:=h.lo x o
 have out:∀k,Mut (D.b x) a1 k->¬D.li x k/\¬E k:=fun k e=>by
  rcases J k e with e | e
  ·exact ⟨h.ml x x k o o e,fun u=>h.ne k u (.inr ⟨x,o,.inl e⟩)⟩
  ·exact ⟨fun u=>by have:=h.lt k (.inr ⟨x,o,.inr u⟩);omega,fun u=>by have:=h.ex k u;omega⟩
 have T:aW w' B (D.l x) (D.g x) (M.s x):=(h.lnk x o).keep hk (fun e=>h.ml x x _ o o e (.inl rfl)) (fun j N e=>h.ml x x _ o o e (.inr N)) fun j c N hb e=>by
  rcases (h.mach x o).i64 N e with e | e | e<;>omega
 refine h.did o o (C:=fun k=>D.mu x k\/D.li x k) (H:=D.oth (aB i).W E x) (a1:=a1) (g1:=D.g x) (m1:=m1) (s1:=M.s x) (t1:=M.s x) (fun k e=>e.imp id .inr) hm ?_ (hk.mono fun k _ e=>.inl e) (fun e=>absurd rfl e) T (fun _=>rfl) (fun k e=>(J k e).imp .inl id) (fun k e=>.inl (.inr e)) (fun k e=>⟨(out k e).1,(out k e).1,(out k e).2⟩) (fun e=>absurd rfl e)
  (fun k e u=>h.ne k u (.inr ⟨x,o,.inr e⟩)) (by obtain ⟨R,V,Z⟩:=U;rw [R,V,Z];exact L.2)
 rintro k ⟨e,Y⟩
 rcases e with (e | ⟨y,I,e⟩) | e
 ·have Q:k=D.X:=e
  subst Q
  exact ⟨.inl (.inl rfl),(h.xm x o).1⟩
 ·by_cases p:y=x
  ·subst p
   rcases e with e | e
   ·exact absurd e Y
   ·have O:aZ D.g y (D.g y) y=D.g y:=bJ _ _ _
    unfold WAd.li WAd.upd at e
    simp only [O] at e
    exact ⟨.inl (.inr ⟨y,I,.inr e⟩),fun v=>h.ml y y k I I v e⟩
  ·have A:D.mu y k\/D.li y k:=by
    unfold WAd.mu WAd.li WAd.upd at e
    simp only [bC _ _ p] at e
    exact e
   refine ⟨.inl (.inr ⟨y,I,A⟩),fun v=>?_⟩
   rcases A with A | A
   ·exact p (h.mm y x k I o A v)
   ·exact h.ml x y k o I v A
 ·exact ⟨.inr e,fun v=>h.ne k e (.inr ⟨x,o,.inl v⟩)⟩
theorem FH (h:x<(aB i).W) (h1:(aB i).W<2):pvW (aB i).W x=x:=by
 unfold pvW;rw [show (aB i).W=1 by omega,Nat.mod_one];omega
theorem nE (h1:(aB i).W<2) {m:Mst} {y:Itm} {h:Acn} (p:(cR i x m.st)[m.nx]?=some y) (o:y.a=some h):False:=by
 have:=BH (sO (dF p).2 o)
 omega
theorem gi.pick (h:gi E i w D B M) (hs:cK i) (o:x<(aB i).W) (hw:WOk i M) (p:(M.s x).msgs.length<100000000000) (v: -9223372036854775808<=i.cfg.rate/\i.cfg.rate<=9223372036854775807) (u: -9223372036854775808<=i.cfg.mom/\i.cfg.mom<=9223372036854775807) (I:Pk i M x M1 C):
  Calls prog 216 #[.pointer (some ⟨D.b x,0,none⟩),.pointer (some ⟨D.l (pvW (aB i).W x),0,none⟩),.pointer (some ⟨D.l x,0,none⟩)] w fun e w'=>e=.returned (MO (C:Nat))/\Au E i w D B x M1 w':=by
 obtain ⟨m1,s1,t1,hr,rfl⟩:=I
 rcases Ma (aB i).W 2 with h1 | A
 ·rw [FH o h1] at hr ⊢
  cases hr with
  | fin hf=>
   refine (Bi (h.mach x o) hf _ _).mono ?_
   rintro e w' ⟨he,k⟩
   exact ⟨he,h.lone o ((h.below k).mach x o) (Keep.below k) (fun k e=>.inl e) ⟨rfl,rfl,rfl⟩⟩
  | own y hy ha=>
   refine (xk (h.mach x o) (fun k e O=>O.2 e) h.oth_lt hs hy ((hw.mok x o).okAt hs hy ha) v u _ _).mono ?_
   rintro e w' ⟨he,R,Q,h1, -, -,L,N,J,rfl⟩
   exact ⟨he,h.lone o h1 (L.mono fun k _ e=>e.elim id False.elim) N J⟩
  | send y ac hy ha=>exact (nE h1 hy ha).elim
  | full y ac hy ha=>exact (nE h1 hy ha).elim
  | recv y ac hy ha=>exact (nE h1 hy ha).elim
  | none y ac hy ha=>exact (nE h1 hy ha).elim
  | other y ac hy ha=>exact (nE h1 hy ha).elim
 ·refine (Jf (h.wld o A) hs (hw.mok x o) (hw.msgI o) p v u hr).mono ?_
  rintro e w' ⟨he,H⟩
  exact ⟨he,h.try o A H⟩
end
theorem Cd {X z b:Nat} {l D v0 v1:Value} {cnt C:Nat} {w:World} {R:World->Prop}
  (u:∀i,aq w i->Calls prog 47 #[(au X),MO (z:Nat)] i fun e h=>e=.returned (.tuple #[.iface 97 ((au b)),l,D,.bool true])/\aq i h)
  (p:∀i,aq w i->Calls prog 216 #[(au b),l,D] i fun e h=>e=.returned (MO (C:Nat))/\h.heap[X]?=some (.cells #[v0,v1,MO (cnt:Nat)] 96 (0,0))/\R h) (hc:cnt<=1000000000) (J:C=0):
  Calls prog 15 #[(au X),MO (z:Nat)] w fun e i=>e=.returned (.bool true)/\∃v,R v/\i=v.setCell (ar X 2) (MO ((cnt+1:Nat):Int)):=by
 subst J
 obtain ⟨x,A⟩:=ae u p
 have hm:∀w:World,(method 496 97 ((au b)) "Do").run prog w=.ok (216,(au b)) w:=fun _=>by kernel_rfl
 have H:=br w
 clear u p
 go_enter func15,ntmps15
 go_wp2_with fail
 refine (x.o _ H).mono ?_
 rintro e v ⟨rfl,I⟩
 go_wp2_with fail
 refine (A.o _ I).mono ?_
 rintro e N ⟨rfl,y,B⟩
 have t:=bx3 y
 obtain ⟨L,Q⟩:=ae B y
 have O:IntKind.i64.wrap ((cnt:Int)+1)=(cnt:Int)+1:=LT _ ap
 clear y B
 go_wp2_with fail
 go_ret
 exact ⟨rfl,_,L.o,by push_cast;rfl⟩
theorem Eo {X z b:Nat} {l A:Value} {C:Nat} {w:World} {R:World->Prop}
  (u:∀h,aq w h->Calls prog 47 #[(au X),MO (z:Nat)] h fun e i=>e=.returned (.tuple #[.iface 97 ((au b)),l,A,.bool true])/\aq h i)
  (p:∀h,aq w h->Calls prog 216 #[(au b),l,A] h fun e i=>e=.returned (MO (C:Nat))/\R i) (L:C≠0):
  Calls prog 15 #[(au X),MO (z:Nat)] w fun e h=>e=.returned (.bool false)/\R h:=by
 obtain ⟨v,x⟩:=ae u p
 have hm:∀w:World,(method 496 97 ((au b)) "Do").run prog w=.ok (216,(au b)) w:=fun _=>by kernel_rfl
 have B:=br w
 clear u p
 go_enter func15,ntmps15
 go_wp2_with fail
 refine (v.o _ B).mono ?_
 rintro e I ⟨rfl,D⟩
 go_wp2_with fail
 refine (x.o _ D).mono ?_
 rintro e N ⟨rfl,y⟩
 have H:=aa y;clear y
 have J:¬(C:Int)=0:=ap
 go_wp2_with fail
 go_ret
 exact ⟨rfl,H.o⟩
theorem Ce {X:Value} {z:Int} {w:World} (i:∀h,aq w h->Calls prog 47 #[X,MO z] h fun e u=>e=.returned (.tuple #[.nilIface,.pointer none,.pointer none,.bool false])/\aq h u):
  Calls prog 15 #[X,MO z] w fun e h=>e=.returned (.bool false)/\aq w h:=by
 have p:=aa i
 have x:=br w
 clear i
 go_enter func15,ntmps15
 go_wp2_with fail
 refine (p.o _ x).mono ?_
 rintro e A ⟨rfl,y⟩
 have v:=aa y
 go_wp2_with fail
 go_ret
 exact ⟨rfl,v.o⟩
def pE {σ:Type} (st:σ->Int->σ×Bool) (s:σ) (l:List Int):σ×Nat:=l.foldl (fun p z=>((st p.1 z).1,p.2+if (st p.1 z).2 then 1 else 0)) (s,0)
theorem tz {σ:Type} (st:σ->Int->σ×Bool) (s:σ) (l:List Int) (z:Int):pE st s (l++[z])=((st (pE st s l).1 z).1,(pE st s l).2+if (st (pE st s l).1 z).2 then 1 else 0):=by
 unfold pE
 rw [List.foldl_append]
 rfl
theorem AJ {σ:Type} (st:σ->Int->σ×Bool) (s:σ) (l:List Int):∀k,(pE st s (l.take k)).2<=k
 | 0=>by simp [pE]
 | k+1=>by
  have i:=AJ st s l k
  rw [List.take_add_one]
  cases h:l[k]? with
  | none=>simp;omega
  | some z=>
   rw [Option.toList_some,tz]
   dsimp only
   split<;>omega
structure jM (i:Inp) (M:WSt):Prop where
 ok:WOk i M
 wG:∀x,x<(aB i).W->W64 (M.m x).G
theorem zK (i:Inp) (P:List Int):∀(l:List Ex) (G:List Int),W64 G->W64 (ez i P G l):=by
 intro l
 induction l with
 | nil=>intro G h;exact h
 | cons x l ih=>intro G h;exact ih _ (fx fun _ _=>fU _)
theorem td (n:Nat):W64 (List.replicate n 0):=fun k hk=>by
 rw [Mv] at hk
 simp [nth,hk]
theorem Gf {i:Inp} {x:Nat} {m:Mst} {y:Itm} (h:W64 m.G):W64 (jL i x m y).G:=by
 unfold jL
 split
 ·exact zK i _ _ _ h
 ·split
  ·exact h
  ·split
   ·exact h
   ·exact td _
theorem Ir {i:Inp} {x:Nat} {m:Mst}:(adv i x m).G=m.G:=by unfold adv;split<;>rfl
theorem jI.w64 {i:Inp} {x:Nat} {m m1:Mst} {s t s1 t1:LSt} {C:Nat} (h:jI i x m s t m1 s1 t1 C) (hw:W64 m.G) (o:∀j,j<s.msgs.length->W64 (aK s.msgs j).vals):W64 m1.G:=by
 cases h with
 | fin=>exact hw
 | full=>exact hw
 | none=>exact hw
 | other=>exact hw
 | own=>rw [Ir];exact Gf hw
 | send=>rw [Ir];exact hw
 | recv y a _ _ _ hlt=>rw [Ir];exact sG hw (o _ hlt)
theorem jM.zero {i:Inp} (hs:cK i):jM i (kK i):=⟨WOk.zero i,fun x _=>td _⟩
theorem jM.pick {i:Inp} {M v:WSt} {x C:Nat} (h:jM i M) (hs:cK i) (u:x<(aB i).W) (p:Pk i M x v C):jM i v:=by
 have o:pvW (aB i).W x<(aB i).W:=lZ ap
 refine ⟨(p.ok h.ok hs u (h.wG x u)).1,fun z y=>?_⟩
 obtain ⟨m1,s1,t1,B,rfl⟩:=p
 show W64 (aZ M.m x m1 z).G
 by_cases e:z=x
 ·subst e
  rw [bJ]
  exact B.w64 (h.wG z y) fun j A=>(h.ok.tg _ o j A).choose_spec.2.2.2
 ·rw [bC _ _ e];exact h.wG z y
noncomputable def pkF (i:Inp) (M:WSt) (x:Nat):WSt×Bool:=open Classical in
 if h:∃p:WSt×Nat,Pk i M x p.1 p.2 then ((Classical.choose h).1,decide ((Classical.choose h).2=0)) else (M,false)
theorem zk {i:Inp} {M:WSt} {x:Nat} (h:jM i M) (hs:cK i) (v:x<(aB i).W):∃C,Pk i M x (pkF i M x).1 C/\(pkF i M x).2=decide (C=0):=by
 obtain ⟨y,C,u⟩:=h.ok.pick hs v
 have o:∃p:WSt×Nat,Pk i M x p.1 p.2:=⟨(y,C),u⟩
 unfold pkF
 rw [dif_pos o]
 exact ⟨_,Classical.choose_spec o,rfl⟩
noncomputable def pkZ (i:Inp) (M:WSt) (z:Int):WSt×Bool:=if 0<=z/\z<((aB i).W:Int) then pkF i M z.toNat else (M,false)
noncomputable def pF (i:Inp) (M:WSt) (l:List Int):WSt×Nat:=l.foldl (fun p z=>((pkZ i p.1 z).1,p.2+if (pkZ i p.1 z).2 then 1 else 0)) (M,0)
def WSt.sum (i:Inp) (M:WSt):Nat:=((List.range (aB i).W).map fun x=>M.pos i x).sum
def II (i:Inp):Nat:=((List.range (aB i).W).map fun x=>(dQ i x).length).sum
def WSt.fin (i:Inp) (M:WSt):Prop:=∀x,x<(aB i).W->M.pos i x=(dQ i x).length
theorem IL {f g:Nat->Nat} {W x:Nat} (p:x<W) (h1:g x=f x+1) (h:∀z,z≠x->g z=f z):((List.range W).map g).sum=((List.range W).map f).sum+1:=by
 induction W with
 | zero=>omega
 | succ W ih=>
  rw [ME,List.map_append,List.map_append,List.sum_append,List.sum_append]
  simp only [List.map_cons,List.map_nil,List.sum_cons,List.sum_nil,Nat.add_zero]
  by_cases e:x=W
  ·subst e
   rw [h1,List.map_congr_left (g:=f) (fun z o=>h z (by have:=List.mem_range.1 o;omega))]
   omega
  ·rw [ih ap,h W (fun i=>e i.symm)]
   omega
theorem JW {f g:Nat->Nat}:∀{W:Nat},(∀x,x<W->f x<=g x)->((List.range W).map f).sum<=((List.range W).map g).sum
 | 0,_=>LO _
 | W+1,h=>by
  rw [ME,List.map_append,List.map_append,List.sum_append,List.sum_append]
  simp only [List.map_cons,List.map_nil,List.sum_cons,List.sum_nil,Nat.add_zero]
  have:=JW (W:=W) fun x o=>h x ap
  have:=h W ap
  omega
section
variable {i:Inp} {M:WSt}
theorem jM.pos_le (h:jM i M) (hs:cK i) {x:Nat} (o:x<(aB i).W):M.pos i x<=(dQ i x).length:=(h.ok.mok x o).done hs
theorem jM.sum_le (h:jM i M) (hs:cK i):M.sum i<=II i:=JW fun _ o=>h.pos_le hs o
theorem Ft (h:jM i M) (hs:cK i) {x:Nat} (o:x<(aB i).W):jM i (pkF i M x).1/\((pkF i M x).2=true↔can i i.cfg.cap.toNat (M.pos i) x)/\((pkF i M x).2=true->(pkF i M x).1.pos i x=M.pos i x+1/\(∀z,z≠x->(pkF i M x).1.pos i z=M.pos i z)/\(pkF i M x).1.sum i=M.sum i+1)/\((pkF i M x).2=false->(pkF i M x).1=M):=by
 obtain ⟨C,p,hb⟩:=zk h hs o
 obtain ⟨_,B,H,D⟩:=p.ok h.ok hs o (h.wG x o)
 refine ⟨h.pick hs o p,by rw [hb,<-D];simp,fun A=>?_,fun u=>H (by rw [hb] at u;simpa using u)⟩
 obtain ⟨v,I,_⟩:=B (by rw [hb] at A;simpa using A)
 have y:∀z,z≠x->(pkF i M x).1.pos i z=M.pos i z:=fun z J=>by unfold WSt.pos;rw [I z J]
 exact ⟨v,y,IL o v y⟩
theorem Cr (l:List Int) (z:Int):pF i M (l++[z])=((pkZ i (pF i M l).1 z).1,(pF i M l).2+if (pkZ i (pF i M l).1 z).2 then 1 else 0):=by
 unfold pF
 rw [List.foldl_append]
 rfl
end
section
variable {i:Inp} {M:WSt}
end
theorem uT {p:Pln} (h:db p):vI p<=810000:=by
 have h1:=AC h (LO p.buks.length)
 have i:=h.W8;have v:=h.mi;have o:=h.buks
 have u:p.W*(p.mi+2*p.buks.length+1)<=8*141:=Nat.mul_le_mul i ap
 unfold vI
 omega
theorem uU {i:Inp} (o:db (aB i)):II i=vI (aB i)*i.cfg.steps.toNat:=by
 have h:II i=bK (aB i).W fun x=>bK i.cfg.steps.toNat fun st=>(aI (aB i) x st).length:=by
  unfold II bK dQ
  congr 1
  refine List.map_congr_left fun x _=>?_
  show (iX i x i.cfg.steps.toNat).length=_
  unfold iX
  rw [List.length_flatMap]
 rw [h,hZ,dI fun st _=>IH o st,eH,Nat.mul_comm]
def qP (D:WAd) (n:Nat):List Value:=(List.range n).map fun y=>.iface 97 (.pointer (some ⟨D.b y,0,none⟩))
def vn (D:WAd) (n:Nat):List Value:=(List.range n).map fun y=>.pointer (some ⟨D.l y,0,none⟩)
theorem KT (D:WAd) {n y:Nat} (h:y<n):(qP D n)[y]?=some (.iface 97 (.pointer (some ⟨D.b y,0,none⟩))):=by simp [qP,h]
theorem JO (D:WAd) {n y:Nat} (h:y<n):(vn D n)[y]?=some (.pointer (some ⟨D.l y,0,none⟩)):=by simp [vn,h]
def WAd.hid (D:WAd) (n:Nat) (E:Nat->Prop) (k:Nat):Prop:=D.all n k\/E k
structure WAt (E:Nat->Prop) (i:Inp) (w:World) (D:WAd) (B:Nat) (M:WSt):Prop where
 mem:gi E i w D B M
 al:jM i M
 rows:∃AW cw AL cl,w.heap[D.X]?=some (.cells #[.slice AW (aB i).W cw,.slice AL (aB i).W cl,MO (M.sum i:Nat)] 96 (0,0))/\Rd (aF (D.hid (aB i).W E) w) AW (qP D (aB i).W)/\Rd (aF (D.hid (aB i).W E) w) AL (vn D (aB i).W)
section
variable {E:Nat->Prop} {i:Inp} {w w':World} {D:WAd} {B x:Nat} {M:WSt}
theorem WAt.more {o:Nat->Prop} (h:WAt E i w D B M) (hb:aq w w') (he:∀k,o k->k<w'.heap.size/\(E k\/w.heap.size<=k)):WAt o i w' D B M:=by
 obtain ⟨x,A,u,v,h1,y,C⟩:=h.rows
 have p:Ext (aF (D.hid (aB i).W E) w) (aF (D.hid (aB i).W o) w'):=bE (Keep.below hb) fun k hk e=>e.imp id fun e=>(he k e).2.elim id fun e=>absurd hk ap
 exact ⟨h.mem.more hb he,h.al,x,A,u,v,(hb.block _ h.mem.xl).trans h1,aV y p,aV C p⟩
theorem WAt.below (h:WAt E i w D B M) (hb:aq w w'):WAt E i w' D B M:=h.more hb fun k e=>⟨LV (h.mem.ex k e) hb.size,.inl e⟩
theorem WAt.at (h:WAt E i w D B M) (hs:cK i) (o:x<(aB i).W):Calls prog 47 #[(au D.X),MO (x:Nat)] w fun e w'=>e=.returned (.tuple #[.iface 97 (.pointer (some ⟨D.b x,0,none⟩)),.pointer (some ⟨D.l (pvW (aB i).W x),0,none⟩),.pointer (some ⟨D.l x,0,none⟩),.bool true])/\aq w w':=by
 obtain ⟨C,H,y,A,h1,u,v⟩:=h.rows
 have p:=hs.ok.W8
 exact JY h1 (aV u (eC _ _)) (aV v (eC _ _)) o ap rfl (KT D o) (JO D (lZ ap)) (JO D o)
theorem WAt.did (h:WAt E i w D B M) {I:WSt} (L:Au E i w D B x I w'):∃o,o.X=D.X/\gi E i w' o B I/\Keep (fun k=>D.all (aB i).W k/\k≠D.X) w w'/\(∀k,o.all (aB i).W k->D.all (aB i).W k\/w.heap.size<=k)/\
  ∃u A p v,w'.heap[D.X]?=some (.cells #[.slice u (aB i).W A,.slice p (aB i).W v,MO (M.sum i:Nat)] 96 (0,0))/\Rd (aF (o.hid (aB i).W E) w') u (qP o (aB i).W)/\Rd (aF (o.hid (aB i).W E) w') p (vn o (aB i).W):=by
 obtain ⟨a1,g1,h1,y,C⟩:=L
 obtain ⟨u,A,p,v,J,N,O⟩:=h.rows
 have H:Ext (aF (D.hid (aB i).W E) w) (aF ((D.upd x a1 g1).hid (aB i).W E) w'):=bE (y.mono fun k _ e=>.inl e.1) fun k hk e=>e.imp (fun e=>(C k e).elim id fun e=>absurd hk ap) id
 exact ⟨D.upd x a1 g1,rfl,h1,y,C,u,A,p,v,(y.block _ h.mem.xl fun e=>e.2 rfl).trans J,aV N H,aV O H⟩
theorem WAt.sum_le (h:WAt E i w D B M) (hs:cK i):M.sum i<=1000000000:=by
 have h1:=h.al.sum_le hs
 have p:=uU hs.ok
 have o:=uT hs.ok
 have u:=hs.s
 have v:vI (aB i)*i.cfg.steps.toNat<=810000*6:=Nat.mul_le_mul o ap
 omega
theorem JM (i:Inp) (x p:Nat):sN i x p<=p:=by
 unfold sN gP gh
 rw [List.length_map]
 refine LU (List.length_filter_le _ _) (LU (List.length_filterMap_le _ _) ?_)
 rw [Mt];omega
theorem Bk (f:Nat->Nat):∀{n x:Nat},x<n->f x<=((List.range n).map f).sum
 | 0,_,h=>ap
 | n+1,x,h=>by
  rw [ME,List.map_append,List.sum_append]
  simp only [List.map_cons,List.map_nil,List.sum_cons,List.sum_nil,Nat.add_zero]
  by_cases e:x=n
  ·subst e;omega
  ·have:=Bk f (n:=n) (x:=x) ap;omega
theorem AY (h:x<(aB i).W):M.pos i x<=M.sum i:=Bk _ h
def Li (E:Nat->Prop) (i:Inp) (w:World) (D:WAd) (B:Nat) (o:WSt) (w':World):Prop:=∃h,h.X=D.X/\WAt E i w' h B o/\Keep (fun k=>D.all (aB i).W k) w w'/\∀k,h.all (aB i).W k->D.all (aB i).W k\/w.heap.size<=k
theorem BQ (h:WAt E i w D B M) (hs:cK i) (Y: -9223372036854775808<=i.cfg.rate/\i.cfg.rate<=9223372036854775807) (a0: -9223372036854775808<=i.cfg.mom/\i.cfg.mom<=9223372036854775807) (z:Int):
  Calls prog 15 #[(au D.X),MO z] w fun e w'=>e=.returned (.bool (pkZ i M z).2)/\Li E i w D B (pkZ i M z).1 w':=by
 by_cases hz:0<=z/\z<((aB i).W:Int)
 ·obtain ⟨x,rfl⟩:∃x:Nat,z=x:=⟨z.toNat,by omega⟩
  have y:x<(aB i).W:=ap
  have e1:pkZ i M x=pkF i M x:=by unfold pkZ;rw [if_pos hz,Int.toNat_natCast]
  rw [e1]
  obtain ⟨C,hp,hb⟩:=zk h.al hs y
  obtain ⟨hA, -,O,U⟩:=Ft h.al hs y
  have v:(M.s x).msgs.length<100000000000:=by
   have h1:=h.al.ok.sn x y
   have h2:=h.al.pos_le hs y
   have h3:sN i x (M.pos i x)<=M.pos i x:=JM i x _
   have h4:M.pos i x<=M.sum i:=AY y
   have h5:=h.sum_le hs
   omega
  have L:=fun w' (q:aq w w')=>(h.below q).at hs y
  have I:=fun w' (q:aq w w')=>(h.below q).mem.pick hs y h.al.ok v Y a0 hp
  by_cases T:C=0
  ·have ht:(pkF i M x).2=true:=by rw [hb];simp [T]
   rw [ht]
   obtain ⟨-, -,J⟩:=O ht
   have Z:=h.sum_le hs
   obtain ⟨AW,cw,AL,cl,k1,k2,k3⟩:=h.rows
   refine (Cd (X:=D.X) (v0:=.slice AW (aB i).W cw) (v1:=.slice AL (aB i).W cl) L (R:=fun p=>∃o,aq w o/\Au E i o D B x (pkF i M x).1 p) (fun o q=>(I o q).mono fun e p A=>⟨A.1,?_,o,q,A.2⟩) Z T).mono ?_
   ·obtain ⟨a1,g1, -,Q, -⟩:=A.2
    exact (Q.block _ (LV h.mem.xl q.size) fun e=>e.2 rfl).trans (sb k1 o q)
   ·rintro e w3 ⟨he,p,⟨o,q,V⟩,rfl⟩
    obtain ⟨N,u,Q,f3,f4,BW,dw,BL,dl,g1,g2,g3⟩:=(h.below q).did V
    have hk:Keep (fun k=>k=D.X) p (p.setCell (ar D.X 2) (MO ((M.sum i+1:Nat):Int))):=Keep.setCell (S:=fun k=>k=D.X) (Keep.refl _ _) _ (.inr rfl) _
    have H:Ext (aF (N.hid (aB i).W E) p) (aF (N.hid (aB i).W E) (p.setCell (ar D.X 2) (MO ((M.sum i+1:Nat):Int)))):=bE (hk.mono fun k _ e=>.inl (.inl (e.trans u.symm))) fun k _ e=>e
    refine ⟨he,N,u,⟨Q.keepQ hk (fun k e=>.inl (e.trans u.symm)) (fun j c hj _ e=>nJ hj g1 (by decide) e),hA,BW,dw,BL,dl,?_,aV g2 H,aV g3 H⟩,?_,fun k e=>(f4 k e).imp id fun e=>LU q.size e⟩
    ·rw [u,J]
     exact ss g1
    ·refine (Keep.below q).trans ((f3.mono fun k _ e=>e.1).trans (hk.mono fun k _ e=>.inl e))
  ·have hf:(pkF i M x).2=false:=by rw [hb];simp [T]
   rw [hf]
   refine (Eo L (fun w' q=>(I w' q).mono fun e p A=>⟨A.1,(⟨w',q,A.2⟩:∃o,aq w o/\Au E i o D B x (pkF i M x).1 p)⟩) T).mono ?_
   rintro e p ⟨he,o,q,V⟩
   obtain ⟨N,u,Q,f3,f4,f5⟩:=(h.below q).did V
   exact ⟨he,N,u,⟨Q,hA,by rw [U hf,u];exact f5⟩,(Keep.below q).trans (f3.mono fun k _ e=>e.1),fun k e=>(f4 k e).imp id fun e=>LU q.size e⟩
 ·have e1:pkZ i M z=(M,false):=by unfold pkZ;rw [if_neg hz]
  rw [e1]
  obtain ⟨AW,cw,AL,cl,h1, -, -⟩:=h.rows
  refine (Ce fun w' q=>qD (sb h1 w' q) ap).mono ?_
  rintro e p ⟨he,q⟩
  exact ⟨he,D,rfl,h.below q,Keep.below q,fun k e=>.inl e⟩
end
theorem zB {w:World} {base l c:Nat} (hc:1<=c) (h:c<=1048576) (hb:aC w l (MP) c 0 0 0):aW w base l none (LSt.new c):=
 ⟨⟨hc,h,LO _,by simp [LSt.new],LS _,by simp [LSt.new],by simp [LSt.new]⟩,MP,[],hb,by simpa [LSt.new] using LZ _ _ _ _,rfl,by simp [LSt.new],by simp,by simp [LSt.new]⟩
def WMk (i:Inp) (X:Nat) (bs h:List Nat) (rb:Nat->Prop) (w:World):Prop:=∃b l a s t,bs=(List.range bs.length).map b/\h=(List.range bs.length).map l/\gW i w (X+1) b l a s t bs.length/\X<w.heap.size/\
 ∀j,rb j->X<j/\j<w.heap.size/\∀y,y<bs.length->(j<s y\/t y<=j)/\j≠l y
theorem xo (b:Nat->Nat) (k v:Nat):(List.range (k+1)).map (aZ b k v)=(List.range k).map b++[v]:=by
 rw [ME,List.map_append]
 congr 1
 ·exact List.map_congr_left fun x h=>bC _ _ (by have:=List.mem_range.1 h;omega)
 ·simp [bJ]
theorem WMk.next {i:Inp} {X k D l1 cap:Nat} {bs T:List Nat} {rb u:Nat->Prop} {w I O:World} {a1:MAd} (h:WMk i X bs T rb w) (hk:bs.length=k) (v:i.cfg.cap.toNat=cap) (hc:1<=cap/\cap<=1048576) (U:aq w I) (L:∀j,Mut D a1 j->w.heap.size<=j)
  (hm:∀(H:Nat->Prop) w'',Keep (fun k=>k<w.heap.size) I w''->(∀k,H k->k<w.heap.size)->aT H w'' D i k a1 (fB i)) (hs:Ix X cap rb u l1 I O):WMk i X (bs++[D]) (T++[l1]) u O:=by
 obtain ⟨b,l,a,s,t,h1,R,A,Z,p⟩:=h
 rw [hk] at h1 R A p
 have V:=U.size
 have x:=A.below U
 have Q:∀j,(j=X\/rb j)->j<w.heap.size:=fun j e=>e.elim (fun e=>ap) fun e=>(p j e).2.1
 have J:gW i O (X+1) b l a s t k:=x.keep hs.hk fun j _ e=>by
  refine ⟨fun y N=>?_,fun c=>hs.hty j c e⟩
  rcases e with rfl | e
  ·have:=A.chain y N
   omega
  ·exact (p j e).2.2 y N
 have Y:=A.more (l1:=l1) ap L hm x J V (hs.hk.mono fun j _ e=>.inl (Q j e)) hs.hl.1 hs.hl.2 (fun B=>by
  rw [v];exact zB hc.1 hc.2 hs.hb)
 have o:(bs++[D]).length=k+1:=by simp [hk]
 refine ⟨_,_,_,_,_,?_,?_,by rw [o];exact Y,by have:=hs.hk.size;omega,fun j e=>?_⟩
 ·rw [o,xo,<-h1]
 ·rw [o,xo,<-R]
 ·rw [o]
  refine ⟨(hs.hrb j e).elim (fun e=>(p j e).1) fun e=>ap,hs.hrl j e,fun y N=>?_⟩
  by_cases C:y=k
  ·subst C
   simp only [bJ]
   rcases hs.hrb j e with e | e
   ·have:=(p j e).2.1
    have:=hs.hl.1
    omega
   ·omega
  ·simp only [bC _ _ C]
   rcases hs.hrb j e with e | e
   ·exact (p j e).2.2 y ap
   ·have:=A.chain y ap
    omega
theorem vL (i:Inp):(kK i).sum i=0:=by
 unfold WSt.sum
 have:∀x,(kK i).pos i x=0:=fun x=>by simp [WSt.pos,kK,bD,fB]
 rw [List.map_congr_left (g:=fun _=>0) fun x _=>this x]
 induction (List.range (aB i).W) with
 | nil=>rfl
 | cons _ l ih=>simpa using ih
def At (E:Nat->Prop) (i:Inp) (w:World) (e:Ending) (h:World):Prop:=∃D B,e=.returned (.tuple #[(au D.X),MO 0])/\WAt E i h D B (kK i)/\aq w h/\∀j,D.all (aB i).W j->w.heap.size<=j
theorem tp {E:Nat->Prop} (A:Option Addr) (c:Nat) (D:Option Addr) (O:Nat) (T:Option Addr) (L:Nat) (R:Option Addr) (N:Nat) (i:Inp) (w:World) (h:ge w A c D T L R i) (hs:cK i) (hE:∀j,E j->j<w.heap.size):
  Calls prog 13 #[.agg (aO A c D O T L R N i)] w (At E i w):=by
 obtain ⟨W1,u⟩:∃W1,w.alloc (.cells (aO A c D O T L R N i) 29)=W1:=⟨_,rfl⟩
 have V:aq w W1:=by rw [<-u];exact (br w).alloc (LO _) _
 have ad:W1.heap.size=w.heap.size+1:=by rw [<-u];simp
 have hg:=hs.g.c
 have a9:=hg.w;have a7:=hg.ca
 have ew:((aB i).W:Int)=i.cfg.workers:=by simp only [aB];omega
 have ec:((i.cfg.cap.toNat:Nat):Int)=i.cfg.cap:=ap
 have av:=hs.ok.W8
 have hI:=fun o (q:aq W1 o)=>(h.below V).below q
 have I:=fun o (q:aq W1 o)=>um A c D O T L R N i o (hI o q)
 have Y:=fun (x:Nat) o (q:aq W1 o) (hx:x<(aB i).W)=>Dm A c D O T L R N i x o (hI o q) hs hx
 have hv:aO A c D O T L R N i=#[.slice A i.cfg.sizes.length c,MO i.cfg.shift,MO i.cfg.rate,MO i.cfg.mom,MO ((aB i).W:Nat),MO i.cfg.batch,MO i.cfg.micros,MO i.cfg.steps,MO i.cfg.bucket,MO i.cfg.chunk,MO i.cfg.window,MO (i.cfg.cap.toNat:Nat),.slice D i.data.length O,.slice T i.start.length L,.slice R i.draws.length N]:=by rw [ew,ec]
 rw [oV.2 hs.g] at I
 rw [hv] at I Y u ⊢
 refine (Ep (J:=fun X bs ls rb o=>WMk i X bs ls rb o) u ap ap I (fun o=>Jh _ o ap) (fun X o _ hX _=>⟨fun _=>0,fun _=>0,fun _=>⟨0,none,0,0,0,none,0,0,0,0,0,0,0,0,0,none,0,MP⟩,fun _=>0,fun _=>0,rfl,rfl,gW.zero,hX,fun j e=>e.elim⟩) (fun X k bs ls rb o hk a5 hX q a1 a6 hJ=>?_)).mono ?_
 ·refine (Y k o q hk).mono ?_
  rintro e w1 ⟨b,a,rfl,a0,a4,hm⟩
  exact ⟨b,rfl,a0,fun l1 ab w2 a2=>hJ.next a1 rfl ap a0 a4 hm a2⟩
 ·rintro e o ⟨X,bs,ls,AW,AL,cw,cl,rfl,m⟩
  obtain ⟨b,l,a,s,t,h1,h2,Q,h4,h5⟩:=m.j
  rw [m.hb] at h1 h2 Q h5
  have hq:=m.q.size
  have a5:=m.lo
  have Z:gi E i o ⟨X,b,l,a,fun _=>none⟩ o.heap.size (kK i):=Q.mem (Nat.lt_succ_self X) h4 (fun j e=>by have:=hE j e;omega) ap
  have H:∀{e:TypeId} {v:Value} {xs:List Value},o.ownsRow (X+1) e 1 v (aB i).W xs->(∀j,v.ownBlock=some j->lR (.slice AW (aB i).W cw) (.slice AL (aB i).W cl) j)->∀A n c',v=.slice A n c'->n=(aB i).W->Rd (aF ((⟨X,b,l,a,fun _=>none⟩:WAd).hid (aB i).W E) o) A xs:=by
   rintro e v xs ho hv A n c' rfl rfl
   refine lh (Rd.own ho) fun y p C=>?_
   have a8:X+1<=y.block:=by
    rcases ho.2 with ⟨B,_⟩ | ⟨g,_,_,B,_⟩
    ·injection B with e1;rw [e1] at p;cases p
    ·have U:=(ho.lt g (by rw [B];simp [Value.ownBlock])).1
     injection B with e1;rw [e1] at p;cases p;exact U
   have a3:lR (.slice AW (aB i).W cw) (.slice AL (aB i).W cl) y.block:=by
    rcases ho.2 with ⟨B,_⟩ | ⟨g,_,_,B,_⟩
    ·injection B with e1;rw [e1] at p;cases p
    ·have U:=hv g (by rw [B];simp [Value.ownBlock])
     injection B with e1;rw [e1] at p;cases p;exact U
   have U:=h5 _ a3
   rcases C with (C | ⟨z,hz,C | C⟩) | C
   ·have ao:y.block=X:=C
    omega
   ·have:=Q.win z hz _ C
    have:=(U.2.2 z hz).1
    omega
   ·exact (U.2.2 z hz).2 (jY C)
   ·have:=hE _ C
    omega
  refine ⟨⟨X,b,l,a,fun _=>none⟩,o.heap.size,rfl,⟨Z,jM.zero hs,AW,cw,AL,cl,?_,?_,?_⟩,V.trans (m.q.mono ap),?_⟩
  ·have:=m.box
   rw [vL]
   exact this
  ·have:=H m.oW (fun j e=>.inl e) AW _ cw rfl rfl
   rw [h1,List.map_map] at this
   exact this
  ·have:=H m.oL (fun j e=>.inr e) AL _ cl rfl rfl
   rw [h2,List.map_map] at this
   exact this
  ·rintro j (e | ⟨y,p,e | e⟩)
   ·have hj:j=X:=e
    omega
   ·have:=Q.win y p j e
    have:=Q.chain y p
    omega
   ·have hj:j=l y:=jY e
    have:=Q.chain y p
    omega
theorem vV:cW prog 152 12:=⟨⟨_,underlying152,rfl⟩,by kernel_rfl⟩
theorem Co {X n cw:Nat} {Z:Option Addr} {bs:List Nat} {v1 v2:Value} {w:World} {ok:Nat->Bool} {B:Bool} (hb:w.heap[X]?=some (.cells #[.slice Z n cw,v1,v2] 96 (0,0))) (U:Rd w Z (bs.map fun b=>.iface 97 ((au b)))) (hn:bs.length=n) (a1:n<=1000)
  (hB:B=true↔∀k,k<n->ok k=false)
  (hx:∀k b u,bs[k]?=some b->aq w u->Calls prog 218 #[(au b)] u fun e Q=>∃H:Array Value,e=.returned (.tuple #[.agg H,.bool (ok k)])/\(H.size=12/\H.toList.all (·.oneCell')=true)/\aq u Q):
  Calls prog 32 #[(au X)] w fun e u=>e=.returned (.bool B)/\aq w u:=by
 have t:=fun u q=>bx3 (sb hb u q)
 have hm:∀(b:Nat) (w:World),(method 496 97 ((au b)) "Next").run prog w=.ok (218,(au b)) w:=fun _ _=>by kernel_rfl
 obtain ⟨HW,HX,V,Hn,HM⟩:=ah U hx hB hn hm
 have q0:=br w
 clear hb U hx hB hn hm
 go_enter func32,ntmps32
 go_wp2_with fail
 go_loopw [14] (fun v wr=>∃k:Nat,k<=n/\v=MO k/\(∀j,j<k->ok j=false)/\aq w wr) (fun v _=>n-(intOf v).toNat)
 case atStart=>exact ⟨0,LS _,rfl,fun j hj=>absurd hj (Nat.not_lt_zero j),q0⟩
 case round=>
  obtain ⟨k,hk,rfl,p,q⟩:=hrel
  have HA:=aa p;clear p
  by_cases y:k<n
  ·have a0:(k:Int)<n:=ap
   obtain ⟨b,x⟩:∃b,bs[k]?=some b:=⟨_,Mq (by rw [Hn.o];exact y)⟩
   have hr:=HW.o k (.iface 97 ((au b))) (by rw [List.getElem?_map,x];rfl)
   obtain ⟨b1,o1,rfl,c1⟩:=hr
   have c2:=(World.cell?_of_block (q.block b1 (az c1))).trans c1
   have Y:=HX.o k b wr x q
   obtain ⟨CX,D⟩:=ae Y q
   have L:=HM.o b
   clear Y x c1
   have tq:=t wr q
   clear t
   go_wp2_with fail
   refine CX.o.mono ?_
   rintro e w1 ⟨H,rfl,⟨C,i⟩,T⟩
   obtain ⟨I,HO,h⟩:=af C i (D.o.trans (T.mono D.o.size));clear C i T q tq c2 L
   cases hok:ok k with
   | true=>
    have O:=aa hok;clear hok
    go_wp2_with (refine aJ (LP _ _) vV rfl rfl rfl rfl I.o (by rw [I.o];rfl) HO.o ?_;intro w3 R A;have J:=aa A;clear R A)
    go_ret
    have N:B=false:=by
     cases hBB:B with
     | false=>rfl
     | true=>have:=V.o.1 hBB k y;rw [O.o] at this;cases this
    refine ⟨by rw [N];rfl,?_⟩
    exact (h.o.alloc h.o.size _).trans (J.o.toBelow (by rw [Mb];have:=h.o.size;omega) (fun j e=>by have:=h.o.size;omega))
   | false=>
    have O:=aa hok;clear hok
    go_wp2_with (refine aJ (LP _ _) vV rfl rfl rfl rfl I.o (by rw [I.o];rfl) HO.o ?_;intro w3 R A;have J:=aa ((h.o.alloc h.o.size _).trans (A.toBelow (by rw [Mb];have:=h.o.size;omega) (fun j e=>by have:=h.o.size;omega)));clear R A)
    go_roundw
    case rel=>
     refine ⟨k+1,by omega,by go_num,fun j hj=>?_,J.o⟩
     rcases Ma j k with h1 | h1
     ·exact HA.o j h1
     ·obtain rfl:j=k:=ap
      exact O.o
    case measure=>simp [intOf];omega
  ·obtain rfl:k=n:=ap
   have D:=aa q;clear t q
   go_wp2_with fail
   go_ret
   exact ⟨by rw [V.o.2 HA.o];rfl,D.o⟩
structure WIn (E:Nat->Prop) (i:Inp) (V:World) (X:Nat) (M:WSt) (w:World):Prop where
 ex:∃D B,D.X=X/\WAt E i w D B M/\∀j,D.all (aB i).W j->V.heap.size<=j
 q:aq V w
section
variable {E:Nat->Prop} {i:Inp} {V w w':World} {X:Nat} {M:WSt}
theorem WIn.below (h:WIn E i V X M w) (hb:aq w w'):WIn E i V X M w':=by
 obtain ⟨⟨D,B,h1,o,u⟩,p⟩:=h
 exact ⟨⟨D,B,h1,o.below hb,u⟩,bt p hb⟩
theorem WIn.al (h:WIn E i V X M w):jM i M:=by
 obtain ⟨⟨D,B,h1,o,u⟩,p⟩:=h
 exact o.al
theorem At.win {e:Ending} (h:At E i w e w'):∃X,e=.returned (.tuple #[(au X),MO 0])/\WIn E i w X (kK i) w'/\w.heap.size<=X/\aq w w':=by
 obtain ⟨D,B,h1,u,p,o⟩:=h
 exact ⟨D.X,h1,⟨⟨D,B,rfl,u,o⟩,p⟩,o _ (.inl rfl),p⟩
theorem WIn.done (h:WIn E i V X M w) (hs:cK i) {Bo:Bool} (hB:Bo=true↔M.fin i):
  Calls prog 32 #[(au X)] w fun e w'=>e=.returned (.bool Bo)/\aq w w':=by
 obtain ⟨⟨D,B,rfl,v,Y⟩,T⟩:=h
 obtain ⟨U,Z,Q,cl,I,L,R⟩:=v.rows
 have N:=hs.ok.W8
 have O:((List.range (aB i).W).map D.b).map (fun b=>Value.iface 97 ((au b)))=qP D (aB i).W:=by rw [List.map_map];rfl
 refine Co (ok:=fun x=>decide (M.pos i x<(dQ i x).length)) (bs:=(List.range (aB i).W).map D.b) I (by rw [O];exact aV L (eC _ _)) (by simp) ap ?_ fun x b w' hb q=>?_
 ·rw [hB]
  constructor
  ·intro C x p
   have:=C x p
   simp [this]
  ·intro C x p
   have J:=C x p
   have h6:=v.al.pos_le hs p
   simp only [MK] at J
   omega
 ·have p:x<(aB i).W:=by
   have:=(Mp.1 hb).1
   simpa using this
  have A:b=D.b x:=by
   rw [List.getElem?_map,List.getElem?_range p] at hb
   simpa using hb.symm
  subst A
  have hm:=(v.below q).mem.mach x p
  have u:=v.al.ok.mok x p
  cases hy:(cR i x (M.m x).st)[(M.m x).nx]? with
  | none=>
   refine (Bg hm (List.getElem?_eq_none_iff.1 hy)).mono ?_
   rintro e H ⟨rfl,k⟩
   have o:=u.cur hs
   rw [hy] at o
   have:=List.getElem?_eq_none_iff.1 o.symm
   exact ⟨_,by rw [show decide (M.pos i x<(dQ i x).length)=false from MJ (by unfold WSt.pos;omega)],⟨rfl,by decide⟩,k⟩
  | some y=>
   refine (ub hm hy).mono ?_
   rintro e H ⟨rfl,k⟩
   have o:=u.cur hs
   rw [hy] at o
   have:=(Mp.1 o.symm).1
   exact ⟨_,by rw [show decide (M.pos i x<(dQ i x).length)=true from MI this],⟨by simp [pP],by rw [List.all_eq_true];exact Bn y⟩,k⟩
end
end Go.Proofs.YtgmajkppbhiopaaGreat
