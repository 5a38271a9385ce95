/- No condition. -/
import Derived.Test.YtindmkcnjlgomaaGreatQ23
set_option linter.unusedSimpArgs false
set_option linter.unusedVariables false
set_option maxRecDepth 100000
set_option maxHeartbeats 4000000
namespace Go.Proofs.YtindmkcnjlgomaaGreat
open Go.RowKit
open Tryz
theorem C4 {w:R8} {vs:R6} {i:Inp} {x:Nat} {m:Mst} {s t:LSt} {u v:R6} {S:Nat->Prop} (hS:∀k,S k->k<w.heap.size) (h:iq (aH S w) vs i x m) (hu:RL (aH S w) u s) (hv:RL (aH S w) v t) (hs:bD i) {y:Itm} (hy:(dC i x)[bF i x m]?=some y) (k1 k2:Int) (b0 b1:Bool) (i0 i1 i2 i3 i4 i5 i6:Int) (ci:bC y=[RI 5,RI k1,RI k2,.bool b0,.bool b1,RI i0,RI i1,RI i2,RI i3,RI i4,RI i5,RI i6]) (bn lo B:Nat) (bw:k2=(bn:Nat)) (cx:bn<(ax i).buks.length) (cs:aK (ax i).buks bn=(lo,B)) (bs:lo<B) (bM:B<=i.start.length) (m1:Mst) (h1:m1.P=apP i.cfg.rate i.cfg.mom i.cfg.shift m.P m.M ((m.G.drop lo).take (B-lo)) lo (B-lo)/\m1.M=apM i.cfg.mom i.cfg.shift m.M ((m.G.drop lo).take (B-lo)) lo (B-lo)/\m1.G=m.G/\m1.rc=m.rc) (bi:bF i x m1=bF i x m+1):Calls prog 118 #[.agg vs,.agg u,.agg v] w (λe p=>pV S i x m1 (s) (t) 0 w e p):=by
 have ek:=aa bw;clear bw;obtain ⟨A,c,D,cd,T,ct,R,cr,PA,pc,MA,mc,GA,gc,SA,sc,bI,oI,ic,B1,c1,B2,c2,dn,il,W0,rfl,rfl,rfl,H⟩:=lq hS h hu hv hs hy;have bh:=H.rw';rw [ci] at bh;rw [H.dn'] at bi;obtain ⟨dc,H1,cO⟩:=af bh h1 bi;obtain ⟨ei,ee,tl,dv,d0,ea,d5⟩:=H.loc;have q0:=br W0;clear h hu hv hs hy ci hS h1 bi bh;go_enter func118,ntmps118;go_upto_region 1 with (fail);rw [H.eW];go_upto_region 4 with (first | (refine kJ dc.o jD rfl rfl rfl ?_) | (refine aI (Qy _ _) jD rfl rfl rfl rfl rfl rfl rfl ?_;intro W3 e3 k3;obtain ⟨E3,K3⟩:=ae e3 (aO k3);clear e3 k3));clear ei ee tl q0 dv d0 ea d5;go_upto_region 5 with (first | (refine aN #[RI i5,RI i6] (b:=W0.heap.size) E3.o gL rfl rfl rfl rfl ?_) | (refine aI (Qy _ _) gL rfl rfl rfl rfl rfl rfl rfl ?_;intro Z e4 k4;obtain ⟨E4,K4⟩:=ae e4 (aO k4);clear e4 k4));have y0:Z.cell? (ar W0.heap.size 0)=some (RI 5):=Qz Z _ 0 _ _ _ (sb E3.o _ K4.o);have aP:=aa (bt K3.o K4.o);go_upto_region 23 with (fail);have bX:=aa (H.bx _ aP.o).1;have eb:=aa (sb E3.o _ K4.o);have bO:=H.K.trans (aP.o.mono H.K.size);have q4:=(br Z).drew;have x2:∀p,aq Z p->p.cell? (ar W0.heap.size 2)=some (RI (bn:Nat)):=λp q=>by rw [<-ek.o];exact Qz p _ 2 _ _ _ (sb eb.o p q)
 have hc:=H.s'.g.c;have ew:(((ax i).W:Nat):Int)=i.cfg.workers:=by have:=hc.w;simp only [ax];omega
 have eu:(((ax i).bu:Nat):Int)=i.cfg.bucket:=by have:=hc.bu;simp only [ax];omega
 have ec:(((ax i).ck:Nat):Int)=i.cfg.chunk:=by have:=hc.ch;simp only [ax];omega
 have en:(ax i).n=i.start.length:=rfl;have a6:=λp=>lj A i.cfg.sizes.length c i.cfg.shift i.cfg.rate i.cfg.mom i.cfg.workers i.cfg.batch i.cfg.micros i.cfg.steps i.cfg.bucket i.cfg.chunk i.cfg.window i.cfg.cap D i.data.length cd T i.start.length ct R i.draws.length cr p;have a0:=λp=>uB (ax i) (.slice A i.cfg.sizes.length c) (RI i.cfg.shift) (RI i.cfg.rate) (RI i.cfg.mom) (RI i.cfg.batch) (RI i.cfg.micros) (RI i.cfg.steps) (RI i.cfg.window) (RI i.cfg.cap) p H.s'.ok (by have:=hc.bu;simp only [ax];omega);simp only [ew,eu,ec,en] at a0;have bb:=eA cx;rw [cs] at bb;have dr:=H.s'.ok.buks;obtain ⟨nb,b9⟩:∃nb,(ax i).buks.length=nb:=⟨_,rfl⟩;rw [b9] at a0 cx dr;have av:(bn:Int)<nb:=ap;have a9:¬(bn:Int)<0:=ap;have ab:¬nb<=bn:=ap;obtain ⟨ad,a8,c6,a4,c7,aM⟩:=ai a6 a0 bO bb bs bM;clear a6 a0 bO bb cs b9 ew eu ec en y0 bs bM
 go_cut [21] (λv wx=>∃J,v=(au J)/\wx.heap[J]?=some (.cells #[RI (lo:Nat),RI (B:Nat)] 67 (0,0))/\aq Z wx)
 case first=>
  refine HA.g (λp:R8=>aq Z p) ?_;refine HA.t ?_ [0,4,5] q4 ?_;refine HA.ld 1 (aL A c D cd T ct R cr i) (λp q=>sb bX.o p q) ez q4 ?_;refine HA.two 2 8 ?_ ?_
  .skip
   refine HAS.c (ad.o _) ?_;rintro e w5 ⟨rfl,k5⟩;have O:=q4.trans (k5.mono q4.size);refine ⟨_,rfl,O,λ_=>?_⟩;refine HA.two 3 8 ?_ ?_
   .skip
    refine HAS.c (a8.o _) ?_;rintro e Q ⟨v6,rfl,L,k6⟩;have C:=O.trans (k6.mono O.size);obtain ⟨g6,cv,rfl,_⟩:=L.form ap;have a3:=L.1;have c0:=L.cellAt (bn*2) ap;have I:=L.cellAt (bn*2+1) ap;rw [a4.o.1] at c0;rw [a4.o.2] at I;refine ⟨_,rfl,C,λ_=>?_⟩;refine HA.t ?_ [6] C ?_;have a2:=(L.lt g6 rfl).2;refine HA.two 7 8 ?_ ?_;rotate_left
    .refine HAS.v (Q.alloc (.cells #[RI 0,RI 0] 67)) ((au Q.heap.size)) (C.alloc C.size _) ?_;have c0:=aw ((br Q).alloc (Qx _) (.cells #[RI 0,RI 0] 67)) c0;have I:=aw ((br Q).alloc (Qx _) (.cells #[RI 0,RI 0] 67)) I;have dT:g6<(Q.alloc (.cells #[RI 0,RI 0] 67)).heap.size:=by rw [QP];omega
     refine HA.v 7 (Q.alloc (.cells #[RI 0,RI 0] 67)) (.agg #[RI (lo:Nat),RI (B:Nat)]) (C.alloc C.size _) ?_;refine HA.st 9 (Qy Q _) gL (λw7 Y k7=>?_);have N:=C.trans ((aO k7).mono C.size);refine ⟨N,HA.d ?_⟩;have HF:=aa (QF Y N);clear Y k7 N C O q4 k5 k6 L c0 I a2 dT a3 x2 av a9 ab;go_wp2_with fail;go_meet;exact ⟨_,rfl,HF.o⟩
    refine HAS.v Q (.agg #[RI (lo:Nat),RI (B:Nat)]) C ?_;refine HA.v 8 (Q.alloc (.cells #[RI 0,RI 0] 67)) ((au Q.heap.size)) (C.alloc C.size _) ?_;refine HA.st 9 (Qy Q _) gL (λw7 Y k7=>?_);have N:=C.trans ((aO k7).mono C.size);refine ⟨N,HA.d ?_⟩;have HF:=aa (QF Y N);clear Y k7 N C O q4 k5 k6 L c0 I a2 a3 x2 av a9 ab;go_wp2_with fail;go_meet;exact ⟨_,rfl,HF.o⟩
   .skip
    refine HAS.v (w5.alloc (.cells #[RI 0,RI 0] 67)) ((au w5.heap.size)) (O.alloc O.size _) ?_;have gA:=Qy w5 (.cells #[RI 0,RI 0] 67);have qa:=O.alloc O.size (.cells #[RI 0,RI 0] 67);have jA:Z.heap.size<=w5.heap.size:=O.size;obtain ⟨jj,a7⟩:∃jj,w5.heap.size=jj:=⟨_,rfl⟩;obtain ⟨wa,ao⟩:∃wa,w5.alloc (.cells #[RI 0,RI 0] 67)=wa:=⟨_,rfl⟩;rw [ao] at gA qa |-;rw [a7] at gA jA |-;clear ao a7;refine HA.c 3 (a8.o _) ?_;rintro e Q ⟨v6,rfl,L,k6⟩;have C:=qa.trans (k6.mono qa.size);obtain ⟨g6,cv,rfl,_⟩:=L.form ap;have a3:=L.1;have c0:=L.cellAt (bn*2) ap;have I:=L.cellAt (bn*2+1) ap;rw [a4.o.1] at c0;rw [a4.o.2] at I;refine ⟨_,rfl,C,λ_=>?_⟩;refine HA.t ?_ [6] C ?_;have a2:=(L.lt g6 rfl).2;refine HA.v 7 Q (.agg #[RI (lo:Nat),RI (B:Nat)]) C ?_;refine HA.st 9 (sb gA _ k6) gL (λw7 Y k7=>?_);have N:=C.trans (k7.toBelow C.size (λj hj=>by have e':j=jj:=hj;omega));refine ⟨N,HA.d ?_⟩;have HF:=aa (QF Y N);clear Y k7 N C O q4 qa gA jA k5 k6 L c0 I a2 a3 x2 av a9 ab;go_wp2_with fail;go_meet;exact ⟨_,rfl,HF.o⟩
  .skip
   refine HAS.v (Z.drew.alloc (.cells #[RI 0,RI 0] 67)) ((au Z.drew.heap.size)) (q4.alloc q4.size _) ?_;have gA:=Qy Z.drew (.cells #[RI 0,RI 0] 67);have qa:=q4.alloc q4.size (.cells #[RI 0,RI 0] 67);have jA:Z.heap.size<=Z.drew.heap.size:=q4.size;obtain ⟨jj,a7⟩:∃jj,Z.drew.heap.size=jj:=⟨_,rfl⟩;obtain ⟨wa,ao⟩:∃wa,Z.drew.alloc (.cells #[RI 0,RI 0] 67)=wa:=⟨_,rfl⟩;rw [ao] at gA qa |-;rw [a7] at gA jA |-;clear ao a7;refine HA.c 2 (ad.o _) ?_;rintro e w5 ⟨rfl,k5⟩;have O:=qa.trans (k5.mono qa.size);refine ⟨_,rfl,O,λ_=>?_⟩;refine HA.c 3 (a8.o _) ?_;rintro e Q ⟨v6,rfl,L,k6⟩;have C:=O.trans (k6.mono O.size);obtain ⟨g6,cv,rfl,_⟩:=L.form ap;have a3:=L.1;have c0:=L.cellAt (bn*2) ap;have I:=L.cellAt (bn*2+1) ap;rw [a4.o.1] at c0;rw [a4.o.2] at I;refine ⟨_,rfl,C,λ_=>?_⟩;refine HA.t ?_ [6] C ?_;have a2:=(L.lt g6 rfl).2;refine HA.v 7 Q (.agg #[RI (lo:Nat),RI (B:Nat)]) C ?_;refine HA.st 9 (sb (sb gA _ k5) _ k6) gL (λw7 Y k7=>?_);have N:=C.trans (k7.toBelow C.size (λj hj=>by have e':j=jj:=hj;omega));refine ⟨N,HA.d ?_⟩;have HF:=aa (QF Y N);clear Y k7 N C O q4 qa gA jA k5 k6 L c0 I a2 a3 x2 av a9 ab;go_wp2_with fail;go_meet;exact ⟨_,rfl,HF.o⟩
 case rest=>
 obtain ⟨J,rfl,Y,N⟩:=hcut;obtain ⟨w7,rfl⟩:∃w7,w7=wc:=⟨_,rfl⟩;obtain ⟨E7,Q7⟩:=ae Y N;clear Y N q4 x2 av a9 ab;go_upto_region 24 with (fail);have b6:=aa (sb bX.o _ Q7.o);have q8:=(br w7).drew;have ev:B<=gc:=by have:=H.hG.hc;have:=H.Gl;have:=aM.o;omega
 obtain ⟨gb,go,rfl, -⟩:=H.hG.hr.num (show 0<m.G.length by have:=H.Gl;have:=c7.o;have:=aM.o;omega);have e0:∀p,aq w7 p->p.cell? (ar w.heap.size 18)=some (.slice (some (ar gb go)) i.start.length gc):=λp q=>Qz p _ 18 _ _ _ (sb b6.o p q);have y0:∀p,aq w7 p->p.cell? (ar J 0)=some (RI (lo:Nat)):=λp q=>Qz p _ 0 _ _ _ (sb E7.o p q);have y1:∀p,aq w7 p->p.cell? (ar J 1)=some (RI (B:Nat)):=λp q=>Qz p _ 1 _ _ _ (sb E7.o p q);have cI:=c7.o;have eG:(lo:Int)<=B:=ap;have eB:(B:Int)<=gc:=ap;have eo:lo<=B:=ap;have er:¬gc=lo:=ap;have aR:aq w w7:=c6.o.trans (Q7.o.mono c6.o.size);have b7:((m.G.drop lo).take (B-lo)).length=B-lo:=by have:=H.Gl;have:=aM.o;rw [Rn,Rq];omega
 have c8:=λp (q:aq w7 p)=>by
  have bf:aq w p:=aR.trans (q.mono aR.size)
  have d8:Rd p (some (ar gb (go+lo))) (aA .i64 ((m.G.drop lo).take (B-lo))):=by
   have:=((H.hG.hr.below bf).drop lo).take (B-lo)
   rwa [dL,dE] at this
  exact C9 i.cfg.rate i.cfg.mom i.cfg.shift PA MA (some (ar gb (go+lo))) m.P m.M ((m.G.drop lo).take (B-lo)) i.start.length pc mc (gc-lo) lo B (B-lo) p (H.hP.hr.below bf) (H.hM.hr.below bf) d8 H.Pl H.Ml b7 ap ap (by have:=H.s'.n;omega) aM.o (by have:=H.hP.hc;have:=H.Pl;omega) (by have:=H.hM.hc;have:=H.Ml;omega) H.hM.hw H.hI.ra H.hI.rm
 have cf:=λp=>JP A c i.cfg p;obtain ⟨dG,da,es⟩:=af c8 cf aR;clear c8 b7 aR cI cf;refine XA.g 19 (λp:R8=>aq w7 p) ?_;refine XA.t ?_ [0,1,4,7,8,9,10,11,12,13] q8 ?_;refine XA.ld 2 #[.slice A i.cfg.sizes.length c,RI i.cfg.shift,RI i.cfg.rate,RI i.cfg.mom,RI i.cfg.workers,RI i.cfg.batch,RI i.cfg.micros,RI i.cfg.steps,RI i.cfg.bucket,RI i.cfg.chunk,RI i.cfg.window,RI i.cfg.cap] (λp q=>sb b6.o p q) yD q8 ?_;refine XA.ld 5 #[.slice PA i.start.length pc,.slice MA i.start.length mc] (λp q=>sb b6.o p q) lL q8 ?_;refine XA.ld 6 #[RI (lo:Nat),RI (B:Nat)] (λp q=>sb E7.o p q) gL q8 ?_;refine XA.c 3 (da.o _) ?_;rintro e w8 ⟨rfl,k8⟩;have q9:=q8.trans (k8.mono q8.size);refine ⟨_,rfl,q9,λ_=>?_⟩;refine XA.c 14 (dG.o w8 q9) ?_;rintro e w9 ⟨A9,c9,B9,d9,rfl,bN,cA,o9,p9,k9⟩;have a5:=q9.trans (k9.mono q9.size);refine ⟨_,rfl,a5,λ_=>?_⟩;refine XA.t0 ?_ [15,16,17] a5 ?_;refine XA.t ?_ [18] a5 ?_;refine XA.e ?_;simp only [Re,Rf];have U:=sb b6.o _ a5;have d6:=Qz w9 w.heap.size 16 _ _ _ U;have dw:=Qz w9 w.heap.size 17 _ _ _ U;have d1:=QG w9 w.heap.size 16 _ _ U;have d4:=QG w9 w.heap.size 17 _ _ U;have el:=Qw U;obtain ⟨e5,cM,O9,P9,d2,ef,L8⟩:=aj U a5 o9 p9 bN cA q9.size;clear U a5 q9 q8 o9 p9 k9 k8 bN cA e0 y0 y1;go_upto_region 28 with (fail);have a1:=ss2 (i:=16) (j:=17) (v:=.slice A9 i.start.length c9) (u:=.slice B9 i.start.length d9) e5.o rfl;have kk:Keep (λk=>k=w.heap.size) w9 ((w9.setCell (ar w.heap.size 16) (.slice A9 i.start.length c9)).setCell (ar w.heap.size 17) (.slice B9 i.start.length d9)):=Keep.setCell (S:=λk=>k=w.heap.size) (Keep.setCell (S:=λk=>k=w.heap.size) (Keep.refl _ _) _ (.inr rfl) _) _ (.inr rfl) _;obtain ⟨V,hV⟩:∃V,(w9.setCell (ar w.heap.size 16) (.slice A9 i.start.length c9)).setCell (ar w.heap.size 17) (.slice B9 i.start.length d9)=V:=⟨_,rfl⟩;rw [hV] at a1 kk |-;have aG:=bt aP.o (bt Q7.o cM.o);have hb:=λ{b:Nat} {o:Obj} (h:W0.heap[b]?=some o) (h1:b≠w.heap.size)=>(kk.block b (Qw (sb h _ aG)) h1).trans (sb h _ aG);have bG:=hb (H.bx _ (br W0)).2.1 ap;have cw:=hb (H.bx _ (br W0)).2.2.1 ap;have bz:=hb (H.bx _ (br W0)).2.2.2.1 ap;have cn:=hb (H.bx _ (br W0)).2.2.2.2.1 ap;have cy:=hb (H.bx _ (br W0)).2.2.2.2.2 ap;have be:=H.K.trans (aG.mono H.K.size);have co:=be.trans (kk.toBelow be.size (λj hj=>Nat.le_of_eq (Eq.symm hj)));have ey:=Qw (H.bx _ (br W0)).2.2.2.2.2;have l8:w.heap.size+6<=w8.heap.size:=by have:=L8.o;have:=Q7.o.size;have:=aP.o.size;omega
 obtain ⟨cj,cc⟩:=ae (kk.own (aF O9.o l8) (λj hj e=>by have h1:=(O9.o.lt j hj).1;have h2:j=w.heap.size:=e;omega)) (kk.own (aF P9.o l8) (λj hj e=>by have h1:=(P9.o.lt j hj).1;have h2:j=w.heap.size:=e;omega));clear hV d6 dw d1 d4 el kk hb be aG l8;have df:=Qz V w.heap.size 21 _ _ _ a1;have cL:=QG V w.heap.size 21 _ _ a1;have lM:=Qw a1;have dp:=H.wd;have e9:=ss (i:=21) (v:=RI ((dn:Int)+1)) a1 rfl;have k9:Keep (λk=>k=w.heap.size) V (V.setCell (ar w.heap.size 21) (RI ((dn:Int)+1))):=Keep.setCell (S:=λk=>k=w.heap.size) (Keep.refl _ _) _ (.inr rfl) _;obtain ⟨E9,K9,d7,dd,e6,ds,d3,ej⟩:=ak e9 k9 bG cw bz cn cy co;clear e9 k9 bG cw bz cn cy co a1;go_upto_region 29 with (fail);obtain ⟨V9,bv⟩:∃V9,V.setCell (ar w.heap.size 21) (RI ((dn:Int)+1))=V9:=⟨_,rfl⟩;rw [bv] at E9 K9 |-;clear bv df cL lM dp;obtain ⟨b1,b2,b3,b4,b5⟩:=xK K9.o d7.o dd.o e6.o ds.o d3.o;have hq:aq V9 V9.drew:=(br V9).drew;refine HA.g (KB3 w.heap.size V9) ?_;refine HA.ld3 (vs:=#[.slice A i.cfg.sizes.length c,RI i.cfg.shift,RI i.cfg.rate,RI i.cfg.mom,RI i.cfg.workers,RI i.cfg.batch,RI i.cfg.micros,RI i.cfg.steps,RI i.cfg.bucket,RI i.cfg.chunk,RI i.cfg.window,RI i.cfg.cap,.slice D i.data.length cd,.slice T i.start.length ct,.slice R i.draws.length cr,RI (x:Nat),.slice A9 i.start.length c9,.slice B9 i.start.length d9,.slice (some (ar gb go)) i.start.length gc,.slice SA m.rc.length sc,.slice (some (ar bI oI)) il ic,RI (dn+1)]) E9.o b1 b2 et bR bR (Keep.below hq) ?_;refine HA.st3 3 4 5 b3 b4 b5 et bR bR hq (λw8 r3 r4 e8 q8=>?_);refine HA.t ?_ [6] q8 ?_;refine HA.d ?_;obtain ⟨R3,R4,R5⟩:=af r3 r4 e8;have F:=lp K9.o q8 ej.o;obtain ⟨bl,QW⟩:=ae F.1 F.2;clear b1 b2 b3 b4 b5 e8 q8 r3 r4 hq F;go_wp2_with fail;refine QM (fL rfl rfl rfl rfl R3.o R4.o R5.o et bR bR) rfl ?_;have b8:∀j,w.heap.size+6<=j->¬(w.heap.size<=j/\j<w.heap.size+6):=λj h1 h2=>ap;have e2:=bl.o.own cj.o (λj hj=>b8 j (cj.o.lt j hj).1);have e1:=bl.o.own cc.o (λj hj=>b8 j (cc.o.lt j hj).1);have bA:∀k,S k->k<w.heap.size+6:=λk hk=>by have:=H.S' k hk;omega
 have em:=H.s'.n;have lP:=pH i.cfg.rate i.cfg.mom i.cfg.shift m.P m.M ((m.G.drop lo).take (B-lo)) lo (B-lo);have lM:=pI i.cfg.mom i.cfg.shift m.M ((m.G.drop lo).take (B-lo)) lo (B-lo);have cY:cU (aH S w8) A9 (apP i.cfg.rate i.cfg.mom i.cfg.shift m.P m.M ((m.G.drop lo).take (B-lo)) lo (B-lo)) c9:=⟨by have:=d2.o;have:=H.Pl;omega,by have:=H.Pl;omega,ii e2 bA,Ff H.hP.hw⟩;have dk:cU (aH S w8) B9 (apM i.cfg.mom i.cfg.shift m.M ((m.G.drop lo).take (B-lo)) lo (B-lo)) d9:=⟨by have:=ef.o;have:=H.Ml;omega,by have:=H.Ml;omega,ii e1 bA,zn H.hM.hw⟩;have hX:Ext (aH S w) (aH S w8):=bP (Keep.below QW.o) (λ_ _ h=>h);obtain ⟨bo,cb,cl,bV⟩:=H1.o;exact ⟨_,_,_,rfl,rfl,rfl,⟨A,c,D,cd,T,ct,R,cr,A9,c9,B9,d9,some (ar gb go),gc,SA,sc,some (ar bI oI),ic,by rw [H.il',cO.o,bV];push_cast;rfl,eN H.I0 hX,by rw [bo];exact cY,by rw [cb];exact dk,by rw [cl];exact bQ H.G0 hX,by rw [bV];exact fj cW H.R0 hX,aW H.It0 hX,by rw [bo];exact (lP.trans H.Pl),by rw [cb];exact (lM.trans H.Ml),by rw [cl];exact H.Gl⟩,⟨B1,c1,rfl,dy H.s0 hX,H.s2⟩,⟨B2,c2,rfl,dy H.t0 hX,H.t2⟩,QW.o⟩
section
variable {P:Program} {ops:T0} {Q:Exit->T1->R8->Prop} {S:R8->Prop} {n:Nat}
structure XAS (P:Program) (ops:T0) (Q:Exit->T1->R8->Prop) (S:R8->Prop) (n i:Nat) (L:List Nat) (a:T1) (w:R8):Prop where
 out:∃o,ops[i]?=some o/\∀K':T1->R8->Prop,Shut (∀a w,S w->(S w->XA P ops Q S n (i::L) a w)->K' a w)->if Region.wanted o (yielded ops a.tmps)=true then Oper.wp P o a w K' Q else K' (a.put o.dst undef) w
theorem XAS.v {L:List Nat} {a:T1} {w:R8} {i:Nat} {o:Oper} (h:R8) (v:Value) (u:S h) (k:XA P ops Q S n (i::L) (a.put o.dst v) h) (p:ops[i]?=some o:=by (simp only [QZ,Ra,Rc];rfl)) (hw:Region.wanted o (yielded ops a.tmps)=true:=by rfl) (he:(execOp a.eval o).run P w=.ok (.value v) h:=by go_simp):XAS P ops Q S n i L a w:=by
 refine ⟨o,p,λy x=>?_⟩;rw [if_pos hw];unfold Oper.wp;rw [he];exact x.out _ _ u λ_=>k
theorem XAS.o {L:List Nat} {a:T1} {w:R8} {o:Oper} {i:Nat} (h:∀p:T1->R8->Prop,Shut (∀a w,S w->(S w->XA P ops Q S n (i::L) a w)->p a w)->if Region.wanted o (yielded ops a.tmps)=true then Oper.wp P o a w p Q else p (a.put o.dst undef) w) (u:ops[i]?=some o:=by (simp only [QZ,Ra,Rc];rfl)):XAS P ops Q S n i L a w:=⟨o,u,h⟩
theorem XA.two {L:List Nat} {a:T1} {w:R8} (i j:Nat) (y:XAS P ops Q S n i L a w) (p:XAS P ops Q S n j L a w) (hr:dA ops L=[i,j]:=by decide +kernel):XA P ops Q S n L a w:=by
 obtain ⟨H,x,y⟩:=y;obtain ⟨I,o,p⟩:=p;have B:unl (bK ops.size L)=unl (bK ops.size (i::L))+1:=cV (by rw [hr];simp);have D:unl (bK ops.size L)=unl (bK ops.size (j::L))+1:=cV (by rw [hr];simp);have C:unl (bK ops.size (j::L))=unl (bK ops.size (i::L)):=ap;refine ⟨?_⟩;rw [B];refine cJ (by rw [ep];exact hr) (by simp) (aT.cons x (λA v=>y A λa w u hw=>v.out a w u λh=>(hw h).out) (aT.cons o (λA v=>p A λa w u hw=>v.out a w u λh=>?_) aT.nil));have:=(hw h).out;rw [C] at this;exact this
end
theorem Pc {w:R8} {A:N_} {l:R_} (h:dR rEx 2 w A l):∃rows:List (R7),Rd w A (List.flatten rows)/\rows.length=l.length/\(∀r∈rows,r.length=2)/\(∀j x,l[j]?=some x->rEx w (cF rows j) x)/\(List.flatten rows).length=l.length*2/\∀u∈List.flatten rows,u.oneCell'=true:=by
 obtain ⟨rows,h1,o,v,p⟩:=h;refine ⟨rows,h1,o,v,p,by rw [te v,o],λu i=>?_⟩;obtain ⟨r,hr,i⟩:=List.mem_flatten.1 i;obtain ⟨j,B,e⟩:=List.getElem_of_mem hr;have C:=Rj (show j<l.length by omega);obtain ⟨J,H,D,I,y,_⟩:=p j _ C;rw [rO B,e] at y;subst y;simp only [List.mem_cons,List.not_mem_nil,or_false] at i;rcases i with rfl | rfl<;>rfl
theorem iB {S:Nat->Prop} {w:R8} {base:Nat} {e:R9} {size n c:Nat} {A:N_} {xs:R7} (h:w.ownsRow base e size (.slice A n c) n xs) (p:∀k,S k->k<base):Rd (aH S w) A xs:=by
 refine mV (Rd.own h) λy i hs=>?_;rcases h.2 with ⟨o,_⟩ | ⟨g,_,_,o,hb,_⟩
 .injection o with e1;rw [e1] at i;cases i
 .injection o with e1;rw [e1] at i;cases i;have u:g<base:=p _ hs;omega
theorem C5 {w:R8} {vs:R6} {i:Inp} {x:Nat} {m:Mst} {s t:LSt} {u v:R6} {S:Nat->Prop} (hS:∀k,S k->k<w.heap.size) (h:iq (aH S w) vs i x m) (hu:RL (aH S w) u s) (hv:RL (aH S w) v t) (hs:bD i) {y:Itm} (hy:(dC i x)[bF i x m]?=some y) (k1 k2:Int) (b0 b1:Bool) (i0 i1 i2 i3 i4 i5 i6:Int) (bw:bC y=[RI 6,RI k1,RI k2,.bool b0,.bool b1,RI i0,RI i1,RI i2,RI i3,RI i4,RI i5,RI i6]) (aG:m.rc.length<=1000) (m1:Mst) (h1:m1.P=m.P/\m1.M=m.M/\m1.G=List.replicate i.start.length 0/\m1.rc=m.rc++[(m.P,m.M)]) (aM:bF i x m1=bF i x m+1):Calls prog 118 #[.agg vs,.agg u,.agg v] w (λe w'=>pV S i x m1 (s) (t) 0 w e w'):=by
 obtain ⟨A,c,D,cd,T,ct,R,cr,C,J,B,I,GA,gc,SA,sc,bI,oI,ic,B1,c1,B2,c2,dn,il,W0,rfl,rfl,rfl,H⟩:=lq hS h hu hv hs hy;have ao:=H.rw';rw [bw] at ao;rw [H.dn'] at aM;obtain ⟨cn,H1,c8⟩:=af ao h1 aM;obtain ⟨d1,d0,tl,cy,cc,cY,ci⟩:=H.loc;have q0:=br W0;clear h hu hv hs hy bw hS h1 aM ao;go_enter func118,ntmps118;go_upto_region 1 with (fail);rw [H.eW];go_upto_region 4 with (first | (refine kJ cn.o jD rfl rfl rfl ?_) | (refine aI (Qy _ _) jD rfl rfl rfl rfl rfl rfl rfl ?_;intro W3 e3 k3;obtain ⟨E3,K3⟩:=ae e3 (aO k3);clear e3 k3));clear d1 d0 tl q0 cy cc cY ci;go_upto_region 5 with (first | (refine aN #[RI i5,RI i6] (b:=W0.heap.size) E3.o gL rfl rfl rfl rfl ?_) | (refine aI (Qy _ _) gL rfl rfl rfl rfl rfl rfl rfl ?_;intro p e4 k4;obtain ⟨E4,K4⟩:=ae e4 (aO k4);clear e4 k4));have y0:p.cell? (ar W0.heap.size 0)=some (RI 6):=Qz p _ 0 _ _ _ (sb E3.o _ K4.o);have a1:=aa (bt K3.o K4.o);go_upto_region 26 with (fail);have N:=aa (H.bx _ a1.o).1;have a8:=H.K.trans (a1.o.mono H.K.size);obtain ⟨rows,z1,z2,z3,z4,z5,z6⟩:=Pc H.R0;have zr:=λw' (q:aq p w')=>aW z1 (iF (Keep.below (a8.trans (q.mono a8.size))));obtain ⟨rl,hrl⟩:∃rl,m.rc.length=rl:=⟨_,rfl⟩;obtain ⟨bi,Z2,Z3,Z4,Zr,d5⟩:=ai a8 z2 z3 z4 zr hrl;rw [hrl] at z5 aG;obtain ⟨Z5,Z6,L⟩:=af z5 z6 aG;rw [hrl] at N |-;clear y0 a8 z1 z2 z3 z4 z5 z6 zr hrl aG
 go_cut [3] (λv wx=>v=(au w.heap.size)/\∃Q c7,wx.heap[w.heap.size]?=some (.cells #[.slice A i.cfg.sizes.length c,RI i.cfg.shift,RI i.cfg.rate,RI i.cfg.mom,RI i.cfg.workers,RI i.cfg.batch,RI i.cfg.micros,RI i.cfg.steps,RI i.cfg.bucket,RI i.cfg.chunk,RI i.cfg.window,RI i.cfg.cap,.slice D i.data.length cd,.slice T i.start.length ct,.slice R i.draws.length cr,RI (x:Nat),.slice C i.start.length J,.slice B i.start.length I,.slice GA i.start.length gc,.slice Q (rl+1) c7,.slice (some (ar bI oI)) il ic,RI (dn:Nat)] 116 (0,0))/\wx.ownsRow p.heap.size 112 2 (.slice Q (rl+1) c7) (rl+1) (List.flatten rows++[.slice C i.start.length J,.slice B i.start.length I])/\Keep (λk=>k=w.heap.size) p wx)
 case first=>
  have q4:=(br p).drew;have d7:∀w',aq p w'->w'.cell? (ar w.heap.size 19)=some (.slice SA rl sc):=λw' q=>Qz w' _ 19 _ _ _ (sb N.o w' q);have tl:=λw' (q:aq p w')=>QE (Qw N.o) q.size;refine XA.g 9 (λw':R8=>aq p w') ?_;refine XA.t ?_ [1,2,4] q4 ?_;refine XA.ld 5 #[.slice C i.start.length J,.slice B i.start.length I] (λw' q=>sb N.o w' q) lL q4 ?_;refine XA.two 0 6 ?_ ?_
  .refine XAS.v (p.drew.alloc (.cells #[] 112)) (.slice (some (ar p.drew.heap.size 0)) 0 0) (q4.alloc (Qx _) _) ?_;have O:(p.drew.alloc (.cells #[] 112)).ownsRow p.heap.size 112 2 (.slice (some (ar p.drew.heap.size 0)) 0 0) 0 []:=fh p.drew 112 2;have q1:=q4.alloc (Qx p.heap.size) (.cells #[] 112);have s1:(p.drew.alloc (.cells #[] 112)).heap.size=p.drew.heap.size+1:=QP _ _;obtain ⟨u1,a4⟩:∃u1,p.drew.alloc (.cells #[] 112)=u1:=⟨_,rfl⟩;rw [a4] at O q1 s1 |-;clear a4;refine XA.two 3 6 ?_ ?_
   .refine XAS.o (λK' hK=>?_);refine bW pD (.tmp 161) (.tmp 163) rfl rfl p.heap.size _ 0 [] rfl O SA rl sc (List.flatten rows) rfl (Zr.o _ q1) Z5.o Z6.o (by have:=L.o;omega) (by unfold maxLen;have:=L.o;omega) q1.size ?_;intro A3 c3 u3 o3 a6 ab bf;rw [RB,List.nil_append] at o3;have q3:=q1.trans a6;rw [RB];refine hK.out _ _ q3 λ_=>?_;clear hK K';refine XA.v 6 (u3.alloc (.cells #[.slice C i.start.length J,.slice B i.start.length I] 112)) (.slice (some (ar u3.heap.size 0)) 1 1) (q3.alloc q3.size _) ?_;have g6:=Qy u3 (.cells #[.slice C i.start.length J,.slice B i.start.length I] 112);have b6:=(br u3).alloc (Qx _) (.cells #[.slice C i.start.length J,.slice B i.start.length I] 112);have q6:=q3.alloc q3.size (.cells #[.slice C i.start.length J,.slice B i.start.length I] 112);have s6:(u3.alloc (.cells #[.slice C i.start.length J,.slice B i.start.length I] 112)).heap.size=u3.heap.size+1:=QP _ _;obtain ⟨u6,a0⟩:∃v,u3.alloc (.cells #[.slice C i.start.length J,.slice B i.start.length I] 112)=v:=⟨_,rfl⟩;rw [a0] at g6 b6 q6 s6 |-;clear a0;have o6:=az o3 b6;refine XA.o 7 (λK' hK=>?_);refine bW pD (.tmp 164) (.tmp 167) rfl rfl p.heap.size _ rl (List.flatten rows) rfl o6 (some (ar _ 0)) 1 1 [.slice C i.start.length J,.slice B i.start.length I] rfl (uA g6) rfl (by simp [Value.oneCell']) (by have:=L.o;omega) (by unfold maxLen;have:=L.o;omega) q6.size ?_;intro Q c7 u7 o7 b7 a7 a5;have Z:=q6.trans b7;refine hK.out _ _ Z λ_=>?_;clear hK K';refine XA.t ?_ [8] Z ?_;refine XA.e ?_;simp only [Re,Rf];have U:=sb N.o _ Z;have bs:=Qz u7 w.heap.size 19 _ _ _ U;have bz:=QG u7 w.heap.size 19 _ _ U;have l7:=Qw U;have e8:=ss (i:=19) (v:=.slice Q (rl+1) c7) U rfl;have k8:Keep (λk=>k=w.heap.size) u7 (u7.setCell (ar w.heap.size 19) (.slice Q (rl+1) c7)):=Keep.setCell (S:=λk=>k=w.heap.size) (Keep.refl _ _) _ (.inr rfl) _;have o8:=k8.own o7 (λj Y e=>by have h1:=(o7.lt j Y).1;have h2:=Qw N.o;omega);have HF:=aa (⟨e8,o8,(Keep.below Z).trans k8⟩:_/\_/\Keep (λk=>k=w.heap.size) p _);clear e8 k8 o8 o7 b7 a7 a5 Z U;go_wp2_with fail;go_meet;exact ⟨rfl,Q,c7,HF.o⟩
   .refine XAS.v (u1.alloc (.cells #[.slice C i.start.length J,.slice B i.start.length I] 112)) (.slice (some (ar u1.heap.size 0)) 1 1) (q1.alloc q1.size _) ?_;have g6:=Qy u1 (.cells #[.slice C i.start.length J,.slice B i.start.length I] 112);have b6:=(br u1).alloc (Qx _) (.cells #[.slice C i.start.length J,.slice B i.start.length I] 112);have q6:=q1.alloc q1.size (.cells #[.slice C i.start.length J,.slice B i.start.length I] 112);have s6:(u1.alloc (.cells #[.slice C i.start.length J,.slice B i.start.length I] 112)).heap.size=u1.heap.size+1:=QP _ _;obtain ⟨u6,a0⟩:∃v,u1.alloc (.cells #[.slice C i.start.length J,.slice B i.start.length I] 112)=v:=⟨_,rfl⟩;rw [a0] at g6 b6 q6 s6 |-;clear a0;have bX:=az O b6;refine XA.o 3 (λK' hK=>?_);refine bW pD (.tmp 161) (.tmp 163) rfl rfl p.heap.size _ 0 [] rfl bX SA rl sc (List.flatten rows) rfl (Zr.o _ q6) Z5.o Z6.o (by have:=L.o;omega) (by unfold maxLen;have:=L.o;omega) q6.size ?_;intro A3 c3 u3 o3 a6 ab bf;rw [RB,List.nil_append] at o3;have q3:=q6.trans a6;rw [RB];refine hK.out _ _ q3 λ_=>?_;clear hK K';have av:=(ab.block _ (Qw g6) (λe=>by have e':u1.heap.size=p.drew.heap.size:=Option.some.inj e;omega)).trans g6;refine XA.o 7 (λK' hK=>?_);refine bW pD (.tmp 164) (.tmp 167) rfl rfl p.heap.size _ rl (List.flatten rows) rfl o3 (some (ar _ 0)) 1 1 [.slice C i.start.length J,.slice B i.start.length I] rfl (uA av) rfl (by simp [Value.oneCell']) (by have:=L.o;omega) (by unfold maxLen;have:=L.o;omega) q3.size ?_;intro Q c7 u7 o7 b7 a7 a5;have Z:=q3.trans b7;refine hK.out _ _ Z λ_=>?_;clear hK K';refine XA.t ?_ [8] Z ?_;refine XA.e ?_;simp only [Re,Rf];have U:=sb N.o _ Z;have bs:=Qz u7 w.heap.size 19 _ _ _ U;have bz:=QG u7 w.heap.size 19 _ _ U;have l7:=Qw U;have e8:=ss (i:=19) (v:=.slice Q (rl+1) c7) U rfl;have k8:Keep (λk=>k=w.heap.size) u7 (u7.setCell (ar w.heap.size 19) (.slice Q (rl+1) c7)):=Keep.setCell (S:=λk=>k=w.heap.size) (Keep.refl _ _) _ (.inr rfl) _;have o8:=k8.own o7 (λj Y e=>by have h1:=(o7.lt j Y).1;have h2:=Qw N.o;omega);have HF:=aa (⟨e8,o8,(Keep.below Z).trans k8⟩:_/\_/\Keep (λk=>k=w.heap.size) p _);clear e8 k8 o8 o7 b7 a7 a5 Z U;go_wp2_with fail;go_meet;exact ⟨rfl,Q,c7,HF.o⟩
  .refine XAS.v (p.drew.alloc (.cells #[.slice C i.start.length J,.slice B i.start.length I] 112)) (.slice (some (ar p.drew.heap.size 0)) 1 1) (q4.alloc q4.size _) ?_;have g6:=Qy p.drew (.cells #[.slice C i.start.length J,.slice B i.start.length I] 112);have b6:=(br p.drew).alloc (Qx _) (.cells #[.slice C i.start.length J,.slice B i.start.length I] 112);have q6:=q4.alloc q4.size (.cells #[.slice C i.start.length J,.slice B i.start.length I] 112);have s6:(p.drew.alloc (.cells #[.slice C i.start.length J,.slice B i.start.length I] 112)).heap.size=p.drew.heap.size+1:=QP _ _;obtain ⟨u6,a0⟩:∃v,p.drew.alloc (.cells #[.slice C i.start.length J,.slice B i.start.length I] 112)=v:=⟨_,rfl⟩;rw [a0] at g6 b6 q6 s6 |-;clear a0;refine XA.v 0 (u6.alloc (.cells #[] 112)) (.slice (some (ar u6.heap.size 0)) 0 0) (q6.alloc q6.size _) ?_;have O:(u6.alloc (.cells #[] 112)).ownsRow p.heap.size 112 2 (.slice (some (ar u6.heap.size 0)) 0 0) 0 []:=aF (fh u6 112 2) q6.size;have q1:=q6.alloc q6.size (.cells #[] 112);have g6:=sb g6 _ ((br u6).alloc (Qx _) (.cells #[] 112));have l6:p.drew.heap.size<u6.heap.size:=by rw [s6];omega
   obtain ⟨u1,a4⟩:∃u1,u6.alloc (.cells #[] 112)=u1:=⟨_,rfl⟩;rw [a4] at O q1 g6 |-;clear a4;refine XA.o 3 (λK' hK=>?_);refine bW pD (.tmp 161) (.tmp 163) rfl rfl p.heap.size _ 0 [] rfl O SA rl sc (List.flatten rows) rfl (Zr.o _ q1) Z5.o Z6.o (by have:=L.o;omega) (by unfold maxLen;have:=L.o;omega) q1.size ?_;intro A3 c3 u3 o3 a6 ab bf;rw [RB,List.nil_append] at o3;have q3:=q1.trans a6;rw [RB];refine hK.out _ _ q3 λ_=>?_;clear hK K';have av:=(ab.block _ (Qw g6) (λe=>by have e':p.drew.heap.size=u6.heap.size:=Option.some.inj e;omega)).trans g6;refine XA.o 7 (λK' hK=>?_);refine bW pD (.tmp 164) (.tmp 167) rfl rfl p.heap.size _ rl (List.flatten rows) rfl o3 (some (ar _ 0)) 1 1 [.slice C i.start.length J,.slice B i.start.length I] rfl (uA av) rfl (by simp [Value.oneCell']) (by have:=L.o;omega) (by unfold maxLen;have:=L.o;omega) q3.size ?_;intro Q c7 u7 o7 b7 a7 a5;have Z:=q3.trans b7;refine hK.out _ _ Z λ_=>?_;clear hK K';refine XA.t ?_ [8] Z ?_;refine XA.e ?_;simp only [Re,Rf];have U:=sb N.o _ Z;have bs:=Qz u7 w.heap.size 19 _ _ _ U;have bz:=QG u7 w.heap.size 19 _ _ U;have l7:=Qw U;have e8:=ss (i:=19) (v:=.slice Q (rl+1) c7) U rfl;have k8:Keep (λk=>k=w.heap.size) u7 (u7.setCell (ar w.heap.size 19) (.slice Q (rl+1) c7)):=Keep.setCell (S:=λk=>k=w.heap.size) (Keep.refl _ _) _ (.inr rfl) _;have o8:=k8.own o7 (λj Y e=>by have h1:=(o7.lt j Y).1;have h2:=Qw N.o;omega);have HF:=aa (⟨e8,o8,(Keep.below Z).trans k8⟩:_/\_/\Keep (λk=>k=w.heap.size) p _);clear e8 k8 o8 o7 b7 a7 a5 Z U;go_wp2_with fail;go_meet;exact ⟨rfl,Q,c7,HF.o⟩
 case rest=>
  obtain ⟨rfl,Q,c7,a9,o7,kc⟩:=hcut;obtain ⟨Wm,bo,oM,bM⟩:=ny ku wc rfl i.start.length (by have:=H.s'.n;omega) (by unfold maxLen;have:=H.s'.n;omega);rw [fI] at oM;have cj:=Qz wc w.heap.size 18 _ _ _ a9;have a3:=sb a9 _ bM;have c9:=Qz Wm w.heap.size 18 _ _ _ a3;have cM:=QG Wm w.heap.size 18 _ _ a3;have lc:=Qw a9;have lm:=Qw a3;have cw:¬(i.start.length:Int)<0:=ap;obtain ⟨cO,O7,KC,OM,BM⟩:=ah a3 o7 kc oM bM;clear a3 o7 kc oM bM a9;go_upto_region 28 with (fail);have a2:=ss (i:=18) (v:=.slice (some (ar wc.heap.size 0)) i.start.length i.start.length) cO.o rfl;have kk:Keep (λk=>k=w.heap.size) Wm (Wm.setCell (ar w.heap.size 18) (.slice (some (ar wc.heap.size 0)) i.start.length i.start.length)):=Keep.setCell (S:=λk=>k=w.heap.size) (Keep.refl _ _) _ (.inr rfl) _;obtain ⟨V,hV⟩:∃V,Wm.setCell (ar w.heap.size 18) (.slice (some (ar wc.heap.size 0)) i.start.length i.start.length)=V:=⟨_,rfl⟩;rw [hV] at a2 kk |-;have kV:Keep (λk=>k=w.heap.size) p V:=(KC.o.trans (Keep.below BM.o)).trans kk;have hb:=λ{b:Nat} {o:Obj} (h:W0.heap[b]?=some o) (h1:b≠w.heap.size)=>(kV.block b (Qw (sb h _ a1.o)) h1).trans (sb h _ a1.o);have be:=hb (H.bx _ (br W0)).2.1 ap;have bO:=hb (H.bx _ (br W0)).2.2.1 ap;have b9:=hb (H.bx _ (br W0)).2.2.2.1 ap;have bG:=hb (H.bx _ (br W0)).2.2.2.2.1 ap;have bV:=hb (H.bx _ (br W0)).2.2.2.2.2 ap;have bN:=bi.o.trans (kV.toBelow bi.o.size (λj Y=>Nat.le_of_eq (Eq.symm Y)));have d6:=Qw (H.bx _ (br W0)).2.2.2.2.2;obtain ⟨bn,bv⟩:=ae (kk.own (aF OM.o (show w.heap.size+6<=wc.heap.size by have:=KC.o.size;have:=a1.o.size;omega)) (λj Y e=>by have h1:=(OM.o.lt j Y).1;have h2:j=w.heap.size:=e;have:=lc;omega)) (kk.own (az (aF O7.o (show w.heap.size+6<=p.heap.size by have:=a1.o.size;omega)) BM.o) (λj Y e=>by have h1:=(O7.o.lt j Y).1;have h2:j=w.heap.size:=e;have:=a1.o.size;omega));clear hV cj c9 cM lc lm cw kk kV hb bo;have cs:=Qz V w.heap.size 21 _ _ _ a2;have c6:=QG V w.heap.size 21 _ _ a2;have lM:=Qw a2;have cv:=H.wd;have e9:=ss (i:=21) (v:=RI ((dn:Int)+1)) a2 rfl;have k9:Keep (λk=>k=w.heap.size) V (V.setCell (ar w.heap.size 21) (RI ((dn:Int)+1))):=Keep.setCell (S:=λk=>k=w.heap.size) (Keep.refl _ _) _ (.inr rfl) _;obtain ⟨E9,K9,cl,co,cA,cx,cf,d2⟩:=ak e9 k9 be bO b9 bG bV bN;clear e9 k9 be bO b9 bG bV bN a2;go_upto_region 29 with (fail);obtain ⟨V9,b8⟩:∃V9,V.setCell (ar w.heap.size 21) (RI ((dn:Int)+1))=V9:=⟨_,rfl⟩;rw [b8] at E9 K9 |-;clear b8 cs c6 lM cv;obtain ⟨b1,b2,b3,b4,b5⟩:=xK K9.o cl.o co.o cA.o cx.o cf.o;have hq:aq V9 V9.drew:=(br V9).drew;refine HA.g (KB3 w.heap.size V9) ?_;refine HA.ld3 (vs:=#[.slice A i.cfg.sizes.length c,RI i.cfg.shift,RI i.cfg.rate,RI i.cfg.mom,RI i.cfg.workers,RI i.cfg.batch,RI i.cfg.micros,RI i.cfg.steps,RI i.cfg.bucket,RI i.cfg.chunk,RI i.cfg.window,RI i.cfg.cap,.slice D i.data.length cd,.slice T i.start.length ct,.slice R i.draws.length cr,RI (x:Nat),.slice C i.start.length J,.slice B i.start.length I,.slice (some (ar wc.heap.size 0)) i.start.length i.start.length,.slice Q (rl+1) c7,.slice (some (ar bI oI)) il ic,RI (dn+1)]) E9.o b1 b2 et bR bR (Keep.below hq) ?_;refine HA.st3 3 4 5 b3 b4 b5 et bR bR hq (λw8 r3 r4 e8 q8=>?_);refine HA.t ?_ [6] q8 ?_;refine HA.d ?_;obtain ⟨R3,R4,R5⟩:=af r3 r4 e8;have F:=lp K9.o q8 d2.o;obtain ⟨aP,QW⟩:=ae F.1 F.2;clear b1 b2 b3 b4 b5 e8 q8 r3 r4 hq F;go_wp2_with fail;refine QM (fL rfl rfl rfl rfl R3.o R4.o R5.o et bR bR) rfl ?_;have ad:∀j,w.heap.size+6<=j->¬(w.heap.size<=j/\j<w.heap.size+6):=λj h1 h2=>ap;have d4:=aP.o.own bn.o (λj Y=>ad j (bn.o.lt j Y).1);have cb:=aP.o.own bv.o (λj Y=>ad j (bv.o.lt j Y).1);have bb:∀k,S k->k<w.heap.size+6:=λk hk=>by have:=H.S' k hk;omega
  have d3:cU (aH S w8) (some (ar wc.heap.size 0)) (List.replicate i.start.length 0) i.start.length:=⟨by simp,by simp;have:=H.s'.n;omega,ii d4 bb,tB _⟩;have hX:Ext (aH S w) (aH S w8):=bP (Keep.below QW.o) (λ_ _ h=>h)
  have cL:dR rEx 2 (aH S w8) Q (m.rc++[(m.P,m.M)]):=by
   refine ⟨rows++[[.slice C i.start.length J,.slice B i.start.length I]],?_,by simp [Z2.o],?_,?_⟩
   .rw [Rs,List.flatten_cons,List.flatten_nil,List.append_nil];exact iB cb bb
   .intro r hr;rcases Rw.1 hr with hr | hr
    .exact Z3.o r hr
    .rw [List.mem_singleton.1 hr];rfl
   .intro j y hy;have cI:=Z2.o;rcases QO j m.rc.length with h | h
    .rw [Rk h] at hy;have e:cF (rows++[[Value.slice C i.start.length J,.slice B i.start.length I]]) j=cF rows j:=by simp [cF,Rk (show j<rows.length by omega)]
     rw [e];exact cW (Z4.o j y hy) hX
    .have Y:j=m.rc.length:=by have:=(Ri.1 hy).1;simp at this;omega
     subst Y;simp at hy;subst hy;have e:cF (rows++[[Value.slice C i.start.length J,.slice B i.start.length I]]) m.rc.length=[.slice C i.start.length J,.slice B i.start.length I]:=by rw [<-cI];simp [cF]
     rw [e];exact ⟨C,J,B,I,by rw [H.Pl,H.Ml],bQ H.P0 hX,bQ H.M0 hX⟩
  have hX:Ext (aH S w) (aH S w8):=bP (Keep.below QW.o) (λ_ _ h=>h);obtain ⟨aR,bl,bA,bh⟩:=H1.o;exact ⟨_,_,_,rfl,rfl,rfl,⟨A,c,D,cd,T,ct,R,cr,C,J,B,I,some (ar wc.heap.size 0),i.start.length,Q,c7,some (ar bI oI),ic,by rw [H.il',c8.o,bh,Rh,Rr,d5.o];push_cast;rfl,eN H.I0 hX,by rw [aR];exact bQ H.P0 hX,by rw [bl];exact bQ H.M0 hX,by rw [bA];exact d3,by rw [bh];exact cL,aW H.It0 hX,by rw [aR];exact H.Pl,by rw [bl];exact H.Ml,by rw [bA];exact (by simp)⟩,⟨B1,c1,rfl,dy H.s0 hX,H.s2⟩,⟨B2,c2,rfl,dy H.t0 hX,H.t2⟩,QW.o⟩
theorem Nm {w:R8} {vs:R6} {i:Inp} {x:Nat} {m:Mst} {s t:LSt} {u v:R6} {S:Nat->Prop} (hS:∀k,S k->k<w.heap.size) (h:iq (aH S w) vs i x m) (hu:RL (aH S w) u s) (hv:RL (aH S w) v t) (hs:bD i) (hy:(dC i x).length<=bF i x m):Calls prog 118 #[.agg vs,.agg u,.agg v] w (λe p=>pV S i x m s t 13 w e p):=by
 obtain ⟨A,c,D,cd,T,ct,R,cr,PA,pc,MA,mc,GA,gc,SA,sc,IA,ic,rfl,U,O,Z,a0,a5,y,a9,aG,a8⟩:=h;obtain ⟨B1,c1,rfl,L,ad⟩:=hu;obtain ⟨B2,c2,rfl,a1,b0⟩:=hv;have B:=fk S w;have hI:=eN U B;have hP:=bQ O B;have hM:=bQ Z B;have hG:=bQ a0 B;have hR:dR rEx 2 w SA m.rc:=fj cW a5 B;have ab:=aW y B;have aP:=dy L B;have aR:=dy a1 B;have ao:(dC i x).length<=48000000:=zp hs x (Qx _);obtain ⟨Y,J⟩:∃Y,bF i x m=Y:=⟨_,rfl⟩;obtain ⟨il,a6⟩:∃il,(dC i x).length=il:=⟨_,rfl⟩;rw [J] at hy |-;rw [a6] at ao hy |-;obtain ⟨W0,aM,g0,g1,g2,g3,g4,g5,k0⟩:=Au w #[.slice A i.cfg.sizes.length c,RI i.cfg.shift,RI i.cfg.rate,RI i.cfg.mom,RI i.cfg.workers,RI i.cfg.batch,RI i.cfg.micros,RI i.cfg.steps,RI i.cfg.bucket,RI i.cfg.chunk,RI i.cfg.window,RI i.cfg.cap,.slice D i.data.length cd,.slice T i.start.length ct,.slice R i.draws.length cr,RI (x:Nat),.slice PA i.start.length pc,.slice MA i.start.length mc,.slice GA i.start.length gc,.slice SA m.rc.length sc,.slice IA il ic,RI (Y:Nat)] #[RI (s.cap:Nat),.slice B1 s.msgs.length c1,RI (s.recv:Nat),RI (s.peak:Nat)] #[RI (t.cap:Nat),.slice B2 t.msgs.length c2,RI (t.recv:Nat),RI (t.peak:Nat)] RM #[RI 0,RJ,RI 0,RI 0] #[RI 0,RJ,RI 0,RI 0] 116 120;have bI:∀p,aq W0 p->p.cell? (ar w.heap.size 20)=some (.slice IA il ic):=λp q=>Qz p w.heap.size 20 _ _ _ (sb g0 p q);have bA:∀p,aq W0 p->p.cell? (ar w.heap.size 21)=some (RI (Y:Nat)):=λp q=>Qz p w.heap.size 21 _ _ _ (sb g0 p q);have tl:=sl g0;have bo:(il:Int)<=Y:=ap;have b9:¬(Y:Int)<il:=ap;have q0:=br W0;obtain ⟨bz,G0,G1,G2,G3,G4,G5,K0⟩:=ak aM g0 g1 g2 g3 g4 g5 k0;obtain ⟨HI,HP,HM,HG,HR,bX,bn,bi⟩:=ak hI hP hM hG hR ab a9 aG;obtain ⟨bG,bV,bh,bN,bl,bs,Hs,bM⟩:=ak a8 aP ad aR b0 a6 hs U;obtain ⟨be,bv,bw,b7,av,b8,bf,HS⟩:=ak O Z a0 a5 y L a1 hS;have bb:=aa J;clear U O Z a0 a5 y L a1 hS B aM g0 g1 g2 g3 g4 g5 k0 hI hP hM hG hR ab a9 aG a8 aP ad aR b0 J a6 hs hy ao;go_enter func118,ntmps118;go_upto_region 1 with (fail);rw [bz.o];go_upto_region 2 with (fail);clear bI bA tl q0 bo b9;have H:=G0.o;have Q:=G1.o;have a4:=G2.o;have N:=G3.o;have a2:=G4.o;have a7:=G5.o;have a3:=K0.o;obtain ⟨V,hV⟩:∃V,W0=V:=⟨_,rfl⟩;rw [hV] at H Q a4 N a2 a7 a3 |-;clear hV;obtain ⟨E9,b6,K9⟩:=af H a3 (Keep.refl (λk=>k=w.heap.size) V);clear H a3;have b1:=Q;have b2:=a4;have b3:=N;have b4:=a2;have b5:=a7;clear Q a4 N a2 a7;have q9:Keep (λk=>k=w.heap.size+1+1+1\/k=w.heap.size+1+1+1+1\/k=w.heap.size+1+1+1+1+1) V V.drew:=(Keep.refl _ _).drew;refine HA.g (λp:R8=>Keep (λk=>k=w.heap.size+1+1+1\/k=w.heap.size+1+1+1+1\/k=w.heap.size+1+1+1+1+1) V p) ?_;refine HA.ld 0 #[.slice A i.cfg.sizes.length c,RI i.cfg.shift,RI i.cfg.rate,RI i.cfg.mom,RI i.cfg.workers,RI i.cfg.batch,RI i.cfg.micros,RI i.cfg.steps,RI i.cfg.bucket,RI i.cfg.chunk,RI i.cfg.window,RI i.cfg.cap,.slice D i.data.length cd,.slice T i.start.length ct,.slice R i.draws.length cr,RI (x:Nat),.slice PA i.start.length pc,.slice MA i.start.length mc,.slice GA i.start.length gc,.slice SA m.rc.length sc,.slice IA il ic,RI (Y:Nat)] (λp q=>(q.block _ (Qw E9.o) ap).trans E9.o) et q9 ?_;refine HA.ld 1 #[RI (s.cap:Nat),.slice B1 s.msgs.length c1,RI (s.recv:Nat),RI (s.peak:Nat)] (λp q=>(q.block _ (Qw b1) ap).trans b1) bR q9 ?_;refine HA.ld 2 #[RI (t.cap:Nat),.slice B2 t.msgs.length c2,RI (t.recv:Nat),RI (t.peak:Nat)] (λp q=>(q.block _ (Qw b2) ap).trans b2) bR q9 ?_;refine HA.st 3 b3 et (λw6 e6 k6=>?_);have q6:Keep (λk=>k=w.heap.size+1+1+1\/k=w.heap.size+1+1+1+1\/k=w.heap.size+1+1+1+1+1) V w6:=q9.trans (k6.mono λk _ e=>.inl e);refine ⟨q6,?_⟩;have d4:=(k6.block _ (Qw b4) ap).trans b4;have d5:=(k6.block _ (Qw b5) ap).trans b5;refine HA.st 4 d4 bR (λw7 e7 k7=>?_);have q7:Keep (λk=>k=w.heap.size+1+1+1\/k=w.heap.size+1+1+1+1\/k=w.heap.size+1+1+1+1+1) V w7:=q6.trans (k7.mono λk _ e=>.inr (.inl e));refine ⟨q7,?_⟩;have f5:=(k7.block _ (Qw d5) ap).trans d5;have f3:=(k7.block _ (Qw e6) ap).trans e6;refine HA.st 5 f5 bR (λw8 e8 k8=>?_);have q8:Keep (λk=>k=w.heap.size+1+1+1\/k=w.heap.size+1+1+1+1\/k=w.heap.size+1+1+1+1+1) V w8:=q7.trans (k8.mono λk _ e=>.inr (.inr e));refine ⟨q8,?_⟩;have r3:=(k8.block _ (Qw f3) ap).trans f3;have r4:=(k8.block _ (Qw e7) ap).trans e7;refine HA.t ?_ [6] q8 ?_;refine HA.d ?_;obtain ⟨R3,R4,R5⟩:=af r3 r4 e8;have I:Keep (λk=>w.heap.size<=k/\k<w.heap.size+6) V w8:=(K9.o.mono λk _ e=>ap).trans (q8.mono λk _ e=>by rcases e with e | e | e<;>omega);obtain ⟨bO,QW⟩:=ae I (b6.o.trans (I.toBelow b6.o.size (λj hj=>hj.1)));clear b1 b2 b3 b4 b5 e6 k6 q6 d4 d5 e7 k7 q7 f5 f3 e8 k8 q8 r3 r4 q9 I;go_wp2_with fail;refine QM (fL rfl rfl rfl rfl R3.o R4.o R5.o et bR bR) rfl ?_;have C:Ext (aH S w) (aH S w8):=bP (Keep.below QW.o) (λ_ _ h=>h);exact ⟨_,_,_,rfl,rfl,rfl,⟨A,c,D,cd,T,ct,R,cr,PA,pc,MA,mc,GA,gc,SA,sc,IA,ic,by rw [bs.o,bb.o],eN bM.o C,bQ be.o C,bQ bv.o C,bQ bw.o C,fj cW b7.o C,aW av.o C,bn.o,bi.o,bG.o⟩,⟨B1,c1,rfl,dy b8.o C,bh.o⟩,⟨B2,c2,rfl,dy bf.o C,bl.o⟩,QW.o⟩
theorem sC (i:Inp) (x:Nat) (m:Mst):(adv i x m).P=m.P/\(adv i x m).M=m.M/\(adv i x m).G=m.G/\(adv i x m).rc=m.rc:=by
 unfold adv
 split<;>exact ⟨rfl,rfl,rfl,rfl⟩
theorem my {y:Itm} {a:Acn} {k:Nat} (h:y.a=some a) (hk:y.kind=k):bC y=[RI (k:Nat),RI (y.st:Nat),RI (y.n:Nat),.bool a.send,.bool a.add,RI (a.st:Nat),RI (a.bk:Nat),RI (a.ph:Nat),RI (a.rd:Nat),RI (a.ch:Nat),RI (a.at'.1:Nat),RI (a.at'.2:Nat)]:=by
 unfold bC;rw [h,hk];rfl
theorem pF {y:Itm} {k:Nat} (h:y.a=none) (hk:y.kind=k):bC y=[RI (k:Nat),RI (y.st:Nat),RI (y.n:Nat),.bool false,.bool false,RI 0,RI 0,RI 0,RI 0,RI 0,RI 0,RI 0]:=by
 unfold bC;rw [h,hk];rfl
theorem Nl {w:R8} {vs:R6} {i:Inp} {x:Nat} {m m1:Mst} {s t s1 t1:LSt} {u v:R6} {S:Nat->Prop} {C:Nat} (H:∀k,S k->k<w.heap.size) (h:iq (aH S w) vs i x m) (D:RL (aH S w) u s) (I:RL (aH S w) v t) (hs:bD i) (hm:MOk i x m) (a0:MS i x s) (Q:t.recv<=t.msgs.length) (N:s.msgs.length<=100000000000) (V:t.msgs.length<=100000000000) (a1:x<i.cfg.workers.toNat) (hr:jE i x m s t m1 s1 t1 C):Calls prog 118 #[.agg vs,.agg u,.agg v] w (λe O=>pV S i x m1 s1 t1 (C:Nat) w e O):=by
 have B:∀{y:Itm} {ac:Acn},(cz i x m.st)[m.nx]?=some y->y.a=some ac->ac.at'.1<ac.at'.2/\ac.at'.2<=i.start.length:=λo A=>zv hs.ok (du o).2 A;have p:=hm.cur hs
 cases hr with
 | fin hf=>
  rw [List.getElem?_eq_none hf] at p;exact Nm H h D I hs (List.getElem?_eq_none_iff.1 p.symm)
 | own y o A=>
  have Y:=hm.okAt hs o A;obtain ⟨c1,c2⟩:=du o;have a2:=zg o;have J:=p.symm.trans o;obtain ⟨aP,aM,aG,aR⟩:=sC i x (ie i x m y);have Z:bF i x (adv i x (ie i x m y))=bF i x m+1:=mA hs o (nU i x m y).1 (nU i x m y).2;rcases Y.1 with k | k | k | k
  .refine Kn H h D I hs J _ _ _ _ _ _ _ _ _ _ _ (pF A k) y.st y.n rfl rfl (by rw [a2];exact c1) (vh c2 k) a1 _ ?_ Z;rw [aP,aM,aG,aR];unfold ie;rw [if_pos k];exact ⟨rfl,rfl,rfl,rfl⟩
  .refine C6 H h D I hs J _ _ _ _ _ _ _ _ _ _ _ (pF A k) _ ?_ Z;rw [aP,aM,aG,aR];unfold ie;rw [if_neg ap,if_pos k];exact ⟨rfl,rfl,rfl,rfl⟩
  .obtain ⟨g,hg,g1,g2⟩:=xO c2 (.inr k);obtain ⟨j,hj,rfl⟩:=List.getElem_of_mem hg;have a3:=hs.ok.grp hj;rw [cX _ _ hj] at a3;have T:y.n<(ax i).buks.length:=ap;have L:=T;rw [Pln.buks,jq] at L;obtain ⟨b1,b2,b3⟩:=DU hs.ok.bu L;have R:aK (ax i).buks y.n=(bB (ax i).n (ax i).bu (y.n+1),bB (ax i).n (ax i).bu y.n):=b1;refine C4 H h D I hs J _ _ _ _ _ _ _ _ _ _ _ (pF A k) y.n _ _ rfl T R b2 b3 _ ?_ Z;rw [aP,aM,aG,aR];unfold ie;rw [if_neg ap,if_neg ap,if_pos k,R];exact ⟨rfl,rfl,rfl,rfl⟩
  .refine C5 H h D I hs J _ _ _ _ _ _ _ _ _ _ _ (pF A k) (Y.2.2.2 k) _ ?_ Z;rw [aP,aM,aG,aR];unfold ie;rw [if_neg ap,if_neg ap,if_neg ap];exact ⟨rfl,rfl,rfl,rfl⟩
 | send y ac o A hk hroom=>
  exact Kk H h D I hs (p.symm.trans o) _ _ _ _ _ _ _ _ _ _ _ (my A hk) _ _ rfl rfl (B o A).1 (B o A).2 Q V hroom _ (sC i x m) (mA hs o rfl rfl)
 | full y ac o A hk hf=>
  exact Km H h D I hs (p.symm.trans o) _ _ _ _ _ _ _ _ _ _ _ (my A hk) _ _ rfl rfl (B o A).1 (B o A).2 Q V ap _ ⟨rfl,rfl,rfl,rfl⟩ rfl
 | recv y ac o A hk hlt heq=>
  have U:=a0.len hs (du o).1 (du o).2 A (pB (du o).2 A hk) hlt heq;exact Kl H h D I hs (p.symm.trans o) _ _ _ _ _ _ _ _ _ _ _ (my A hk) _ _ rfl (Nat.le_of_lt (B o A).1) (B o A).2 N hlt heq U.1 U.2 _ (sC i x _) (mA hs o rfl rfl)
 | none y ac o A hk h0=>
  refine uz H h D I hs (p.symm.trans o) _ _ _ _ _ _ _ _ _ _ _ (my A hk) 12 (by decide) (λB1 c1 O hB=>?_) _ ⟨rfl,rfl,rfl,rfl⟩ rfl;have:=vY s.cap B1 s.msgs.length c1 s.peak ac.tg O N;rw [h0];exact this
 | other y ac o A hk hlt hne=>
  exact uz H h D I hs (p.symm.trans o) _ _ _ _ _ _ _ _ _ _ _ (my A hk) 10 (by decide) (λB1 c1 O hB=>Ar s.cap B1 s.msgs c1 s.recv s.peak ac.tg O hB hlt N hne) _ ⟨rfl,rfl,rfl,rfl⟩ rfl
theorem CC {X:Nat} {v0 v1:Value} {cnt:Nat} {w:R8} (hb:w.heap[X]?=some (.cells #[v0,v1,RI (cnt:Nat)] 99 (0,0))):Calls prog 19 #[(au X)] w λe h=>e=.returned (RI (cnt:Nat))/\aq w h:=by
 have t:=bx3 hb;have i:=br w;clear hb;go_enter func19,ntmps19;go_wp2_with fail;go_ret;exact ⟨rfl,i⟩
def ed (mv:Nat->R6) (n:Nat):R7:=((List.range n).map λx=>(mv x).toList).flatten
theorem mR (mv:Nat->R6) (n:Nat):ed mv (n+1)=ed mv n++(mv n).toList:=by simp [ed,Rx]
theorem zY {mv mv':Nat->R6} {n:Nat} (h:∀x,x<n->mv x=mv' x):ed mv n=ed mv' n:=by
 unfold ed
 congr 1
 exact List.map_congr_left λx i=>by rw [h x (List.mem_range.1 i)]
section
variable {mv:Nat->R6} {n k x:Nat}
theorem lX (h:∀x,x<n->(mv x).size=k):(ed mv n).length=n*k:=by
 induction n with
 | zero=>simp [ed]
 | succ n ih=>rw [mR,Rh,ih (λx i=>h x ap),Array.length_toList,h n ap,Ry]
theorem qQ (h:∀x,x<n->(mv x).size=k) (i:x<n) {f:Nat} (o:f<k):(ed mv n)[x*k+f]?=(mv x)[f]?:=by
 induction n with
 | zero=>omega
 | succ n ih=>
  have hl:=lX (n:=n) (λx i=>h x ap);rw [mR];by_cases e:x=n
  .subst e;rw [Rl ap,hl,Nat.add_sub_cancel_left,Array.getElem?_toList]
  .have:x*k+k<=n*k:=by rw [<-Ry];exact RH k ap
   rw [Rk ap];exact ih (λx i=>h x ap) ap
theorem xc (h:∀x,x<n->(mv x).toList.all (·.oneCell')=true):∀u∈ed mv n,u.oneCell'=true:=by
 intro u i;simp only [ed,List.mem_flatten,List.mem_map,List.mem_range] at i;obtain ⟨l,⟨x,o,rfl⟩,i⟩:=i;exact List.all_eq_true.1 (h x o) u i
theorem nC {w:R8} {A:N_} (hr:Rd w A (ed mv n)) (h:∀x,x<n->(mv x).size=k) (hk:0<k) (i:x<n):∃b o,A=some (ar b o)/\w.rangeAt b (o+x*k) (mv x).toList:=by
 have y:=qQ h i hk;rw [Nat.add_zero] at y;obtain ⟨v,C⟩:∃v,(mv x)[0]?=some v:=⟨_,Array.getElem?_eq_getElem (by rw [h x i];exact hk)⟩;obtain ⟨b,o,rfl,_⟩:=hr _ _ (y.trans C);refine ⟨b,o,rfl,λj u p=>?_⟩;have B:j<k:=by have:=(Ri.1 p).1;rw [Array.length_toList,h x i] at this;exact this
 obtain ⟨D,H,e,hc⟩:=hr (x*k+j) u (by rw [qQ h i B,<-Array.getElem?_toList];exact p);injection e with e;injection e with e1 e2 _
 subst e1;subst e2;rw [Rz];exact hc
end
def FN:R7->Nat->R7->R7
 | xs,_,[]=>xs
 | xs,o,v::r=>FN (xs.set o v) (o+1) r
theorem Ef:∀(ys xs:R7) (o j:Nat),o+ys.length<=xs.length->(FN xs o ys)[j]?=if o<=j/\j<o+ys.length then ys[j-o]? else xs[j]?
 | [],xs,o,j,_=>by rw [if_neg (by simp [List.length_nil];try omega)];rfl
 | v::r,xs,o,j,h=>by
  rw [List.length_cons] at h;rw [FN,Ef r (xs.set o v) (o+1) j (by rw [List.length_set];omega),List.length_cons];by_cases h1:j=o
  .subst h1;rw [if_neg ap,if_pos ap,Nat.sub_self,List.getElem?_set_self ap];rfl
  .by_cases i:o+1<=j/\j<o+1+r.length
   .rw [if_pos i,if_pos ap,show j-o=(j-(o+1))+1 by omega,Ra]
   .rw [if_neg i,if_neg ap,List.getElem?_set_ne ap]
theorem Gc {mv mv':Nat->R6} {n k x:Nat} (h:∀x,x<n->(mv x).size=k) (i:∀x,x<n->(mv' x).size=k) (B:x<n) (hm:∀y,y≠x->mv' y=mv y):FN (ed mv n) (x*k) (mv' x).toList=ed mv' n:=by
 have hl:=lX h;have v:=lX i;have A:x*k+k<=n*k:=by rw [<-Ry];exact RH k ap
 have o:(mv' x).toList.length=k:=by rw [Array.length_toList,i x B]
 refine List.ext_getElem? λj=>?_;rw [Ef _ _ _ _ ap,o];by_cases C:j<n*k
 .by_cases hk:k=0
  .subst hk;omega
  obtain ⟨y,f,rfl,p⟩:∃y f,j=y*k+f/\f<k:=⟨j/k,j%k,by rw [Nat.mul_comm,Nat.div_add_mod],Nat.mod_lt _ ap⟩
  have u:y<n:=by
   refine Classical.byContradiction λhc=>?_;have:=RH k (show n<=y by omega);omega
  rw [qQ i u p];by_cases e:y=x
  .subst e;rw [if_pos ap,Nat.add_sub_cancel_left,Array.getElem?_toList]
  .rw [if_neg ?_,qQ h u p,hm y e];rintro ⟨h1,D⟩;rcases Nat.lt_or_gt_of_ne e with e | e
   .have:=RH k (show y+1<=x by omega);rw [Ry] at this;omega
   .have:=RH k (show x+1<=y by omega);rw [Ry] at this;omega
 .rw [if_neg ap,List.getElem?_eq_none ap,List.getElem?_eq_none ap]
theorem qV:∀(ys:R7) {w:R8} {base g c n o:Nat} {e:R9} {size:Nat} {xs:R7},w.ownsRow base e size (.slice (some (ar g 0)) n c) n xs->(w.setCells g o ys).ownsRow base e size (.slice (some (ar g 0)) n c) n (FN xs o ys)
 | [],_,_,_,_,_,_,_,_,_,h=>h
 | v::r,w,base,g,c,n,o,e,size,xs,h=>qV r (h.stored o v).1
theorem jc:∀(ys:R7) (w:R8) (g o:Nat),Keep (λj=>j=g) w (w.setCells g o ys)
 | [],w,_,_=>Keep.refl _ w
 | v::r,w,g,o=>(Keep.setCell (S:=λj=>j=g) (Keep.refl _ w) (ar g o) (.inr rfl) v).trans (jc r _ g (o+1))
theorem pw {w:R8} {base g c n:Nat} {e:R9} {size:Nat} {xs:R7} (h:w.ownsRow base e size (.slice (some (ar g 0)) n c) n xs) {x:Nat} (C:x<n):w.there g (x*size) size:=λj v=>by
 rcases h.2 with ⟨p,_⟩ | ⟨B,cap,i,p,hb,hg,h1,y,u,A⟩
 .cases p
 .injection p with e1;injection e1 with e1;injection e1 with e1 _ _
  subst e1
  have o:x*size+j<i.size:=by
   rw [u];have:=RH size (show x+1<=cap by omega);rw [Ry] at this;omega
  exact ⟨by rw [Qz w g _ _ _ _ hg,Array.getElem?_eq_getElem o];rfl,QG w g _ _ _ hg⟩
theorem dh:dg prog 53 3:=⟨⟨_,underlying53,rfl⟩,by kernel_rfl⟩
theorem nz:dg prog 116 22:=⟨⟨_,underlying116,rfl⟩,by kernel_rfl⟩
theorem jt:dg prog 120 4:=⟨⟨_,underlying120,rfl⟩,by kernel_rfl⟩
structure RWv (u:R8) (vs:R6) (n:Nat) (mv lv:Nat->R6) (cnt:Nat):Prop where
 ex:∃AM cm AL cl,vs=#[.slice AM n cm,.slice AL n cl,RI (cnt:Nat)]/\Rd u AM (ed mv n)/\Rd u AL (ed lv n)/\n<=cm/\n<=cl
 sm:∀x,x<n->(mv x).size=22/\(mv x).toList.all (·.oneCell')=true
 sl:∀x,x<n->(lv x).size=4/\(lv x).toList.all (·.oneCell')=true
def Pq (R:R6->R6->R6->R8->Prop) (C:Int) (w:R8) (e:Ending) (i:R8):Prop:=∃m1 h v1:R6,e=Ending.returned (.tuple #[.agg m1,.agg h,.agg v1,RI C])/\(m1.size=22/\h.size=4/\v1.size=4)/\(m1.toList.all (·.oneCell')=true/\h.toList.all (·.oneCell')=true/\v1.toList.all (·.oneCell')=true)/\R m1 h v1 i/\aq w i
theorem JQ {w:R8} {vs:R6} {n x p cnt:Nat} {mv N:Nat->R6} {C:Int} {R:R6->R6->R6->R8->Prop} (h:RWv w vs n mv N cnt) (A:x<n) (hn:n<=1000) (hp:(x+n-1)%n=p) (a0:∀i,w.heap.size+4<=i.heap.size->aq w i->Calls prog 118 #[.agg (mv x),.agg (N p),.agg (N x)] i (Pq R C (i))) (hR:∀m1 u1 v1 w1 w2,R m1 u1 v1 w1->Keep (λk=>w.heap.size<=k/\k<w.heap.size+4) w1 w2->R m1 u1 v1 w2):Calls prog 80 #[.agg vs,RI (x:Nat)] w (Pq R C (w)):=by
 obtain ⟨⟨AM,cm,AL,cl,rfl,hM,hL, -, -⟩,D,u⟩:=h;have ab:p<n:=by rw [<-hp];exact Nat.mod_lt _ ap
 obtain ⟨L,o1,rfl,r1⟩:=nC hM (λx A=>(D x A).1) (by decide) A;obtain ⟨V,Z,rfl,r2⟩:=nC hL (λx A=>(u x A).1) (by decide) ab;obtain ⟨b3,o3,e3,r3⟩:=nC hL (λx A=>(u x A).1) (by decide) A
 cases e3
 obtain ⟨B,H⟩:∃B,(((w.alloc (.cells #[.slice (some (ar L o1)) n cm,.slice (some (ar V Z)) n cl,RI (cnt:Nat)] 53)).alloc (.cells RM 116)).alloc (.cells #[RI 0,RJ,RI 0,RI 0] 120)).alloc (.cells #[RI 0,RJ,RI 0,RI 0] 120)=B:=⟨_,rfl⟩;have a4:zo w [.cells #[.slice (some (ar L o1)) n cm,.slice (some (ar V Z)) n cl,RI (cnt:Nat)] 53,.cells RM 116,.cells #[RI 0,RJ,RI 0,RI 0] 120,.cells #[RI 0,RJ,RI 0,RI 0] 120]=B:=H;have q0:=fF [.cells #[.slice (some (ar L o1)) n cm,.slice (some (ar V Z)) n cl,RI (cnt:Nat)] 53,.cells RM 116,.cells #[RI 0,RJ,RI 0,RI 0] 120,.cells #[RI 0,RJ,RI 0,RI 0] 120] w;have g0:=bY [.cells #[.slice (some (ar L o1)) n cm,.slice (some (ar V Z)) n cl,RI (cnt:Nat)] 53,.cells RM 116,.cells #[RI 0,RJ,RI 0,RI 0] 120,.cells #[RI 0,RJ,RI 0,RI 0] 120] w 0 rfl;have g1:=bY [.cells #[.slice (some (ar L o1)) n cm,.slice (some (ar V Z)) n cl,RI (cnt:Nat)] 53,.cells RM 116,.cells #[RI 0,RJ,RI 0,RI 0] 120,.cells #[RI 0,RJ,RI 0,RI 0] 120] w 1 rfl;have g2:=bY [.cells #[.slice (some (ar L o1)) n cm,.slice (some (ar V Z)) n cl,RI (cnt:Nat)] 53,.cells RM 116,.cells #[RI 0,RJ,RI 0,RI 0] 120,.cells #[RI 0,RJ,RI 0,RI 0] 120] w 2 rfl;have g3:=bY [.cells #[.slice (some (ar L o1)) n cm,.slice (some (ar V Z)) n cl,RI (cnt:Nat)] 53,.cells RM 116,.cells #[RI 0,RJ,RI 0,RI 0] 120,.cells #[RI 0,RJ,RI 0,RI 0] 120] w 3 rfl;have a6:B.heap.size=w.heap.size+4:=by rw [<-H];simp
 rw [a4] at q0 g0 g1 g2 g3;rw [Nat.add_zero] at g0
 have l1:L<w.heap.size:=by
  obtain ⟨v,hv⟩:∃v,(mv x).toList[0]?=some v:=⟨_,Rj (by rw [Array.length_toList,(D x A).1];decide)⟩;exact aB (r1 0 v hv)
 have l2:V<w.heap.size:=by
  obtain ⟨v,hv⟩:∃v,(N x).toList[0]?=some v:=⟨_,Rj (by rw [Array.length_toList,(u x A).1];decide)⟩;exact aB (r3 0 v hv)
 have rg:∀{b o cs},b<w.heap.size->w.rangeAt b o cs->∀i,Keep (λk=>w.heap.size<k/\k<w.heap.size+4) B i->i.rangeAt b o cs:=λhb hr i k j v hv=>by
  have h1:=hr j v hv;exact (World.cell?_of_block ((k.block _ (QE hb q0.size) (λe=>ap)).trans (q0.block _ hb))).trans h1
 obtain ⟨R1,R2,R3⟩:=af (λi q=>rg l1 r1 i q) (λi q=>rg l2 r2 i q) (λi q=>rg l2 r3 i q);have t:∀i,Keep (λk=>w.heap.size<k/\k<w.heap.size+4) B i->_:=λi q=>bx3 ((q.block _ (Qw g0) (λe=>ap)).trans g0)
 have O:((x:Int)+(n:Int)-1).tmod (n:Int)=(p:Int):=by
  rw [<-hp,Int.tmod_eq_emod_of_nonneg ap,Int.natCast_emod,show ((x+n-1:Nat):Int)=(x:Int)+n-1 by omega]
 have aG:((x:Int)+(n:Int)-1)%(n:Int)=(p:Int):=by rw [<-Int.tmod_eq_emod_of_nonneg ap];exact O
 have b0:¬(n=0):=ap;have h1:0<=(x:Int):=ap;have h2:(x:Int)<(n:Int):=ap;have h3:0<=(p:Int):=ap;have h4:(p:Int)<(n:Int):=ap;have w1:IntKind.i64.wrap ((x:Int)+n)=(x:Int)+n:=QC _ ap;have w2:IntKind.i64.wrap ((x:Int)+n-1)=(x:Int)+n-1:=QC _ ap;have w3:IntKind.i64.wrap (p:Int)=(p:Int):=QC _ ap;have w5:IntKind.i64.wrap (((x:Int)+n-1).tmod n)=(p:Int):=by rw [O];exact w3
 have w6:IntKind.i64.wrap (((x:Int)+n-1)%n)=(p:Int):=by rw [aG];exact w3
 have a8:=D x A;have ad:=u p ab;have a5:=u x A;obtain ⟨aM,HR,aR,Q0,G1,G2,G3,Hm⟩:=ak a0 hR H q0 g1 g2 g3 a8;obtain ⟨Hl,av⟩:=ae ad a5;have s0:Keep (λk=>w.heap.size<k/\k<w.heap.size+4) B B.drew:=(Keep.refl _ _).drew;have ao:=aa a6;have tl:=sl g3;clear a0 hR H a4 q0 g0 g1 g2 g3 a8 ad a5 D u hM hL r1 r2 r3 rg hp a6;go_enter func80,ntmps80;go_wp2_with fail;rw [aR.o];refine HA.g (λi:R8=>Keep (λk=>w.heap.size<k/\k<w.heap.size+4) B i) ?_;refine HA.t ?_ [0,1,2,3] s0 ?_;refine HA.lr 4 R1.o (by rw [Array.length_toList,Hm.o.1];exact nz) s0 ?_;refine HA.t ?_ [5,6,7,8,9,10,11,12,13] s0 ?_;refine HA.lr 14 R2.o (by rw [Array.length_toList,Hl.o.1];exact jt) s0 ?_;refine HA.t ?_ [15,16,17,18] s0 ?_;refine HA.lr 19 R3.o (by rw [Array.length_toList,av.o.1];exact jt) s0 ?_;have ea:(mv x).toList.toArray=mv x:=Array.toArray_toList;have eb:(N p).toList.toArray=N p:=Array.toArray_toList;have ec:(N x).toList.toArray=N x:=Array.toArray_toList;rw [ea,eb,ec];refine HA.c 20 (aM.o _ (by rw [Ru,ao.o];omega) (Q0.o.drew)) ?_;rintro _ w7 ⟨m1,u1,v1,rfl,⟨z1,z2,z3⟩,⟨a1,a2,a3⟩,hr,k7⟩;have b7:=bt (br B).drew k7;have s1:=s0.trans (Keep.below (S:=λk=>w.heap.size<k/\k<w.heap.size+4) k7);refine ⟨_,rfl,s1,λ_=>?_⟩;refine HA.t ?_ [21,22,23,24] s1 ?_;refine HA.st 25 (sb G1.o _ b7) nz (λw8 e8 J=>⟨s1.trans (J.mono λk _ e=>ap),?_⟩) (hn:=z1) (hs:=by rw [z1];rfl) (h1:=a1);refine HA.st 26 ((J.block _ (Qw (sb G2.o _ b7)) ap).trans (sb G2.o _ b7)) jt (λw9 e9 T=>⟨(s1.trans (J.mono λk _ e=>ap)).trans (T.mono λk _ e=>ap),?_⟩) (hn:=z2) (hs:=by rw [z2];rfl) (h1:=a2);have a7:=(T.block _ (QE (Qw (sb G3.o _ b7)) J.size) ap).trans ((J.block _ (Qw (sb G3.o _ b7)) ap).trans (sb G3.o _ b7));refine HA.st 27 a7 jt (λI a9 y=>⟨((s1.trans (J.mono λk _ e=>ap)).trans (T.mono λk _ e=>ap)).trans (y.mono λk _ e=>ap),?_⟩) (hn:=z3) (hs:=by rw [z3];rfl) (h1:=a3);have Y:=((s1.trans (J.mono λk _ e=>ap)).trans (T.mono λk _ e=>ap)).trans (y.mono λk _ (e:k=w.heap.size+3)=>by omega:Keep (λk=>w.heap.size<k/\k<w.heap.size+4) w9 I);refine HA.t ?_ [28] Y ?_;refine HA.d ?_;have f8:I.heap[w.heap.size+1]?=_:=(y.block _ (by have:=Qw e8;have:=T.size;omega) ap).trans ((T.block _ (Qw e8) ap).trans e8);have f9:I.heap[w.heap.size+1+1]?=_:=(y.block _ (Qw e9) ap).trans e9;have U:=HR.o _ _ _ _ _ hr (((J.mono λk _ (e:k=w.heap.size+1)=>by omega:Keep (λk=>w.heap.size<=k/\k<w.heap.size+4) w7 w8).trans (T.mono λk _ (e:k=w.heap.size+2)=>ap)).trans (y.mono λk _ (e:k=w.heap.size+3)=>ap));have Q:aq w I:=Q0.o.trans (Y.toBelow Q0.o.size (λj e=>ap));obtain ⟨HF,F8,F9,aP,Z1,Z2,Z3,A1⟩:=ak (QF U Q) f8 f9 a9 z1 z2 z3 a1;obtain ⟨A2,A3⟩:=ae a2 a3;clear U Q f8 f9 e8 e9 a9 z1 z2 z3 a1 a2 a3 J T y Y s1 b7 a7 k7 hr t;go_wp2_with fail
 try simp only [Exit.inBlock,Exit.then]
 refine QM (fL rfl rfl rfl rfl F8.o F9.o aP.o (by rw [Z1.o];exact nz) (by rw [Z2.o];exact jt) (by rw [Z3.o];exact jt)) rfl ?_;exact ⟨m1,u1,v1,rfl,⟨Z1.o,Z2.o,Z3.o⟩,⟨A1.o,A2.o,A3.o⟩,HF.o.1,HF.o.2⟩
theorem LV:dN prog 50 116 (.agg RM) 22 320:=⟨underlying50,info_parts (by kernel_rfl),rfl,by decide⟩
theorem LW:dN prog 51 120 (.agg #[RI 0,RJ,RI 0,RI 0]) 4 48:=⟨underlying51,info_parts (by kernel_rfl),rfl,by decide⟩
section
variable {P:Program} {ops:T0} {Q:Exit->T1->R8->Prop} {S:R8->Prop} {n:Nat}
theorem XA.sole {L:List Nat} {a:T1} {w:R8} (i:Nat) (p:XAS P ops Q S n i L a w) (hr:dA ops L=[i]:=by decide +kernel):XA P ops Q S n L a w:=by
 obtain ⟨o,u,h⟩:=p;exact XA.one i u hr h
theorem XA.three {L:List Nat} {a:T1} {w:R8} (i j k:Nat) (B:XAS P ops Q S n i L a w) (y:XAS P ops Q S n j L a w) (hk:XAS P ops Q S n k L a w) (hr:dA ops L=[i,j,k]:=by decide +kernel):XA P ops Q S n L a w:=by
 obtain ⟨N,A,B⟩:=B;obtain ⟨O,x,y⟩:=y;obtain ⟨ok,v,hk⟩:=hk;have D:unl (bK ops.size L)=unl (bK ops.size (i::L))+1:=cV (by rw [hr];simp);have I:unl (bK ops.size L)=unl (bK ops.size (j::L))+1:=cV (by rw [hr];simp);have J:unl (bK ops.size L)=unl (bK ops.size (k::L))+1:=cV (by rw [hr];simp);have H:unl (bK ops.size (j::L))=unl (bK ops.size (i::L)):=ap;have C:unl (bK ops.size (k::L))=unl (bK ops.size (i::L)):=ap;refine ⟨?_⟩;rw [D];refine cJ (by rw [ep];exact hr) (by simp) (aT.cons A (λu p=>B u λa w o hw=>p.out a w o λh=>(hw h).out) (aT.cons x (λu p=>y u λa w o hw=>p.out a w o λh=>?_) (aT.cons v (λu p=>hk u λa w o hw=>p.out a w o λh=>?_) aT.nil)))
 .have:=(hw h).out;rw [H] at this;exact this
 .have:=(hw h).out;rw [C] at this;exact this
end
def P3 (S:Nat->Prop) (R:R6->R6->R6->R8->Prop) (vs:R6) (n:Nat) (mv u:Nat->R6) (cnt x p:Nat) (C:Int) (w:R8) (e:Ending) (i:R8):Prop:= (C≠0/\e=.returned (.tuple #[.agg vs,.bool false])/\aq w i)\/(C=0/\∃m1 o v1 h:R6,e=.returned (.tuple #[.agg h,.bool true])/\RWv (aH S i) h n (aY mv x m1) (if 1<n then aY (aY u p o) x v1 else u) (cnt+1)/\R m1 o v1 i/\aq w i)
theorem F4 {w:R8} {vs:R6} {n cnt:Nat} {mv T:Nat->R6} {z:Int} (h:RWv w vs n mv T cnt) (Y:z<0\/(n:Int)<=z):Calls prog 47 #[.agg vs,RI z] w λe H=>e=.returned (.tuple #[.agg vs,.bool false])/\aq w H:=by
 obtain ⟨⟨D,cm,v,C,rfl, -, -, -, -⟩, -, -⟩:=h;obtain ⟨u,i⟩:∃u,(w.alloc (.cells #[.slice D n cm,.slice v n C,RI (cnt:Nat)] 53)).alloc (.cells #[RJ,RJ,RI 0] 53)=u:=⟨_,rfl⟩;have J:u.heap[w.heap.size]?=some (.cells #[.slice D n cm,.slice v n C,RI (cnt:Nat)] 53 (0,0)):=by rw [<-i];exact sb (Qy w _) _ ((br _).alloc (Qx _) _)
 have g1:u.heap[w.heap.size+1]?=some (.cells #[RJ,RJ,RI 0] 53 (0,0)):=by rw [<-i];have:=Qy (w.alloc (.cells #[.slice D n cm,.slice v n C,RI (cnt:Nat)] 53)) (.cells #[RJ,RJ,RI 0] 53);rwa [QP] at this
 have N:aq w u:=by rw [<-i];exact ((br w).alloc (Qx _) _).alloc (by rw [QP];omega) _
 have tl:=sl g1;have t0:=λH q=>bx3 (sb J H q);have V:=br u;obtain ⟨y,Q,R,G0⟩:=ag i g1 N J;clear i J g1 N;have p:∀x,Keep (λj=>j=w.heap.size+1) u x->aq w x:=λx k=>R.o.trans (k.toBelow R.o.size (λj e=>ap));have O:=aa p;clear p;by_cases h1:z<0
 .go_enter func47,ntmps47;go_upto_region 1 with (fail);rw [y.o];go_wp2_with (first | (refine aN #[.slice D n cm,.slice v n C,RI (cnt:Nat)] (b:=w.heap.size) G0.o dh rfl rfl rfl rfl ?_) | (refine aI (b:=w.heap.size+1) Q.o dh rfl rfl rfl rfl rfl rfl rfl ?_;intro x A B;obtain ⟨L,I⟩:=ae A B;clear A B))
  try simp only [Exit.inBlock,Exit.then]
  refine QM (dO rfl rfl L.o dh) rfl ?_;exact ⟨rfl,O.o _ I.o⟩
 .have U:(n:Int)<=z:=ap;go_enter func47,ntmps47;go_upto_region 1 with (fail);rw [y.o];go_wp2_with (first | (refine aN #[.slice D n cm,.slice v n C,RI (cnt:Nat)] (b:=w.heap.size) G0.o dh rfl rfl rfl rfl ?_) | (refine aI (b:=w.heap.size+1) Q.o dh rfl rfl rfl rfl rfl rfl rfl ?_;intro x A B;obtain ⟨L,I⟩:=ae A B;clear A B))
  try simp only [Exit.inBlock,Exit.then]
  refine QM (dO rfl rfl L.o dh) rfl ?_;exact ⟨rfl,O.o _ I.o⟩
theorem AC {S:Nat->Prop} {R:R6->R6->R6->R8->Prop} {w B i W h:R8} {n cnt I C cm A b:Nat} {mv u:Nat->R6} {m1 p v1:R6} (Y:∀k,S k->k<w.heap.size) (L:aq w B) (Q:aq B i) (q:aq i W) (k:Keep (λj=>j=b) W h) (hb:w.heap.size<=b/\b<w.heap.size+2) (V:b<i.heap.size) (oM:W.ownsRow i.heap.size 116 22 (.slice (some (ar I 0)) n cm) n (ed mv n)) (oL:W.ownsRow i.heap.size 120 4 (.slice (some (ar C 0)) n A) n (ed u n)) (hm:∀x,x<n->(mv x).size=22/\(mv x).toList.all (·.oneCell')=true) (hl:∀x,x<n->(u x).size=4/\(u x).toList.all (·.oneCell')=true) (hr:R m1 p v1 B) (Z:∀m1 p v1 D T,R m1 p v1 D->Keep (λk=>w.heap.size<=k/\k<w.heap.size+6) D T->R m1 p v1 T):
  RWv (aH S h) #[.slice (some (ar I 0)) n cm,.slice (some (ar C 0)) n A,RI ((cnt+1:Nat):Int)] n mv u (cnt+1)/\R m1 p v1 h/\aq w h:=by
 have hz:=L.size;have U:=Q.size;have y:=k.own oM (λj h1 H=>by have:=(oM.lt j h1).1;omega);have v:=k.own oL (λj h1 H=>by have:=(oL.lt j h1).1;omega)
 have hc:n<=cm/\n<=A:=by
  obtain ⟨_,_,O,h1⟩:=aD oM;obtain ⟨_,_,J,H⟩:=aD oL;injection O with _ _ O;injection J with _ _ J
  omega
 have o:∀k,S k->k<i.heap.size:=λk e=>by have:=Y k e;omega
 have N:=bt Q q;exact ⟨⟨⟨_,_,_,_,rfl,iB y o,iB v o,hc⟩,hm,hl⟩,Z _ _ _ _ _ hr ((Keep.below N).trans (k.mono λj _ e=>ap)),(bt L N).trans (k.toBelow (by have:=q.size;omega) (λj e=>ap))⟩
theorem RWv.upd {mv:Nat->R6} {n k x:Nat} {u:R6} (h:∀x,x<n->(mv x).size=k/\(mv x).toList.all (·.oneCell')=true) (p:u.size=k) (i:u.toList.all (·.oneCell')=true):∀y,y<n->(aY mv x u y).size=k/\(aY mv x u y).toList.all (·.oneCell')=true:=λy o=>by
 by_cases e:y=x
 .subst e;rw [bE];exact ⟨p,i⟩
 .rw [bq _ _ e];exact h y o
theorem rM {mv:Nat->R6} {n k x:Nat} {u:R6} (h:∀x,x<n->(mv x).size=k/\(mv x).toList.all (·.oneCell')=true) (v:u.size=k) (p:u.toList.all (·.oneCell')=true) (o:x<n):FN (ed mv n) (x*k) u.toList=ed (aY mv x u) n:=by
 have:=Gc (mv:=mv) (mv':=aY mv x u) (λx o=>(h x o).1) (λy i=>(RWv.upd h v p y i).1) o (λy i=>bq _ _ i)
 rwa [bE] at this
theorem JZ {S:Nat->Prop} {R:R6->R6->R6->R8->Prop} {w:R8} {vs:R6} {n cnt x p:Nat} {mv lv:Nat->R6} {C:Int} (hS:∀k,S k->k<w.heap.size) (h:RWv w vs n mv lv cnt) (Z:x<n) (hn:n<=1000) (hp:(x+n-1)%n=p) (f4:cnt<=1000000000) (c6:∀u,w.heap.size+6<=u.heap.size->aq w u->Calls prog 118 #[.agg (mv x),.agg (lv p),.agg (lv x)] u (Pq R C u)) (hR:∀m1 I v1 w1 w2,R m1 I v1 w1->Keep (λk=>w.heap.size<=k/\k<w.heap.size+6) w1 w2->R m1 I v1 w2):Calls prog 47 #[.agg vs,RI (x:Nat)] w (P3 S R vs n mv lv cnt x p C w):=by
 have bI:p<n:=by rw [<-hp];exact Nat.mod_lt _ ap
 have b4:=λu (q:aq w u) (hz:u.heap.size=w.heap.size+2)=>JQ (R:=R) (C:=C) (show RWv u vs n mv lv cnt from by
  obtain ⟨⟨AM,cm,AL,cl,h1,L,h3,h4⟩,h5,h6⟩:=h
  exact ⟨⟨AM,cm,AL,cl,h1,L.below q,h3.below q,h4⟩,h5,h6⟩) Z hn hp (λey h1 q'=>c6 ey ap (bt q q')) (λm1 I v1 w1 w2 hr k=>hR m1 I v1 w1 w2 hr (k.mono λj _ e=>ap))
 obtain ⟨⟨AM,cm,AL,cl,rfl,hM,hL,fb,fi⟩,aR,b1⟩:=h;obtain ⟨W0,a5⟩:∃W0,(w.alloc (.cells #[.slice AM n cm,.slice AL n cl,RI (cnt:Nat)] 53)).alloc (.cells #[RJ,RJ,RI 0] 53)=W0:=⟨_,rfl⟩;have g0:W0.heap[w.heap.size]?=some (.cells #[.slice AM n cm,.slice AL n cl,RI (cnt:Nat)] 53 (0,0)):=by rw [<-a5];exact sb (Qy w _) _ ((br _).alloc (Qx _) _)
 have g1:W0.heap[w.heap.size+1]?=some (.cells #[RJ,RJ,RI 0] 53 (0,0)):=by rw [<-a5];have:=Qy (w.alloc (.cells #[.slice AM n cm,.slice AL n cl,RI (cnt:Nat)] 53)) (.cells #[RJ,RJ,RI 0] 53);rwa [QP] at this
 have q0:aq w W0:=by rw [<-a5];exact ((br w).alloc (Qx _) _).alloc (by rw [QP];omega) _
 have cY:W0.heap.size=w.heap.size+2:=by rw [<-a5];simp
 have tl:=sl g1;have t0:=λu q=>bx3 (sb g0 u q);have q1:=br W0;have f9:(x:Int)<n:=ap;have f7:¬((x:Int)<0):=ap;have cI:∀u,aq w u->Rd u AM (ed mv n):=λu q=>hM.below q;have hrl:∀u,aq w u->Rd u AL (ed lv n):=λu q=>hL.below q;have d7:=lX (λx Z=>(aR x Z).1);have dG:=lX (λx Z=>(b1 x Z).1);have cc:=xc (λx Z=>(aR x Z).2);have cO:=xc (λx Z=>(b1 x Z).2);obtain ⟨eY,G1,Q0,G0,dd,HR,ei,e5⟩:=ak a5 g1 q0 g0 b4 hR cY aR;obtain ⟨bz,cn,e1,f0,eV,ee,ec,HS⟩:=ak b1 cI hrl d7 dG cc cO hS;have Hp:=aa hp;clear a5 g0 g1 q0 b4 hR cY aR b1 hM hL cI hrl d7 dG cc cO c6 hS hp;go_enter func47,ntmps47;go_upto_region 1 with (fail);rw [eY.o];go_wp2_with (refine aN #[.slice AM n cm,.slice AL n cl,RI (cnt:Nat)] (b:=w.heap.size) G0.o dh rfl rfl rfl rfl ?_);refine (dd.o _ Q0.o (by rw [ei.o])).mono ?_;rintro e D ⟨m1,I,v1,rfl,⟨z1,z2,z3⟩,⟨a1,a2,a3⟩,hr,k5⟩;have q5:=bt q1 k5;obtain ⟨Z1,Z2,J,O1,O2,O3,e2⟩:=aj z1 z2 z3 a1 a2 a3 hr;clear z1 z2 z3 a1 a2 a3 hr k5 q1;have b5:aq D (((D.alloc (.cells RM 116)).alloc (.cells #[RI 0,RJ,RI 0,RI 0] 120)).alloc (.cells #[RI 0,RJ,RI 0,RI 0] 120)):=fF [Obj.cells RM 116,.cells #[RI 0,RJ,RI 0,RI 0] 120,.cells #[RI 0,RJ,RI 0,RI 0] 120] D;obtain ⟨bV,bv,aP,B5⟩:=ag (show (((D.alloc (.cells RM 116)).alloc (.cells #[RI 0,RJ,RI 0,RI 0] 120)).alloc (.cells #[RI 0,RJ,RI 0,RI 0] 120)).heap[D.heap.size]?=_ from bY [Obj.cells RM 116,.cells #[RI 0,RJ,RI 0,RI 0] 120,.cells #[RI 0,RJ,RI 0,RI 0] 120] D 0 rfl) (show (((D.alloc (.cells RM 116)).alloc (.cells #[RI 0,RJ,RI 0,RI 0] 120)).alloc (.cells #[RI 0,RJ,RI 0,RI 0] 120)).heap[D.heap.size+1]?=_ from bY [Obj.cells RM 116,.cells #[RI 0,RJ,RI 0,RI 0] 120,.cells #[RI 0,RJ,RI 0,RI 0] 120] D 1 rfl) (show (((D.alloc (.cells RM 116)).alloc (.cells #[RI 0,RJ,RI 0,RI 0] 120)).alloc (.cells #[RI 0,RJ,RI 0,RI 0] 120)).heap[D.heap.size+1+1]?=_ from bY [Obj.cells RM 116,.cells #[RI 0,RJ,RI 0,RI 0] 120,.cells #[RI 0,RJ,RI 0,RI 0] 120] D 2 rfl) b5;clear b5
 go_upto_region 5 with (first
  | (refine aI (b:=D.heap.size) bV.o nz rfl rfl rfl rfl Z1.o (by rw [Z1.o];rfl) O1.o ?_;intro w6 e6 k6;obtain ⟨E6,K6⟩:=ae e6 k6;clear e6 k6)
  | (refine aI (b:=D.heap.size+1) ((K6.o.block _ (Qw bv.o) ap).trans bv.o) jt rfl rfl rfl rfl Z2.o (by rw [Z2.o];rfl) O2.o ?_;intro w7 e7 k7;obtain ⟨E7,K7⟩:=ae e7 k7;clear e7 k7)
  | (refine aI (b:=D.heap.size+1+1) ((K7.o.block _ (QE (Qw aP.o) K6.o.size) ap).trans ((K6.o.block _ (Qw aP.o) ap).trans aP.o)) jt rfl rfl rfl rfl J.o (by rw [J.o];rfl) O3.o ?_;intro y e8 k8;obtain ⟨E8,K8⟩:=ae e8 k8;clear e8 k8))
 have bh:aq D y:=B5.o.trans (((K6.o.toBelow B5.o.size (λj e=>ap)).trans (K7.o.toBelow (QD B5.o.size K6.o.size) (λj e=>ap))).trans (K8.o.toBelow (QD (QD B5.o.size K6.o.size) K7.o.size) (λj e=>ap)));have e3:y.heap[D.heap.size]?=_:=(K8.o.block _ (QE (Qw E6.o) K7.o.size) ap).trans ((K7.o.block _ (Qw E6.o) ap).trans E6.o);have dw:y.heap[D.heap.size+1]?=_:=(K8.o.block _ (Qw E7.o) ap).trans E7.o;obtain ⟨ev,co⟩:=ae e3 dw;have q8:=bt q5 bh;obtain ⟨Q5,d8⟩:=ae q5 bh;clear e3 dw bh B5 bV bv aP E6 E7 K6 K7 K8 q5;by_cases hC:C=0;rotate_left
 .have fc:(C != 0)=true:=by rw [bne_iff_ne];exact hC
  have HC:=aa hC;have h1:=sb G1.o _ q8;obtain ⟨H1,Q8⟩:=ae h1 q8;clear h1 hC;go_wp2_with (first | (refine aN #[.slice AM n cm,.slice AL n cl,RI (cnt:Nat)] (b:=w.heap.size) (sb G0.o _ Q8.o) dh rfl rfl rfl rfl ?_) | (refine aI (b:=w.heap.size+1) H1.o dh rfl rfl rfl rfl rfl rfl rfl ?_;intro w9 e9 k9;obtain ⟨E9,K9⟩:=ae e9 k9;clear e9 k9))
  try simp only [Exit.inBlock,Exit.then]
  refine QM (dO rfl rfl E9.o dh) rfl ?_;exact .inl ⟨HC.o,rfl,(Q0.o.trans (Q8.o.mono Q0.o.size)).trans (K9.o.toBelow (QD Q0.o.size Q8.o.size) (λj e=>ap))⟩
 subst hC;go_upto_region 7 with (fail);have cx:=sb G0.o _ q8;have dv:=sb G1.o _ q8;obtain ⟨cw,a7,Q8⟩:=af cx dv q8;have bi:IntKind.i64.wrap ((cnt:Int)+1)=((cnt+1:Nat):Int):=by rw [QC _ ap];push_cast;rfl
 have em:=aa bi;clear cx dv q8 t0 tl bi
 go_cut [11] (λv wx=>∃N A3 c3 A7 c7,v=(au N)/\wx.heap[N]?=some (.cells #[.slice A3 n c3,.slice A7 n c7,RI ((cnt+1:Nat):Int)] 53 (0,0))/\y.heap.size<=N/\wx.ownsRow y.heap.size 116 22 (.slice A3 n c3) n (ed mv n)/\wx.ownsRow y.heap.size 120 4 (.slice A7 n c7) n (ed lv n)/\aq y wx)
 case first=>
  have t8:=λu q=>bx3 (sb cw.o u q);obtain ⟨ej,en⟩:=ae (λu (q:aq y u)=>cn.o u (Q0.o.trans ((bt Q8.o q).mono Q0.o.size))) (λu (q:aq y u)=>e1.o u (Q0.o.trans ((bt Q8.o q).mono Q0.o.size)));have bi:=em.o;have tl:=λu (q:aq y u)=>QE (Qw cw.o) q.size;have q:=(br y).drew;refine XA.g 13 (λu:R8=>aq y u) ?_;refine XA.t ?_ [1,2,5,6,8,9,10] q ?_;obtain ⟨U,hU⟩:∃U,y.drew=U:=⟨_,rfl⟩;rw [hU] at q |-;clear hU
  repeat' first
   | (refine XA.three 0 4 12 ?_ ?_ ?_)
   | (refine XA.three 3 4 12 ?_ ?_ ?_)
   | (refine XA.two 0 4 ?_ ?_)
   | (refine XA.two 0 12 ?_ ?_)
   | (refine XA.two 3 4 ?_ ?_)
   | (refine XA.two 3 12 ?_ ?_)
   | (refine XA.two 4 12 ?_ ?_)
   | (refine XA.two 7 12 ?_ ?_)
   | (refine XA.sole 0 ?_)
   | (refine XA.sole 3 ?_)
   | (refine XA.sole 4 ?_)
   | (refine XA.sole 7 ?_)
   | (refine XA.sole 12 ?_)
   | (refine XAS.v (i:=0) (U.alloc (.cells #[] 116)) (.slice (some (ar U.heap.size 0)) 0 0) (q.alloc q.size _) ?_;have nM:(U.alloc (.cells #[] 116)).ownsRow y.heap.size 116 22 (.slice (some (ar U.heap.size 0)) 0 0) 0 []:=aF (fh U 116 22) q.size;have B:=(br U).alloc (Qx _) (.cells #[] 116);obtain ⟨V,hv⟩:∃V,U.alloc (.cells #[] 116)=V:=⟨_,rfl⟩;rw [hv] at nM B |-;clear hv;(try replace oM:=az oM B);(try replace oL:=az oL B);(try replace A:=sb A _ B);replace q:=bt q B;have oM:=nM;obtain ⟨bM,d1⟩:∃b,U.heap.size=b:=⟨_,rfl⟩;rw [d1] at oM |-;clear nM B d1;obtain ⟨U,rfl⟩:∃U,U=V:=⟨_,rfl⟩)
   | (refine XAS.v (i:=4) (U.alloc (.cells #[] 120)) (.slice (some (ar U.heap.size 0)) 0 0) (q.alloc q.size _) ?_;have nL:(U.alloc (.cells #[] 120)).ownsRow y.heap.size 120 4 (.slice (some (ar U.heap.size 0)) 0 0) 0 []:=aF (fh U 120 4) q.size;have B:=(br U).alloc (Qx _) (.cells #[] 120);obtain ⟨V,hv⟩:∃V,U.alloc (.cells #[] 120)=V:=⟨_,rfl⟩;rw [hv] at nL B |-;clear hv;(try replace oM:=az oM B);(try replace oL:=az oL B);(try replace A:=sb A _ B);replace q:=bt q B;have oL:=nL;obtain ⟨bL,dn⟩:∃b,U.heap.size=b:=⟨_,rfl⟩;rw [dn] at oL |-;clear nL B dn;obtain ⟨U,rfl⟩:∃U,U=V:=⟨_,rfl⟩)
   | (refine XAS.v (i:=12) (U.alloc (.cells #[RJ,RJ,RI 0] 53)) ((au U.heap.size)) (q.alloc q.size _) ?_;have nN:=Qy U (.cells #[RJ,RJ,RI 0] 53);have lN:=q.size;have B:=(br U).alloc (Qx _) (.cells #[RJ,RJ,RI 0] 53);obtain ⟨V,hv⟩:∃V,U.alloc (.cells #[RJ,RJ,RI 0] 53)=V:=⟨_,rfl⟩;rw [hv] at nN B |-;clear hv;(try replace oM:=az oM B);(try replace oL:=az oL B);(try replace A:=sb A _ B);replace q:=bt q B;have A:=nN;obtain ⟨N,hN⟩:∃b,U.heap.size=b:=⟨_,rfl⟩;rw [hN] at A lN |-;clear nN B hN;obtain ⟨U,rfl⟩:∃U,U=V:=⟨_,rfl⟩)
   | (refine XAS.o (i:=3) (λK' hK=>?_);refine bW LV (.tmp 34) (.tmp 36) rfl rfl y.heap.size (.slice (some (ar bM 0)) 0 0) 0 [] rfl oM AM n cm (ed mv n) rfl (ej.o _ q) f0.o ee.o ap (by unfold maxLen;omega) q.size ?_;intro A3 c3 V o3 b3 g3 n3;rw [RB,List.nil_append] at o3;have kG:Keep (λj=>(Value.slice (some (ar bM 0)) 0 0).ownBlock=some j) U V:=(Keep.refl _ U).grown g3 (λk hk=>.inr hk);(try replace oL:=kG.own oL (λj h1 L=>gi oL oM (by decide) j h1 L));(try replace A:=(kG.block _ (Qw A) (λe=>ay A (by decide) oM e.symm)).trans A);rw [RB];refine hK.out _ _ (q.trans b3) λ_=>?_;replace q:=q.trans b3;clear hK K' n3 g3 b3 kG oM;have oM:=o3;clear o3;obtain ⟨U,rfl⟩:∃U,U=V:=⟨_,rfl⟩)
   | (refine XAS.o (i:=7) (λK' hK=>?_);refine bW LW (.tmp 38) (.tmp 40) rfl rfl y.heap.size (.slice (some (ar bL 0)) 0 0) 0 [] rfl oL AL n cl (ed lv n) rfl (en.o _ q) eV.o ec.o ap (by unfold maxLen;omega) q.size ?_;intro A7 c7 V o7 b7 g7 n7;rw [RB,List.nil_append] at o7;have kG:Keep (λj=>(Value.slice (some (ar bL 0)) 0 0).ownBlock=some j) U V:=(Keep.refl _ U).grown g7 (λk hk=>.inr hk);(try replace oM:=kG.own oM (λj h1 L=>gi oM oL (by decide) j h1 L));(try replace A:=(kG.block _ (Qw A) (λe=>ay A (by decide) oL e.symm)).trans A);rw [RB];refine hK.out _ _ (q.trans b7) λ_=>?_;replace q:=q.trans b7;clear hK K' n7 g7 b7 kG oL;have oL:=o7;clear o7;obtain ⟨U,rfl⟩:∃U,U=V:=⟨_,rfl⟩)
   | (refine XA.t ?_ [11] q ?_)
   | fail
  all_goals
   refine XA.e ?_;simp only [Re,Rf];obtain ⟨GN,OM,OL,QQ⟩:=ag A oM oL q;clear A oM oL q t8;go_wp2_with (refine aI (b:=N) GN.o dh rfl rfl rfl rfl rfl rfl rfl ?_;intro w9 e9 k9;obtain ⟨E9,K9⟩:=ae e9 k9;clear e9 k9);go_meet;exact ⟨N,_,_,_,_,rfl,E9.o,lN,K9.o.own OM.o (λj h1 L=>ay GN.o (by decide) OM.o (by rw [h1,L])),K9.o.own OL.o (λj h1 L=>ay GN.o (by decide) OL.o (by rw [h1,L])),QQ.o.trans (K9.o.toBelow QQ.o.size (λj e=>ap))⟩
 case rest=>
  obtain ⟨N,A3,c3,A7,c7,rfl,A,lN,oM,oL,kc⟩:=hcut;obtain ⟨gm,cM,eM,_⟩:=oM.form ap;injection eM with eM _ eM2
  subst eM;subst eM2;obtain ⟨gl,cL,eL,_⟩:=oL.form ap;injection eL with eL _ eL2
  subst eL;subst eL2;have tm:=pw oM Z;have d6:=sb ev.o _ kc;have d3:=sb co.o _ kc;have dc:=sb E8.o _ kc;have cd:=sb a7.o _ kc;have tN:=bx3 A;have e0:=oM.lt gm rfl;have cf:=oL.lt gl rfl;have fd:¬(n=0):=ap;have h1:0<=(x:Int):=ap;have ds:(m1.toList.drop 0).take m1.toList.length=m1.toList:=by rw [Rf,Rt]
  have d9:(I.toList.drop 0).take I.toList.length=I.toList:=by rw [Rf,Rt]
  have c8:(v1.toList.drop 0).take v1.toList.length=v1.toList:=by rw [Rf,Rt]
  obtain ⟨f1,ef,f6,f5,fe,bA,a9,be⟩:=ak tm d6 d3 dc cd A oM oL;obtain ⟨KC,ek,er,eS,dk,cj⟩:=ai kc ds d9 c8 e0 cf;clear tm d6 d3 dc cd A oM oL kc ds d9 c8 e0 cf;have hI:(prog.info? 116).map (·.size)=some m1.size:=by rw [Z1.o];exact nz.s
  have hJ:m1.all (·.oneCell')=true:=by rw [<-Array.all_toList];exact O1.o
  obtain ⟨HI,HJ⟩:=ae hI hJ;clear hI hJ;go_upto_region 9 with (first | (refine aN m1 ef.o (by rw [Z1.o];exact nz) rfl rfl rfl ek.o ?_) | (refine wpList_store_mid rfl 116 _ _ rfl gm (x*22) m1 rfl rfl (by rw [Z1.o];exact f1.o) HI.o HJ.o ?_));have H:=jc m1.toList wc gm (x*22);have b0:=qV m1.toList (o:=x*22) a9.o;have bn:=H.own be.o (λj h1 L=>gi be.o a9.o (by decide) j h1 (by rw [L];rfl));have b2:=(H.block N (Qw bA.o) (λe=>(ay bA.o (by decide) a9.o) (by rw [e];rfl))).trans bA.o;obtain ⟨W9,dp⟩:∃W9,wc.setCells gm (x*22) m1.toList=W9:=⟨_,rfl⟩;rw [dp] at H b0 bn b2 |-;have eG:Keep (λj=>y.heap.size<=j) y W9:=(Keep.below KC.o).trans (H.mono λj _ e=>by have:=dk.o.1;omega);rw [rM e5.o Z1.o O1.o Z] at b0;have da:=RWv.upd (x:=x) e5.o Z1.o O1.o;have q9:aq y W9:=KC.o.trans (H.toBelow KC.o.size (λj e=>by have:=dk.o.1;omega));have cr:=sb co.o _ q9;have ci:=sb E8.o _ q9;have cs:=sb a7.o _ q9;have ea:=bx3 b2;obtain ⟨bl,a0,a4,Q9,eb,fa,es,dT⟩:=ak b0 bn b2 q9 cr ci cs da;clear dp H b0 bn b2 eG q9 cr ci cs da tN;by_cases cA:1<n
  .have d5:(1:Int)<n:=ap;have df:(prog.info? 120).map (·.size)=some I.size:=by rw [Z2.o];exact jt.s
   have d0:I.all (·.oneCell')=true:=by rw [<-Array.all_toList];exact O2.o
   have d4:(prog.info? 120).map (·.size)=some v1.size:=by rw [J.o];exact jt.s
   have e4:v1.all (·.oneCell')=true:=by rw [<-Array.all_toList];exact O3.o
   have c9:=pw a0.o bI;obtain ⟨eu,eo,ew,eX,f8⟩:=ah df d0 d4 e4 c9;clear df d0 d4 e4 c9;go_upto_region 10 with (fail)
   have ab:((x:Int)+(n:Int)-1).tmod (n:Int)=(p:Int):=by
    rw [<-Hp.o,Int.tmod_eq_emod_of_nonneg ap,Int.natCast_emod,show ((x+n-1:Nat):Int)=(x:Int)+n-1 by omega]
   have cv:((x:Int)+(n:Int)-1)%(n:Int)=(p:Int):=by rw [<-Int.tmod_eq_emod_of_nonneg ap];exact ab
   have h3:0<=(p:Int):=ap;have h4:(p:Int)<(n:Int):=ap;have w1:IntKind.i64.wrap ((x:Int)+n)=(x:Int)+n:=QC _ ap;have w2:IntKind.i64.wrap ((x:Int)+n-1)=(x:Int)+n-1:=QC _ ap;have w3:IntKind.i64.wrap (p:Int)=(p:Int):=QC _ ap;have el:IntKind.i64.wrap (((x:Int)+n-1).tmod n)=(p:Int):=by rw [ab];exact w3
   have w6:IntKind.i64.wrap (((x:Int)+n-1)%n)=(p:Int):=by rw [cv];exact w3
   have tq:=λu q=>bx3 (sb a4.o u q);have tl:=sl a4.o;have q:=(br W9).drew;refine XA.g 10 (λu:R8=>aq W9 u) ?_;refine XA.t ?_ [0,1,2,3,4,5,6,7] q ?_;refine XA.ld 8 I (λu q=>sb eb.o u q) (by rw [Z2.o];exact jt) q ?_ (hcs:=er.o);refine XA.t ?_ [9] q ?_;refine XA.e ?_;simp only [Re,Rf];clear tq tl q ab cv h3 h4 w1 w2 w3 el w6 ea;go_upto_region 11 with (refine wpList_store_mid rfl 120 _ _ rfl gl (p*4) I rfl rfl (by rw [Z2.o];exact pw a0.o.drew bI) eu.o eo.o ?_);have H:=(Keep.refl (λj=>j=gl) W9).drew.trans (jc I.toList W9.drew gl (p*4));have Y:=qV I.toList (o:=p*4) a0.o.drew;have av:=H.own bl.o (λj h1 L=>gi bl.o a0.o (by decide) j h1 (by rw [L];rfl));have Q:=(H.block N (Qw a4.o) (λe=>(ay a4.o (by decide) a0.o) (by rw [e];rfl))).trans a4.o;obtain ⟨aM,b6⟩:∃aM,W9.drew.setCells gl (p*4) I.toList=aM:=⟨_,rfl⟩;rw [b6] at H av Y Q |-;rw [rM bz.o Z2.o O2.o bI] at Y;have cy:=RWv.upd (x:=p) bz.o Z2.o O2.o;have bO:aq y aM:=Q9.o.trans (H.toBelow Q9.o.size (λj e=>by have:=cj.o.1;omega));have bb:=sb E8.o _ bO;have cb:=bx3 Q;obtain ⟨b8,O,a8,bX,dr,d2⟩:=ai av Y Q bO bb cy;clear b6 H av Y Q bO bb cy;go_upto_region 12 with (first | (refine aN v1 dr.o (by rw [J.o];exact jt) rfl rfl rfl eS.o ?_) | (refine wpList_store_mid rfl 120 _ _ rfl gl (x*4) v1 rfl rfl (by rw [J.o];exact pw O.o Z) ew.o eX.o ?_));have H:=jc v1.toList aM gl (x*4);have T:=qV v1.toList (o:=x*4) O.o;have ad:=H.own b8.o (λj h1 L=>gi b8.o O.o (by decide) j h1 (by rw [L];rfl));have a6:=(H.block N (Qw a8.o) (λe=>(ay a8.o (by decide) O.o) (by rw [e];rfl))).trans a8.o;obtain ⟨bo,b9⟩:∃bo,aM.setCells gl (x*4) v1.toList=bo:=⟨_,rfl⟩;rw [b9] at H ad T a6 |-;rw [rM d2.o J.o O3.o Z] at T;have bG:aq y bo:=bX.o.trans (H.toBelow bX.o.size (λj e=>by have:=cj.o.1;omega));obtain ⟨bf,bw,eB,f2,Qe⟩:=ah (sb a7.o _ bG) a6 ad T bG;clear b9 H ad T a6 bG cb;go_wp2_with (first | (refine aN #[.slice (some (ar gm 0)) n c3,.slice (some (ar gl 0)) n c7,RI ((cnt+1:Nat):Int)] (b:=N) bw.o dh rfl rfl rfl rfl ?_) | (refine aI (b:=w.heap.size+1) bf.o dh rfl rfl rfl rfl rfl rfl rfl ?_;intro f3 ao aG;obtain ⟨bN,bs⟩:=ae ao aG;clear ao aG))
   try simp only [Exit.inBlock,Exit.then]
   refine QM (dO rfl rfl bN.o dh) rfl ?_
   exact .inr ⟨rfl,m1,I,v1,_,rfl,by
    rw [if_pos cA]
    exact AC HS.o (Q0.o.trans ((show aq W0 D from Q5.o).mono Q0.o.size)) d8.o Qe.o bs.o ap (Qw a7.o) eB.o f2.o dT.o (RWv.upd d2.o J.o O3.o) e2.o HR.o⟩
  .have d5:¬((1:Int)<n):=ap;obtain ⟨bf,bw⟩:=ae es.o a4.o;clear ea;go_wp2_with (first | (refine aN #[.slice (some (ar gm 0)) n c3,.slice (some (ar gl 0)) n c7,RI ((cnt+1:Nat):Int)] (b:=N) bw.o dh rfl rfl rfl rfl ?_) | (refine aI (b:=w.heap.size+1) bf.o dh rfl rfl rfl rfl rfl rfl rfl ?_;intro f3 ao aG;obtain ⟨bN,bs⟩:=ae ao aG;clear ao aG))
   try simp only [Exit.inBlock,Exit.then]
   refine QM (dO rfl rfl bN.o dh) rfl ?_
   exact .inr ⟨rfl,m1,I,v1,_,rfl,by
    rw [if_neg cA]
    exact AC HS.o (Q0.o.trans ((show aq W0 D from Q5.o).mono Q0.o.size)) d8.o Q9.o bs.o ap (Qw a7.o) bl.o a0.o dT.o bz.o e2.o HR.o⟩
section
variable {P:Program} {ops:T0} {Q:Exit->T1->R8->Prop} {S:R8->Prop} {n:Nat}
theorem XAS.c {L:List Nat} {a:T1} {w:R8} {i:Nat} {f:FuncId} {args:R6} {R:Ending->R8->Prop} {o:Oper} (hc:Calls P f args w R) (k:∀e p,R e p->∃v,e=.returned v/\S p/\(S p->XA P ops Q S n (i::L) (a.put o.dst v) p)) (u:ops[i]?=some o:=by (simp only [QZ,Ra,Rc];rfl)) (hw:Region.wanted o (yielded ops a.tmps)=true:=by rfl) (he:(execOp a.eval o).run P w=.ok (.enter f args) w:=by go_simp):XAS P ops Q S n i L a w:=by
 refine ⟨o,u,λB A=>?_⟩;rw [if_pos hw];unfold Oper.wp;rw [he];refine hc.mono λe p y=>?_;obtain ⟨v,rfl,x,h⟩:=k e p y;exact A.out _ _ x h
end
def PX {σ:Type} (J:R8->R6->σ->Prop) (S:Nat->Prop) (s:σ) (k:Nat) (w:R8) (e:Ending) (i:R8):Prop:=
 ∃h:R6,e=.returned (.tuple #[.agg h,RI (k:Nat)])/\h.size=3/\h.toList.all (·.oneCell')=true/\J (aH S i) h s/\aq w i
def Ol {σ:Type} (J:R8->R6->σ->Prop) (S:Nat->Prop) (s:σ) (b:Bool) (w:R8) (e:Ending) (i:R8):Prop:=
 ∃h:R6,e=.returned (.tuple #[.agg h,.bool b])/\h.size=3/\h.toList.all (·.oneCell')=true/\J (aH S i) h s/\aq w i
theorem JY {σ:Type} {st:σ->Int->σ×Bool} {J:R8->R6->σ->Prop} {S:Nat->Prop} {A:N_} {c:Nat} {l:Q_} {s:σ} {w:R8} {vs:R6} (hS:∀k,S k->k<w.heap.size) (hl:l.length<=1000000) (hA:Rd w A (aA .i64 l)) (hJ:∀u v vs s,J u vs s->Ext u v->J v vs s) (hp:∀(S:Nat->Prop) w vs s z,(∀k,S k->k<w.heap.size)->J (aH S w) vs s->z∈l->Calls prog 47 #[.agg vs,RI z] w (Ol J S (st s z).1 (st s z).2 w)) (h0:J (aH S w) vs s) (hz:vs.size=3) (ho:vs.toList.all (·.oneCell')=true):Calls prog 18 #[.agg vs,.slice A l.length c] w (PX J S (mM st s l).1 (mM st s l).2 w):=by
 obtain ⟨n,hn⟩:∃n,l.length=n:=⟨_,rfl⟩;rw [hn] at hl |-;obtain ⟨W0,B⟩:∃W0,(w.alloc (.cells vs 53)).alloc (.cells #[RJ,RJ,RI 0] 53)=W0:=⟨_,rfl⟩;have g0:W0.heap[w.heap.size]?=some (.cells vs 53 (0,0)):=by rw [<-B];exact sb (Qy w _) _ ((br _).alloc (Qx _) _)
 have g1:W0.heap[w.heap.size+1]?=some (.cells #[RJ,RJ,RI 0] 53 (0,0)):=by rw [<-B];have:=Qy (w.alloc (.cells vs 53)) (.cells #[RJ,RJ,RI 0] 53);rwa [QP] at this
 have q0:aq w W0:=by rw [<-B];exact ((br w).alloc (Qx _) _).alloc (by rw [QP];omega) _
 have a1:W0.heap.size=w.heap.size+2:=by rw [<-B];simp
 have j0:J (aH (λk=>S k\/k=w.heap.size\/k=w.heap.size+1) W0) vs s:=hJ _ _ _ _ h0 (bP (Keep.below q0) λk hk e=>e.elim id λe=>ap);obtain ⟨ad,HP,HJ,Hn,ao,G0,G1,Q0⟩:=ak hA hp hJ hn B g0 g1 q0;obtain ⟨J0,HZ,HO,HS,a7⟩:=ah j0 hz ho hS a1;clear hA hp hJ h0 hn B g0 g1 q0 j0 hz ho hS a1;go_enter func18,ntmps18;go_wp2_with fail;rw [ao.o]
 go_loopw [6,7] (λv i wr=>∃k:Nat,k<=n/\i=RI k/\v=RI ((mM st s (l.take k)).2:Nat)/\∃x,wr.heap[w.heap.size]?=some (.cells x 53 (0,0))/\wr.heap[w.heap.size+1]?=some (.cells #[RJ,RJ,RI 0] 53 (0,0))/\x.size=3/\x.toList.all (·.oneCell')=true/\J (aH (λk=>S k\/k=w.heap.size\/k=w.heap.size+1) wr) x (mM st s (l.take k)).1/\aq w wr/\w.heap.size+2<=wr.heap.size) (λ_ i _=>n-(intOf i).toNat)
 .exact ⟨0,QB _,rfl,rfl,vs,G0.o,G1.o,HZ.o,HO.o,J0.o,Q0.o,by rw [a7.o];omega⟩
 case round=>
  obtain ⟨k,hk,rfl,rfl,x,gx,gy,zz,oo,jj,qq,ss⟩:=hrel;obtain ⟨GX,GY,ZZ,OO,JJ,QQ⟩:=ai gx gy zz oo jj qq;clear gx gy zz oo jj qq;by_cases a8:k<n
  .have O:k<l.length:=by rw [Hn.o];exact a8
   obtain ⟨b,o,rfl,p⟩:=(ad.o.below QQ.o).num O;have aG:(k:Int)<n:=ap;have aM:0<=(k:Int):=ap;have a9:=yB st s l k;obtain ⟨M,hM⟩:∃M,mM st s (l.take k)=M:=⟨_,rfl⟩
   have a4:mM st s (l.take (k+1))=((st M.1 (nth l k)).1,M.2+if (st M.1 (nth l k)).2 then 1 else 0):=by
    rw [List.take_add_one,Rj O,Option.toList_some,rK,hM,dB _ _ O]
   rw [hM] at JJ a9 |-;have Z:nth l k∈l:=by rw [dB _ _ O];exact List.getElem_mem O
   obtain ⟨HX,HM,T⟩:=af a4 hM Z;have p':=λw' (q:aq wr w')=>(World.cell?_of_block (q.block b (aB p))).trans p;have P':=aa p';clear a4 hM Z p p';go_upto_region 5 with (fail)
   go_cut [8,9] (λv u wx=>∃N h,v=(au N)/\u=.bool (st M.1 (nth l k)).2/\wx.heap[N]?=some (.cells h 53 (0,0))/\wr.heap.size<=N/\h.size=3/\h.toList.all (·.oneCell')=true/\J (aH (λk=>S k\/k=w.heap.size\/k=w.heap.size+1) wx) h (st M.1 (nth l k)).1/\aq wr wx)
   case first=>
    have p':=P'.o;have s0:=(br wr).drew;have j1:=HJ.o _ _ _ _ JJ.o (bP (S':=(λk=>S k\/k=w.heap.size\/k=w.heap.size+1)) ((Keep.refl (λk=>S k\/k=w.heap.size\/k=w.heap.size+1) wr).drew) (λ_ _ e=>e));have tl:=λw' (q:aq wr w')=>QE (Qw GX.o) q.size;refine XA.g 10 (λw':R8=>aq wr w') ?_;refine XA.ld 0 x (λw' q=>sb GX.o w' q) (by rw [ZZ.o];exact dh) s0 ?_ (hcs:=by rw [Rf,Rt]);refine XA.t ?_ [1,2,3,4] s0 ?_
    have Q:∀k,(λk=>S k\/k=w.heap.size\/k=w.heap.size+1) k->k<wr.heap.size:=λk e=>by
     rcases e with e | e | e
     .have:=HS.o k e;omega
     .omega
     .omega
    refine XA.two 5 9 ?_ ?_
    .refine XAS.c (HP.o (λk=>S k\/k=w.heap.size\/k=w.heap.size+1) wr.drew x M.1 (nth l k) Q j1 T.o) ?_;rintro e V ⟨h,rfl,z2,Y,j2,k6⟩;have y:=bt s0 k6;refine ⟨_,rfl,y,λ_=>?_⟩;refine XA.t ?_ [6,7] y ?_;refine XA.t0 ?_ [8] y ?_;refine XA.v 9 (V.alloc (.cells #[RJ,RJ,RI 0] 53)) ((au V.heap.size)) (y.alloc y.size _) ?_;refine XA.e ?_;simp only [Re,Rf];obtain ⟨GN,S6,J2,C,R⟩:=ah (Qy V (.cells #[RJ,RJ,RI 0] 53)) y j2 z2 Y;clear j2 z2 Y y k6 p' s0 j1 tl Q;go_wp2_with (refine aI (b:=V.heap.size) GN.o dh rfl rfl rfl rfl C.o (by rw [C.o];rfl) R.o ?_;intro w7 H I;obtain ⟨U,D⟩:=ae H I;clear H I);go_meet;have a6:aq V w7:=((br V).alloc (Qx _) _).trans (D.o.toBelow (by rw [QP];omega) (λj e=>ap));exact ⟨V.heap.size,h,rfl,rfl,U.o,S6.o.size,C.o,R.o,HJ.o _ _ _ _ J2.o (im a6),S6.o.trans (a6.mono S6.o.size)⟩
    .refine XAS.v (wr.drew.alloc (.cells #[RJ,RJ,RI 0] 53)) ((au wr.drew.heap.size)) (s0.alloc (Qx _) _) ?_;have s5:aq wr (wr.drew.alloc (.cells #[RJ,RJ,RI 0] 53)):=s0.alloc (Qx _) _;have gN:=Qy wr.drew (.cells #[RJ,RJ,RI 0] 53);have a3:(wr.drew.alloc (.cells #[RJ,RJ,RI 0] 53)).heap.size=wr.heap.size+1:=by simp
     have j5:=HJ.o _ _ _ _ j1 (bP (S':=λk=>(λk=>S k\/k=w.heap.size\/k=w.heap.size+1) k\/k=wr.heap.size) (Keep.below ((br wr.drew).alloc (Qx _) (.cells #[RJ,RJ,RI 0] 53))) (λk hk e=>e.elim id (λe=>absurd hk (by rw [Ru];omega))))
     refine XA.c 5 (HP.o (λk=>(λk=>S k\/k=w.heap.size\/k=w.heap.size+1) k\/k=wr.heap.size) _ x M.1 (nth l k) (λk e=>by
      rw [a3];rcases e with e | e
      .have:=Q k e;omega
      .omega) j5 T.o) ?_
     rintro e V ⟨h,rfl,z2,Y,j2,k6⟩;have y:=bt s5 k6;refine ⟨_,rfl,y,λ_=>?_⟩;refine XA.t ?_ [6,7] y ?_;refine XA.t0 ?_ [8] y ?_;refine XA.e ?_;simp only [Re,Rf];obtain ⟨GN,S6,J2,C,R⟩:=ah (sb gN _ k6) y j2 z2 Y;clear j2 z2 Y y k6 p' s0 j1 tl Q s5 gN a3 j5;go_wp2_with (refine aI (b:=wr.heap.size) GN.o dh rfl rfl rfl rfl C.o (by rw [C.o];rfl) R.o ?_;intro w7 H I;obtain ⟨U,D⟩:=ae H I;clear H I);go_meet;exact ⟨wr.heap.size,h,rfl,rfl,U.o,Qx _,C.o,R.o,HJ.o _ _ _ _ J2.o (bP (D.o.mono λk _ e=>.inr e) (λk _ e=>.inl e)),S6.o.trans (D.o.toBelow S6.o.size (λj e=>ap))⟩
   case rest=>
    obtain ⟨N,h,rfl,rfl,gN,lN,z2,Y,j2,kc⟩:=hcut;obtain ⟨GN,C,R,J2,KC,ab,a0⟩:=aj gN z2 Y j2 kc (sb GX.o wc kc) (sb GY.o wc kc);have L:(h.toList.drop 0).take h.toList.length=h.toList:=by rw [Rf,Rt]
    have EM:=aa L;clear gN z2 Y j2 kc L;have w1:IntKind.i64.wrap ((M.2:Int)+1)=(M.2:Int)+1:=QC _ ap;have w2:IntKind.i64.wrap ((k:Int)+1)=(k:Int)+1:=QC _ ap;go_upto_region 7 with (first | (refine aN h GN.o (by rw [C.o];exact dh) rfl rfl rfl EM.o ?_) | (refine aI (b:=w.heap.size) ab.o dh rfl rfl rfl rfl C.o (by rw [C.o,ZZ.o]) R.o ?_;intro w7 H I;obtain ⟨U,D⟩:=ae H I;clear H I));have a2:=aa ((D.o.block _ (Qw a0.o) ap).trans a0.o);have qc:=QQ.o.trans (KC.o.mono (by have:=QQ.o.size;omega));have Q7:=aa (qc.trans (D.o.toBelow qc.size (λj e=>ap)));have J7:=aa (HJ.o _ _ _ _ J2.o (bP (S':=(λk=>S k\/k=w.heap.size\/k=w.heap.size+1)) (D.o.mono λk _ e=>.inr (.inl e)) (λ_ _ e=>e)));have a5:w.heap.size+2<=w7.heap.size:=by have:=KC.o.size;have:=D.o.size;omega
    clear qc
    cases hb:(st M.1 (nth l k)).2 with
    | true=>
     have HB:=aa hb;clear hb;go_wp2_with fail;go_roundw
     .exact ⟨k+1,by omega,by go_num,by rw [HX.o,HB.o];simp,h,U.o,a2.o,C.o,R.o,by rw [HX.o];exact J7.o,Q7.o,a5⟩
     .simp [intOf];omega
    | false=>
     have HB:=aa hb;clear hb;go_wp2_with fail;go_roundw
     .exact ⟨k+1,by omega,by go_num,by rw [HX.o,HB.o];simp,h,U.o,a2.o,C.o,R.o,by rw [HX.o];exact J7.o,Q7.o,a5⟩
     .simp [intOf];omega
  .obtain rfl:k=n:=ap;have ht:l.take k=l:=by rw [<-Hn.o,Rt]
   have HT:=aa ht;have L:(x.toList.drop 0).take x.toList.length=x.toList:=by rw [Rf,Rt]
   have EM:=aa L;have av:¬((k:Int)<k):=ap;clear ht L;go_wp2_with (first | (refine aN x GX.o (by rw [ZZ.o];exact dh) rfl rfl rfl EM.o ?_) | (refine aI (b:=w.heap.size+1) GY.o dh rfl rfl rfl rfl ZZ.o (by rw [ZZ.o];rfl) OO.o ?_;intro w7 H I;obtain ⟨U,D⟩:=ae H I;clear H I))
   try simp only [Exit.inBlock,Exit.then]
   refine QM (dO rfl rfl U.o (by rw [ZZ.o];exact dh)) rfl ?_;refine ⟨x,by rw [HT.o];rfl,ZZ.o,OO.o,?_,QQ.o.trans (D.o.toBelow QQ.o.size (λj e=>ap))⟩;have:=JJ.o;rw [HT.o] at this;exact HJ.o _ _ _ _ this (bP (D.o.mono λk _ e=>.inr (.inr e)) (λ_ _ e=>.inl e))
theorem Em:dg prog 29 15:=⟨⟨_,underlying29,rfl⟩,by kernel_rfl⟩
theorem PU {m:R6} (h:m.size=22):∃U a1 V N Q O T L J R v x D I p y u A o C H B,m=#[U,a1,V,N,Q,O,T,L,J,R,v,x,D,I,p,y,u,A,o,C,H,B]:=by
 obtain ⟨l⟩:=m;have i:l.length=22:=h;clear h;obtain _ | ⟨U,l⟩:=l
 .simp at i
 obtain _ | ⟨a1,l⟩:=l
 .simp at i
 obtain _ | ⟨V,l⟩:=l
 .simp at i
 obtain _ | ⟨N,l⟩:=l
 .simp at i
 obtain _ | ⟨Q,l⟩:=l
 .simp at i
 obtain _ | ⟨O,l⟩:=l
 .simp at i
 obtain _ | ⟨T,l⟩:=l
 .simp at i
 obtain _ | ⟨L,l⟩:=l
 .simp at i
 obtain _ | ⟨J,l⟩:=l
 .simp at i
 obtain _ | ⟨R,l⟩:=l
 .simp at i
 obtain _ | ⟨v,l⟩:=l
 .simp at i
 obtain _ | ⟨x,l⟩:=l
 .simp at i
 obtain _ | ⟨D,l⟩:=l
 .simp at i
 obtain _ | ⟨I,l⟩:=l
 .simp at i
 obtain _ | ⟨p,l⟩:=l
 .simp at i
 obtain _ | ⟨y,l⟩:=l
 .simp at i
 obtain _ | ⟨u,l⟩:=l
 .simp at i
 obtain _ | ⟨A,l⟩:=l
 .simp at i
 obtain _ | ⟨o,l⟩:=l
 .simp at i
 obtain _ | ⟨C,l⟩:=l
 .simp at i
 obtain _ | ⟨H,l⟩:=l
 .simp at i
 obtain _ | ⟨B,l⟩:=l
 .simp at i
 obtain _ | ⟨b,l⟩:=l
 .exact ⟨U,a1,V,N,Q,O,T,L,J,R,v,x,D,I,p,y,u,A,o,C,H,B,rfl⟩
 .simp at i
theorem gn {S T:Nat->Prop} {a b c:R8} (h:Keep S a b) (k:Keep T b c) (hs:∀j,j<a.heap.size->T j->S j):Keep S a c:=
 ⟨k.os.trans h.os,k.tape.trans h.tape,k.output.trans h.output,QD h.size k.size,λi o hn=>(k.block i (QE o h.size) (λe=>hn (hs i o e))).trans (h.block i o hn)⟩
structure MR (Rm:Nat->R6->R8->Prop) (w:R8) (X cap k:Nat) (wr:R8) (mv:Nat->R6) (AM AL:N_) (cm cl:Nat):Prop where
 box:wr.heap[X]?=some (.cells #[.slice AM k cm,.slice AL k cl,RI 0] 53 (0,0))
 oM:wr.ownsRow (X+1) 116 22 (.slice AM k cm) k (ed mv k)
 oL:wr.ownsRow (X+1) 120 4 (.slice AL k cl) k (ed (λ_=>#[RI (cap:Nat),RJ,RI 0,RI 0]) k)
 sm:∀x,x<k->(mv x).size=22/\(mv x).toList.all (·.oneCell')=true
 g:∀x,x<k->∀w2,Keep (λj=>j=w.heap.size+1\/j=X\/nm (.slice AM k cm) (.slice AL k cl) j) wr w2->Rm x (mv x) w2
 lo:w.heap.size+2<=X
 q:aq w wr
def PY (S:Nat->Prop) (Rm:Nat->R6->R8->Prop) (N cap:Nat) (w:R8) (e:Ending) (h:R8):Prop:=
 ∃(vs':R6) (mv:Nat->R6),e=.returned (.tuple #[.agg vs',RI 0])/\RWv (aH S h) vs' N mv (λ_=>#[RI (cap:Nat),RJ,RI 0,RI 0]) 0/\(∀x,x<N->Rm x (mv x) h)/\aq w h
theorem J6 {S:Nat->Prop} {Rm:Nat->R6->R8->Prop} {i0 i1 i2 i3 i5 i6 i7 i8 i9 U ab T L:Value} {N cap:Nat} {w:R8} (hS:∀k,S k->k<w.heap.size) (hN:N<=1000) (cs:cap<=1048576) (c8:∀i,aq w i->Calls prog 30 #[.agg #[i0,i1,i2,i3,RI (N:Nat),i5,i6,i7,i8,i9,U,RI (cap:Nat),ab,T,L]] i λe b5=>e=.returned (RI 0)/\aq i b5) (hm:∀k i,k<N->aq w i->Calls prog 46 #[.agg #[i0,i1,i2,i3,RI (N:Nat),i5,i6,i7,i8,i9,U,RI (cap:Nat),ab,T,L],RI (k:Nat)] i λe b5=>∃m:R6,e=.returned (.tuple #[.agg m,RI 0])/\(m.size=22/\m.toList.all (·.oneCell')=true)/\aq i b5/\∀p,aq w p->Keep (λj=>j<i.heap.size) b5 p->Rm k m p):Calls prog 17 #[.agg #[i0,i1,i2,i3,RI (N:Nat),i5,i6,i7,i8,i9,U,RI (cap:Nat),ab,T,L]] w (PY S Rm N cap w):=by
 obtain ⟨W1,ao⟩:∃W1,(w.alloc (.cells #[i0,i1,i2,i3,RI (N:Nat),i5,i6,i7,i8,i9,U,RI (cap:Nat),ab,T,L] 29)).alloc (.cells #[RJ,RJ,RI 0] 53)=W1:=⟨_,rfl⟩;have g0:W1.heap[w.heap.size]?=some (.cells #[i0,i1,i2,i3,RI (N:Nat),i5,i6,i7,i8,i9,U,RI (cap:Nat),ab,T,L] 29 (0,0)):=by rw [<-ao];exact sb (Qy w _) _ ((br _).alloc (Qx _) _)
 have g1:W1.heap[w.heap.size+1]?=some (.cells #[RJ,RJ,RI 0] 53 (0,0)):=by rw [<-ao];have:=Qy (w.alloc (.cells #[i0,i1,i2,i3,RI (N:Nat),i5,i6,i7,i8,i9,U,RI (cap:Nat),ab,T,L] 29)) (.cells #[RJ,RJ,RI 0] 53);rwa [QP] at this
 have q0:aq w W1:=by rw [<-ao];exact ((br w).alloc (Qx _) _).alloc (by rw [QP];omega) _
 have bO:W1.heap.size=w.heap.size+2:=by rw [<-ao];simp
 have t4:∀i,aq W1 i->i.cell? (ar w.heap.size 4)=some (RI (N:Nat)):=λi q=>Qz i w.heap.size 4 _ _ _ (sb g0 i q);have cA:∀i,aq W1 i->i.cell? (ar w.heap.size 11)=some (RI (cap:Nat)):=λi q=>Qz i w.heap.size 11 _ _ _ (sb g0 i q);have tl:=sl g1;obtain ⟨cr,Hm,bV,G0,G1,Q0,HS,aR⟩:=ak c8 hm ao g0 g1 q0 hS bO;have q1:=br W1;clear c8 hm ao g0 g1 q0 hS bO;go_enter func17,ntmps17;go_wp2_with (refine aN #[i0,i1,i2,i3,RI (N:Nat),i5,i6,i7,i8,i9,U,RI (cap:Nat),ab,T,L] (b:=w.heap.size) (by rw [bV.o];exact G0.o) Em rfl rfl rfl rfl ?_);rw [bV.o];refine (cr.o _ Q0.o).mono ?_;rintro e p ⟨rfl,k2⟩;have q2:=bt q1 k2;clear k2;go_wp2_with fail;obtain ⟨X,hX⟩:∃X,p.heap.size=X:=⟨_,rfl⟩;obtain ⟨W3,be⟩:∃W3,p.alloc (.cells #[RJ,RJ,RI 0] 53)=W3:=⟨_,rfl⟩;have g3:W3.heap[X]?=some (.cells #[RJ,RJ,RI 0] 53 (0,0)):=by rw [<-be,<-hX];exact Qy p _
 have q3:aq W1 W3:=by rw [<-be];exact q2.alloc q2.size _
 have gX:w.heap.size+2<=X:=by rw [<-hX,<-aR.o];exact q2.size
 have m3:MR Rm w X cap 0 W3 (λ_=>#[]) none none 0 0:=⟨g3,QI ..,QI ..,λx hx=>absurd hx (Nat.not_lt_zero _),λx hx=>absurd hx (Nat.not_lt_zero _),gX,Q0.o.trans (q3.mono Q0.o.size)⟩;rw [hX,be];obtain ⟨M3,Q3⟩:=ae m3 q3;clear m3 g3 be hX q2 q1 q3
 go_loopw [6] (λv wr=>∃k:Nat,k<=N/\v=RI k/\∃mv AM AL cm cl,MR Rm w X cap k wr mv AM AL cm cl/\aq W1 wr) (λv _=>N-(intOf v).toNat)
 .exact ⟨0,QB _,rfl,_,_,_,_,_,M3.o,Q3.o⟩
 case round=>
  obtain ⟨k,hk,rfl,mv,AM,AL,cm,cl,m,q⟩:=hrel;have h:=aa m;have tb:=bx3 m.box;have bw:=Qw m.box;have QR:=aa q;clear m;by_cases cc:k<N
  .have d1:(k:Int)<N:=ap;have cv:IntKind.i64.wrap ((k:Int)+1)=(k:Int)+1:=QC _ ap;go_wp2_with (refine aN #[i0,i1,i2,i3,RI (N:Nat),i5,i6,i7,i8,i9,U,RI (cap:Nat),ab,T,L] (b:=w.heap.size) (sb G0.o _ QR.o) Em rfl rfl rfl rfl ?_);refine (Hm.o k wr cc h.o.q).mono ?_;rintro e w5 ⟨m1,rfl,⟨z,o⟩,k5,hR⟩;obtain ⟨a0,a1,a2,a3,a4,a5,a6,a7,a8,a9,D,I,H,Z,B,Y,C,V,A,Q,R,J,rfl⟩:=PU z;obtain ⟨O,K5,HR⟩:=af o k5 hR;clear z o hR k5 tb q;go_upto_region 9 with (refine aI (Qy _ _) nz rfl rfl rfl rfl rfl rfl O.o ?_;intro w6 e6 k6;obtain ⟨E6,K6⟩:=ae e6 (aO k6);clear e6 k6);have k6:=bt K5.o K6.o;have b6:=sb h.o.box w6 k6;have cj:=bx3 b6;obtain ⟨B6,bs,bI⟩:=af b6 (az h.o.oM k6) (az h.o.oL k6);have cy:=k6.size;have b4:=aa k6;clear b6 k6;go_wp2_with (first | (refine aN #[a0,a1,a2,a3,a4,a5,a6,a7,a8,a9,D,I,H,Z,B,Y,C,V,A,Q,R,J] E6.o nz rfl rfl rfl rfl ?_) | (at_builtin;refine dK LV _ rfl (.tmp 29) (.tmp 31) rfl (X+1) (.slice AM k cm) k _ rfl (bs.o.alloc _) (some (ar w6.heap.size 0)) 1 1 #[a0,a1,a2,a3,a4,a5,a6,a7,a8,a9,D,I,H,Z,B,Y,C,V,A,Q,R,J].toList rfl (dV w6 _ _ w6.heap.size rfl) rfl (λu hu=>List.all_eq_true.1 O.o u hu) ap (by unfold maxLen;omega) (by simp;omega) ?_));intro A2 c2 w7 o7 b7 g7 n7;have kA:aq w6 (w6.alloc (.cells #[a0,a1,a2,a3,a4,a5,a6,a7,a8,a9,D,I,H,Z,B,Y,C,V,A,Q,R,J] 116)):=(br w6).alloc (Qx _) _;have bb:w7.heap[X]?=_:=(b7.block X ap).trans (sb B6.o _ kA);have kM:Keep (λj=>(Value.slice AM k cm).ownBlock=some j) w6 w7:=((Keep.refl _ w6).alloc _).grown g7 (λk hk=>.inr hk);have bX:=kM.own bI.o (λj h1 h2=>gi bI.o bs.o (by decide) j h1 h2);have cO:=kM.size;have cn:=bx3 bb;have cM:=Qw bb;obtain ⟨cd,KM,c6,O7,N7⟩:=ah bb kM bX o7 n7;clear kA bb kM bX o7 n7 b7 g7 cj;go_upto_region 10 with (fail);obtain ⟨W8,bf⟩:∃W8,w7.setCell (ar X 0) (.slice A2 (k+1) c2)=W8:=⟨_,rfl⟩;have k8:Keep (λj=>j=X) w7 W8:=by rw [<-bf];exact Keep.setCell (S:=λj=>j=X) (Keep.refl _ _) _ (.inr rfl) _
   have b8:W8.heap[X]?=some (.cells #[.slice A2 (k+1) c2,.slice AL k cl,RI 0] 53 (0,0)):=by rw [<-bf];exact ss cd.o
   have bN:=k8.own O7.o (λj h1 h2=>by have:=(O7.o.lt j h1).1;omega);have bA:=k8.own c6.o (λj h1 h2=>by have:=(c6.o.lt j h1).1;omega);rw [bf];have q8:aq W1 W8:=(bt QR.o b4.o).trans ((KM.o.toBelow (by have:=QR.o.size;omega) (λj e=>by have:=(bs.o.lt j e).1;have:=h.o.lo;have:=aR.o;omega)).trans (k8.toBelow (by have:=QR.o.size;omega) (λj e=>by have:=h.o.lo;have:=aR.o;omega)));have cL:=k8.size;have d0:=Qw b8;have cf:=bx3 b8;obtain ⟨co,K8,c9,c7,Q8⟩:=ah b8 k8 bN bA q8;clear b8 k8 bN bA bf cn;go_wp2_with (at_builtin;refine dK LW _ rfl (.tmp 35) (.tmp 40) rfl (X+1) (.slice AL k cl) k _ rfl (c7.o.alloc _) (some (ar W8.heap.size 0)) 1 1 #[RI (cap:Nat),RJ,RI 0,RI 0].toList rfl (dV W8 _ _ W8.heap.size rfl) rfl (by simp [Value.oneCell']) ap (by unfold maxLen;omega) (by simp;omega) ?_);intro A3 c3 w9 o9 b9 g9 n9;have kA:aq W8 (W8.alloc (.cells #[RI (cap:Nat),RJ,RI 0,RI 0] 120)):=(br W8).alloc (Qx _) _;have bh:w9.heap[X]?=_:=(b9.block X ap).trans (sb co.o _ kA);have kL:Keep (λj=>(Value.slice AL k cl).ownBlock=some j) W8 w9:=((Keep.refl _ W8).alloc _).grown g9 (λk hk=>.inr hk);have bo:=kL.own c9.o (λj h1 h2=>gi c9.o c7.o (by decide) j h1 h2);have cY:=bx3 bh;have cx:=Qw bh;have av:Keep (λj=>j=X) w9 (w9.setCell (ar X 1) (.slice A3 (k+1) c3)):=Keep.setCell (S:=λj=>j=X) (Keep.refl _ _) _ (.inr rfl) _;have bi:(w9.setCell (ar X 1) (.slice A3 (k+1) c3)).heap[X]?=some (.cells #[.slice A2 (k+1) c2,.slice A3 (k+1) c3,RI 0] 53 (0,0)):=ss bh;have b3:=av.own bo (λj h1 h2=>by have:=(bo.lt j h1).1;omega);have bl:=av.own o9 (λj h1 h2=>by have:=(o9.lt j h1).1;omega)
   have b0:ed mv k++(#[a0,a1,a2,a3,a4,a5,a6,a7,a8,a9,D,I,H,Z,B,Y,C,V,A,Q,R,J]:R6).toList=ed (aY mv k #[a0,a1,a2,a3,a4,a5,a6,a7,a8,a9,D,I,H,Z,B,Y,C,V,A,Q,R,J]) (k+1):=by
    rw [mR,bE,zY λy hy=>(bq (f:=mv) (v:=#[a0,a1,a2,a3,a4,a5,a6,a7,a8,a9,D,I,H,Z,B,Y,C,V,A,Q,R,J]) (show y≠k by omega)).symm]
   have ad:ed (λ_=>#[RI (cap:Nat),RJ,RI 0,RI 0]) k++(#[RI (cap:Nat),RJ,RI 0,RI 0]:R6).toList=ed (λ_=>#[RI (cap:Nat),RJ,RI 0,RI 0]) (k+1):=(mR _ _).symm
   have aP:Keep (λj=>j=w.heap.size+1\/j=X\/nm (.slice AM k cm) (.slice AL k cl) j) wr (w9.setCell (ar X 1) (.slice A3 (k+1) c3)):=
    gn (Keep.below b4.o) (gn (S:=(λj=>j=w.heap.size+1\/j=X\/nm (.slice AM k cm) (.slice AL k cl) j)) (KM.o.mono λj _ e=>.inr (.inr (.inl e))) (gn (S:=(λj=>j=w.heap.size+1\/j=X\/nm (.slice AM k cm) (.slice AL k cl) j)) (K8.o.mono λj _ e=>.inr (.inl e)) (gn (S:=(λj=>j=w.heap.size+1\/j=X\/nm (.slice AM k cm) (.slice AL k cl) j)) (kL.mono λj _ e=>.inr (.inr (.inr e))) (av.mono λj _ (e:j=X)=>(.inr (.inl e):(λj=>j=w.heap.size+1\/j=X\/nm (.slice AM k cm) (.slice AL k cl) j) j)) (λ_ _ e=>e)) (λ_ _ e=>e)) (λ_ _ e=>e)) (λ_ _ e=>e)
   have b2:∀j,j<wr.heap.size->(λj=>j=w.heap.size+1\/j=X\/nm (.slice A2 (k+1) c2) (.slice A3 (k+1) c3) j) j->(λj=>j=w.heap.size+1\/j=X\/nm (.slice AM k cm) (.slice AL k cl) j) j:=λj hj e=>by
    rcases e with e | e | e | e
    .exact .inl e
    .exact .inr (.inl e)
    .rcases N7.o with h1 | h1
     .rw [h1] at e;exact .inr (.inr (.inl e))
     .rw [h1] at e;simp at e;have:=b4.o.size;omega
    .rcases n9 with h1 | h1
     .rw [h1] at e;exact .inr (.inr (.inr e))
     .rw [h1] at e;simp at e;have:=b4.o.size;omega
   have aM:∀p,Keep (λj=>j=w.heap.size+1\/j=X\/nm (.slice A2 (k+1) c2) (.slice A3 (k+1) c3) j) (w9.setCell (ar X 1) (.slice A3 (k+1) c3)) p->aq w p:=λp kk=>by
    have h1:=gn aP kk b2
    exact h.o.q.trans (h1.toBelow h.o.q.size (λj e=>by
     rcases e with e | e | e | e
     .omega
     .have:=h.o.lo;omega
     .have:=(h.o.oM.lt j e).1;have:=h.o.lo;omega
     .have:=(h.o.oL.lt j e).1;have:=h.o.lo;omega))
   have hg:∀x,x<k+1->∀p,Keep (λj=>j=w.heap.size+1\/j=X\/nm (.slice A2 (k+1) c2) (.slice A3 (k+1) c3) j) (w9.setCell (ar X 1) (.slice A3 (k+1) c3)) p->Rm x (aY mv k #[a0,a1,a2,a3,a4,a5,a6,a7,a8,a9,D,I,H,Z,B,Y,C,V,A,Q,R,J] x) p:=λx hx p kk=>by
    by_cases aG:x=k
    .subst aG;rw [bE];refine HR.o p (aM p kk) ?_
     have ci:Keep (λj=>j<wr.heap.size) w5 (w9.setCell (ar X 1) (.slice A3 (x+1) c3)):=
      gn (Keep.below K6.o) (gn (S:=λj=>j<wr.heap.size) (KM.o.mono λj _ e=>(h.o.oM.lt j e).2) (gn (S:=λj=>j<wr.heap.size) (K8.o.mono λj _ (e:j=X)=>by rw [e];exact bw) (gn (S:=λj=>j<wr.heap.size) (kL.mono λj _ e=>(h.o.oL.lt j e).2) (av.mono λj _ (e:j=X)=>by rw [e];exact bw) (λ_ _ e=>e)) (λ_ _ e=>e)) (λ_ _ e=>e)) (λ_ _ e=>e)
     refine gn ci kk λj hj e=>?_;refine Classical.byContradiction λhc=>?_;rcases e with e | e | e | e
     .have:=h.o.q.size;have:=h.o.lo;omega
     .omega
     .rcases N7.o with h1 | h1
      .rw [h1] at e;exact hc (h.o.oM.lt j e).2
      .rw [h1] at e;simp at e;have:=K6.o.size;omega
     .rcases n9 with h1 | h1
      .rw [h1] at e;exact hc (h.o.oL.lt j e).2
      .rw [h1] at e;simp at e;have:=K6.o.size;omega
    .rw [bq _ _ aG];exact h.o.g x ap p (gn aP kk b2)
   rw [b0] at b3;have bn:=bl;rw [ad] at bn
   have b1:MR Rm w X cap (k+1) (w9.setCell (ar X 1) (.slice A3 (k+1) c3)) (aY mv k #[a0,a1,a2,a3,a4,a5,a6,a7,a8,a9,D,I,H,Z,B,Y,C,V,A,Q,R,J]) A2 A3 c2 c3:=⟨bi,b3,bn,λx hx=>by
    by_cases aG:x=k
    .subst aG;rw [bE];exact ⟨rfl,O.o⟩
    .rw [bq _ _ aG];exact h.o.sm x ap,hg,h.o.lo,aM _ (Keep.refl _ _)⟩
   have qn:=Q8.o.trans ((kL.toBelow (by have:=Q8.o.size;omega) (λj e=>by have:=(h.o.oL.lt j e).1;have:=h.o.lo;have:=aR.o;omega)).trans (av.toBelow (by have:=Q8.o.size;have:=kL.size;omega) (λj e=>by have:=h.o.lo;have:=aR.o;omega)));obtain ⟨bv,QN⟩:=ae b1 qn;clear b1 qn hg aM b2 aP b0 ad bn b3 bl bi av bo kL bh kA n9 g9 b9 o9 cf;go_wp2_with fail;go_roundw
   .exact ⟨k+1,by omega,by go_num,_,_,_,_,_,bv.o,QN.o⟩
   .simp [intOf];omega
  .obtain rfl:k=N:=ap;have cw:¬((k:Int)<k):=ap;obtain ⟨GX,cb⟩:=ae h.o.box (sb G1.o _ q);go_wp2_with (first | (refine aN #[.slice AM k cm,.slice AL k cl,RI 0] (b:=X) GX.o dh rfl rfl rfl rfl ?_) | (refine aI (b:=w.heap.size+1) cb.o dh rfl rfl rfl rfl rfl rfl rfl ?_;intro w9 e9 k9;obtain ⟨E9,K9⟩:=ae e9 k9;clear e9 k9))
   try simp only [Exit.inBlock,Exit.then]
   refine QM (dO rfl rfl E9.o dh) rfl ?_;have cI:=h.o.lo;have bG:=K9.o.own h.o.oM (λj h1 h2=>by have:=(h.o.oM.lt j h1).1;omega);have bM:=K9.o.own h.o.oL (λj h1 h2=>by have:=(h.o.oL.lt j h1).1;omega)
   have hc:k<=cm/\k<=cl:=by
    obtain ⟨_,_,e1,h1⟩:=aD bG;obtain ⟨_,_,e2,h2⟩:=aD bM;injection e1 with _ _ e1;injection e2 with _ _ e2
    omega
   have bz:∀j,S j->j<X+1:=λj e=>by have:=HS.o j e;omega
   exact ⟨_,mv,rfl,⟨⟨AM,cm,AL,cl,rfl,iB bG bz,iB bM bz,hc⟩,h.o.sm,λx hx=>⟨rfl,rfl⟩⟩,λx hx=>h.o.g x hx _ (K9.o.mono λj _ e=>.inl e),h.o.q.trans (K9.o.toBelow h.o.q.size (λj e=>ap))⟩
end Go.Proofs.YtindmkcnjlgomaaGreat
