/- No condition. -/
import Derived.Test.YtaccfnffmbndhaaGreatC00
import Derived.Test.YtaccfnffmbndhaaGreatC23
import Derived.Test.YtaccfnffmbndhaaGreatC19
import Derived.Test.YtaccfnffmbndhaaGreatC22
import Derived.Test.YtaccfnffmbndhaaGreatC24
import Derived.Test.YtaccfnffmbndhaaGreatC17
import Derived.Test.YtaccfnffmbndhaaGreatC13
import Derived.Test.YtaccfnffmbndhaaGreatC15
import Derived.Test.YtaccfnffmbndhaaGreatC20
import Derived.Test.YtaccfnffmbndhaaGreatC02
set_option linter.unusedSimpArgs false
set_option linter.unusedVariables false
set_option maxRecDepth 100000
set_option maxHeartbeats 4000000
namespace Go.Proofs.YtaccfnffmbndhaaGreat
open Go.RowKit
theorem DV {w:World} {vs:Array Value} {i:Inp} {x:Nat} {m:Mst} {s t:LSt} {u v:Array Value} {S:Nat→Prop} (hS:∀k,S k→k<w.heap.size) (h:dM (ay S w) vs i x m) (hu:RL (ay S w) u s) (hv:RL (ay S w) v t) (hs:cU i) {y:Itm} (hy:(dx i x)[aW i x m]?=some y) (k1 k2:Int) (b0 Z:Bool) (i0 i1 i2 i3 i4 i5 i6:Int) (bv:aN y=[KL 4,KL k1,KL k2,.bool b0,.bool Z,KL i0,KL i1,KL i2,KL i3,KL i4,KL i5,KL i6]) (lo hi:Nat) (bi:i5=(lo:Nat)) (e2:lo≤hi) (ea:hi≤i.start.length) (J:s.msgs.length≤100000000000) (a4:s.recv<s.msgs.length) (heq:(aC s.msgs s.recv).tag=⟨i0,i1,i2,i3,i4⟩) (I:(aC s.msgs s.recv).vals.length=hi-lo) (a1:W64 (aC s.msgs s.recv).vals)
  (m1:Mst) (h1:m1.P=m.P∧m1.M=m.M∧m1.G=jp m.G lo (aC s.msgs s.recv).vals Z∧m1.rc=m.rc) (ab:aW i x m1=aW i x m+1):
  Calls Tryz.prog 24 #[.agg vs,.agg u,.agg v] w (fun e w'=>mG S i x m1 ({s with recv:=s.recv+1}) (t) 0 w e w'):=by
 obtain ⟨cj,bn⟩:=ae bi a1;clear bi a1
 obtain ⟨A,c,D,cd,T,ct,R,cr,PA,pc,MA,mc,GA,gc,SA,sc,bI,oI,ic,B1,c1,B2,c2,dn,il,N,rfl,rfl,rfl,H⟩:=jy hS h hu hv hs hy
 have a6:=H.rw'
 rw [bv] at a6
 rw [H.dn'] at ab
 obtain ⟨cx,H1,c6⟩:=af a6 h1 ab
 obtain ⟨ds,dr,tl,d2,cf,dp,cs⟩:=H.loc
 have q0:=br N
 clear h hu hv hs hy bv hS h1 ab a6
 go_enter Tryz.func24,Tryz.ntmps24
 go_upto_region 1 with (fail)
 rw [H.eW]
 go_upto_region 4 with (first | (refine dN cx.out fg rfl rfl rfl ?_) | (refine az (JE _ _) fg rfl rfl rfl rfl rfl rfl rfl ?_;intro W3 e3 k3;obtain ⟨E3,K3⟩:=ae e3 (aB k3);clear e3 k3))
 clear ds dr tl q0 d2 cf dp cs
 go_upto_region 5 with (first | (refine aJ #[KL i5,KL i6] (b:=N.heap.size) E3.out fF rfl rfl rfl rfl ?_) | (refine az (JE _ _) fF rfl rfl rfl rfl rfl rfl rfl ?_;intro W4 e4 k4;obtain ⟨E4,K4⟩:=ae e4 (aB k4);clear e4 k4))
 have y0:W4.cell? ⟨N.heap.size,0,none⟩=some (KL 4):=JF W4 _ 0 _ _ _ (sb E3.out _ K4.out)
 have q:=aa (bt K3.out K4.out)
 go_upto_region 17 with (fail)
 have d4:=Lib.hid (H.bx _ q.out).1;have bO:=Lib.hid (H.bx _ q.out).2.1;have bo:=aa (sb E3.out _ K4.out)
 have a5:=H.K.trans (q.out.mono H.K.size)
 have hrc:=qH (ay S w) s.cap B1 s.msgs c1 s.recv s.peak ⟨i0,i1,i2,i3,i4⟩ W4 (ko H.s0.in_ (gn (Keep.below a5))) a4 J heq
 rw [I] at hrc
 obtain ⟨ci,a7,bG,ec⟩:=ag hrc a5 I a4;clear hrc a5 I heq J a4 y0
 go_wp2_with (first | (refine aJ #[KL (s.cap:Nat),.slice B1 s.msgs.length c1,KL (s.recv:Nat),KL (s.peak:Nat)] (b:=w.heap.size+1) bO.out aS rfl rfl rfl rfl ?_) | (refine aJ #[KL i0,KL i1,KL i2,KL i3,KL i4] (b:=N.heap.size) bo.out ff rfl rfl rfl rfl ?_))
 refine ci.out.mono ?_
 rintro e w5 ⟨A5,c5,rfl,r5,k5⟩
 obtain ⟨K5,cO⟩:=ae k5 r5;clear k5 r5
 obtain ⟨Wa,Wb,b7,bf,ga,gb,bz, -⟩:=eE w5 #[KL 0,KN,KL 0,KL 0] La 73 91
 obtain ⟨aR,aP,Ga,Gb,a8⟩:=ah b7 bf ga gb bz;clear b7 bf ga gb bz
 go_upto_region 18 with (first | (refine az (b:=w5.heap.size) (xs:=#[KL 0,KN,KL 0,KL 0]) (by rw [aR.out,aP.out];exact Ga.out) aS rfl rfl rfl rfl rfl rfl rfl ?_;intro w6 e6 k6;rw [aR.out,aP.out] at k6;obtain ⟨E6,K6⟩:=ae e6 k6;clear e6 k6) | (refine az (b:=w5.heap.size+1) (xs:=La) ((K6.out.block _ (JC Gb.out) (by omega)).trans Gb.out) gL rfl rfl rfl rfl rfl rfl rfl ?_;intro w7 e7 k7;obtain ⟨E7,K7⟩:=ae e7 k7;clear e7 k7))
 have aG:Below w5.heap.size w5 w7:=a8.out.trans ((K6.out.toBelow a8.out.size (fun j Q=>Nat.le_of_eq (Eq.symm Q))).trans (K7.out.toBelow (JJ a8.out.size K6.out.size) (fun j Q=>JJ (Nat.le_succ _) (Nat.le_of_eq (Eq.symm Q)))))
 have be:=(K7.out.block _ (JC E6.out) (by omega)).trans E6.out
 have ad:Below W4.heap.size W4 w7:=bt K5.out aG
 have bd:=sb bO.out _ ad
 obtain ⟨d3,p⟩:=ae be ad;clear aG be ad
 go_upto_region 21 with (first | (refine aJ #[KL (s.cap:Nat),.slice B1 s.msgs.length c1,KL ((s.recv+1:Nat):Int),KL (s.peak:Nat)] (b:=w5.heap.size) d3.out aS rfl rfl rfl rfl ?_) | (refine az bd aS rfl rfl rfl rfl rfl rfl rfl ?_;intro C e8 k8;obtain ⟨E8,K8⟩:=ae e8 k8;clear e8 k8))
 have U:=fun {b:Nat} {o:Obj} (h:W4.heap[b]?=some o) (hne:b≠w.heap.size+1)=>(K8.out.block b (JC (sb h _ p.out)) hne).trans (sb h _ p.out)
 have l4:=a7.out.size
 have eb:=JC (H.bx _ (br N)).2.2.2.2.2
 have e1:=K3.out.size
 have O:=U d4.out (by omega)
 have av:=U bo.out (by omega)
 have a3:=U E4.out (by omega)
 have ao:=(K8.out.block _ (JC E7.out) (by have:=K5.out.size;have:=q.out.size;omega)).trans E7.out
 have d5:=JF C w.heap.size 18 _ _ _ O
 have x4:=JF C N.heap.size 4 _ _ _ av
 have bV:=JF C W3.heap.size 0 _ _ _ a3
 have a0:C.cell? ⟨W3.heap.size,0,none⟩=some (KL (lo:Nat)):=by rw [←cj.out];exact bV
 have y5:=JF C (w5.heap.size+1) 5 _ _ _ ao
 have dc:=JM C w.heap.size 18 _ _ O
 have d7:=JC O
 have d9:=JC av
 have e0:=JC a3
 have cw:=JC ao
 have Y:Below w.heap.size w C:=(a7.out.trans (p.out.mono a7.out.size)).trans (K8.out.toBelow (by have:=p.out.size;omega) (fun j Q=>by omega))
 have bs:=vq GA A5 m.G (aC s.msgs s.recv).vals i.start.length (hi-lo) gc c5 lo Z C (aX H.G0 (gn (Keep.below Y))).hr (aU cO.out (gn (Keep.below Y))) H.Gl bG.out (by have:=H.s'.n;omega) (by omega)
 obtain ⟨dk,b8,da⟩:=af bs Y O;clear U av a3 ao bV bs Y O bd
 go_wp2_with fail
 refine dk.out.mono ?_
 rintro e w9 ⟨A9,c9,rfl,o9,k9⟩
 have L:=sb da.out _ k9
 have cb:=JF w9 w.heap.size 18 _ _ _ L
 have cc:=JM w9 w.heap.size 18 _ _ L
 have dT:=JC L
 obtain ⟨O9,d6,X⟩:=af o9 L k9;clear o9 L k9 d5 x4 a0 y5 dc d7 d9 e0 cw
 go_upto_region 28 with (fail)
 have B:=ss (i:=18) (v:=.slice A9 i.start.length c9) d6.out rfl
 have kk:Keep (fun k=>k=w.heap.size) w9 (w9.setCell ⟨w.heap.size,18,none⟩ (.slice A9 i.start.length c9)):=Keep.setCell (S:=fun k=>k=w.heap.size) (Keep.refl _ _) _ (.inr rfl) _
 obtain ⟨V,hV⟩:∃V,w9.setCell ⟨w.heap.size,18,none⟩ (.slice A9 i.start.length c9)=V:=⟨_,rfl⟩
 rw [hV] at B kk ⊢
 have hb:=fun {b:Nat} {o:Obj} (h:N.heap[b]?=some o) (h1:b≠w.heap.size) (h2:b≠w.heap.size+1)=>by
  have h8:=(K8.out.block b (JC (sb (sb h _ q.out) _ p.out)) h2).trans (sb (sb h _ q.out) _ p.out)
  have h9:=sb h8 _ X.out
  exact (kk.block b (JC h9) h1).trans h9
 have bb:=(kk.block _ (JC (sb E8.out _ X.out)) (by omega)).trans (sb E8.out _ X.out)
 have bN:=hb (H.bx _ (br N)).2.2.1 (by omega) (by omega)
 have b9:=hb (H.bx _ (br N)).2.2.2.1 (by omega) (by omega)
 have bA:=hb (H.bx _ (br N)).2.2.2.2.1 (by omega) (by omega)
 have bU:=hb (H.bx _ (br N)).2.2.2.2.2 (by omega) (by omega)
 have a2:=b8.out.trans (X.out.mono b8.out.size)
 have bM:=a2.trans (kk.toBelow a2.size (fun j Q=>by rw [Q];exact JD _))
 obtain ⟨c7,HO⟩:=ae kk (ax O9.out (show w.heap.size+6≤C.heap.size by have:=p.out.size;have:=K8.out.size;have:=q.out.size;omega));clear hV cb cc dT kk hb a2
 have cA:=JF V w.heap.size 21 _ _ _ B
 have bX:=JM V w.heap.size 21 _ _ B
 have lM:=JC B
 have d0:=H.wd
 have e9:=ss (i:=21) (v:=KL ((dn:Int)+1)) B rfl
 have k9:Keep (fun k=>k=w.heap.size) V (V.setCell ⟨w.heap.size,21,none⟩ (KL ((dn:Int)+1))):=Keep.setCell (S:=fun k=>k=w.heap.size) (Keep.refl _ _) _ (.inr rfl) _
 obtain ⟨E9,K9,cv,cy,d8,d1,cl,dv⟩:=ak e9 k9 bb bN b9 bA bU bM;clear e9 k9 bb bN b9 bA bU bM B
 go_upto_region 29 with (fail)
 obtain ⟨V9,b6⟩:∃V9,V.setCell ⟨w.heap.size,21,none⟩ (KL ((dn:Int)+1))=V9:=⟨_,rfl⟩
 rw [b6] at E9 K9 ⊢
 clear b6 cA bX lM d0
 obtain ⟨Z,b2,b3,b4,b5⟩:=ta K9.out cv.out cy.out d8.out d1.out cl.out
 have hq:Below V9.heap.size V9 V9.drew:=(br V9).drew
 refine HA.g (KB3 w.heap.size V9) ?_
 refine HA.ld3 (vs:=#[.slice A i.cfg.sizes.length c,KL i.cfg.shift,KL i.cfg.rate,KL i.cfg.mom,KL i.cfg.workers,KL i.cfg.batch,KL i.cfg.micros,KL i.cfg.steps,KL i.cfg.bucket,KL i.cfg.chunk,KL i.cfg.window,KL i.cfg.cap,.slice D i.data.length cd,.slice T i.start.length ct,.slice R i.draws.length cr,KL (x:Nat),.slice PA i.start.length pc,.slice MA i.start.length mc,.slice A9 i.start.length c9,.slice SA m.rc.length sc,.slice (some ⟨bI,oI,none⟩) il ic,KL (dn+1)]) E9.out Z b2 cI aS aS (Keep.below hq) ?_
 refine HA.st3 3 4 5 b3 b4 b5 cI aS aS hq (fun C r3 r4 e8 q8=>?_)
 refine HA.t ?_ [6] q8 ?_
 refine HA.d ?_
 obtain ⟨R3,R4,R5⟩:=af r3 r4 e8
 have F:=jx K9.out q8 dv.out
 obtain ⟨co,QW⟩:=ae F.1 F.2;clear Z b2 b3 b4 b5 e8 q8 r3 r4 hq F
 go_wp2_with fail
 refine JQ (fp rfl rfl rfl rfl R3.out R4.out R5.out cI aS aS) rfl ?_
 have oF:=co.out.own (c7.out.own HO.out (fun j Q e=>by have:=(HO.out.lt j Q).1;omega)) (fun j Q e=>by have:=(HO.out.lt j Q).1;omega)
 have c8:=aw oF
 have dG:bD (ay S C) A9 (jp m.G lo (aC s.msgs s.recv).vals Z) c9:=by
  obtain ⟨A',c',e',e5⟩:=c8
  simp only [Ku] at e'
  have hl:=lF m.G lo (aC s.msgs s.recv).vals Z
  have:=H.Gl
  have:=H.s'.n
  exact ⟨by omega,by omega,fM oF (fun k hk=>by have:=H.S' k hk;omega),rJ H.hG.hw bn.out⟩
 have hX:Ext (ay S w) (ay S C):=cu (Keep.below QW.out) (fun _ _ h=>h)
 obtain ⟨aM,bl,bw,bh⟩:=H1.out
 exact ⟨_,_,_,rfl,rfl,rfl,⟨A,c,D,cd,T,ct,R,cr,PA,pc,MA,mc,A9,c9,SA,sc,some ⟨bI,oI,none⟩,ic,by rw [H.il',c6.out,bh];push_cast;rfl,fJ H.I0 hX,by rw [aM];exact aX H.P0 hX,by rw [bl];exact aX H.M0 hX,by rw [bw];exact dG,by rw [bh];exact dJ bW H.R0 hX,aU H.It0 hX,by rw [aM];exact H.Pl,by rw [bl];exact H.Ml,by rw [bw];exact ((lF _ _ _ _).trans H.Gl)⟩,⟨B1,c1,rfl,bK H.s0 hX,H.s2⟩,⟨B2,c2,rfl,bK H.t0 hX,H.t2⟩,QW.out⟩
theorem qK {w:World} {vs:Array Value} {i:Inp} {x:Nat} {m:Mst} {s t:LSt} {u v:Array Value} {S:Nat→Prop} (hS:∀k,S k→k<w.heap.size) (h:dM (ay S w) vs i x m) (hu:RL (ay S w) u s) (hv:RL (ay S w) v t) (hs:cU i) {y:Itm} (hy:(dx i x)[aW i x m]?=some y) (k1 k2:Int) (b0 b1:Bool) (i0 i1 i2 i3 i4 i5 i6:Int) (ad:aN y=[KL 4,KL k1,KL k2,.bool b0,.bool b1,KL i0,KL i1,KL i2,KL i3,KL i4,KL i5,KL i6]) (C:Int) (hC:C≠0) (o:∀(I:Option Addr) (c1:Nat) (w':World),bJ w' I s.msgs→Calls Tryz.prog 39 #[.agg #[KL (s.cap:Nat),.slice I s.msgs.length c1,KL (s.recv:Nat),KL (s.peak:Nat)],.agg #[KL i0,KL i1,KL i2,KL i3,KL i4]] w' fun e b9=>e=.returned (.tuple #[.agg #[KL (s.cap:Nat),.slice I s.msgs.length c1,KL (s.recv:Nat),KL (s.peak:Nat)],.agg La,KL C])∧Below w'.heap.size w' b9)
  (m1:Mst) (h1:m1.P=m.P∧m1.M=m.M∧m1.G=m.G∧m1.rc=m.rc) (U:aW i x m1=aW i x m):
  Calls Tryz.prog 24 #[.agg vs,.agg u,.agg v] w (fun e w'=>mG S i x m1 (s) (t) C w e w'):=by
 obtain ⟨A,c,D,cd,T,ct,R,cr,PA,pc,MA,mc,GA,gc,SA,sc,bI,oI,ic,I,c1,B2,c2,dn,il,W0,rfl,rfl,rfl,H⟩:=jy hS h hu hv hs hy
 have O:=H.rw'
 rw [ad] at O
 rw [H.dn'] at U
 obtain ⟨b6,H1,aG⟩:=af O h1 U
 obtain ⟨bf,be,tl,b7,aM,bb,aR⟩:=H.loc
 have q0:=br W0
 clear h hu hv hs hy ad hS h1 U O
 go_enter Tryz.func24,Tryz.ntmps24
 go_upto_region 1 with (fail)
 rw [H.eW]
 go_upto_region 4 with (first | (refine dN b6.out fg rfl rfl rfl ?_) | (refine az (JE _ _) fg rfl rfl rfl rfl rfl rfl rfl ?_;intro W3 e3 k3;obtain ⟨E3,K3⟩:=ae e3 (aB k3);clear e3 k3))
 clear bf be tl q0 b7 aM bb aR
 go_upto_region 5 with (first | (refine aJ #[KL i5,KL i6] (b:=W0.heap.size) E3.out fF rfl rfl rfl rfl ?_) | (refine az (JE _ _) fF rfl rfl rfl rfl rfl rfl rfl ?_;intro W4 e4 k4;obtain ⟨E4,K4⟩:=ae e4 (aB k4);clear e4 k4))
 have y0:W4.cell? ⟨W0.heap.size,0,none⟩=some (KL 4):=JF W4 _ 0 _ _ _ (sb E3.out _ K4.out)
 have p:=aa (bt K3.out K4.out)
 go_upto_region 17 with (fail)
 have bn:=Lib.hid (H.bx _ p.out).1;have bi:=Lib.hid (H.bx _ p.out).2.1;have bd:=aa (sb E3.out _ K4.out)
 have N:=H.K.trans (p.out.mono H.K.size)
 have hrc:=o I c1 W4 (bK H.s0 (gn (Keep.below N)))
 obtain ⟨aP,bo,HC⟩:=af hrc N hC
 have b8:(C != 0)=true:=by rw [bne_iff_ne];exact hC
 clear hrc N o hC y0
 go_wp2_with (first | (refine aJ #[KL (s.cap:Nat),.slice I s.msgs.length c1,KL (s.recv:Nat),KL (s.peak:Nat)] (b:=w.heap.size+1) bi.out aS rfl rfl rfl rfl ?_) | (refine aJ #[KL i0,KL i1,KL i2,KL i3,KL i4] (b:=W0.heap.size) bd.out ff rfl rfl rfl rfl ?_))
 refine aP.out.mono ?_
 rintro e w5 ⟨rfl,k5⟩
 have K5:=aa k5;clear k5
 obtain ⟨Wa,Wb,a6,a7,ga,gb,av, -⟩:=eE w5 #[KL 0,KN,KL 0,KL 0] La 73 91
 obtain ⟨a5,a4,Ga,Gb,Q⟩:=ah a6 a7 ga gb av;clear a6 a7 ga gb av
 go_upto_region 19 with (first | (refine az (b:=w5.heap.size) (xs:=#[KL 0,KN,KL 0,KL 0]) (by rw [a5.out,a4.out];exact Ga.out) aS rfl rfl rfl rfl rfl rfl rfl ?_;intro w6 e6 k6;rw [a5.out,a4.out] at k6;obtain ⟨E6,K6⟩:=ae e6 k6;clear e6 k6) | (refine az (b:=w5.heap.size+1) (xs:=La) ((K6.out.block _ (JC Gb.out) (by omega)).trans Gb.out) gL rfl rfl rfl rfl rfl rfl rfl ?_;intro w7 e7 k7;obtain ⟨E7,K7⟩:=ae e7 k7;clear e7 k7))
 have a2:Below w5.heap.size w5 w7:=Q.out.trans ((K6.out.toBelow Q.out.size (fun j hj=>Nat.le_of_eq (Eq.symm hj))).trans (K7.out.toBelow (JJ Q.out.size K6.out.size) (fun j hj=>JJ (Nat.le_succ _) (Nat.le_of_eq (Eq.symm hj)))))
 have X:=bt p.out (bt K5.out a2)
 obtain ⟨B,L,a0,J,Y,a1⟩:=H.bx _ X
 have Z:=H.K.trans (X.mono H.K.size)
 obtain ⟨V,hV⟩:∃V,w7=V:=⟨_,rfl⟩
 rw [hV] at B L a0 J Y a1 Z ⊢
 clear hV X a2 b8
 obtain ⟨E9,bh,K9⟩:=af B Z (Keep.refl (fun k=>k=w.heap.size) V);clear B Z
 have b1:=L
 have b2:=a0
 have b3:=J
 have b4:=Y
 have b5:=a1
 clear L a0 J Y a1
 have hq:Below V.heap.size V V.drew:=(br V).drew
 refine HA.g (KB3 w.heap.size V) ?_
 refine HA.ld3 (vs:=#[.slice A i.cfg.sizes.length c,KL i.cfg.shift,KL i.cfg.rate,KL i.cfg.mom,KL i.cfg.workers,KL i.cfg.batch,KL i.cfg.micros,KL i.cfg.steps,KL i.cfg.bucket,KL i.cfg.chunk,KL i.cfg.window,KL i.cfg.cap,.slice D i.data.length cd,.slice T i.start.length ct,.slice R i.draws.length cr,KL (x:Nat),.slice PA i.start.length pc,.slice MA i.start.length mc,.slice GA i.start.length gc,.slice SA m.rc.length sc,.slice (some ⟨bI,oI,none⟩) il ic,KL (dn:Nat)]) E9.out b1 b2 cI aS aS (Keep.below hq) ?_
 refine HA.t ?_ [3] (Keep.below hq) ?_
 refine HA.st3 4 5 6 b3 b4 b5 cI aS aS hq (fun w8 r3 r4 e8 q8=>?_)
 refine HA.t ?_ [7] q8 ?_
 refine HA.d ?_
 obtain ⟨R3,R4,R5⟩:=af r3 r4 e8
 have F:=jx K9.out q8 bh.out
 obtain ⟨bl,QW⟩:=ae F.1 F.2;clear b1 b2 b3 b4 b5 e8 q8 r3 r4 hq F
 go_wp2_with fail
 refine JQ (fp rfl rfl rfl rfl R3.out R4.out R5.out cI aS aS) rfl ?_
 have q:Ext (ay S w) (ay S w8):=cu (Keep.below QW.out) (fun _ _ h=>h)
 obtain ⟨a3,ab,ao,a8⟩:=H1.out
 exact ⟨_,_,_,rfl,rfl,rfl,⟨A,c,D,cd,T,ct,R,cr,PA,pc,MA,mc,GA,gc,SA,sc,some ⟨bI,oI,none⟩,ic,by rw [H.il',aG.out,a8],fJ H.I0 q,by rw [a3];exact aX H.P0 q,by rw [ab];exact aX H.M0 q,by rw [ao];exact aX H.G0 q,by rw [a8];exact dJ bW H.R0 q,aU H.It0 q,by rw [a3];exact H.Pl,by rw [ab];exact H.Ml,by rw [ao];exact H.Gl⟩,⟨I,c1,rfl,bK H.s0 q,H.s2⟩,⟨B2,c2,rfl,bK H.t0 q,H.t2⟩,QW.out⟩
theorem FZ:cL Tryz.prog 168 3:=⟨⟨_,Tryz.underlying168,rfl⟩,by kernel_rfl⟩
theorem FH (w:World) (X Y Z U:Array Value) (t u v:TypeId):∃i,(((w.alloc (.cells X t)).alloc (.cells Y u)).alloc (.cells Z v)).alloc (.cells U u)=i∧
  i.heap[w.heap.size]?=some (.cells X t (0,0))∧i.heap[w.heap.size+1]?=some (.cells Y u (0,0))∧i.heap[w.heap.size+1+1]?=some (.cells Z v (0,0))∧i.heap[w.heap.size+1+1+1]?=some (.cells U u (0,0))∧Below w.heap.size w i:=
 ⟨_,rfl,cz [.cells X t,.cells Y u,.cells Z v,.cells U u] w 0 rfl,cz [.cells X t,.cells Y u,.cells Z v,.cells U u] w 1 rfl,cz [.cells X t,.cells Y u,.cells Z v,.cells U u] w 2 rfl,cz [.cells X t,.cells Y u,.cells Z v,.cells U u] w 3 rfl,er [.cells X t,.cells Y u,.cells Z v,.cells U u] w⟩
def Je (v u:List Int) (n:Nat) (w:World) (e:Ending) (i:World):Prop:=∃q o p j,e=.returned (.tuple #[.agg #[.slice q n o,.slice p n j],.bool true])∧n≤o∧n≤j∧i.ownsRow w.heap.size 2 1 (.slice q n o) n (aq .i64 v)∧i.ownsRow w.heap.size 2 1 (.slice p n j) n (aq .i64 u)∧Below w.heap.size w i
theorem yn (ra J q:Int) (A B G:Option Addr) (P M g:List Int) (n ca cb cg lo H L:Nat) (w:World) (hA:Rd w A (aq .i64 P)) (hB:Rd w B (aq .i64 M)) (hG:Rd w G (aq .i64 g)) (hP:P.length=n) (hM:M.length=n) (hg:g.length=L) (hL:H=lo+L) (bv:0<L) (hn:n≤1048576) (bw:H≤n) (d2:n≤ca) (dr:n≤cb) (wM:W64 M)
  (bM: -9223372036854775808≤ra∧ra≤9223372036854775807) (bz: -9223372036854775808≤J∧J≤9223372036854775807):
  Calls Tryz.prog 74 #[.agg #[KL ra,KL J,KL q],.agg #[.slice A n ca,.slice B n cb],.agg #[KL (lo:Nat),KL (H:Nat)],.slice G L cg] w (Je (apP ra J q P M g lo L) (apM J q M g lo L) n w):=by
 obtain ⟨u,hW0,g0,x,y,g3,k0⟩:=FH w #[KL ra,KL J,KL q] #[.slice A n ca,.slice B n cb] #[KL (lo:Nat),KL (H:Nat)] #[KN,KN] 168 39 132
 obtain ⟨ab,ao,rfl, -⟩:=hA.num (show 0<P.length by omega)
 obtain ⟨bb,bo,rfl, -⟩:=hB.num (show 0<M.length by omega)
 have d0:IntKind.i64.wrap ((H:Int)-(lo:Int))=(L:Int):=by rw [JI _ (by omega)];omega
 have h1:¬(lo:Int)<0:=by omega
 have h2:¬(H:Int)<lo:=by omega
 have h3:¬(n:Int)<H:=by omega
 have h4:¬H<lo:=by omega
 have h5:¬n<H:=by omega
 have s0:∀i,Below u.heap.size u i→i.cell? ⟨w.heap.size+1,0,none⟩=some (.slice (some ⟨ab,ao,none⟩) n ca):=fun i q=>JF i _ 0 _ _ _ (sb x i q)
 have s1:∀i,Below u.heap.size u i→i.cell? ⟨w.heap.size+1,1,none⟩=some (.slice (some ⟨bb,bo,none⟩) n cb):=fun i q=>JF i _ 1 _ _ _ (sb x i q)
 have r0:∀i,Below u.heap.size u i→i.cell? ⟨w.heap.size+1+1,0,none⟩=some (KL (lo:Nat)):=fun i q=>JF i _ 0 _ _ _ (sb y i q)
 have r1:∀i,Below u.heap.size u i→i.cell? ⟨w.heap.size+1+1,1,none⟩=some (KL (H:Nat)):=fun i q=>JF i _ 1 _ _ _ (sb y i q)
 have tl:=sl y
 have cx:=sl x
 have q0:=br u
 have dv:(lo:Int)≤H:=by omega
 have cO:lo≤H:=by omega
 have dG:(H:Int)≤ca:=by omega
 have dk:(H:Int)≤cb:=by omega
 have dn:H≤ca:=by omega
 have dc:H≤cb:=by omega
 have d3:¬ca=lo:=by omega
 have ds:¬cb=lo:=by omega
 have ct:H-lo=L:=by omega
 have bs:((P.drop lo).take L).length=L:=by rw [Kk,Kn];omega
 have bn:((M.drop lo).take L).length=L:=by rw [Kk,Kn];omega
 have rA:Rd w (some ⟨ab,ao+lo,none⟩) (aq .i64 ((P.drop lo).take L)):=by have:=(hA.drop lo).take L;rwa [cV,cK] at this
 have rB:Rd w (some ⟨bb,bo+lo,none⟩) (aq .i64 ((M.drop lo).take L)):=by have:=(hB.drop lo).take L;rwa [cV,cK] at this
 have bA:W64 ((M.drop lo).take L):=fun k hk=>by rw [bn] at hk;rw [eF hk,fj];exact wM _ (by omega)
 have hnx:=fun i (q':Below u.heap.size u i)=>vb ra J q (some ⟨ab,ao+lo,none⟩) (some ⟨bb,bo+lo,none⟩) G ((P.drop lo).take L) ((M.drop lo).take L) g L (ca-lo) (cb-lo) cg i (rA.below (k0.trans (q'.mono k0.size))) (rB.below (k0.trans (q'.mono k0.size))) (hG.below (k0.trans (q'.mono k0.size))) bs bn hg (by omega) bA bM bz
 have a6:=fun i (q':Below u.heap.size u i)=>mQ (some ⟨ab,ao,none⟩) P ca i (hA.below (k0.trans (q'.mono k0.size))) (by omega)
 have aG:=fun i (q':Below u.heap.size u i)=>mQ (some ⟨bb,bo,none⟩) M cb i (hB.below (k0.trans (q'.mono k0.size))) (by omega)
 rw [hP] at a6
 rw [hM] at aG
 obtain ⟨cy,G0,G1,G2,G3,K0,c7,b9⟩:=ak hW0 g0 x y g3 k0 hnx a6;obtain ⟨av,HP,HM,Hg,HL,ad,d8,Hn⟩:=ak aG hP hM hg hL bw ct hn;clear hW0 g0 x y g3 k0 hnx a6 aG hP hM hg hL bw hA hB hG bs bn rA rB bA wM bM bz hn
 go_enter Tryz.func74,Tryz.ntmps74
 go_upto_region 1 with (fail)
 rw [cy.out]
 go_upto_region 3 with (fail)
 go_cut [10,11] (fun v cc wx=>∃bX A0 x0 B0 y0,v=.pointer (some ⟨bX,0,none⟩)∧cc=.bool true∧wx.heap[bX]?=some (.cells #[.slice A0 L x0,.slice B0 L y0] 39 (0,0))∧wx.ownsRow u.heap.size 2 1 (.slice A0 L x0) L (aq .i64 (vI ra J q ((P.drop lo).take L) ((M.drop lo).take L) g))∧wx.ownsRow u.heap.size 2 1 (.slice B0 L y0) L (aq .i64 (vJ J q ((M.drop lo).take L) g))∧Below u.heap.size u wx)
 case first=>
  have q3:=q0.drew
  refine HA.g (fun i:World=>Below u.heap.size u i) ?_
  refine HA.ld 0 #[KL ra,KL J,KL q] (fun i q=>sb G0.out i q) FZ q3 ?_
  refine HA.t ?_ [1,2,3,4,5,6,7,8,9,10,11,12,13,14,15,16] q3 ?_
  refine HA.two 17 21 ?_ ?_
  ·refine HAS.c (c7.out _ q3) ?_
   rintro e w4 ⟨A0,x0,B0,y0,rfl,oP,oM,k4⟩
   have q4:=q3.trans (k4.mono q3.size)
   refine ⟨_,rfl,q4,fun _=>?_⟩
   refine HA.t ?_ [18,19,20] q4 ?_
   refine HA.v 21 (w4.alloc (.cells #[KN,KN] 39)) (.pointer (some ⟨w4.heap.size,0,none⟩)) (q4.alloc q4.size _) ?_
   refine HA.st 22 (JE w4 _) jI (fun p e5 k5=>?_)
   have b5:=aB k5
   have D:=q4.trans (b5.mono q4.size)
   refine ⟨D,?_⟩
   refine HA.t ?_ [23] D ?_
   refine HA.d ?_
   have HF:=aa (JL e5 (JL (ax (ap oP b5) q3.size) (JL (ax (ap oM b5) q3.size) D)));clear e5 oP oM b5 k5 k4 q3 q4 D
   go_wp2_with fail
   go_meet
   exact ⟨_,A0,x0,B0,y0,rfl,rfl,HF.out⟩
  ·refine HAS.v (u.drew.alloc (.cells #[KN,KN] 39)) (.pointer (some ⟨u.drew.heap.size,0,none⟩)) (q3.alloc (JD _) _) ?_
   have gA:=JE u.drew (.cells #[KN,KN] 39)
   have R:=q3.alloc (JD u.heap.size) (.cells #[KN,KN] 39)
   obtain ⟨wa,I⟩:∃wa,u.drew.alloc (.cells #[KN,KN] 39)=wa:=⟨_,rfl⟩
   rw [I] at gA R ⊢
   clear I
   refine HA.c 17 (c7.out _ R) ?_
   rintro e w4 ⟨A0,x0,B0,y0,rfl,oP,oM,k4⟩
   have q4:=R.trans (k4.mono R.size)
   refine ⟨_,rfl,q4,fun _=>?_⟩
   refine HA.t ?_ [18,19,20] q4 ?_
   have b3:=sb gA _ k4
   refine HA.st 22 b3 jI (fun p e5 k5=>?_)
   have D:=q4.trans (k5.toBelow q4.size (fun j o=>Nat.le_of_eq (Eq.symm o)))
   refine ⟨D,?_⟩
   refine HA.t ?_ [23] D ?_
   refine HA.d ?_
   have HF:=aa (JL e5 (JL (ax (k5.own oP (fun j o e=>an b3 (by decide) oP (by rw [o,e]))) R.size) (JL (ax (k5.own oM (fun j o e=>an b3 (by decide) oM (by rw [o,e]))) R.size) D)))
   clear e5 oP oM k5 k4 q3 R q4 D gA b3
   go_wp2_with fail
   go_meet
   exact ⟨_,A0,x0,B0,y0,rfl,rfl,HF.out⟩
 case rest=>
 obtain ⟨bX,A0,x0,B0,y0,rfl,rfl,e5,oP,oM,D⟩:=hcut
 obtain ⟨p,rfl⟩:∃p,p=wc:=⟨_,rfl⟩
 obtain ⟨E5,OP,OM,Q5⟩:=ag e5 oP oM D;clear e5 oP oM
 go_upto_region 4 with (fail)
 go_cut [12] (fun v wx=>∃X A1 c1 B1 O,v=.pointer (some ⟨X,0,none⟩)∧wx.heap[X]?=some (.cells #[.slice A1 n c1,.slice B1 n O] 39 (0,0))∧p.heap.size≤X∧wx.ownsRow p.heap.size 2 1 (.slice A1 n c1) n (aq .i64 P)∧wx.ownsRow p.heap.size 2 1 (.slice B1 n O) n (aq .i64 M)∧(∀j,(Value.slice A1 n c1).ownBlock=some j→(Value.slice B1 n O).ownBlock≠some j)∧Below p.heap.size p wx)
 case first=>
  have q6:Below u.heap.size u p.drew:=D.drew
  have r6:Below p.heap.size p p.drew:=(br p).drew
  refine HA.g (fun i:World=>Below u.heap.size u i) ?_
  refine HA.t ?_ [0,1,3,4] q6 ?_
  refine HA.two 2 7 ?_ ?_
  ·refine HAS.c (b9.out _ q6) ?_
   rintro e w6 ⟨A1,c1,rfl,o1,k6⟩
   have U:=q6.trans (k6.mono q6.size)
   refine ⟨_,rfl,U,fun _=>?_⟩
   refine HA.two 5 7 ?_ ?_
   ·refine HAS.c (av.out _ U) ?_
    rintro e w7 ⟨B1,O,rfl,o2,C⟩
    have N:=U.trans (C.mono U.size)
    refine ⟨_,rfl,N,fun _=>?_⟩
    refine HA.t ?_ [6] N ?_
    refine HA.v 7 (w7.alloc (.cells #[KN,KN] 39)) (.pointer (some ⟨w7.heap.size,0,none⟩)) (N.alloc N.size _) ?_
    refine HA.st 8 (JE w7 _) jI (fun w8 Z Y=>?_)
    have b8:=aB Y
    refine ⟨N.trans (b8.mono N.size),HA.d ?_⟩
    have s6:=k6.size
    have s7:=C.size
    rw [Kt] at s6
    have fa:=o1
    have fb:=ap (ap o1 C) b8
    have fc:=o2
    have fd:=ap o2 b8
    have fe:=bt (bt (r6.trans k6) C) b8
    have HF:=aa (JL Z (JL (show p.heap.size≤w7.heap.size by (try rw [Kt]);omega) (JL (ax fb (show p.heap.size≤_ by (try rw [Kt]);omega)) (JL (ax fd (show p.heap.size≤_ by (try rw [Kt]);omega)) (JL (show ∀j,(Value.slice A1 n c1).ownBlock=some j→(Value.slice B1 n O).ownBlock≠some j from fun j h1 h2=>by have z1:=(fa.lt j h1).2;have z2:=(fc.lt j h2).1;omega) fe)))));clear Z Y o1 o2 k6 C r6 q6 fa fb fc fd fe;go_wp2_with fail;go_meet;exact ⟨_,A1,c1,B1,O,rfl,HF.out⟩
   ·refine HAS.v (w6.alloc (.cells #[KN,KN] 39)) (.pointer (some ⟨w6.heap.size,0,none⟩)) (U.alloc U.size _) ?_
    have gA:=JE w6 (.cells #[KN,KN] 39)
    have ba:=(br w6).alloc (JD _) (.cells #[KN,KN] 39)
    have b4:=U.alloc U.size (.cells #[KN,KN] 39)
    have sA:(w6.alloc (.cells #[KN,KN] 39)).heap.size=w6.heap.size+1:=JS _ _
    obtain ⟨wa,I⟩:∃wa,w6.alloc (.cells #[KN,KN] 39)=wa:=⟨_,rfl⟩
    rw [I] at gA b4 ba sA ⊢
    clear I
    refine HA.c 5 (av.out _ b4) ?_
    rintro e w7 ⟨B1,O,rfl,o2,C⟩
    have N:=b4.trans (C.mono b4.size)
    refine ⟨_,rfl,N,fun _=>?_⟩
    refine HA.t ?_ [6] N ?_
    have T:=sb gA _ C
    refine HA.st 8 T jI (fun w8 Z Y=>?_)
    have s6:=k6.size
    have s7:=C.size
    rw [Kt] at s6
    have a8:=ap (ap o1 ba) C
    have b8:Below p.heap.size p w8:=(bt (bt (r6.trans k6) ba) C).trans (Y.toBelow (by omega) (fun j o=>by have Q:j=w6.heap.size:=o;omega))
    refine ⟨N.trans (Y.toBelow N.size (fun j o=>by have Q:j=w6.heap.size:=o;have:=U.size;omega)),HA.d ?_⟩
    have fa:=o1
    have fb:=Y.own a8 (fun j o e=>an T (by decide) a8 (by rw [o,e]))
    have fc:=o2
    have fd:=Y.own o2 (fun j o e=>an T (by decide) o2 (by rw [o,e]))
    have fe:=b8
    have HF:=aa (JL Z (JL (show p.heap.size≤w6.heap.size by (try rw [Kt]);omega) (JL (ax fb (show p.heap.size≤_ by (try rw [Kt]);omega)) (JL (ax fd (show p.heap.size≤_ by (try rw [Kt]);omega)) (JL (show ∀j,(Value.slice A1 n c1).ownBlock=some j→(Value.slice B1 n O).ownBlock≠some j from fun j h1 h2=>by have z1:=(fa.lt j h1).2;have z2:=(fc.lt j h2).1;omega) fe)))));clear Z Y o1 o2 k6 C r6 q6 fa fb fc fd fe;go_wp2_with fail;go_meet;exact ⟨_,A1,c1,B1,O,rfl,HF.out⟩
  ·refine HAS.v (p.drew.alloc (.cells #[KN,KN] 39)) (.pointer (some ⟨p.drew.heap.size,0,none⟩)) (q6.alloc q6.size _) ?_
   have gA:=JE p.drew (.cells #[KN,KN] 39)
   have aP:=q6.alloc q6.size (.cells #[KN,KN] 39)
   have ba:=(br p.drew).alloc (JD _) (.cells #[KN,KN] 39)
   have sA:(p.drew.alloc (.cells #[KN,KN] 39)).heap.size=p.drew.heap.size+1:=JS _ _
   obtain ⟨wa,I⟩:∃wa,p.drew.alloc (.cells #[KN,KN] 39)=wa:=⟨_,rfl⟩
   rw [I] at gA aP ba sA ⊢
   clear I
   refine HA.c 2 (b9.out _ aP) ?_
   rintro e w6 ⟨A1,c1,rfl,o1,k6⟩
   have U:=aP.trans (k6.mono aP.size)
   refine ⟨_,rfl,U,fun _=>?_⟩
   refine HA.c 5 (av.out _ U) ?_
   rintro e w7 ⟨B1,O,rfl,o2,C⟩
   have N:=U.trans (C.mono U.size)
   refine ⟨_,rfl,N,fun _=>?_⟩
   refine HA.t ?_ [6] N ?_
   have T:=sb (sb gA _ k6) _ C
   refine HA.st 8 T jI (fun w8 Z Y=>?_)
   have s6:=k6.size
   have s7:=C.size
   rw [Kt] at sA
   have a8:=ap o1 C
   have b8:Below p.heap.size p w8:=(bt (bt (r6.trans ba) k6) C).trans (Y.toBelow (by omega) (fun j o=>by have Q:j=p.drew.heap.size:=o;rw [Kt] at Q;omega))
   refine ⟨N.trans (Y.toBelow N.size (fun j o=>by have Q:j=p.drew.heap.size:=o;rw [Kt] at Q;have:=D.size;omega)),HA.d ?_⟩
   have fa:=o1
   have fb:=Y.own a8 (fun j o e=>an T (by decide) a8 (by rw [o,e]))
   have fc:=o2
   have fd:=Y.own o2 (fun j o e=>an T (by decide) o2 (by rw [o,e]))
   have fe:=b8
   have HF:=aa (JL Z (JL (show p.heap.size≤p.drew.heap.size by (try rw [Kt]);omega) (JL (ax fb (show p.heap.size≤_ by (try rw [Kt]);omega)) (JL (ax fd (show p.heap.size≤_ by (try rw [Kt]);omega)) (JL (show ∀j,(Value.slice A1 n c1).ownBlock=some j→(Value.slice B1 n O).ownBlock≠some j from fun j h1 h2=>by have z1:=(fa.lt j h1).2;have z2:=(fc.lt j h2).1;omega) fe)))));clear Z Y o1 o2 k6 C r6 q6 fa fb fc fd fe;go_wp2_with fail;go_meet;exact ⟨_,A1,c1,B1,O,rfl,HF.out⟩
 case rest=>
 obtain ⟨X,A1,c1,B1,O,rfl,Z,nO,a3,a2,b7,a4⟩:=hcut
 obtain ⟨w8,rfl⟩:∃w8,w8=wc:=⟨_,rfl⟩
 have q9:=D.trans (a4.mono D.size)
 have bI:=sb E5.out _ a4
 have bf:=ap OP.out a4
 have bi:=ap OM.out a4
 obtain ⟨x,_,ci,_⟩:=a3.form (by omega)
 obtain ⟨y,_,bN,_⟩:=a2.form (by omega)
 obtain ⟨p1,_,bV,_⟩:=bf.form bv
 obtain ⟨p2,_,c8,_⟩:=bi.form bv
 simp only [Ku] at ci bN bV c8
 obtain ⟨rfl,_,rfl⟩:=ci
 obtain ⟨rfl,_,rfl⟩:=bN
 obtain ⟨rfl,_,rfl⟩:=bV
 obtain ⟨rfl,_,rfl⟩:=c8
 have n1:p1<p.heap.size:=(OP.out.lt p1 rfl).2
 have n2:p2<p.heap.size:=(OM.out.lt p2 rfl).2
 have n3:p.heap.size≤x:=(a3.lt x rfl).1
 have n4:p.heap.size≤y:=(a2.lt y rfl).1
 have n5:bX<p.heap.size:=JC E5.out
 have n6:x≠y:=fun e=>b7 x rfl (by rw [e];rfl)
 have n7:=D.size
 have n8:X≠x:=fun e=>an Z (by decide) a3 (by rw [e];rfl)
 have d5:X≠y:=fun e=>an Z (by decide) a2 (by rw [e];rfl)
 have n9:=JC G3.out
 have l8:=JC Z
 obtain ⟨O1,O2,E8,aR,cw,bG,Q9,C1⟩:=ak (ax a3 (show w.heap.size≤p.heap.size by have:=K0.out.size;omega)) (ax a2 (show w.heap.size≤p.heap.size by have:=K0.out.size;omega)) Z bI bf bi q9 (aw a3);have C2:=aa (aw a2);clear Z a3 a2 bI bf bi q9 D a4 b7 s0 s1 r0 r1 tl cx q0
 go_wp2_with fail
 go_loopw [13] (fun z wr=>∃k:Nat,k≤L∧z=KL k∧wr.ownsRow w.heap.size 2 1 (.slice (some ⟨x,0,none⟩) n c1) n (aq .i64 (apP ra J q P M g lo k))∧wr.ownsRow w.heap.size 2 1 (.slice (some ⟨y,0,none⟩) n O) n (aq .i64 (apM J q M g lo k))∧Keep (fun j=>j=x∨j=y) w8 wr) (fun z _=>L-(intOf z).toNat)
 case atStart=>exact ⟨0,JH _,rfl,by rw [wZ];exact O1.out,by rw [xa];exact O2.out,Keep.refl _ _⟩
 case round=>
  obtain ⟨k,hk,rfl,r1,r2,kk⟩:=hrel
  have bo:=(kk.block X l8 (by omega)).trans E8.out
  by_cases a0:k<L
  ·have bx:=(kk.block bX (JC aR.out) (by omega)).trans aR.out
   have a7:=(kk.block (w.heap.size+1+1) (JC (sb G2.out _ Q9.out)) (by omega)).trans (sb G2.out _ Q9.out)
   have y1:=cq (kk.own cw.out (fun j o e=>by cases o;rcases e with e | e;(have Q:p1=x:=e;omega);(have Q:p1=y:=e;omega))) a0
   have y2:=cq (kk.own bG.out (fun j o e=>by cases o;rcases e with e | e;(have Q:p2=x:=e;omega);(have Q:p2=y:=e;omega))) a0
   rw [BL a0 (by rw [HP.out];have:=HL.out;have:=ad.out;omega) (by rw [HM.out];have:=HL.out;have:=ad.out;omega)] at y1
   rw [sU a0 (by rw [HM.out];have:=HL.out;have:=ad.out;omega)] at y2
   have a1:lo+k<n:=by have:=HL.out;have:=ad.out;omega
   have p3:=cq r1 a1
   have p4:=cq r2 a1
   have f3:=r1.frozenAt (lo+k)
   have f4:=r2.frozenAt (lo+k)
   have b1:=At ra J q P M g lo k (by rw [HP.out];exact a1)
   have b2:=Ax J q M g lo k (by rw [HM.out];exact a1)
   obtain ⟨vP,c9⟩:∃v,kR ra q (nth P (lo+k)) (eD J q (nth M (lo+k)) (nth g k))=v:=⟨_,rfl⟩
   obtain ⟨vM,bl⟩:∃v,eD J q (nth M (lo+k)) (nth g k)=v:=⟨_,rfl⟩
   rw [c9] at y1 b1
   rw [bl] at y2 b2
   have co:(k:Int)<L:=by omega
   have d9:¬(k:Int)<0:=by omega
   have cr:=Hn.out
   have d4:IntKind.i64.wrap ((k:Int)+1)=((k+1:Nat):Int):=by rw [JI _ (by omega)];push_cast;rfl
   obtain ⟨j,o⟩:∃j,lo+k=j:=⟨_,rfl⟩
   rw [o] at p3 p4 f3 f4 b1 b2 a1
   have da:(lo:Int)+k=(j:Int):=by omega
   have dp:(j:Int)<n:=by omega
   have d7:¬(j:Int)<0:=by omega
   have d6:IntKind.i64.wrap (j:Int)=j:=JI _ (by omega)
   have bU:=JF wr X 0 _ _ _ bo
   have be:=JF wr X 1 _ _ _ bo
   have aM:=JF wr (w.heap.size+1+1) 0 _ _ _ a7
   have cf:=JF wr bX 0 _ _ _ bx
   have bh:=JF wr bX 1 _ _ _ bx
   obtain ⟨c6,cv,cA,R1,R2,b6⟩:=ai bl b1 b2 r1 r2 kk
   clear b1 b2 r1 r2 kk bo bx a7 c9 bl cr;rw [o] at c6;have Hj:=aa o;clear o
   go_upto_region 8 with (fail)
   refine XA.g 12 (fun i:World=>i.cell? ⟨X,0,none⟩=some (.slice (some ⟨x,0,none⟩) n c1)∧i.cell? ⟨w.heap.size+1+1,0,none⟩=some (KL (lo:Nat))∧i.cell? ⟨bX,0,none⟩=some (.slice (some ⟨p1,0,none⟩) L x0)∧i.cell? ⟨p1,k,none⟩=some (KL vP)) ?_
   refine XA.t ?_ [0,1,2,3,4,5,6,7,8,9,10,11] ⟨bU,aM,cf,y1⟩ ?_
   refine XA.e ?_
   simp only [Kc,Ke]
   go_upto_region 9 with (fail)
   have b0:=(dA R1.out j vP).drew
   rw [cv.out] at b0
   have kq:Keep (fun j=>j=x∨j=y) w8 (wr.setCell ⟨x,j,none⟩ (KL vP)).drew:=(Keep.setCell (S:=fun j=>j=x∨j=y) b6.out ⟨x,j,none⟩ (.inr (.inl rfl)) _).drew
   have a5:=((Keep.setCell (S:=fun j=>j=x) (Keep.refl _ wr) ⟨x,j,none⟩ (.inr rfl) (KL vP)).drew).own R2.out (fun j o e=>by cases o;have Q:y=x:=e;omega)
   obtain ⟨wq,cd⟩:∃wq,(wr.setCell ⟨x,j,none⟩ (KL vP)).drew=wq:=⟨_,rfl⟩
   rw [cd] at b0 kq a5 ⊢
   clear cd bU be aM cf bh p3 p4 f3 f4 y1 y2
   have bo:=(kq.block X l8 (by omega)).trans E8.out
   have bx:=(kq.block bX (JC aR.out) (by omega)).trans aR.out
   have a7:=(kq.block (w.heap.size+1+1) (JC (sb G2.out _ Q9.out)) (by omega)).trans (sb G2.out _ Q9.out)
   have y2:=cq (kq.own bG.out (fun j o e=>by cases o;rcases e with e | e;(have Q:p2=x:=e;omega);(have Q:p2=y:=e;omega))) a0
   rw [sU a0 (by rw [HM.out];have:=HL.out;have:=ad.out;omega)] at y2
   have bd:=c6.out
   rw [Hj.out,bd] at y2
   have be:=JF wq X 1 _ _ _ bo
   have aM:=JF wq (w.heap.size+1+1) 0 _ _ _ a7
   have bh:=JF wq bX 1 _ _ _ bx
   have p4:=cq a5 a1
   have f4:=a5.frozenAt j
   obtain ⟨cj,cl,Kq⟩:=af b0 a5 kq;clear b0 a5 kq bo bx a7 bd
   refine XA.g 12 (fun i:World=>i.cell? ⟨X,1,none⟩=some (.slice (some ⟨y,0,none⟩) n O)∧i.cell? ⟨w.heap.size+1+1,0,none⟩=some (KL (lo:Nat))∧i.cell? ⟨bX,1,none⟩=some (.slice (some ⟨p2,0,none⟩) L y0)∧i.cell? ⟨p2,k,none⟩=some (KL vM)) ?_
   refine XA.t ?_ [0,1,2,3,4,5,6,7,8,9,10,11] ⟨be,aM,bh,y2⟩ ?_
   refine XA.e ?_
   simp only [Kc,Ke]
   go_wp2_with fail
   go_roundw
   case rel=>
    refine ⟨k+1,by omega,by go_num,?_,?_,?_⟩
    ·exact ((Keep.setCell (S:=fun j=>j=y) (Keep.refl _ wq) ⟨y,j,none⟩ (.inr rfl) (KL vM)).drew).own cj.out (fun j o e=>by cases o;have Q:x=y:=e;omega)
    ·rw [←cA.out];exact (dA cl.out j vM).drew
    ·exact (Keep.setCell (S:=fun j=>j=x∨j=y) Kq.out ⟨y,j,none⟩ (.inr (.inr rfl)) _).drew
   case measure=>simp [intOf];omega
  ·obtain rfl:k=L:=by omega
   have co:¬(k:Int)<k:=by omega
   have gR:=(kk.block (w.heap.size+1+1+1) (JC (sb G3.out _ Q9.out)) (by omega)).trans (sb G3.out _ Q9.out)
   obtain ⟨R1,R2,b6,BO,GR⟩:=ah r1 r2 kk bo gR;clear r1 r2 kk bo gR
   obtain ⟨V,rfl⟩:∃V:World,V=wr:=⟨_,rfl⟩
   go_wp2_with (first | (refine aJ #[.slice (some ⟨x,0,none⟩) n c1,.slice (some ⟨y,0,none⟩) n O] (b:=X) BO.out jI rfl rfl rfl rfl ?_) | (refine az GR.out jI rfl rfl rfl rfl rfl rfl rfl ?_;intro W9 e9 k9;obtain ⟨E9,K9⟩:=ae e9 k9;clear e9 k9))
   refine JQ (iE rfl rfl E9.out jI) rfl ?_
   obtain ⟨_,_,z1,z2⟩:=C1.out
   obtain ⟨_,_,z3,z4⟩:=C2.out
   simp only [Ku] at z1 z3
   have cs:=K0.out.trans (Q9.out.mono K0.out.size)
   have s8:=Q9.out.size
   have s0:=K0.out.size
   have sV:=b6.out.size
   exact ⟨_,_,_,_,rfl,by omega,by omega,K9.out.own R1.out (fun j o e=>by cases o;have Q:x=w.heap.size+1+1+1:=e;omega),K9.out.own R2.out (fun j o e=>by cases o;have Q:y=w.heap.size+1+1+1:=e;omega),(cs.trans (b6.out.toBelow (by omega) (fun j o=>by rcases o with e | e<;>omega))).trans (K9.out.toBelow (by omega) (fun j o=>by have Q:j=w.heap.size+1+1+1:=o;omega))⟩
theorem ye {w:World} {vs:Array Value} {i:Inp} {x:Nat} {m:Mst} {s t:LSt} {u v:Array Value} {S:Nat→Prop} (hS:∀k,S k→k<w.heap.size) (h:dM (ay S w) vs i x m) (hu:RL (ay S w) u s) (hv:RL (ay S w) v t) (hs:cU i) {y:Itm} (hy:(dx i x)[aW i x m]?=some y) (k1 k2:Int) (b0 b1:Bool) (i0 i1 i2 i3 i4 i5 i6:Int) (cc:aN y=[KL 5,KL k1,KL k2,.bool b0,.bool b1,KL i0,KL i1,KL i2,KL i3,KL i4,KL i5,KL i6]) (bn lo B:Nat) (bv:k2=(bn:Nat)) (cw:bn<(aE i).buks.length) (co:aO (aE i).buks bn=(lo,B)) (bo:lo<B) (bG:B≤i.start.length)
  (m1:Mst) (h1:m1.P=apP i.cfg.rate i.cfg.mom i.cfg.shift m.P m.M ((m.G.drop lo).take (B-lo)) lo (B-lo)∧m1.M=apM i.cfg.mom i.cfg.shift m.M ((m.G.drop lo).take (B-lo)) lo (B-lo)∧m1.G=m.G∧m1.rc=m.rc) (bh:aW i x m1=aW i x m+1):
  Calls Tryz.prog 24 #[.agg vs,.agg u,.agg v] w (fun e p=>mG S i x m1 (s) (t) 0 w e p):=by
 have ev:=aa bv;clear bv
 obtain ⟨A,c,D,cd,T,ct,R,cr,PA,pc,MA,mc,GA,gc,SA,sc,bI,oI,ic,B1,c1,B2,c2,dn,il,W0,rfl,rfl,rfl,H⟩:=jy hS h hu hv hs hy
 have bf:=H.rw'
 rw [cc] at bf
 rw [H.dn'] at bh
 obtain ⟨dr,H1,d1⟩:=af bf h1 bh
 obtain ⟨eq,em,tl,e2,d3,ek,d8⟩:=H.loc
 have q0:=br W0
 clear h hu hv hs hy cc hS h1 bh bf
 go_enter Tryz.func24,Tryz.ntmps24
 go_upto_region 1 with (fail)
 rw [H.eW]
 go_upto_region 4 with (first | (refine dN dr.out fg rfl rfl rfl ?_) | (refine az (JE _ _) fg rfl rfl rfl rfl rfl rfl rfl ?_;intro W3 e3 k3;obtain ⟨E3,K3⟩:=ae e3 (aB k3);clear e3 k3))
 clear eq em tl q0 e2 d3 ek d8
 go_upto_region 5 with (first | (refine aJ #[KL i5,KL i6] (b:=W0.heap.size) E3.out fF rfl rfl rfl rfl ?_) | (refine az (JE _ _) fF rfl rfl rfl rfl rfl rfl rfl ?_;intro Q e4 k4;obtain ⟨E4,K4⟩:=ae e4 (aB k4);clear e4 k4))
 have y0:Q.cell? ⟨W0.heap.size,0,none⟩=some (KL 5):=JF Q _ 0 _ _ _ (sb E3.out _ K4.out)
 have aR:=aa (bt K3.out K4.out)
 go_upto_region 23 with (fail)
 have bU:=Lib.hid (H.bx _ aR.out).1;have el:=aa (sb E3.out _ K4.out)
 have bN:=H.K.trans (aR.out.mono H.K.size)
 have q4:=(br Q).drew
 have x2:∀p,Below Q.heap.size Q p→p.cell? ⟨W0.heap.size,2,none⟩=some (KL (bn:Nat)):=fun p q=>by rw [←ev.out];exact JF p _ 2 _ _ _ (sb el.out p q)
 have hc:=H.s'.g.c
 have ew:(((aE i).W:Nat):Int)=i.cfg.workers:=by have:=hc.w;simp only [aE];omega
 have eu:(((aE i).bu:Nat):Int)=i.cfg.bucket:=by have:=hc.bu;simp only [aE];omega
 have ec:(((aE i).ck:Nat):Int)=i.cfg.chunk:=by have:=hc.ch;simp only [aE];omega
 have en:(aE i).n=i.start.length:=rfl
 have a6:=fun p=>jw A i.cfg.sizes.length c i.cfg.shift i.cfg.rate i.cfg.mom i.cfg.workers i.cfg.batch i.cfg.micros i.cfg.steps i.cfg.bucket i.cfg.chunk i.cfg.window i.cfg.cap D i.data.length cd T i.start.length ct R i.draws.length cr p
 have a0:=fun p=>nE (aE i) (.slice A i.cfg.sizes.length c) (KL i.cfg.shift) (KL i.cfg.rate) (KL i.cfg.mom) (KL i.cfg.batch) (KL i.cfg.micros) (KL i.cfg.steps) (KL i.cfg.window) (KL i.cfg.cap) p H.s'.ok (by have:=hc.bu;simp only [aE];omega)
 simp only [ew,eu,ec,en] at a0
 have bb:=dH cw
 rw [co] at bb
 have e0:=H.s'.ok.buks
 obtain ⟨nb,hnb'⟩:∃nb,(aE i).buks.length=nb:=⟨_,rfl⟩
 rw [hnb'] at a0 cw e0
 have aG:(bn:Int)<nb:=by omega
 have ab:¬(bn:Int)<0:=by omega
 have ad:¬nb≤bn:=by omega
 obtain ⟨ao,a8,bV,a4,bX,aP⟩:=ai a6 a0 bN bb bo bG;clear a6 a0 bN bb co hnb' ew eu ec en y0 bo bG
 go_cut [21] (fun v wx=>∃J,v=.pointer (some ⟨J,0,none⟩)∧wx.heap[J]?=some (.cells #[KL (lo:Nat),KL (B:Nat)] 132 (0,0))∧Below Q.heap.size Q wx)
 case first=>
  refine HA.g (fun p:World=>Below Q.heap.size Q p) ?_
  refine HA.t ?_ [0,4,5] q4 ?_
  refine HA.ld 1 (aH A c D cd T ct R cr i) (fun p q=>sb bU.out p q) gM q4 ?_
  refine HA.two 2 8 ?_ ?_
  ·skip
   refine HAS.c (ao.out _) ?_
   rintro e w5 ⟨rfl,k5⟩
   have U:=q4.trans (k5.mono q4.size)
   refine ⟨_,rfl,U,fun _=>?_⟩
   refine HA.two 3 8 ?_ ?_
   ·skip
    refine HAS.c (a8.out _) ?_
    rintro e X ⟨v6,rfl,L,k6⟩
    have C:=U.trans (k6.mono U.size)
    obtain ⟨g6,cv,rfl,_⟩:=L.form (by omega)
    have a3:=L.1
    have c0:=L.cellAt (bn*2) (by omega)
    have I:=L.cellAt (bn*2+1) (by omega)
    rw [a4.out.1] at c0
    rw [a4.out.2] at I
    refine ⟨_,rfl,C,fun _=>?_⟩
    refine HA.t ?_ [6] C ?_
    have a2:=(L.lt g6 rfl).2
    refine HA.two 7 8 ?_ ?_
    rotate_left
    ·refine HAS.v (X.alloc (.cells #[KL 0,KL 0] 132)) (.pointer (some ⟨X.heap.size,0,none⟩)) (C.alloc C.size _) ?_
     have c0:=am ((br X).alloc (JD _) (.cells #[KL 0,KL 0] 132)) c0
     have I:=am ((br X).alloc (JD _) (.cells #[KL 0,KL 0] 132)) I
     have ea:g6<(X.alloc (.cells #[KL 0,KL 0] 132)).heap.size:=by rw [JS];omega
     refine HA.v 7 (X.alloc (.cells #[KL 0,KL 0] 132)) (.agg #[KL (lo:Nat),KL (B:Nat)]) (C.alloc C.size _) ?_
     refine HA.st 9 (JE X _) fF (fun N Z k7=>?_)
     have O:=C.trans ((aB k7).mono C.size)
     refine ⟨O,HA.d ?_⟩
     have HF:=aa (JL Z O);clear Z k7 O C U q4 k5 k6 L c0 I a2 ea a3 x2 aG ab ad
     go_wp2_with fail
     go_meet
     exact ⟨_,rfl,HF.out⟩
    refine HAS.v X (.agg #[KL (lo:Nat),KL (B:Nat)]) C ?_
    refine HA.v 8 (X.alloc (.cells #[KL 0,KL 0] 132)) (.pointer (some ⟨X.heap.size,0,none⟩)) (C.alloc C.size _) ?_
    refine HA.st 9 (JE X _) fF (fun N Z k7=>?_)
    have O:=C.trans ((aB k7).mono C.size)
    refine ⟨O,HA.d ?_⟩
    have HF:=aa (JL Z O);clear Z k7 O C U q4 k5 k6 L c0 I a2 a3 x2 aG ab ad
    go_wp2_with fail
    go_meet
    exact ⟨_,rfl,HF.out⟩
   ·skip
    refine HAS.v (w5.alloc (.cells #[KL 0,KL 0] 132)) (.pointer (some ⟨w5.heap.size,0,none⟩)) (U.alloc U.size _) ?_
    have gA:=JE w5 (.cells #[KL 0,KL 0] 132)
    have qa:=U.alloc U.size (.cells #[KL 0,KL 0] 132)
    have jA:Q.heap.size≤w5.heap.size:=U.size
    obtain ⟨jj,a7⟩:∃jj,w5.heap.size=jj:=⟨_,rfl⟩
    obtain ⟨wa,av⟩:∃wa,w5.alloc (.cells #[KL 0,KL 0] 132)=wa:=⟨_,rfl⟩
    rw [av] at gA qa ⊢
    rw [a7] at gA jA ⊢
    clear av a7
    refine HA.c 3 (a8.out _) ?_
    rintro e X ⟨v6,rfl,L,k6⟩
    have C:=qa.trans (k6.mono qa.size)
    obtain ⟨g6,cv,rfl,_⟩:=L.form (by omega)
    have a3:=L.1
    have c0:=L.cellAt (bn*2) (by omega)
    have I:=L.cellAt (bn*2+1) (by omega)
    rw [a4.out.1] at c0
    rw [a4.out.2] at I
    refine ⟨_,rfl,C,fun _=>?_⟩
    refine HA.t ?_ [6] C ?_
    have a2:=(L.lt g6 rfl).2
    refine HA.v 7 X (.agg #[KL (lo:Nat),KL (B:Nat)]) C ?_
    refine HA.st 9 (sb gA _ k6) fF (fun N Z k7=>?_)
    have O:=C.trans (k7.toBelow C.size (fun j hj=>by have e':j=jj:=hj;omega))
    refine ⟨O,HA.d ?_⟩
    have HF:=aa (JL Z O);clear Z k7 O C U q4 qa gA jA k5 k6 L c0 I a2 a3 x2 aG ab ad
    go_wp2_with fail
    go_meet
    exact ⟨_,rfl,HF.out⟩
  ·skip
   refine HAS.v (Q.drew.alloc (.cells #[KL 0,KL 0] 132)) (.pointer (some ⟨Q.drew.heap.size,0,none⟩)) (q4.alloc q4.size _) ?_
   have gA:=JE Q.drew (.cells #[KL 0,KL 0] 132)
   have qa:=q4.alloc q4.size (.cells #[KL 0,KL 0] 132)
   have jA:Q.heap.size≤Q.drew.heap.size:=q4.size
   obtain ⟨jj,a7⟩:∃jj,Q.drew.heap.size=jj:=⟨_,rfl⟩
   obtain ⟨wa,av⟩:∃wa,Q.drew.alloc (.cells #[KL 0,KL 0] 132)=wa:=⟨_,rfl⟩
   rw [av] at gA qa ⊢
   rw [a7] at gA jA ⊢
   clear av a7
   refine HA.c 2 (ao.out _) ?_
   rintro e w5 ⟨rfl,k5⟩
   have U:=qa.trans (k5.mono qa.size)
   refine ⟨_,rfl,U,fun _=>?_⟩
   refine HA.c 3 (a8.out _) ?_
   rintro e X ⟨v6,rfl,L,k6⟩
   have C:=U.trans (k6.mono U.size)
   obtain ⟨g6,cv,rfl,_⟩:=L.form (by omega)
   have a3:=L.1
   have c0:=L.cellAt (bn*2) (by omega)
   have I:=L.cellAt (bn*2+1) (by omega)
   rw [a4.out.1] at c0
   rw [a4.out.2] at I
   refine ⟨_,rfl,C,fun _=>?_⟩
   refine HA.t ?_ [6] C ?_
   have a2:=(L.lt g6 rfl).2
   refine HA.v 7 X (.agg #[KL (lo:Nat),KL (B:Nat)]) C ?_
   refine HA.st 9 (sb (sb gA _ k5) _ k6) fF (fun N Z k7=>?_)
   have O:=C.trans (k7.toBelow C.size (fun j hj=>by have e':j=jj:=hj;omega))
   refine ⟨O,HA.d ?_⟩
   have HF:=aa (JL Z O);clear Z k7 O C U q4 qa gA jA k5 k6 L c0 I a2 a3 x2 aG ab ad
   go_wp2_with fail
   go_meet
   exact ⟨_,rfl,HF.out⟩
 case rest=>
 obtain ⟨J,rfl,Z,O⟩:=hcut
 obtain ⟨N,rfl⟩:∃N,N=wc:=⟨_,rfl⟩
 obtain ⟨E7,Q7⟩:=ae Z O;clear Z O q4 x2 aG ab ad
 go_upto_region 24 with (fail)
 have b7:=aa (sb bU.out _ Q7.out)
 have q8:=(br N).drew
 have eS:B≤gc:=by have:=H.hG.hc;have:=H.Gl;have:=aP.out;omega
 obtain ⟨gb,go,rfl, -⟩:=H.hG.hr.num (show 0<m.G.length by have:=H.Gl;have:=bX.out;have:=aP.out;omega)
 have eb:∀p,Below N.heap.size N p→p.cell? ⟨w.heap.size,18,none⟩=some (.slice (some ⟨gb,go,none⟩) i.start.length gc):=fun p q=>JF p _ 18 _ _ _ (sb b7.out p q)
 have y0:∀p,Below N.heap.size N p→p.cell? ⟨J,0,none⟩=some (KL (lo:Nat)):=fun p q=>JF p _ 0 _ _ _ (sb E7.out p q)
 have y1:∀p,Below N.heap.size N p→p.cell? ⟨J,1,none⟩=some (KL (B:Nat)):=fun p q=>JF p _ 1 _ _ _ (sb E7.out p q)
 have cA:=bX.out
 have eX:(lo:Int)≤B:=by omega
 have eV:(B:Int)≤gc:=by omega
 have eB:lo≤B:=by omega
 have eG:¬gc=lo:=by omega
 have b6:Below w.heap.size w N:=bV.out.trans (Q7.out.mono bV.out.size)
 have b8:((m.G.drop lo).take (B-lo)).length=B-lo:=by have:=H.Gl;have:=aP.out;rw [Kk,Kn];omega
 have c6:=fun p (q:Below N.heap.size N p)=>by
  have be:Below w.heap.size w p:=b6.trans (q.mono b6.size)
  have dk:Rd p (some ⟨gb,go+lo,none⟩) (aq .i64 ((m.G.drop lo).take (B-lo))):=by
   have:=((H.hG.hr.below be).drop lo).take (B-lo)
   rwa [cV,cK] at this
  exact yn i.cfg.rate i.cfg.mom i.cfg.shift PA MA (some ⟨gb,go+lo,none⟩) m.P m.M ((m.G.drop lo).take (B-lo)) i.start.length pc mc (gc-lo) lo B (B-lo) p (H.hP.hr.below be) (H.hM.hr.below be) dk H.Pl H.Ml b8 (by omega) (by omega) (by have:=H.s'.n;omega) aP.out (by have:=H.hP.hc;have:=H.Pl;omega) (by have:=H.hM.hc;have:=H.Ml;omega) H.hM.hw H.hI.ra H.hI.rm
 have cb:=fun p=>DB A c i.cfg p
 obtain ⟨e6,dp,eM⟩:=af c6 cb b6;clear c6 b8 b6 cA cb
 refine XA.g 19 (fun p:World=>Below N.heap.size N p) ?_
 refine XA.t ?_ [0,1,4,7,8,9,10,11,12,13] q8 ?_
 refine XA.ld 2 #[.slice A i.cfg.sizes.length c,KL i.cfg.shift,KL i.cfg.rate,KL i.cfg.mom,KL i.cfg.workers,KL i.cfg.batch,KL i.cfg.micros,KL i.cfg.steps,KL i.cfg.bucket,KL i.cfg.chunk,KL i.cfg.window,KL i.cfg.cap] (fun p q=>sb b7.out p q) xH q8 ?_
 refine XA.ld 5 #[.slice PA i.start.length pc,.slice MA i.start.length mc] (fun p q=>sb b7.out p q) jI q8 ?_
 refine XA.ld 6 #[KL (lo:Nat),KL (B:Nat)] (fun p q=>sb E7.out p q) fF q8 ?_
 refine XA.c 3 (dp.out _) ?_
 rintro e w8 ⟨rfl,k8⟩
 have q9:=q8.trans (k8.mono q8.size)
 refine ⟨_,rfl,q9,fun _=>?_⟩
 refine XA.c 14 (e6.out w8 q9) ?_
 rintro e w9 ⟨A9,c9,B9,d9,rfl,bM,cy,o9,p9,k9⟩
 have a5:=q9.trans (k9.mono q9.size)
 refine ⟨_,rfl,a5,fun _=>?_⟩
 refine XA.t0 ?_ [15,16,17] a5 ?_
 refine XA.t ?_ [18] a5 ?_
 refine XA.e ?_
 simp only [Kc,Ke]
 have Y:=sb b7.out _ a5
 have da:=JF w9 w.heap.size 16 _ _ _ Y
 have e5:=JF w9 w.heap.size 17 _ _ _ Y
 have d4:=JM w9 w.heap.size 16 _ _ Y
 have d7:=JM w9 w.heap.size 17 _ _ Y
 have ey:=JC Y
 obtain ⟨ei,d0,O9,P9,d5,eo,L8⟩:=aj Y a5 o9 p9 bM cy q9.size;clear Y a5 q9 q8 o9 p9 k9 k8 bM cy eb y0 y1
 go_upto_region 28 with (fail)
 have a1:=ss2 (i:=16) (j:=17) (v:=.slice A9 i.start.length c9) (u:=.slice B9 i.start.length d9) ei.out rfl
 have kk:Keep (fun k=>k=w.heap.size) w9 ((w9.setCell ⟨w.heap.size,16,none⟩ (.slice A9 i.start.length c9)).setCell ⟨w.heap.size,17,none⟩ (.slice B9 i.start.length d9)):=Keep.setCell (S:=fun k=>k=w.heap.size) (Keep.setCell (S:=fun k=>k=w.heap.size) (Keep.refl _ _) _ (.inr rfl) _) _ (.inr rfl) _
 obtain ⟨V,hV⟩:∃V,(w9.setCell ⟨w.heap.size,16,none⟩ (.slice A9 i.start.length c9)).setCell ⟨w.heap.size,17,none⟩ (.slice B9 i.start.length d9)=V:=⟨_,rfl⟩
 rw [hV] at a1 kk ⊢
 have aM:=bt aR.out (bt Q7.out d0.out)
 have hb:=fun {b:Nat} {o:Obj} (h:W0.heap[b]?=some o) (h1:b≠w.heap.size)=>(kk.block b (JC (sb h _ aM)) h1).trans (sb h _ aM)
 have bA:=hb (H.bx _ (br W0)).2.1 (by omega)
 have cs:=hb (H.bx _ (br W0)).2.2.1 (by omega)
 have bw:=hb (H.bx _ (br W0)).2.2.2.1 (by omega)
 have cj:=hb (H.bx _ (br W0)).2.2.2.2.1 (by omega)
 have cx:=hb (H.bx _ (br W0)).2.2.2.2.2 (by omega)
 have bd:=H.K.trans (aM.mono H.K.size)
 have cl:=bd.trans (kk.toBelow bd.size (fun j hj=>Nat.le_of_eq (Eq.symm hj)))
 have eU:=JC (H.bx _ (br W0)).2.2.2.2.2
 have l8:w.heap.size+6≤w8.heap.size:=by have:=L8.out;have:=Q7.out.size;have:=aR.out.size;omega
 obtain ⟨cf,c8⟩:=ae (kk.own (ax O9.out l8) (fun j hj e=>by have h1:=(O9.out.lt j hj).1;have h2:j=w.heap.size:=e;omega)) (kk.own (ax P9.out l8) (fun j hj e=>by have h1:=(P9.out.lt j hj).1;have h2:j=w.heap.size:=e;omega));clear hV da e5 d4 d7 ey kk hb bd aM l8
 have dv:=JF V w.heap.size 21 _ _ _ a1
 have cO:=JM V w.heap.size 21 _ _ a1
 have lM:=JC a1
 have dT:=H.wd
 have e9:=ss (i:=21) (v:=KL ((dn:Int)+1)) a1 rfl
 have k9:Keep (fun k=>k=w.heap.size) V (V.setCell ⟨w.heap.size,21,none⟩ (KL ((dn:Int)+1))):=Keep.setCell (S:=fun k=>k=w.heap.size) (Keep.refl _ _) _ (.inr rfl) _
 obtain ⟨E9,K9,dc,ds,ej,e1,d6,es⟩:=ak e9 k9 bA cs bw cj cx cl;clear e9 k9 bA cs bw cj cx cl a1
 go_upto_region 29 with (fail)
 obtain ⟨V9,bs⟩:∃V9,V.setCell ⟨w.heap.size,21,none⟩ (KL ((dn:Int)+1))=V9:=⟨_,rfl⟩
 rw [bs] at E9 K9 ⊢
 clear bs dv cO lM dT
 obtain ⟨b1,b2,b3,b4,b5⟩:=ta K9.out dc.out ds.out ej.out e1.out d6.out
 have hq:Below V9.heap.size V9 V9.drew:=(br V9).drew
 refine HA.g (KB3 w.heap.size V9) ?_
 refine HA.ld3 (vs:=#[.slice A i.cfg.sizes.length c,KL i.cfg.shift,KL i.cfg.rate,KL i.cfg.mom,KL i.cfg.workers,KL i.cfg.batch,KL i.cfg.micros,KL i.cfg.steps,KL i.cfg.bucket,KL i.cfg.chunk,KL i.cfg.window,KL i.cfg.cap,.slice D i.data.length cd,.slice T i.start.length ct,.slice R i.draws.length cr,KL (x:Nat),.slice A9 i.start.length c9,.slice B9 i.start.length d9,.slice (some ⟨gb,go,none⟩) i.start.length gc,.slice SA m.rc.length sc,.slice (some ⟨bI,oI,none⟩) il ic,KL (dn+1)]) E9.out b1 b2 cI aS aS (Keep.below hq) ?_
 refine HA.st3 3 4 5 b3 b4 b5 cI aS aS hq (fun w8 r3 r4 e8 q8=>?_)
 refine HA.t ?_ [6] q8 ?_
 refine HA.d ?_
 obtain ⟨R3,R4,R5⟩:=af r3 r4 e8
 have F:=jx K9.out q8 es.out
 obtain ⟨bi,QW⟩:=ae F.1 F.2;clear b1 b2 b3 b4 b5 e8 q8 r3 r4 hq F
 go_wp2_with fail
 refine JQ (fp rfl rfl rfl rfl R3.out R4.out R5.out cI aS aS) rfl ?_
 have b9:∀j,w.heap.size+6≤j→¬(w.heap.size≤j∧j<w.heap.size+6):=fun j h1 h2=>by omega
 have ef:=bi.out.own cf.out (fun j hj=>b9 j (cf.out.lt j hj).1)
 have ee:=bi.out.own c8.out (fun j hj=>b9 j (c8.out.lt j hj).1)
 have bz:∀k,S k→k<w.heap.size+6:=fun k hk=>by have:=H.S' k hk;omega
 have ez:=H.s'.n
 have lP:=mh i.cfg.rate i.cfg.mom i.cfg.shift m.P m.M ((m.G.drop lo).take (B-lo)) lo (B-lo)
 have lM:=mj i.cfg.mom i.cfg.shift m.M ((m.G.drop lo).take (B-lo)) lo (B-lo)
 have d2:bD (ay S w8) A9 (apP i.cfg.rate i.cfg.mom i.cfg.shift m.P m.M ((m.G.drop lo).take (B-lo)) lo (B-lo)) c9:=⟨by have:=d5.out;have:=H.Pl;omega,by have:=H.Pl;omega,fM ef bz,Au H.hP.hw⟩
 have dG:bD (ay S w8) B9 (apM i.cfg.mom i.cfg.shift m.M ((m.G.drop lo).take (B-lo)) lo (B-lo)) d9:=⟨by have:=eo.out;have:=H.Ml;omega,by have:=H.Ml;omega,fM ee bz,uD H.hM.hw⟩
 have hX:Ext (ay S w) (ay S w8):=cu (Keep.below QW.out) (fun _ _ h=>h)
 obtain ⟨bl,c7,ci,bO⟩:=H1.out
 exact ⟨_,_,_,rfl,rfl,rfl,⟨A,c,D,cd,T,ct,R,cr,A9,c9,B9,d9,some ⟨gb,go,none⟩,gc,SA,sc,some ⟨bI,oI,none⟩,ic,by rw [H.il',d1.out,bO];push_cast;rfl,fJ H.I0 hX,by rw [bl];exact d2,by rw [c7];exact dG,by rw [ci];exact aX H.G0 hX,by rw [bO];exact dJ bW H.R0 hX,aU H.It0 hX,by rw [bl];exact (lP.trans H.Pl),by rw [c7];exact (lM.trans H.Ml),by rw [ci];exact H.Gl⟩,⟨B1,c1,rfl,bK H.s0 hX,H.s2⟩,⟨B2,c2,rfl,bK H.t0 hX,H.t2⟩,QW.out⟩
theorem j1.pushed {l:List Int} {n B k:Nat} {v:Value} {vs:List Value} {w i:World} {e size m base:Nat} {u:Value} {xs:List Value} (h:j1 l n B k v vs w) (hv:w.ownsRow base e size u m xs) (hg:w.grownBy i u.ownBlock) (h1:e≠22) (y:e≠3):j1 l n B k v vs i:=
 ⟨fh h.1 hv hg h1,fun j x=>by obtain ⟨C,A,o,p,q⟩:=h.2 j x;exact ⟨C,A,o,p,fh q hv hg y⟩⟩
end Go.Proofs.YtaccfnffmbndhaaGreat
