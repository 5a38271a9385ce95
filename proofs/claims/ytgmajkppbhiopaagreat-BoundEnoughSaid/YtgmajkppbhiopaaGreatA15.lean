/- No condition. -/
import Derived.Test.YtgmajkppbhiopaaGreatA00
import Derived.Test.YtgmajkppbhiopaaGreatA11
import Derived.Test.YtgmajkppbhiopaaGreatA07
import Derived.Test.YtgmajkppbhiopaaGreatA14
import Derived.WalkMore
import Derived.Deep.LoopGhost
import Derived.Test.YtgmajkppbhiopaaGreatA01
import Derived.Test.YtgmajkppbhiopaaGreatA03
import Derived.Test.YtgmajkppbhiopaaGreatA06
import Derived.Deep.DeepCutAuto
import Derived.Test.YtgmajkppbhiopaaGreatA10
set_option linter.unusedSimpArgs false
set_option linter.unusedVariables false
set_option maxRecDepth 100000
set_option maxHeartbeats 4000000
namespace Go.Proofs.YtgmajkppbhiopaaGreat
open Go.RowKit
def Eu (sz ps:List Int) (q:Int) (x y:List Int) (G:Nat) (k:Nat) (D:Value) (i h w:World):Prop:=
 ∃A c o,D=.slice A (szN sz (k+1)) c∧w.ownsRow i.heap.size 2 1 (.slice A (szN sz (k+1)) c) (szN sz (k+1)) (ar .i64 (jD sz ps q x y (sz.length-2-k)))∧
  w.heap[G]?=some (.cells (ar .i64 o).toArray 2 (0,0))∧o.length=aZ sz (sz.length-1)∧o.drop (aZ sz (k+1))=ky sz ps q x y (sz.length-2-k)∧(∀a,A=some a→a.block≠G)∧Below h.heap.size h w
theorem zJ:dt Tryz.prog 148 2:=⟨⟨_,Tryz.underlying148,rfl⟩,by kernel_rfl⟩
theorem Dc (b:Nat) (sz ps:List Int) (q:Int) (A B:Option Addr) (x y:List Int) (c d:Nat) (w:World) (h:jc 212 352 w b sz ps q) (hg:cO sz) (wp:W64 ps) (hA:Rd w A (ar .i64 x)) (hx:x.length=szN sz 0) (wx:W64 x) (hB:Rd w B (ar .i64 y)) (hy:y.length=szN sz (sz.length-1)):
  Calls Tryz.prog 233 #[.pointer (some ⟨b,0,none⟩),.slice A x.length c,.slice B y.length d] w fun e u=>∃A' c',e=.returned (.tuple #[.slice A' (aZ sz (sz.length-1)) c',.bool true])∧u.ownsRow w.heap.size 2 1 (.slice A' (aZ sz (sz.length-1)) c') (aZ sz (sz.length-1)) (ar .i64 (jH sz ps q x y))∧Below w.heap.size w u:=by
 have hm:=CZ b sz ps q A B x y c d w h hg wp hA hx wx hB hy
 have f0:=h.lt
 obtain ⟨S,Ap,cp,Al,cl,rows,h0,h1,h2,h3,h4,h5,h6⟩:=h
 have cs:=fun u (k:Below w.heap.size w u)=>gO S sz u (h1.below k)
 have da:=fun u (k:Below w.heap.size w u)=>gN S sz u (h1.below k)
 have e5:=fun j u (k:Below w.heap.size w u)=>jF S sz j u (h1.below k) (by have:=hg.1.1.2;omega)
 have dw:=fun j u (k:Below w.heap.size w u)=>kf S sz j u (h1.below k) (by have:=hg.1.1.2;omega)
 have fi:=hg.2
 have eb:jH sz ps q x y=ky sz ps q x y (sz.length-1):=rfl
 obtain ⟨n,hn⟩:∃n,sz.length-1=n:=⟨_,rfl⟩
 obtain ⟨N,hN⟩:∃N,aZ sz n=N:=⟨_,rfl⟩
 have gv:lX (eC sz ps q x n) y=jD sz ps q x y 0:=by show _=lX _ _;rw [hn]
 rw [hn] at h0 da e5 dw h4 h6 cs fi eb hm hy ⊢
 rw [hN] at cs fi ⊢
 rw [gv] at hm
 have kG:1≤n∧n≤15:=by have:=hg.1.1;omega
 obtain ⟨Hm,i7,hD,hV,ih,H0,H3,H4⟩:=aj hm cs da e5 dw h0 h3 h4;obtain ⟨H5,H6,HG,WP,Hx,WX,Hy,Hn⟩:=aj h5 h6 hg wp hx wx hy hn;obtain ⟨HN,hG⟩:=ab hN eb;clear hm cs da e5 dw h0 h1 h2 h3 h4 h5 h6 hg wp hA hx wx hB hy hn hN eb gv
 go_enter Tryz.func233,Tryz.ntmps233
 go_wp2_with fail
 go_step3
 go_wp2_with fail
 refine Hm.out.mono ?_
 rintro e Q ⟨A',c',D,dc,vals,rfl,hr,f3,hc,ho,hb⟩
 have ci:=(hb.block b f0).trans H0.out
 obtain ⟨⟨r0,r1,r2,r3⟩,rf⟩:=bx4 ci
 have h9:b<Q.heap.size:=EL ci
 have b6:=hb.size
 obtain ⟨Hr,hs,Hc,Ho,Hb,go⟩:=ah hr f3 hc ho hb ci;clear hr f3 hc ho hb ci
 go_wp2_with fail
 refine (i7.out _ Hb.out).mono ?_
 rintro e u ⟨rfl,rfl⟩
 have eY:(8:Nat)*N≤281474976710656:=by omega
 have k6:=aa eY;clear eY
 go_wp2_with (at_make;refine oQ iV _ rfl (.tmp 31) (.tmp 31) rfl rfl N rfl rfl k6.out (by unfold maxLen;omega) ?_)
 intro w2 h8 ea
 have cq:=Ax h8
 rw [gj] at cq
 have cj:=(ea.block b h9).trans go.out
 clear r0 r1 r2 r3 rf
 obtain ⟨⟨r0,r1,r2,r3⟩,rf⟩:=bx4 cj
 have kk:=EL cj
 have kP:=EL cq
 obtain ⟨ee,k3,kB⟩:=ae ea cq cj;clear h8 ea cq cj
 have d5:(n:Int)-1=((n-1:Nat):Int):=by omega
 have gU:IntKind.i64.wrap ((n:Int)-1)=((n-1:Nat):Int):=by rw [ER _ (by omega)];omega
 rw [d5] at gU
 go_wp2_with fail
 go_step3
 go_wp2_with fail
 refine (hD.out _ (Hb.out.trans (ee.out.mono b6))).mono ?_
 rintro e u ⟨rfl,rfl⟩
 go_wp2_with fail
 clear gU d5 r0 r1 r2 r3 rf
 go_loopw [9,12] (fun v i wr=>∃k:Nat,k≤n-1∧i=FQ k∧Eu sz ps q x y Q.heap.size k v w Q wr) (fun _ i _=>(intOf i).toNat)
 case atStart=>
  have f4:sz.length-2-(n-1)=0:=by have:=Hn.out;omega
  have ef:n-1+1=n:=by omega
  refine ⟨n-1,EM _,rfl,D,dc,List.replicate N 0,?_,?_,k3.out,?_,?_,?_,ee.out⟩
  ·rw [ef,←Hy.out]
  ·rw [f4,ef,←Hy.out];exact aq Ho.out ee.out
  ·rw [Hn.out,HN.out];simp
  ·rw [f4,ef,HN.out];simp [ky]
  ·intro a ha e
   have:=(Ho.out.lt a.block (by rw [ha];rfl)).2
   omega
 case round=>
  obtain ⟨k,hk,rfl,A9,c9,o,rfl,ho,eM,bn,gp,gf,hW⟩:=hrel
  have cw:=(hW.block b h9).trans go.out
  obtain ⟨⟨r0,r1,r2,r3⟩,rf⟩:=bx4 cw
  have gs:Below w.heap.size w wr:=Hb.out.trans (hW.mono b6)
  have hL:b<wr.heap.size:=EL cw
  obtain ⟨dn,ia,c7,k4,hf,fr,HW,bA⟩:=aj cw ho eM bn gp gf hW gs;clear cw ho eM bn gp gf hW gs
  have gT:=hV.out k
  have bd:=ih.out k
  obtain ⟨j2,k5⟩:=ab gT bd;clear gT bd
  go_wp2_with fail
  go_cut [13,14] (fun v1 v2 wx=>∃M1 M2,v1=.pointer (some ⟨M1,0,none⟩)∧v2=.pointer (some ⟨M2,0,none⟩)∧wx.heap[M1]?=some (.cells #[FQ (aZ sz k:Int),FQ (cX sz k:Int)] 148 (0,0))∧wx.heap[M2]?=some (.cells #[FQ (cX sz k:Int),FQ (aZ sz (k+1):Int)] 148 (0,0))∧wr.heap.size≤M1∧wr.heap.size≤M2∧Below wr.heap.size wr wx)
  case first=>
   have t0:∀u,Below wr.heap.size wr u→u.cell? ⟨b,0,none⟩=some (.pointer (some ⟨S,0,none⟩)):=fun u k=>EO u b 0 _ _ _ (sb dn.out u k)
   have tl:=sl dn.out
   have q:Below wr.heap.size wr wr.drew:=(br wr).drew
   clear r0 r1 r2 r3 rf
   refine HA.g (fun u:World=>Below wr.heap.size wr u) ?_
   refine HA.t ?_ [0,1,2,3,4,6,7,8,9,10] q ?_
   obtain ⟨U,hU⟩:∃U,wr.drew=U:=⟨_,rfl⟩
   rw [hU] at q ⊢
   clear hU
   repeat' first
    | (refine HA.three 5 12 13 ?_ ?_ ?_)
    | (refine HA.three 11 12 13 ?_ ?_ ?_)
    | (refine HA.two 5 12 ?_ ?_)
    | (refine HA.two 5 13 ?_ ?_)
    | (refine HA.two 11 12 ?_ ?_)
    | (refine HA.two 11 13 ?_ ?_)
    | (refine HA.two 12 13 ?_ ?_)
    | (refine HA.sole 5 ?_)
    | (refine HA.sole 11 ?_)
    | (refine HA.sole 12 ?_)
    | (refine HA.sole 13 ?_)
    | (refine HAS.c (i:=5) (j2.out U (bA.out.trans (q.mono bA.out.size)) (by omega)) ?_;rintro e V ⟨rfl,kV⟩;(try replace gA:=sb gA _ kV);(try replace gB:=sb gB _ kV);replace q:=q.trans (kV.mono q.size);refine ⟨_,rfl,q,fun _=>?_⟩;clear kV;obtain ⟨U,rfl⟩:∃U,U=V:=⟨_,rfl⟩)
    | (refine HAS.c (i:=11) (k5.out U (bA.out.trans (q.mono bA.out.size)) (by omega)) ?_;rintro e V ⟨rfl,kV⟩;(try replace gA:=sb gA _ kV);(try replace gB:=sb gB _ kV);replace q:=q.trans (kV.mono q.size);refine ⟨_,rfl,q,fun _=>?_⟩;clear kV;obtain ⟨U,rfl⟩:∃U,U=V:=⟨_,rfl⟩)
    | (have hA:=q.size;have bV:=(br U).alloc (EM _) (.cells #[FQ 0,FQ 0] 148);have gA:=EN U (.cells #[FQ 0,FQ 0] 148);(try have nB:=EL gB);(try replace gB:=sb gB _ bV);replace q:=q.alloc q.size (.cells #[FQ 0,FQ 0] 148);refine HAS.v (i:=12) (U.alloc (.cells #[FQ 0,FQ 0] 148)) (.pointer (some ⟨U.heap.size,0,none⟩)) q ?_;obtain ⟨V,hv⟩:∃V,U.alloc (.cells #[FQ 0,FQ 0] 148)=V:=⟨_,rfl⟩;rw [hv] at gA q ⊢;(try rw [hv] at gB);clear hv bV;obtain ⟨mm,hm⟩:∃mm,U.heap.size=mm:=⟨_,rfl⟩;rw [hm] at gA hA ⊢;(try rw [hm] at nB);clear hm;obtain ⟨U,rfl⟩:∃U,U=V:=⟨_,rfl⟩)
    | (have hB:=q.size;have bV:=(br U).alloc (EM _) (.cells #[FQ 0,FQ 0] 148);have gB:=EN U (.cells #[FQ 0,FQ 0] 148);(try have nA:=EL gA);(try replace gA:=sb gA _ bV);replace q:=q.alloc q.size (.cells #[FQ 0,FQ 0] 148);refine HAS.v (i:=13) (U.alloc (.cells #[FQ 0,FQ 0] 148)) (.pointer (some ⟨U.heap.size,0,none⟩)) q ?_;obtain ⟨V,hv⟩:∃V,U.alloc (.cells #[FQ 0,FQ 0] 148)=V:=⟨_,rfl⟩;rw [hv] at gB q ⊢;(try rw [hv] at gA);clear hv bV;obtain ⟨mm,hm⟩:∃mm,U.heap.size=mm:=⟨_,rfl⟩;rw [hm] at gB hB ⊢;(try rw [hm] at nA);clear hm;obtain ⟨U,rfl⟩:∃U,U=V:=⟨_,rfl⟩)
    | (refine HA.st 14 gA zJ (fun w8 e8 k8=>?_);refine ⟨Ce q k8 q.size hA,?_⟩;refine HA.st 15 ((k8.block _ (EL gB) (by omega)).trans gB) zJ (fun w9 e9 k9=>?_);have F:=CK (w:=wr) (by omega) hA hB q e8 k8 e9 k9;refine ⟨F.2.2.2.2.2,HA.d ?_⟩;have HF:=aa F;clear F e8 k8 e9 k9 t0 tl gA gB q;go_wp2_with fail;go_meet;exact ⟨_,_,rfl,rfl,HF.out.1,HF.out.2.1,HF.out.2.2.2⟩)
  case rest=>
   obtain ⟨M1,M2,rfl,rfl,b2,bO,l5,l0,hB⟩:=hcut
   have hR:=HG.out.1
   have gG:=Hn.out
   have gz:k+1<sz.length:=by omega
   have z0:=hR.at (k:=k) (by omega)
   have z1:=hR.at gz
   have d4:=HG.out.mul gz
   have eX:1≤szN sz (k+1)*szN sz k:=Nat.mul_pos z1.1 z0.1
   have a2:cX sz k=aZ sz k+szN sz (k+1)*szN sz k:=rfl
   have Z:=fl sz k
   have a0:=fg sz (show k+1≤n by omega)
   have gX:=HN.out
   have dv:sz.length-2-k=n-1-k:=by omega
   have a8:=sH (sz:=sz) (ps:=ps) (q:=q) (x:=x) (y:=y) Hx.out (n-1-k)
   rw [show sz.length-1-(n-1-k)=k+1 by omega] at a8
   have c6:=BG sz ps q x y (n-1-k)
   have a7:=jd (sz:=sz) (ps:=ps) (q:=q) Hx.out k
   have cx:=qT (sz:=sz) (ps:=ps) (q:=q) WX.out k
   obtain ⟨Ak,ck,cn,hz,cr⟩:=hs.out.2 k (by omega)
   rw [a7] at cn
   obtain ⟨bo,oo,rfl,pv⟩:=Hr.out _ _ cn
   have j1:bo<Q.heap.size:=au pv
   have cb:Below Q.heap.size Q wc:=HW.out.trans (hB.mono HW.out.size)
   have dr:=(cb.cell (p:=⟨bo,oo+k,none⟩) j1).trans pv
   have bX:=(hB.block b hL).trans dn.out
   have ec:=(hB.block Q.heap.size (EL c7.out)).trans c7.out
   have b0:=aq ia.out hB
   rw [dv] at b0
   have bM:=cr.below cb
   obtain ⟨lo,dk⟩:∃lo,aZ sz k=lo:=⟨_,rfl⟩
   obtain ⟨r,hr⟩:∃r,szN sz (k+1)=r:=⟨_,rfl⟩
   obtain ⟨c0,b8⟩:∃c0,szN sz k=c0:=⟨_,rfl⟩
   obtain ⟨H,Y⟩:∃H,r*c0=H:=⟨_,rfl⟩
   rw [←Z,a2] at bO
   rw [a2] at b2
   rw [←Z,a2] at a0
   rw [dk,hr,b8,Y] at b2 bO a0
   rw [hr] at a8 z1 b0
   rw [b8] at a7 z0 dr
   rw [hr,b8,Y] at eX d4
   rw [hr]
   obtain ⟨ev,es⟩:∃ev,jD sz ps q x y (n-1-k)=ev:=⟨_,rfl⟩
   obtain ⟨vv,ds⟩:∃vv,eC sz ps q x k=vv:=⟨_,rfl⟩
   rw [es] at a8 c6 b0
   rw [ds] at a7 cx bM cr
   have hT:=aa cr
   have cd:=fun W (h:Below wc.heap.size wc W)=>xI r c0 A9 Ak ev vv c9 ck q W ⟨z1.1,z1.2.1⟩ ⟨z0.1,z0.2.1⟩ (by rw [Y];exact d4) ((Rd.own b0).below h) c6 a8 (bM.below h) a7 cx
   rw [Y] at cd
   have dp:(iP r c0 ev vv q).length=H:=by rw [uj,Y]
   obtain ⟨ow,e7⟩:∃ow,iP r c0 ev vv q=ow:=⟨_,rfl⟩
   rw [e7] at cd dp
   obtain ⟨⟨m0,m1⟩,mf⟩:=bx2 b2
   obtain ⟨⟨n0,n1,n2,n3⟩,nf⟩:=bx4 bX
   have l2:=EL b2
   have k2:Q.heap.size<wc.heap.size:=EL ec
   have kx:b<wc.heap.size:=EL bX
   have kb:bo<wc.heap.size:=by omega
   have d3:M1≠Q.heap.size:=by have:=HW.out.size;have:=EL c7.out;omega
   have gy:M2≠Q.heap.size:=by have:=HW.out.size;have:=EL c7.out;omega
   have bn:o.length=N:=by rw [k4.out,gG,gX]
   have i0:lo+H+r≤N:=by omega
   have kn:k<sz.length:=by omega
   have l6:¬(N=lo):=by omega
   have l9:lo+H≤N:=by omega
   have l3:(lo:Int)+H≤N:=by omega
   have l4:((lo:Int)+H).toNat=lo+H:=by omega
   have ld:(0:Int)≤(lo:Int)+H:=by omega
   have l7:(lo:Int)≤(lo:Int)+H:=by omega
   obtain ⟨lg,bN,lb,hu,i8,k0,b3,hM⟩:=aj b2 bO bX ec b0 cd dp e7;obtain ⟨f9,g6,ga,a6,R,cc,i6,HB⟩:=aj es ds dk hr b8 Y cb hB;obtain ⟨O,kN,hI,WV,a5,hS,i5,kt⟩:=aj bn bM a7 cx a8 c6 dv cn;clear b2 bO bX ec b0 cd dp e7 es ds dk hr b8 Y cb hB bn bM a7 cx a8 c6 dv cn hz cr pv a2 Z a0 gX gG n0 n1 n3 nf mf
   go_wp2_with fail
   have C:(fun u:World=>u.cell? ⟨M1,0,none⟩=some (FQ lo)∧u.cell? ⟨M1,1,none⟩=some (FQ ((lo:Int)+H))∧u.cell? ⟨bo,oo+k,none⟩=some (.slice Ak c0 ck)∧u.cell? ⟨b,2,none⟩=some (FQ q)) wc.drew:=⟨m0,m1,dr,n2⟩
   refine HA.g (fun u:World=>u.cell? ⟨M1,0,none⟩=some (FQ lo)∧u.cell? ⟨M1,1,none⟩=some (FQ ((lo:Int)+H))∧u.cell? ⟨bo,oo+k,none⟩=some (.slice Ak c0 ck)∧u.cell? ⟨b,2,none⟩=some (FQ q)) ?_
   refine HA.t ?_ [0,1,2,3,4,5,6,7,8,9,10,11,12,13,14] C ?_
   refine HA.o 15 (fun K hK=>?_)
   go_simp
   refine (k0.out _ ((EP wc.heap.size wc).drew)).mono ?_
   rintro e w5 ⟨A5,rfl,bz,ad⟩
   have fc:=EU (am ad C.1) (EU (am ad C.2.1) (EU (am ad C.2.2.1) (am ad C.2.2.2)))
   have b4:Below wc.heap.size wc w5:=(EP wc.heap.size wc).drew.trans ad
   have gg:=(b4.block _ k2).trans hu.out
   have bz:=Rd.own bz
   obtain ⟨he,i3,b1⟩:=ae gg bz b4;clear gg bz ad b4 C
   dsimp only
   refine hK.out _ _ fc (fun C=>?_)
   clear hK K fc
   refine HA.o 16 (fun K hK=>?_)
   go_simp
   refine hK.out _ _ C (fun C=>?_)
   clear hK K
   refine HA.o 17 (fun K hK=>?_)
   refine tv (.tmp 58) (.tmp 69) 139 139 rfl rfl 2 Tryz.underlying139 (by kernel_rfl) (some ⟨Q.heap.size,lo,none⟩) A5 H (N-lo) H rfl rfl Q.heap.size lo (ar .i64 o) 2 he.out (ar .i64 ow) (by rw [aK,b3.out]) (fun _=>rfl) i3.out (by rw [aK,aK,b3.out,O.out];omega) (bj _ _) ?_
   intro w6 eu T
   rw [jh] at eu
   have gc:=EU (T.cell C.1 (by exact d3)) (EU (T.cell C.2.1 (by exact d3)) (EU (T.cell C.2.2.1 (show bo≠_ by omega)) (T.cell C.2.2.2 (show b≠_ by omega))))
   have a3:=(T.block M2 (EL ((b1.out.block _ (EL bN.out)).trans bN.out)) gy).trans ((b1.out.block _ (EL bN.out)).trans bN.out)
   obtain ⟨hQ,dT⟩:=ab eu T;clear eu T C
   dsimp only
   refine hK.out _ _ gc (fun C=>?_)
   clear hK K gc
   refine HA.d ?_
   have g9:w6.ownsRow w.heap.size 2 1 (.slice A9 r c9) r (ar .i64 ev):=dT.out.own (aq i8.out b1.out) (fun i hi e=>by
    cases A9 with
    | none=>cases hi
    | some a=>simp [Value.ownBlock] at hi;exact fr.out a rfl (hi.trans e))
   have ew:=C.2.2.2
   have f6:=C.2.2.1
   obtain ⟨⟨il,hh⟩,k1⟩:=bx2 a3
   have kd:=EL a3
   obtain ⟨gV,ka⟩:=ab g9 a3;clear g9 a3 C m0 m1 dr n2
   have kL:¬(N=lo+H):=by omega
   have kA:lo+H+r≤N:=by omega
   have l1:(lo:Int)+H+r≤N:=by omega
   have kW:((lo:Int)+H+r).toNat=lo+H+r:=by omega
   have lc:(0:Int)≤(lo:Int)+H+r:=by omega
   have l8:(lo:Int)+H≤(lo:Int)+H+r:=by omega
   have hE:=aa (show (ar .i64 ev).length=r by rw [aK,a5.out])
   obtain ⟨hp,hJ⟩:=ab (show lo+H+(ar .i64 ev).length≤(ar .i64 (splice o lo ow)).length by rw [aK,aK,a5.out,length_splice _ _ _ (by rw [b3.out,O.out];omega),O.out];omega) (show (Tryz.prog.info? 2).map (·.size)=some 1 by kernel_rfl)
   go_wp2_with (refine j6 rfl (.tmp 76) (.tmp 77) 139 139 rfl 2 Tryz.underlying139 hJ.out (some ⟨Q.heap.size,lo+H,none⟩) A9 r (N-(lo+H)) c9 rfl rfl Q.heap.size (lo+H) (ar .i64 (splice o lo ow)) 2 hQ.out (ar .i64 ev) hE.out (fun _=>rfl) (Rd.own gV.out) hp.out (bj _ _) ?_)
   intro w7 cf bw
   rw [jh] at cf
   obtain ⟨o7,co⟩:∃o7,splice (splice o lo ow) (lo+H) ev=o7:=⟨_,rfl⟩
   have gx:o7.length=N:=by
    have h1:(splice o lo ow).length=N:=by rw [length_splice _ _ _ (by rw [b3.out,O.out];omega),O.out]
    rw [←co,length_splice _ _ _ (by rw [h1,a5.out];omega),h1]
   have f8:o7.drop (aZ sz k)=ky sz ps q x y (n-k):=by
    have e1:=Hn.out
    have e2:=qj (o:=o) (W:=ow) (D:=ev) (lo:=lo) (by rw [b3.out,a5.out,O.out];exact i0)
    rw [b3.out,a5.out,co] at e2
    rw [ga.out,e2,show n-k=(n-1-k)+1 by omega]
    have e3:aZ sz (k+1)=lo+H+r:=by
     rw [←fl sz k,show cX sz k=aZ sz k+szN sz (k+1)*szN sz k from rfl,ga.out,a6.out,R.out,cc.out]
    have e4:=hf.out
    rw [e3,i5.out] at e4
    rw [ky,show sz.length-1-(n-1-k)=k+1 by omega,show sz.length-2-(n-1-k)=k by omega,a6.out,R.out,f9.out,g6.out,hM.out,←e4]
   have d2:Below Q.heap.size Q w7:=i6.out.trans (((b1.out.mono (by omega)).trans (dT.out.toBelow (by have:=b1.out.size;omega) (fun i hi=>by omega))).trans (bw.toBelow (by have:=dT.out.size;have:=b1.out.size;omega) (fun i hi=>by omega)))
   rw [co] at cf
   have gR:=bw.own gV.out (fun i hi e=>by
    cases A9 with
    | none=>cases hi
    | some a=>simp [Value.ownBlock] at hi;exact fr.out a rfl (hi.trans e))
   have hX:=bw.cell ew (show b≠_ by omega)
   have gm:=bw.cell f6 (show bo≠_ by omega)
   obtain ⟨d9,eo,fn,a1,hO⟩:=ag cf gx f8 d2 gR;clear cf gx f8 d2 gR co bw ew f6 il hh k1
   by_cases ej:k=0
   ·have d7:((k:Int)==0)=true:=by simp [ej]
    have d1:w7.ownsRow w.heap.size 2 1 (.slice (some ⟨Q.heap.size,0,none⟩) N N) N (ar .i64 (jH sz ps q x y)):=by
     have e1:=fn.out
     rw [ej] at e1
     have e2:o7=jH sz ps q x y:=by rw [hG.out,←Nat.sub_zero n,←e1];rfl
     have e3:=Bq (base:=w.heap.size) (xs:=ar .i64 o7) (by exact d9.out) b6 (by rw [aK,eo.out];unfold maxLen;omega)
     rw [aK,eo.out] at e3
     rw [←e2];exact e3
    have gb:=aa d1;clear d1 ej
    have L:=Hb.out.trans (a1.out.mono b6)
    have fs:=aa L;clear L
    go_wp2_with fail
    try rw [Exit.noGoto_ret]
    go_ret2
    exact ⟨_,_,rfl,gb.out,fs.out⟩
   ·have d7:((k:Int)==0)=false:=by simp;omega
    obtain ⟨gl,ol,dl,Bl,el,h7,hd,g7,hrb⟩:=H6.out k (by omega)
    have bi:k<rows.length:=by rw [H4.out];omega
    have cv:∀t,t<4→(List.flatten rows)[k*4+t]?=(bK rows k)[t]?:=fun t ht=>jm H5.out k t bi ht
    have e0:=cv 0 (by omega);have e1:=cv 1 (by omega);have e2:=cv 2 (by omega)
    rw [h7] at e0 e1 e2
    simp only [Nat.add_zero,Fl,Fk] at e0 e1 e2
    obtain ⟨bl,ob,hq,q0⟩:=H3.out _ _ e0
    obtain ⟨_,_,bb,q1⟩:=H3.out _ _ e1
    obtain ⟨_,_,bh,q2⟩:=H3.out _ _ e2
    subst hq
    injection bb with bb;injection bb with i1 i2 _;subst i1;subst i2
    injection bh with bh;injection bh with i1 i2 _;subst i1;subst i2
    have dG:bl<w.heap.size:=au q0
    have L:=Hb.out.trans (a1.out.mono b6)
    have ei:=(L.cell (p:=⟨bl,ob+k*4,none⟩) dG).trans q0
    have bG:=(L.cell (p:=⟨bl,ob+(k*4+1),none⟩) dG).trans q1
    have ct:=(L.cell (p:=⟨bl,ob+(k*4+2),none⟩) dG).trans q2
    rw [←FH] at bG ct
    rw [a6.out] at ei
    rw [R.out] at bG
    rw [a6.out,R.out,cc.out] at ct hd
    have f5:=(L.block b f0).trans H0.out
    obtain ⟨⟨n0,n1,n2,n3⟩,nf⟩:=bx4 f5
    have b7:=td sz ps k
    rw [a6.out,R.out,cc.out] at b7
    have bd:=yd r c0 gl ol H dl (wL sz ps k) A9 ev c9 q w7.drew ⟨z1.1,z1.2.1⟩ ⟨z0.1,z0.2.1⟩ cc.out.symm hd (by omega) b7 ((g7.below L).drewN 1) (yX WP.out sz k) ((Rd.own hO.out).drewN 1) a5.out hS.out
    have kS:k<n:=by omega
    obtain ⟨io,fs⟩:=ab bd L;clear bd L f5 b7 g7 hrb h7 e0 e1 e2 q0 q1 q2 cv bi hd
    go_wp2_with fail
    go_region_held3 (fun u=>u.cell? ⟨b,3,none⟩=some (.slice (some ⟨bl,ob,none⟩) n cl)∧u.cell? ⟨bl,ob+k*4,none⟩=some (FQ r)∧u.cell? ⟨bl,ob+k*4+1,none⟩=some (FQ c0)∧u.cell? ⟨bl,ob+k*4+2,none⟩=some (.slice (some ⟨gl,ol,none⟩) H dl)∧u.cell? ⟨b,2,none⟩=some (FQ q)) (simp [go_sem, *])
     ((go_at_call 251;refine io.out.mono ?_;rintro e w8 ⟨A8,c8,rfl,a4,J⟩;have g0:=am J n3;have g1:=am J ei;have g2:=am J bG;have g3:=am J ct;have g4:=am J n2;have g5:=am J gm;obtain ⟨id,hY⟩:=ab a4 J;clear a4 J))
    go_wp2_with fail
    have b5:=pY (wL sz ps k) r c0 ev q
    obtain ⟨bk,b9⟩:∃bk,kE (wL sz ps k) r c0 ev q=bk:=⟨_,rfl⟩
    have a4:=aA (base':=w7.heap.size) id.out (by simp)
    rw [b9] at b5 a4
    obtain ⟨d6,gJ,gd⟩:=ae b5 a4 b9
    have J:=(EP w7.heap.size w7).drew.trans hY.out
    have i4:=aa J;clear b5 a4 b9 J g0 g1 g2 g3 g4 g5 n0 n1 n2 n3 nf gm ei bG ct hX d7
    go_loopw [103] (fun i wx=>∃j:Nat,j≤c0∧i=FQ j∧wx.ownsRow w7.heap.size 2 1 (.slice A8 c0 c8) c0 (ar .i64 (iw bk j (fun i=>if 0<nth vv i then nth bk i else 0)))∧Below w7.heap.size w7 wx) (fun i _=>c0-(intOf i).toNat)
    case atStart=>exact ⟨0,EQ _,rfl,by rw [gn];exact gJ.out,i4.out⟩
    case round=>
     obtain ⟨j,hj,rfl,I,bs⟩:=hrel
     by_cases e6:j<c0
     ·obtain ⟨g8,d8,f2,hP,_⟩:=I.form (by omega)
      simp only [FD] at f2
      obtain ⟨rfl,hC,rfl⟩:=f2
      clear hC
      have em:j<bk.length:=by rw [d6.out];exact e6
      have p1:=cP I e6
      rw [fe _ em,if_neg (by omega)] at p1
      have f1:=I.frozenAt j
      have gk:=iu (l:=bk) (k:=j) (fun i=>if 0<nth vv i then nth bk i else 0) em
      obtain ⟨bv,ov,rfl,kX⟩:=((hT.out.below a1.out).below bs).num (show j<vv.length by rw [hI.out];exact e6)
      obtain ⟨HO,bI,hF⟩:=ae I bs gk;clear I bs gk em
      go_wp2_with fail
      refine (Bp _ _ _).mono ?_
      rintro e w9 ⟨rfl,rfl⟩
      go_wp2_with fail
      go_roundw
      case rel=>exact ⟨j+1,by omega,by go_num,by rw [←hF.out];exact eL HO.out j _,bI.out.setCell (p:=⟨g8,j,none⟩) hP _⟩
      case measure=>simp [intOf];omega
     ·obtain rfl:j=c0:=by omega
      obtain ⟨HO,bI⟩:=ab I bs;clear I bs
      have f7:IntKind.i64.wrap ((k:Int)-1)=((k-1:Nat):Int):=by rw [ER _ (by omega)];omega
      have d0:(k:Int)-1=((k-1:Nat):Int):=by omega
      rw [d0] at f7
      go_wp2_with fail
      clear f7 d0
      go_roundw
      case rel=>
       have ek:k-1+1=k:=by omega
       have en:=Hn.out
       have i9:Q.heap.size<w7.heap.size:=EL d9.out
       have k7:jD sz ps q x y (sz.length-2-(k-1))=iw bk j (fun i=>if 0<nth vv i then nth bk i else 0):=by
        rw [show sz.length-2-(k-1)=(n-1-k)+1 by omega,jD,show sz.length-2-(n-1-k)=k by omega,show sz.length-1-(n-1-k)=k+1 by omega,f9.out,g6.out,a6.out,R.out,gd.out]
        rw [←d6.out,iv]
        rfl
       refine ⟨k-1,by omega,rfl,A8,c8,o7,?_,?_,?_,?_,?_,?_,?_⟩
       ·rw [ek,R.out]
       ·rw [ek,R.out,k7];exact aA HO.out (by omega)
       ·exact (bI.out.block _ i9).trans d9.out
       ·rw [eo.out,en,HN.out]
       ·rw [ek,fn.out,show sz.length-2-(k-1)=n-k by omega]
       ·intro a ha e9
        have:=(HO.out.lt a.block (by rw [ha];rfl)).1
        omega
       ·exact a1.out.trans (bI.out.mono (by omega))
      case measure=>simp [intOf];omega
theorem BC:cH Tryz.prog 350 358 (.agg #[.int .i64 0,.int .i64 0,.slice none 0 0,.slice none 0 0]) 4 64:=⟨Tryz.underlying350,info_parts (by kernel_rfl),rfl,by decide⟩
theorem rH {w:World} {base n g c:Nat} {xs:List Int} {e:TypeId} (h:w.ownsRow base e 1 (.slice (some ⟨g,0,none⟩) n c) n (ar .i64 xs)) {k:Nat} (hk:k<n):w.cell? ⟨g,k,none⟩=some (.int .i64 (nth xs k)):=cP h hk
def EF (sz ps:List Int) (q:Int) (S h cp b o:Nat) (v:Option Addr) (x:Nat) (k:Nat) (y w:World):Prop:=
 ∃u i rows,w.heap[b]?=some (.cells #[.pointer (some ⟨S,0,none⟩),.slice (some ⟨h,0,none⟩) ps.length cp,.int .i64 q,.slice u k i] 352 (0,0))∧
  w.ownsRow b 358 4 (.slice u k i) k (List.flatten rows)∧rows.length=k∧(∀r∈rows,r.length=4)∧
  w.ownsRow o 2 1 (.slice (some ⟨h,0,none⟩) ps.length cp) ps.length (ar .i64 ps)∧
  (∀j,j<k→∃g d,bK rows j=[.int .i64 (szN sz (j+1):Int),.int .i64 (szN sz j:Int),.slice (some ⟨g,0,none⟩) (szN sz (j+1)*szN sz j) d,.slice (some ⟨h,cX sz j,none⟩) (szN sz (j+1)) (cp-cX sz j)]∧
   szN sz (j+1)*szN sz j≤d∧w.ownsRow o 2 1 (.slice (some ⟨g,0,none⟩) (szN sz (j+1)*szN sz j) d) (szN sz (j+1)*szN sz j) (ar .i64 (wL sz ps j)))∧
  w.ownsRow b 3 1 (.slice v sz.length x) sz.length (ar .i64 sz)∧Below b y w
def yP (w:World) (base b:Nat) (ps:List Int):Prop:=∃s h cp q l,w.heap[b]?=some (.cells #[s,.slice h ps.length cp,q,l] 352 (0,0))∧w.ownsRow base 2 1 (.slice h ps.length cp) ps.length (ar .i64 ps)∧base≤b
theorem yP.base {w:World} {base base' b:Nat} {ps:List Int} (h:yP w base b ps) (hb:base'≤base):yP w base' b ps:=by
 obtain ⟨s,v,cp,q,l,o,i,u⟩:=h
 exact ⟨s,v,cp,q,l,o,aA i hb,ES hb u⟩
def oh (w:World) (base b S:Nat) (sz ps:List Int) (q:Int):Prop:=∃g cp i h rows,
 w.heap[b]?=some (.cells #[.pointer (some ⟨S,0,none⟩),.slice (some ⟨g,0,none⟩) ps.length cp,.int .i64 q,.slice i (sz.length-1) h] 352 (0,0))∧base≤b∧
  w.ownsRow base 2 1 (.slice (some ⟨g,0,none⟩) ps.length cp) ps.length (ar .i64 ps)∧w.ownsRow base 358 4 (.slice i (sz.length-1) h) (sz.length-1) (List.flatten rows)∧rows.length=sz.length-1∧(∀r∈rows,r.length=4)∧
  ∀j,j<sz.length-1→∃o d,bK rows j=[.int .i64 (szN sz (j+1):Int),.int .i64 (szN sz j:Int),.slice (some ⟨o,0,none⟩) (szN sz (j+1)*szN sz j) d,.slice (some ⟨g,cX sz j,none⟩) (szN sz (j+1)) (cp-cX sz j)]∧
   szN sz (j+1)*szN sz j≤d∧w.ownsRow base 2 1 (.slice (some ⟨o,0,none⟩) (szN sz (j+1)*szN sz j) d) (szN sz (j+1)*szN sz j) (ar .i64 (wL sz ps j))
theorem oh.keep {w y:World} {base b B:Nat} {sz ps:List Int} {q:Int} (h:oh w base b B sz ps q) {S:Nat→Prop} (k:Keep S w y) (x:∀j,S j→j<base):oh y base b B sz ps q:=by
 obtain ⟨g,cp,N,T,rows,C,O,A,D,L,Q,U⟩:=h
 have I:∀{e' size n m:Nat} {v:Value} {xs:List Value},w.ownsRow base e' size v n xs→y.ownsRow base e' size v n xs:=fun hr=>k.own hr (fun i u o=>by have:=x i o;have:=(hr.lt i u).1;omega)
 exact ⟨g,cp,N,T,rows,(k.block b (EL C) (fun o=>by have:=x b o;omega)).trans C,O,k.own A (fun i u o=>by have:=x i o;have:=(A.lt i u).1;omega),k.own D (fun i u o=>by have:=x i o;have:=(D.lt i u).1;omega),L,Q,fun j Y=>by
  obtain ⟨J,d,V,R,H⟩:=U j Y
  exact ⟨J,d,V,R,k.own H (fun i u o=>by have:=x i o;have:=(H.lt i u).1;omega)⟩⟩
theorem oh.below {w i:World} {base b o:Nat} {sz ps:List Int} {q:Int} (h:oh w base b o sz ps q) (hb:Below w.heap.size w i):oh i base b o sz ps q:=h.keep (S:=fun _=>False) (Keep.below hb) (fun _ h=>h.elim)
theorem oh.at {w:World} {base b S:Nat} {sz ps:List Int} {q:Int} (h:oh w base b S sz ps q) (T:aY 212 w S sz) (V:cO sz) (hl:ps.length=aZ sz (sz.length-1)):jc 212 352 w b sz ps q:=by
 obtain ⟨g,cp,I,O,rows,D,Y,B,L,H,J,Q⟩:=h
 refine ⟨S,some ⟨g,0,none⟩,cp,I,O,rows,D,T,Rd.own B,Rd.own L,H,J,fun j R=>?_⟩
 obtain ⟨C,U,o,v,u⟩:=Q j R
 have x:=ES (fg sz (show j+1≤sz.length-1 by omega)) (Nat.le_of_eq hl.symm)
 have A:=fl sz j
 have y:bL sz ps j=(ps.drop (cX sz j)).take (szN sz (j+1)):=(dQ (by rw [Fv,Fy];omega) fun i N=>by rw [fv N,fw]).symm
 refine ⟨C,0,U,some ⟨g,cX sz j,none⟩,cp-cX sz j,o,v,Rd.own u,?_⟩
 have:=((Rd.own B).drop (cX sz j)).take (szN sz (j+1))
 rwa [FI,dP,du,←y] at this
theorem rP (S:Nat) (sz ps:List Int) (A:Option Addr) (c:Nat) (q:Int) (w:World) (hS:aY 212 w S sz) (hg:cO sz) (hq:0≤q∧q≤62) (hl:ps.length=aZ sz (sz.length-1)) (hA:Rd w A (ar .i64 ps)):
  Calls Tryz.prog 230 #[.pointer (some ⟨S,0,none⟩),.slice A ps.length c,.int .i64 q] w fun e C=>∃b,e=.returned (.tuple #[.pointer (some ⟨b,0,none⟩),.bool true])∧jc 212 352 C b sz ps q∧yP C w.heap.size b ps∧oh C w.heap.size b S sz ps q∧Below w.heap.size w C:=by
 obtain ⟨q1,q2⟩:=hq
 have hc:=gO S sz w hS
 have cw:=dF A ps c w hA (by have:=hg.2;omega)
 have d4:=fun C (k:Below w.heap.size w C)=>lQ S sz C (hS.below k) (by have:=hg.1.1.2;omega)
 have bV:=fun C (k:Below w.heap.size w C)=>gN S sz C (hS.below k)
 have cr:=fun j C (k:Below w.heap.size w C)=>jF S sz j C (hS.below k) (by have:=hg.1.1.2;omega)
 have bM:=fun j C (k:Below w.heap.size w C)=>kf S sz j C (hS.below k) (by have:=hg.1.1.2;omega)
 rw [←hl] at hc
 obtain ⟨n,hn⟩:∃n,sz.length-1=n:=⟨_,rfl⟩
 obtain ⟨N,hN⟩:∃N,ps.length=N:=⟨_,rfl⟩
 rw [hn] at bV cr bM hl
 rw [hN] at hc cw hl ⊢
 have Z:1≤n∧n≤15:=by have:=hg.1.1;omega
 have gs:N≤1048576:=by have:=hg.2;rw [hn] at this;omega
 obtain ⟨Hc,g0,ev,fs,eX,g3,HG,Hn⟩:=aj hc cw d4 bV cr bM hg hn;obtain ⟨HN,HS,h4,Hl⟩:=af hN hS hA hl;clear hc cw d4 bV cr bM hg hn hN hS hA hl
 go_enter Tryz.func230,Tryz.ntmps230
 go_wp2_with fail
 refine Hc.out.mono ?_
 rintro e C ⟨rfl,rfl⟩
 go_wp2_with fail
 refine g0.out.mono ?_
 rintro e I ⟨A',cp,rfl,cx,bz,hb⟩
 obtain ⟨bG,Hb,fr⟩:=ae bz hb cx;clear bz hb cx
 go_wp2_with fail
 refine (ev.out _ ?_).mono ?_
 ·have hb:=Hb.out
  have gc:=hb.size
  exact ak
 rintro e w2 ⟨As,cs,rfl,dT,a1⟩
 obtain ⟨f4,ef⟩:=ab dT a1;clear dT a1
 go_wp2_with fail
 refine (fs.out _ ?_).mono ?_
 ·have hb:=Hb.out
  have a1:=ef.out
  exact hb.trans ((((EP _ I).alloc (EM _) _).trans (a1.mono (by simp))).mono hb.size)
 rintro e C ⟨rfl,rfl⟩
 go_wp2_with fail
 have f2:1≤N:=by
  have h0:=Hl.out
  have h1:=(HG.out.1.at (k:=1) (by have:=HG.out.1.1;omega)).1
  have h2:=fg sz (show 1≤n by omega)
  have h3:cX sz 0+szN sz 1=aZ sz 1:=fl sz 0
  omega
 obtain ⟨gp,gT,e0,gB,_⟩:=bG.out.form (by omega)
 simp only [FD] at e0
 obtain ⟨rfl,eM,rfl⟩:=e0
 clear eM
 go_loopw [42] (fun i wr=>∃k:Nat,k≤n∧i=.int .i64 k∧EF sz ps q S gp cp I.heap.size w.heap.size As cs k I wr) (fun i _=>n-(intOf i).toNat)
 case atStart=>
  have a1:=ef.out
  have hk:Below I.heap.size I w2:=((EP _ I).alloc (EM _) _).trans (a1.mono (by simp))
  have f5:=(a1.block I.heap.size (by simp)).trans (EN I _)
  refine ⟨0,EQ _,rfl,none,0,[],?_,EZ _ _ _ _,rfl,by simp,?_,fun j hj=>by omega,aA f4.out (by simp),hk⟩
  ·rw [HN.out];exact f5
  ·rw [HN.out];exact aq bG.out hk
 case round=>
  obtain ⟨k,hk,rfl,Al,cl,rows,b3,dk,d5,d1,cq,bw,d8,hW⟩:=hrel
  rw [HN.out] at b3 cq
  obtain ⟨⟨x0,x1,x2,x3⟩,xf⟩:=bx4 b3
  have f6:=EL b3
  have ea:Below w.heap.size w wr:=Hb.out.trans (hW.mono Hb.out.size)
  obtain ⟨b0,cf,b4,bN,ad,b2,bl,HW⟩:=aj b3 dk d5 d1 cq bw d8 hW;have b1:=aa ea;clear b3 dk d5 d1 cq bw d8 hW ea
  by_cases gm:k<n
  ·have hR:=HG.out.1
   have bi:k+1<sz.length:=by have:=Hn.out;have:=hR.1;omega
   have z0:=hR.at (k:=k) (by omega)
   have z1:=hR.at bi
   have ec:=HG.out.mul bi
   have dn:1≤szN sz (k+1)*szN sz k:=Nat.mul_pos z1.1 z0.1
   have T:cX sz k=aZ sz k+szN sz (k+1)*szN sz k:=rfl
   have L:=fl sz k
   have a0:=ES (fg sz (show k+1≤n by omega)) (Nat.le_of_eq Hl.out.symm)
   have a5:=eX.out k
   have a6:=g3.out k
   have cj:wL sz ps k=(ps.drop (aZ sz k)).take (szN sz (k+1)*szN sz k):=(dQ (by rw [Fv,Fy];have:=HN.out;omega) fun i hi=>by rw [fv hi,fw]).symm
   have a7:bL sz ps k=(ps.drop (cX sz k)).take (szN sz (k+1)):=(dQ (by rw [Fv,Fy];have:=HN.out;omega) fun i hi=>by rw [fv hi,fw]).symm
   obtain ⟨g5,c5,dv,h8,_⟩:=bl.out.form (by omega)
   simp only [FD] at dv
   obtain ⟨rfl,eY,rfl⟩:=dv
   clear eY
   have p0:=rH bl.out (show k<sz.length by omega)
   have p1:=rH bl.out bi
   rw [z0.2.2] at p0
   rw [z1.2.2] at p1
   rw [T,←L,T] at a6
   rw [T] at a5 a7
   have bn:=Rd.own ad.out
   obtain ⟨lo,bb⟩:∃lo,aZ sz k=lo:=⟨_,rfl⟩
   obtain ⟨r,hr⟩:∃r,szN sz (k+1)=r:=⟨_,rfl⟩
   obtain ⟨c0,a2⟩:∃c0,szN sz k=c0:=⟨_,rfl⟩
   obtain ⟨B,Z⟩:∃B,r*c0=B:=⟨_,rfl⟩
   rw [←L,T] at a0
   rw [bb,hr,a2,Z] at a6 a5 a0
   rw [hr,a2,Z] at dn ec
   rw [hr] at p1 z1
   rw [a2] at p0 z0
   rw [bb,hr,a2,Z] at cj a7
   have e8:Rd wr (some ⟨gp,lo,none⟩) (ar .i64 (wL sz ps k)):=by
    have:=(bn.drop lo).take B
    rwa [FI,dP,du,←cj] at this
   have cn:(wL sz ps k).length=B:=by rw [td,hr,a2,Z]
   have ci:=fun W (h:Below wr.heap.size wr W)=>DO r c0 (some ⟨gp,lo,none⟩) (wL sz ps k) (cp-lo) W ⟨z1.1,z1.2.1⟩ ⟨z0.1,z0.2.1⟩ (cn.trans Z.symm) (by omega) (e8.below h)
   rw [cn] at ci
   obtain ⟨d3,ds,ei,f7,Hr,fc,es,gf⟩:=aj a5 a6 ci bb hr a2 Z a7
   have g4:=fr.out
   clear a5 a6 ci T L cj a7 bb hr a2 Z bn e8 cn
   go_wp2_with fail
   refine (d3.out _ b1.out (by omega)).mono ?_
   rintro e w3 ⟨rfl,e6⟩
   have bd:=aa e6;clear e6
   go_wp2_with fail
   refine (ds.out _ (b1.out.trans (bd.out.mono b1.out.size)) (by omega)).mono ?_
   rintro e H ⟨rfl,eo⟩
   have J:=bd.out.trans (eo.mono bd.out.size)
   have ej:=(J.cell (p:=⟨I.heap.size,1,none⟩) f6).trans x1
   have bO:=(J.cell (p:=⟨g5,k,none⟩) (au p0)).trans p0
   have ee:=(J.cell (p:=⟨g5,k+1,none⟩) (au p1)).trans p1
   have g6:I.heap.size<H.heap.size:=by have:=J.size;omega
   have g7:g5<H.heap.size:=au bO
   have Q:=aa J;clear J eo bd x0 x1 x2 x3 xf p0 p1
   have go:(k:Int)+1<sz.length:=by omega
   have gv:¬(cp=lo):=by omega
   have gx:lo+B≤cp:=by omega
   go_wp2_with fail
   go_cut [13,14] (fun v _ wx=>∃M A d,v=.pointer (some ⟨M,0,none⟩)∧wx.heap[M]?=some (.cells #[.int .i64 r,.int .i64 c0,.slice A B d] 354 (0,0))∧B≤d∧wx.ownsRow H.heap.size 2 1 (.slice A B d) B (ar .i64 (wL sz ps k))∧H.heap.size+2≤wx.heap.size∧
    Below (H.heap.size+2) ((H.alloc (.cells #[.int .i64 lo,.int .i64 ((lo:Int)+B)] 148)).alloc (.cells #[.int .i64 ((lo:Int)+B),.int .i64 ((lo:Int)+B+r)] 148)) wx)
   case first=>
    have y:(fun C:World=>C.cell? ⟨g5,k+1,none⟩=some (.int .i64 r)∧C.cell? ⟨g5,k,none⟩=some (.int .i64 c0)∧C.cell? ⟨I.heap.size,1,none⟩=some (.slice (some ⟨gp,0,none⟩) N cp)∧C.cell? ⟨H.heap.size,0,none⟩=some (.int .i64 lo)∧C.cell? ⟨H.heap.size,1,none⟩=some (.int .i64 ((lo:Int)+B))) ((H.alloc (.cells #[.int .i64 lo,.int .i64 ((lo:Int)+B)] 148)).alloc (.cells #[.int .i64 ((lo:Int)+B),.int .i64 ((lo:Int)+B+r)] 148)).drew:=
     ⟨ax (ax ee _) _,ax (ax bO _) _,ax (ax ej _) _,ax (EO _ H.heap.size 0 _ _ _ (EN H _)) _,ax (EO _ H.heap.size 1 _ _ _ (EN H _)) _⟩
    have d7:Below wr.heap.size wr ((H.alloc (.cells #[.int .i64 lo,.int .i64 ((lo:Int)+B)] 148)).alloc (.cells #[.int .i64 ((lo:Int)+B),.int .i64 ((lo:Int)+B+r)] 148)).drew:=
     (((Q.out.alloc (by have:=Q.out.size;omega) _).alloc (by have:=Q.out.size;simp;omega) _)).drew
    have cb:=aa d7;clear d7
    have gV:k<sz.length:=by omega
    have gg:IntKind.i64.wrap ((k:Int)+1)=(k:Int)+1:=ER _ (by omega)
    have gb:(0:Int)≤(k:Int)+1:=by omega
    have gR:((k:Int)+1).toNat=k+1:=by omega
    have ga:((lo:Int)+B).toNat=lo+B:=by omega
    have gA:(0:Int)≤(lo:Int)+B:=by omega
    have g8:(lo:Int)+B≤cp:=by omega
    have h5:(lo:Int)≤(lo:Int)+B:=by omega
    refine gI 23 (fun C:World=>C.cell? ⟨g5,k+1,none⟩=some (.int .i64 r)∧C.cell? ⟨g5,k,none⟩=some (.int .i64 c0)∧C.cell? ⟨I.heap.size,1,none⟩=some (.slice (some ⟨gp,0,none⟩) N cp)∧C.cell? ⟨H.heap.size,0,none⟩=some (.int .i64 lo)∧C.cell? ⟨H.heap.size,1,none⟩=some (.int .i64 ((lo:Int)+B))) (by kernel_rfl) ?_
    refine wX 0 y ?_
    refine wX 1 y ?_
    refine wX 2 y ?_
    refine wX 3 y ?_
    refine wX 4 y ?_
    refine wX 5 y ?_
    refine wX 6 y ?_
    refine wX 7 y ?_
    refine wX 8 y ?_
    refine wX 9 y ?_
    refine wX 10 y ?_
    refine wX 11 y ?_
    refine wX 12 y ?_
    refine wX 13 y ?_
    refine wX 14 y ?_
    refine wX 15 y ?_
    refine wX 16 y ?_
    refine wX 17 y ?_
    simp only [Fd,Fe,Ff,Act.put,Fg,Fh,Fi]
    refine a9 (rs:=[18,22]) (by kernel_rfl) (by simp) ?_
    refine aB.cons rfl (fun K V=>?_) (aB.cons rfl (fun K V=>?_) aB.nil)
    ·simp only [Fd,Fe,Ff]
     go_simp
     refine (ei.out _ cb.out).mono ?_
     rintro e w6 ⟨A6,d6,rfl,R,U,D⟩
     have b9:=EU (am D y.1) (EU (am D y.2.1) (EU (am D y.2.2.1) (EU (am D y.2.2.2.1) (am D y.2.2.2.2))))
     obtain ⟨b5,a4,b6⟩:=ae R U D;clear R U D y
     dsimp only
     refine V.out _ _ b9 (fun y=>?_)
     clear V K b9
     refine wX 19 y ?_
     refine wX 20 y ?_
     simp only [Fd,Fe,Ff,Act.put,Fg,Fh,Fi]
     refine wX0 21 y ?_
     simp only [Fd,Fe,Ff,Act.put,Fg,Fh,Fi]
     refine a9 (rs:=[22]) (by kernel_rfl) (by simp) ?_
     refine aB.cons rfl (fun K V=>?_) aB.nil
     simp only [Fd,Fe,Ff]
     go_simp
     refine V.out _ _ ⟨ax y.1 _,ax y.2.1 _,ax y.2.2.1 _,ax y.2.2.2.1 _,ax y.2.2.2.2 _⟩ (fun y=>?_)
     clear V K y
     refine dg (by rfl) (by kernel_rfl) ?_
     simp only [Fm,Fo]
     go_wp2_with fail
     go_meet
     have c8:=b6.out.size
     simp at c8
     refine ⟨w6.heap.size,A6,d6,rfl,EN w6 _,b5.out,aA (a4.out.alloc _) (by first | omega | (simp;done) | (simp;omega)),(by first | omega | (simp;done) | (simp;omega)),?_⟩
     exact (((EP _ _).drew).trans (b6.out.mono (by first | omega | (simp;done) | (simp;omega)))).alloc (by first | omega | (simp;done) | (simp;omega)) _
    ·simp only [Fd,Fe,Ff]
     go_simp
     refine V.out _ _ ⟨ax y.1 _,ax y.2.1 _,ax y.2.2.1 _,ax y.2.2.2.1 _,ax y.2.2.2.2 _⟩ (fun y=>?_)
     clear V K
     refine a9 (rs:=[18]) (by kernel_rfl) (by simp) ?_
     refine aB.cons rfl (fun K V=>?_) aB.nil
     simp only [Fd,Fe,Ff]
     go_simp
     refine (ei.out _ (cb.out.alloc cb.out.size _)).mono ?_
     rintro e w6 ⟨A6,d6,rfl,R,U,D⟩
     have b9:=EU (am D y.1) (EU (am D y.2.1) (EU (am D y.2.2.1) (EU (am D y.2.2.2.1) (am D y.2.2.2.2))))
     have b8:=(D.block _ (by simp)).trans (EN _ _)
     simp only [Fb,FC] at b8
     obtain ⟨⟨m0,m1,m2⟩,mf⟩:=bx3 b8
     have gy:=EL b8
     obtain ⟨b5,a4,b6,eb⟩:=af R U D b8;clear R U D y b8
     dsimp only
     refine V.out _ _ b9 (fun y=>?_)
     clear V K b9
     refine wX 19 y ?_
     refine wX 20 y ?_
     simp only [Fd,Fe,Ff,Act.put,Fg,Fh,Fi]
     refine wX0 21 y ?_
     simp only [Fd,Fe,Ff,Act.put,Fg,Fh,Fi]
     clear y
     refine dg (by rfl) (by kernel_rfl) ?_
     simp only [Fm,Fo]
     go_wp2_with fail
     go_meet
     have c8:=b6.out.size
     simp at c8
     have k3:=lA (w:=w6) (b:=H.heap.size+1+1) (.int .i64 r) (.int .i64 c0) (.slice A6 B d6)
     have gJ:=k3.size
     refine ⟨H.heap.size+1+1,A6,d6,rfl,nZ _ _ _ eb.out,b5.out,aA (k3.own a4.out (fun i hi e=>an eb.out (by decide) a4.out (by rw [hi,e]))) (by first | omega | (simp;done) | (simp;omega)),by omega,?_⟩
     exact ((((EP _ _).drew).alloc (by first | omega | (simp;done) | (simp;omega)) _).trans (b6.out.mono (by first | omega | (simp;done) | (simp;omega)))).trans (k3.toBelow (by first | omega | (simp;done) | (simp;omega)) (fun i hi=>by omega))
   case rest=>
    obtain ⟨M,A6,d6,rfl,hM,R,U,gd,ct⟩:=hcut
    have dG:Below H.heap.size H ((H.alloc (.cells #[.int .i64 lo,.int .i64 ((lo:Int)+B)] 148)).alloc (.cells #[.int .i64 ((lo:Int)+B),.int .i64 ((lo:Int)+B+r)] 148)):=((EP _ _).alloc (EM _) _).alloc (by simp) _
    have bv:((H.alloc (.cells #[.int .i64 lo,.int .i64 ((lo:Int)+B)] 148)).alloc (.cells #[.int .i64 ((lo:Int)+B),.int .i64 ((lo:Int)+B+r)] 148)).heap[H.heap.size+1]?=some (.cells #[.int .i64 ((lo:Int)+B),.int .i64 ((lo:Int)+B+r)] 148 (0,0)):=by
     have:=EN (H.alloc (.cells #[.int .i64 lo,.int .i64 ((lo:Int)+B)] 148)) (.cells #[.int .i64 ((lo:Int)+B),.int .i64 ((lo:Int)+B+r)] 148)
     simpa using this
    have cd:=(ct.block (H.heap.size+1) (by omega)).trans bv
    have d0:Below H.heap.size H wc:=dG.trans (ct.mono (by omega))
    have a8:=Q.out.trans (d0.mono Q.out.size)
    have cv:=(a8.block _ (EL b0.out)).trans b0.out
    have bo:=aq cf.out a8
    have bs:=aq ad.out a8
    have bA:=aq bl.out a8
    obtain ⟨⟨n0,n1,n2,n3⟩,nf⟩:=bx4 cv
    obtain ⟨⟨m0,m1,m2⟩,mf⟩:=bx3 hM
    obtain ⟨⟨t0,t1⟩,tf⟩:=bx2 cd
    obtain ⟨dc,d2,e9,Y,ek,dp,g2,a4⟩:=aj cd a8 cv bo bs bA hM U;have b5:=aa R;clear a8 cv bo bs bA hM U R d0 dG bv cd ct ej bO ee
    have gz:I.heap.size<wc.heap.size:=EL e9.out
    go_wp2_with fail
    have y:(fun C:World=>C.cell? ⟨I.heap.size,3,none⟩=some (.slice Al k cl)∧C.cell? ⟨M,0,none⟩=some (.int .i64 r)∧C.cell? ⟨M,1,none⟩=some (.int .i64 c0)∧C.cell? ⟨M,2,none⟩=some (.slice A6 B d6)∧C.cell? ⟨I.heap.size,1,none⟩=some (.slice (some ⟨gp,0,none⟩) N cp)∧C.cell? ⟨H.heap.size+1,0,none⟩=some (.int .i64 ((lo:Int)+B))∧C.cell? ⟨H.heap.size+1,1,none⟩=some (.int .i64 ((lo:Int)+B+r))) wc.drew:=⟨n3,m0,m1,m2,n1,t0,t1⟩
    have gU:¬(cp=lo+B):=by omega
    have gG:(lo:Int)+B+r≤cp:=by omega
    have gk:(lo:Int)+B≤(lo:Int)+B+r:=by omega
    have gl:((lo:Int)+B+r).toNat=lo+B+r:=by omega
    have h7:((lo:Int)+B).toNat=lo+B:=by omega
    have h9:(0:Int)≤(lo:Int)+B:=by omega
    have gX:(0:Int)≤(lo:Int)+B+r:=by omega
    refine XA.g 18 (fun C:World=>C.cell? ⟨I.heap.size,3,none⟩=some (.slice Al k cl)∧C.cell? ⟨M,0,none⟩=some (.int .i64 r)∧C.cell? ⟨M,1,none⟩=some (.int .i64 c0)∧C.cell? ⟨M,2,none⟩=some (.slice A6 B d6)∧C.cell? ⟨I.heap.size,1,none⟩=some (.slice (some ⟨gp,0,none⟩) N cp)∧C.cell? ⟨H.heap.size+1,0,none⟩=some (.int .i64 ((lo:Int)+B))∧C.cell? ⟨H.heap.size+1,1,none⟩=some (.int .i64 ((lo:Int)+B+r))) ?_
    refine XA.t ?_ [0,1,2,3,4,5,6,7,8,9,10,11,12,13,14,15] y ?_
    refine XA.o 16 (fun K V=>?_)
    go_simp
    refine V.out _ _ ⟨ax y.1 _,ax y.2.1 _,ax y.2.2.1 _,ax y.2.2.2.1 _,ax y.2.2.2.2.1 _,ax y.2.2.2.2.2.1 _,ax y.2.2.2.2.2.2 _⟩ (fun y=>?_)
    clear V K
    refine XA.o 17 (fun K V=>?_)
    refine bS BC (.tmp 77) (.tmp 89) rfl rfl I.heap.size (.slice Al k cl) k (List.flatten rows) rfl (bC (Y.out.alloc _) 1) (some ⟨wc.heap.size,0,none⟩) 1 1 [.int .i64 r,.int .i64 c0,.slice A6 B d6,.slice (some ⟨gp,lo+B,none⟩) r (cp-(lo+B))] rfl (fk wc _ _ _ rfl) rfl (by simp [Value.oneCell']) (by omega) (by unfold maxLen;omega) (by simp;omega) ?_
    intro A7 c7 w7 dr em a3 fn
    have a3:=kw a3
    have b7:=cC (o:=.cells #[.int .i64 r,.int .i64 c0,.slice A6 B d6,.slice (some ⟨gp,lo+B,none⟩) r (cp-(lo+B))] 358 (0,0)) e9.out (by decide) Y.out a3
    have i0:=EO w7 _ 3 _ _ _ b7
    have i1:=EO w7 _ 1 _ _ _ b7
    have i3:=EV w7 _ 3 _ _ b7
    have bh:=cC (o:=.cells #[.int .i64 r,.int .i64 c0,.slice A6 B d6,.slice (some ⟨gp,lo+B,none⟩) r (cp-(lo+B))] 358 (0,0)) g2.out (by decide) Y.out a3
    have c9:=cC (o:=.cells #[.int .i64 r,.int .i64 c0,.slice A6 B d6,.slice (some ⟨gp,lo+B,none⟩) r (cp-(lo+B))] 358 (0,0)) dc.out (by decide) Y.out a3
    have i4:=EO w7 _ 0 _ _ _ bh
    have i5:=EO w7 _ 1 _ _ _ bh
    have i6:=EO w7 _ 2 _ _ _ bh
    have i7:=EO w7 _ 0 _ _ _ c9
    have i8:=EO w7 _ 1 _ _ _ c9
    obtain ⟨dw,cc,ew,f0⟩:=af dr b7 a3 em;clear dr b7 a3 fn em bh c9
    dsimp only
    refine V.out _ _ ⟨i0,i4,i5,i6,i1,i7,i8⟩ (fun y=>?_)
    clear V K y
    refine XA.e ?_
    simp only [Fm,Fo]
    go_wp2_with fail
    have f8:=FN w7 I.heap.size 3 _ _ (.slice A7 (k+1) c7) cc.out
    have f9:Keep (fun i=>i=I.heap.size) w7 (w7.setCell ⟨I.heap.size,3,none⟩ (.slice A7 (k+1) c7)):=Keep.setCell (S:=fun i=>i=I.heap.size) (Keep.refl _ _) ⟨I.heap.size,3,none⟩ (.inr rfl) _
    have eu:=f9.own dw.out (fun i hi e=>an cc.out (by decide) dw.out (by rw [hi,e]))
    have fi:Below I.heap.size I (w7.setCell ⟨I.heap.size,3,none⟩ (.slice A7 (k+1) c7)):=
     (((HW.out.trans (d2.out.mono HW.out.size)).alloc (by omega) _).drew.trans f0.out).setCell (by simp) _
    have O:∀{b':Nat} {u:Value} {m:Nat} {ys:List Value} {e':TypeId},wc.ownsRow b' e' 1 u m ys→358≠e'→352≠e'→(w7.setCell ⟨I.heap.size,3,none⟩ (.slice A7 (k+1) c7)).ownsRow b' e' 1 u m ys:=fun h h1 h2=>rG h Y.out ew.out cc.out h1 h2
    go_roundw
    case rel=>
     refine ⟨k+1,by omega,by go_num,A7,c7,rows++[[.int .i64 r,.int .i64 c0,.slice A6 B d6,.slice (some ⟨gp,lo+B,none⟩) r (cp-(lo+B))]],?_,?_,by simp [b4.out],?_,?_,?_,O dp.out (by decide) (by decide),fi⟩
     ·rw [HN.out];exact f8
     ·rw [FA,List.flatten_cons,List.flatten_nil,List.append_nil];exact eu
     ·intro x hx
      rcases FE.1 hx with hx | hx
      ·exact bN.out x hx
      ·rw [List.mem_singleton.1 hx];rfl
     ·rw [HN.out];exact O ek.out (by decide) (by decide)
     ·intro j hj
      rcases Fa j k with c6 | c6
      ·obtain ⟨g9,d9,bX,bI,co⟩:=b2.out j c6
       refine ⟨g9,d9,?_,bI,O (aq co d2.out) (by decide) (by decide)⟩
       rw [←bX]
       simp [bK,Ft (show j<rows.length by rw [b4.out];exact c6)]
      ·obtain rfl:j=k:=by omega
       obtain ⟨g9,d9,el,h6,_⟩:=a4.out.form (by omega)
       simp only [FD] at el
       obtain ⟨rfl,_,rfl⟩:=el
       have e1:=Hr.out;have e2:=fc.out;have e3:=f7.out;have e4:=es.out
       refine ⟨g9,d6,?_,?_,?_⟩
       ·have e5:cX sz j=lo+B:=by unfold cX;rw [e1,e2,e3,e4]
        rw [e5,e1,e2,e4]
        have:=b4.out
        simp [bK,←this]
       ·rw [e1,e2,e4];exact b5.out
       ·rw [e1,e2,e4];exact aA (O a4.out (by decide) (by decide)) (by have:=Hb.out.size;omega)
    case measure=>simp [intOf];omega
  ·obtain rfl:k=n:=by omega
   have en:jc 212 352 wr I.heap.size sz ps q:=by
    refine ⟨S,some ⟨gp,0,none⟩,cp,Al,cl,rows,?_,HS.out.below b1.out,Rd.own ad.out,Rd.own cf.out,?_,bN.out,?_⟩
    ·rw [HN.out,Hn.out];exact b0.out
    ·rw [Hn.out];exact b4.out
    ·intro j hj
     rw [Hn.out] at hj
     obtain ⟨g9,d9,bX,bI,co⟩:=b2.out j hj
     have hR:=HG.out.1
     have bi:j+1<sz.length:=by have:=Hn.out;have:=hR.1;omega
     have a0:=ES (fg sz (show j+1≤k by omega)) (Nat.le_of_eq Hl.out.symm)
     have L:=fl sz j
     have a7:bL sz ps j=(ps.drop (cX sz j)).take (szN sz (j+1)):=(dQ (by rw [Fv,Fy];have:=HN.out;omega) fun i hi=>by rw [fv hi,fw]).symm
     refine ⟨g9,0,d9,some ⟨gp,cX sz j,none⟩,cp-cX sz j,bX,bI,Rd.own co,?_⟩
     have:=((Rd.own ad.out).drop (cX sz j)).take (szN sz (j+1))
     rwa [FI,dP,du,←a7] at this
   have e7:yP wr w.heap.size I.heap.size ps:=by unfold yP;rw [HN.out];exact ⟨_,_,_,_,_,b0.out,ad.out,Hb.out.size⟩
   have da:oh wr w.heap.size I.heap.size S sz ps q:=by
    unfold oh
    rw [HN.out,Hn.out]
    exact ⟨gp,cp,Al,cl,rows,b0.out,Hb.out.size,ad.out,aA cf.out Hb.out.size,b4.out,bN.out,b2.out⟩
   obtain ⟨f3,f1,g1⟩:=ae en e7 da;clear en e7 da
   go_wp2_with fail
   go_ret2
   exact ⟨_,rfl,f3.out,f1.out,g1.out,b1.out⟩
theorem nH {S:Nat→Prop} {w i:World} (hk:Keep S w i):Ext (aQ S w) i:=fun k hl=>by
 rw [lr] at hl
 by_cases h:S k
 ·exact .inl (qE h hl)
 ·exact .inr (by rw [ix h];exact hk.block k hl h)
def eP (i:Inp) (P G:List Int) (l:List Ex):List Int:=l.foldl (fun a x=>qN a (jH i.cfg.sizes P i.cfg.shift x.1 x.2)) G
theorem sy (i:Inp) (P G:List Int) (l:List Ex) (x:Ex):eP i P G (l++[x])=qN (eP i P G l) (jH i.cfg.sizes P i.cfg.shift x.1 x.2):=by simp [eP]
def qx (i:Inp) (x st a:Nat):List Int:=jW (et i.draws i.data.length i.cfg.batch.toNat st) i.cfg.workers.toNat x i.cfg.micros.toNat a
theorem m8 {i:Inp} {l:List Int} (h:jA i l) (k j:Nat):jA i (cV l k j):=fun n hn=>by
 have o:(cV l k j).length≤l.length-bdN l.length k j:=by simp only [cV,Fv,Fy];omega
 have u:(cV l k j).length≤bdN l.length k (j+1)-bdN l.length k j:=by simp only [cV,Fv];omega
 unfold cV
 rw [fv (by omega),fw]
 exact h _ (by omega)
theorem AU {i:Inp} (h:om i) (x st a:Nat):jA i (qx i x st a):=m8 (m8 (vh h st) _ _) _ _
theorem xC {i:Inp} (o:om i) {l:List Int} (h:jA i l) {k:Nat} {e:Ex} (he:(fF i.data l)[k]?=some e):dK (inN i) (ul i) e:=by
 have hk:=(Fq.1 he).1
 rw [jw] at hk
 rw [rD _ _ hk] at he
 have u:=h k hk
 unfold ja at u
 simp only [Option.some.injEq] at he
 subst he
 have hl:(nth l k).toNat<i.data.length:=by omega
 simp only [List.getD,Fr hl,Option.getD_some]
 exact o.f _ (List.getElem_mem hl)
theorem yc {H:Nat→Prop} {w:World} {b x:Nat} {i:Inp} {a:MAd} {m:Mst} (h:aC H w b i x a m) (hs:bP i) (y:Itm) (u v:Value) (hu:u.oneCell'=true) (hv:v.oneCell'=true) (bs:y.st<i.cfg.steps.toNat) (hn:y.n<i.cfg.micros.toNat):
  Calls Tryz.prog 224 #[.pointer (some ⟨b,0,none⟩),.agg (aS y).toArray,.agg #[u,v]] w fun e o=>e=.returned (FQ 0)∧Keep (fun k=>k=a.bg) w o∧
   o.ownsRow 0 2 1 (.slice (some ⟨a.bg,0,none⟩) i.start.length a.cg) i.start.length (ar .i64 (eP i m.P m.G (fF i.data (qx i x y.st y.n)))):=by
 have V:=hs.g
 have hc:=V.c
 have a6:aZ i.cfg.sizes (i.cfg.sizes.length-1)=i.start.length:=V.s.symm
 have Z:=hc.z.bound (k:=i.cfg.sizes.length-1) (by have:=hc.z.1.1;omega)
 have hq:0≤i.cfg.shift∧i.cfg.shift≤62:=⟨by have:=hc.s;omega,by have:=hc.s;omega⟩
 have cx:b≠a.bg:=fun e=>an h.blk (by decide) h.oG (by rw [e];rfl)
 have c6:=EL h.blk
 have b0:=(h.oG.lt a.bg rfl).2
 have R:=fun o (q:Keep (fun k=>k=a.bg) w o)=>(q.block b c6 cx).trans h.blk
 have hx:=fun o (q:Keep (fun k=>k=a.bg) w o)=>nH (S:=er H b a) (q.mono (fun k _ e=>.inl (.inr (.inr (.inr (.inl e))))))
 have b8:=h.wP.1
 have a7:m.P.length=aZ i.cfg.sizes (i.cfg.sizes.length-1):=b8.trans a6.symm
 have a3:=fun o (q:Keep (fun k=>k=a.bg) w o)=>rP a.F i.cfg.sizes m.P (some ⟨a.bp,0,none⟩) a.cp i.cfg.shift o (dx h.sh (hx o q)) hc.z hq a7 (Rd.own (q.own h.oP (fun j hj e=>h.dj.2.1 (by cases hj;exact e))))
 rw [b8] at a3
 have eW:((i.cfg.workers.toNat:Nat):Int)=i.cfg.workers:=by have:=hc.w;omega
 have eM:((i.cfg.micros.toNat:Nat):Int)=i.cfg.micros:=by have:=hc.mi;omega
 have D:=fun o (q:Keep (fun k=>k=a.bg) w o)=>ya a.S i.data.length i.cfg.batch.toNat i.cfg.steps.toNat y.st i.cfg.workers.toNat x i.cfg.micros.toNat y.n i.draws o (eQ h.sa (hx o q)) (by have:=hc.ba;have:=hc.w;omega) (by have:=V.b.1;omega) V.b.2 (by have:=hc.st;omega) bs (by have:=hc.w;omega) (by have:=hc.ba;omega) h.xw (by have:=hc.mi;omega) (by have:=hc.mi;omega) hn
 rw [eW,eM] at D
 have A:=AU V x y.st y.n
 obtain ⟨C,I⟩:∃C,qx i x y.st y.n=C:=⟨_,rfl⟩
 rw [I] at A
 have O:jW (et i.draws i.data.length i.cfg.batch.toNat y.st) i.cfg.workers.toNat x i.cfg.micros.toNat y.n=C:=I
 rw [O] at D
 rw [I]
 have a2:C.length≤1048576:=by
  rw [←I]
  have h0:=j3 i.draws (n:=i.data.length) (b:=i.cfg.batch.toNat) (t:=y.st) (Nat.div_pos (by have:=V.b.1;omega) (by have:=hc.ba;have:=hc.w;omega))
  have h1:∀(l:List Int) (k j:Nat),(cV l k j).length≤l.length:=fun l k j=>by simp only [cV,Fv,Fy];omega
  have h2:=h1 (cV (et i.draws i.data.length i.cfg.batch.toNat y.st) i.cfg.workers.toNat x) i.cfg.micros.toNat y.n
  have h3:=h1 (et i.draws i.data.length i.cfg.batch.toNat y.st) i.cfg.workers.toNat x
  have:=hc.ba
  unfold qx jW
  omega
 have a0:=fun o (q:Keep (fun k=>k=a.bg) w o) B d (hB:Rd o B (ar .i64 C))=>Aq a.ce d a.E B i.data C o (gu cz h.ex (hx o q)) V.b.2 hB a2
 have Q:=fun (k:Nat) (e:Ex) (he:(fF i.data C)[k]?=some e)=>xC V A he
 have Y:=jw i.data C
 obtain ⟨pl,N⟩:∃pl,fF i.data C=pl:=⟨_,rfl⟩
 rw [N] at Y Q
 simp only [N] at a0 ⊢
 have a1:=fun bh A1 A2 (e:Ex) c1 c2 o (hN:jc 212 352 o bh i.cfg.sizes m.P i.cfg.shift) (r1:bY o A1 e.1 c1) (r2:bY o A2 e.2 c2) (hf:dK (inN i) (ul i) e)=>Dc bh i.cfg.sizes m.P i.cfg.shift A1 A2 e.1 e.2 c1 c2 o hN hc.z h.wP.2 r1.hr hf.1 r1.hw r2.hr hf.2
 have U:=fun (e:Ex) (hf:dK (inN i) (ul i) e)=>yt (sz:=i.cfg.sizes) (ps:=m.P) (q:=i.cfg.shift) (x:=e.1) (y:=e.2) hf.1 (by have:=hc.z.1.1;omega)
 rw [a6] at a1 U Z
 have a5:=fun o (q:Keep (fun k=>k=a.bg) w o)=>dx h.sh (hx o q)
 obtain ⟨K,hK⟩:∃K,C.length=K:=⟨_,rfl⟩
 rw [hK] at D a2 a0 Y
 unfold jA at A
 rw [hK] at A
 have t0:∀o,Keep (fun k=>k=a.bg) w o→o.cell? ⟨b,0,none⟩=some (FQ (x:Nat)):=fun o q=>EO o b 0 _ _ _ (R o q)
 have t1:∀o,Keep (fun k=>k=a.bg) w o→o.cell? ⟨b,1,none⟩=some (FQ i.cfg.workers):=fun o q=>EO o b 1 _ _ _ (R o q)
 have t2:∀o,Keep (fun k=>k=a.bg) w o→o.cell? ⟨b,2,none⟩=some (FQ i.cfg.micros):=fun o q=>EO o b 2 _ _ _ (R o q)
 have t3:∀o,Keep (fun k=>k=a.bg) w o→o.cell? ⟨b,3,none⟩=some (.pointer (some ⟨a.F,0,none⟩)):=fun o q=>EO o b 3 _ _ _ (R o q)
 have t4:∀o,Keep (fun k=>k=a.bg) w o→o.cell? ⟨b,4,none⟩=some (.slice a.E i.data.length a.ce):=fun o q=>EO o b 4 _ _ _ (R o q)
 have t5:∀o,Keep (fun k=>k=a.bg) w o→o.cell? ⟨b,5,none⟩=some (.pointer (some ⟨a.S,0,none⟩)):=fun o q=>EO o b 5 _ _ _ (R o q)
 have cl:∀o,Keep (fun k=>k=a.bg) w o→o.cell? ⟨b,10,none⟩=some (FQ i.cfg.shift):=fun o q=>EO o b 10 _ _ _ (R o q)
 have bn:∀o,Keep (fun k=>k=a.bg) w o→o.cell? ⟨b,11,none⟩=some (.slice (some ⟨a.bp,0,none⟩) i.start.length a.cp):=fun o q=>EO o b 11 _ _ _ (R o q)
 have cb:∀o,Keep (fun k=>k=a.bg) w o→o.cell? ⟨b,13,none⟩=some (.slice (some ⟨a.bg,0,none⟩) i.start.length a.cg):=fun o q=>EO o b 13 _ _ _ (R o q)
 have tl:=fun o (q:Keep (fun k=>k=a.bg) w o)=>ET c6 q.size
 obtain ⟨n,bz⟩:∃n,i.start.length=n:=⟨_,rfl⟩
 have oG:=h.oG
 rw [bz] at a3 a1 U Z bn cb oG ⊢
 obtain ⟨W0,W1,bI,bG,g0,g1,b9, -⟩:=ge w (aS y).toArray #[u,v] 152 333
 have q1:Keep (fun k=>k=a.bg) w W1:=Keep.below b9
 have s1:∀o,Below W1.heap.size W1 o→o.cell? ⟨w.heap.size,1,none⟩=some (FQ (y.st:Nat)):=fun o q=>EO o w.heap.size 1 _ _ _ (sb g0 o q)
 have s2:∀o,Below W1.heap.size W1 o→o.cell? ⟨w.heap.size,2,none⟩=some (FQ (y.n:Nat)):=fun o q=>EO o w.heap.size 2 _ _ _ (sb g0 o q)
 have d6:=sl g0
 obtain ⟨K1,d3,d1,c7,bl,d0,bA,cd⟩:=aj b9 bI bG a3 D a0 Q a1;obtain ⟨c9,HG,cq,OG,Hz,cr,a8,dn⟩:=aj U A a5 oG hc.z a7 Y R;obtain ⟨ci,cw⟩:=ab Z a2;clear bI bG g0 g1 b9 R hx b8 a7 a3 D a0 Q a1 U A a5 oG Y Z a2 eW eM I O N hK bz hc a6 hq bs hn h V hs
 go_enter Tryz.func224,Tryz.ntmps224
 go_wp2_with fail
 rw [d3.out,d1.out]
 have b1:=(br W1).drew
 refine HA.g (fun o:World=>Keep (fun k=>k=a.bg) w o∧Below W1.heap.size W1 o) ?_
 refine HA.t ?_ [0,1,2,3,4,5,6,7,8,9,10,11,12,13,14,15] ⟨q1.drew,b1⟩ ?_
 refine HA.c 16 (c7.out _ q1.drew) ?_
 rintro e w2 ⟨nb,rfl, -, -,bO,k2⟩
 have q2:=q1.drew.trans (Keep.below (S:=fun k=>k=a.bg) k2)
 have b2:=b1.trans (k2.mono b1.size)
 refine ⟨_,rfl,⟨q2,b2⟩,fun _=>?_⟩
 refine HA.t ?_ [17,18,19,20,21] ⟨q2,b2⟩ ?_
 refine HA.d ?_
 have NO:=aa bO;have c8:a.bg<w2.heap.size:=ET b0 q2.size
 have ad:w.heap.size≤W1.drew.heap.size:=q1.drew.size
 clear bO k2 q1 b1
 go_wp2_with fail
 refine HA.g (fun o:World=>Keep (fun k=>k=a.bg) w o∧Below W1.heap.size W1 o) ?_
 refine HA.t ?_ [0,1,2,3,4,5,6,7,8,9,10,11,12,13,14,15,16,17,18,19,20,21,22,23,24,25,26,27,28] ⟨q2.drew,b2.drew⟩ ?_
 refine HA.c 29 (bl.out _ q2.drew) ?_
 rintro e w3 ⟨B,d,rfl,hd,rB,k3⟩
 have q3:=q2.drew.trans (Keep.below (S:=fun k=>k=a.bg) k3)
 have b3:=b2.drew.trans (k3.mono b2.drew.size)
 have b6:Below w2.heap.size w2 w3:=(br w2).drew.trans k3
 refine ⟨_,rfl,⟨q3,b3⟩,fun _=>?_⟩
 refine HA.c 30 (d0.out w3 q3 B d rB) ?_
 rintro e w4 ⟨k4,bM⟩
 rcases bM with ⟨-,A',c',rfl,bi⟩ | ⟨cf, -⟩
 rotate_left
 ·exact absurd HG.out cf
 have q4:=q3.trans (Keep.below (S:=fun k=>k=a.bg) k4)
 have b4:=b3.trans (k4.mono b3.size)
 refine ⟨_,rfl,⟨q4,b4⟩,fun _=>?_⟩
 refine HA.t ?_ [31,32,33,34,35] ⟨q4,b4⟩ ?_
 refine HA.d ?_
 obtain ⟨co,M4,Q4,cc⟩:=af ((NO.out.below b6).below k4) bi q4 (aq OG.out (K1.out.trans (b4.mono K1.out.size)))
 have cn:a.bg<w3.heap.size:=ET c8 b6.size
 have d5:a.bg<W1.drew.heap.size:=ET b0 ad
 clear q2 q3 q4 b2 b3 b4 b6 k3 k4 bi rB hd s1 s2 d6 t0 t1 t2 t3 t4 t5 cl bn
 go_wp2_with fail
 go_loopw [71] (fun z wr=>∃k:Nat,k≤K∧z=FQ k∧wr.ownsRow 0 2 1 (.slice (some ⟨a.bg,0,none⟩) n a.cg) n (ar .i64 (eP i m.P m.G (pl.take k)))∧Keep (fun k=>k=a.bg) w4 wr) (fun z _=>K-(intOf z).toNat)
 case atStart=>exact ⟨0,EQ _,rfl,cc.out,Keep.refl _ _⟩
 case round=>
  obtain ⟨k,hk,rfl,og,qk⟩:=hrel
  have qw:=Q4.out.trans qk
  by_cases da:k<K
  ·have cj:(k:Int)<K:=by omega
   have dc:¬(k:Int)<0:=by omega
   have d9:IntKind.i64.wrap ((k:Int)+1)=((k+1:Nat):Int):=by have:=cw.out;rw [ER _ (by omega)];push_cast;rfl
   obtain ⟨e,he⟩:∃e,pl[k]?=some e:=⟨_,Fr (by have:=a8.out;omega)⟩
   have hf:=bA.out k e he
   have bv:=(M4.out.keep qk (fun j hj=>by rw [hj];exact cn)).rd a8.out
   obtain ⟨eb,eo,A1,c1,A2,c2,rfl,dk,p1,p2,r1,r2⟩:=iy bv he
   have bX:=(br wr).alloc (EM _) (.cells #[.slice A1 e.1.length c1,.slice A2 e.2.length c2] 91)
   have a4:=((co.out.keep qk (fun j hj=>by rw [hj];exact d5)).at (cq.out wr qw) Hz.out cr.out).below bX
   have L:=cd.out nb A1 A2 e c1 c2 _ a4 (r1.below bX) (r2.below bX) hf
   have b7:=c9.out e hf
   have bN:pl.take (k+1)=pl.take k++[e]:=by rw [List.take_add_one,he];rfl
   obtain ⟨gv,J⟩:∃gv,jH i.cfg.sizes m.P i.cfg.shift e.1 e.2=gv:=⟨_,rfl⟩
   obtain ⟨n1,bb⟩:∃n1,e.1.length=n1:=⟨_,rfl⟩
   obtain ⟨n2,bV⟩:∃n2,e.2.length=n2:=⟨_,rfl⟩
   rw [J] at b7 L
   rw [bb] at bX L p1
   rw [bV] at bX L p2
   obtain ⟨ct,BX,b5,d2,cv,bw,QK,QW⟩:=aj L bX og b7 bN J qk qw;clear L bX og b7 bN J qk a4 bv r1 r2 hf he bb bV
   go_wp2_with fail
   refine ct.out.mono ?_
   rintro e' w6 ⟨A3,c3,rfl,o3,k6⟩
   have T:=BX.out.trans (k6.mono BX.out.size)
   have q6:=QW.out.trans (Keep.below (S:=fun k=>k=a.bg) T)
   have d7:a.bg<wr.heap.size:=ET b0 QW.out.size
   have bo:=qM 0 (some ⟨a.bg,0,none⟩) A3 (eP i m.P m.G (pl.take k)) gv n a.cg c3 w6 (aq b5.out T) (Rd.own o3) d2.out (by have:=ci.out;omega) (fun z1 z2 e1 e2=>by
    cases e1
    have:=(o3.lt z2.block (by rw [e2];rfl)).1
    have h2:=BX.out.size
    dsimp only
    omega)
   obtain ⟨cs,d4⟩:=ab bo T;clear bo T o3 k6 p1 p2 qw
   go_wp2_with fail
   refine cs.out.mono ?_
   rintro d8 w7 ⟨rfl,o7,k7⟩
   have bd:Keep (fun k=>k=a.bg) w4 w7:=(QK.out.trans (Keep.below d4.out)).trans (k7.mono fun j _ hj=>by cases hj;rfl)
   rw [←bw.out,←sy,←cv.out] at o7
   obtain ⟨O7,K7⟩:=ab o7 bd;clear o7 k7 bd q6
   go_wp2_with fail
   go_roundw
   case rel=>exact ⟨k+1,by omega,by go_num,O7.out,K7.out⟩
   case measure=>simp [intOf];omega
  ·obtain rfl:k=K:=by omega
   have cj:¬(k:Int)<k:=by omega
   rw [List.take_of_length_le (by have:=a8.out;omega)] at og
   obtain ⟨b5,QW⟩:=ab og qw;clear og qk qw
   go_wp2_with fail
   go_ret
   exact ⟨rfl,QW.out,b5.out⟩
end Go.Proofs.YtgmajkppbhiopaaGreat
