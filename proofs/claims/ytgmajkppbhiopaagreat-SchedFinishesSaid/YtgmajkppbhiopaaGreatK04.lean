/- No condition. -/
import Derived.Test.YtgmajkppbhiopaaGreatK03
import Derived.WalkMore
import Derived.Deep.LoopGhost
import Derived.Lib.SliceRun
import Derived.Deep.RegionLaw
set_option linter.unusedSimpArgs false
set_option linter.unusedVariables false
set_option maxRecDepth 100000
set_option maxHeartbeats 4000000
namespace Go.Proofs.YtgmajkppbhiopaaGreat
open Go.RowKit Tryz
abbrev Vn (i:Inp):Nat:=i.start.length
abbrev Vo (i:Inp):Nat:=i.data.length
abbrev Vq (p:Pln):Nat:=p.buks.length
abbrev Vm (A:Option Addr) (c:Nat) (D:Option Addr) (u:Nat) (T:Option Addr) (v:Nat) (R:Option Addr) (x:Nat) (i:Inp) (a b d e f g h:Value):Array Value:=#[.slice A i.cfg.sizes.length c,QZ i.cfg.shift,QZ i.cfg.rate,QZ i.cfg.mom,QZ i.cfg.workers,QZ i.cfg.batch,QZ i.cfg.micros,QZ i.cfg.steps,QZ i.cfg.bucket,QZ i.cfg.chunk,QZ i.cfg.window,QZ i.cfg.cap,.slice D i.data.length u,.slice T i.start.length v,.slice R i.draws.length x,a,b,d,e,f,g,h]
variable {D add:Bool} {Q:Exit->Ro->R8->Prop} {f:Func} {i:Inp} {q ra z:Int} {y:Itm} {rows rows':List (R7)} {R:List Nat} {rest:List Oper} {a:MAd} {m m1:Mst} {A:N_} {B C W X b base c cap j k l lo n nb nx o peak r recv sent st wi x:Nat} {E G H S S':Nat->Prop} {op:Oper} {O g:Option Nat} {p:Pln} {P:Program} {ps sz zs:Q_} {u vs:R6} {xs:R7} {V h w:R8} {T:R8->Mst->Prop} {e:R9} {ring ring' v:Value}
def Pv (sz ps:Q_) (q:Int) (x y:Q_) (G:Nat) (k:Nat) (D:Value) (h i w:R8):Prop:=
 ∃A c o,D=.slice A (szN sz (k+1)) c/\w.ownsRow h.heap.size 2 1 (.slice A (szN sz (k+1)) c) (szN sz (k+1)) (aA .i64 (gw sz ps q x y (sz.length-2-k)))/\
  w.heap[G]?=some (.cells (aA .i64 o).toArray 2 (0,0))/\o.length=bT sz (sz.length-1)/\o.drop (bT sz (k+1))=qK sz ps q x y (sz.length-2-k)/\(∀a,A=some a->a.block≠G)/\aq i w
theorem I9:dg prog 148 2:=⟨⟨_,underlying148,rfl⟩,by kernel_rfl⟩
theorem M9 (b:Nat) (sz ps:Q_) (q:Int) (A B:N_) (x y:Q_) (c d:Nat) (w:R8) (h:mt 212 352 w b sz ps q) (hg:dX sz) (wp:W64 ps) (hA:Rd w A (aA .i64 x)) (hx:x.length=szN sz 0) (wx:W64 x) (hB:Rd w B (aA .i64 y)) (hy:y.length=szN sz (sz.length-1)):Vj 233 #[.pointer (some ⟨b,0,none⟩),.slice A x.length c,.slice B y.length d] w λe u=>∃A' c',Vi e (.tuple #[.slice A' (bT sz (sz.length-1)) c',.bool true])/\u.ownsRow w.heap.size 2 1 (.slice A' (bT sz (sz.length-1)) c') (bT sz (sz.length-1)) (aA .i64 (fR sz ps q x y))/\aq w u:=by
 have hm:=MR b sz ps q A B x y c d w h hg wp hA hx wx hB hy;have eb:=h.lt;obtain ⟨S,Ap,cp,Al,cl,rows,h0,h1,h2,h3,h4,h5,h6⟩:=h;have cb:=λu (k:aq w u)=>le S sz u (h1.below k);have cA:=λu (k:aq w u)=>kZ S sz u (h1.below k);have d5:=λj u (k:aq w u)=>pr S sz j u (h1.below k) (by have:=hg.1.1.2;omega);have d2:=λj u (k:aq w u)=>qp S sz j u (h1.below k) (by have:=hg.1.1.2;omega);have es:=hg.2;have da:fR sz ps q x y=qK sz ps q x y (sz.length-1):=rfl;obtain ⟨n,hn⟩:=Vb (sz.length-1);obtain ⟨N,hN⟩:=Vb (bT sz n);have f7:pw (dJ sz ps q x n) y=gw sz ps q x y 0:=by show _=pw _ _;rw [hn]
 rw [hn] at h0 cA d5 d2 h4 h6 cb es da hm hy |-;rw [hN] at cb es |-;rw [f7] at hm;have i3:1<=n/\n<=15:=by have:=hg.1.1;omega
 obtain ⟨Hm,h9,gm,gR,hq,H0,H3,H4⟩:=ak hm cb cA d5 d2 h0 h3 h4;obtain ⟨H5,H6,HG,WP,Hx,WX,Hy,Hn⟩:=ak h5 h6 hg wp hx wx hy hn;obtain ⟨HN,gs⟩:=ae hN da;clear hm cb cA d5 d2 h0 h1 h2 h3 h4 h5 h6 hg wp hA hx wx hB hy hn hN da f7;go_enter func233,ntmps233;go_wp2;go_step3;go_wp2_with fail;refine Hm.o.mono ?_;rintro e R ⟨A',c',D,dc,vals,rfl,hr,ee,hc,ho,hb⟩;have bM:=(hb.block b eb).trans H0.o;obtain ⟨⟨r0,r1,r2,r3⟩,rf⟩:=bx4 bM;have g6:b<R.heap.size:=PU bM;have aP:=hb.size;obtain ⟨Hr,gd,Hc,Ho,Hb,f4⟩:=ai hr ee hc ho hb bM;clear hr ee hc ho hb bM;go_wp2_with fail;refine (h9.o _ Hb.o).mono ?_;rintro e u ⟨rfl,rfl⟩;have ea:(8:Nat)*N<=281474976710656:=ap;have hL:=aa ea;clear ea;go_wp2_with (at_make;refine vN mY _ rfl (.tmp 31) (.tmp 31) rfl rfl N rfl rfl hL.o V2 ?_);intro w2 fs d9;have c6:=JM fs;rw [fB] at c6;have bN:=(d9.block b g6).trans f4.o;clear r0 r1 r2 r3 rf;obtain ⟨⟨r0,r1,r2,r3⟩,rf⟩:=bx4 bN;have hT:=PU bN;have i6:=PU c6;obtain ⟨dn,hG,i0⟩:=af d9 c6 bN;clear fs d9 c6 bN;have cv:(n:Int)-1=((n-1:Nat):Int):=ap;have fi:IntKind.i64.wrap ((n:Int)-1)=((n-1:Nat):Int):=by rw [P3 _ ap];omega
 rw [cv] at fi;go_wp2;go_step3;go_wp2_with fail;refine (gm.o _ (Hb.o.trans (dn.o.mono aP))).mono ?_;rintro e u ⟨rfl,rfl⟩;go_wp2_with fail;clear fi cv r0 r1 r2 r3 rf
 go_loopw [9,12] (λv i wr=>∃k:Nat,k<=n-1/\i=QZ k/\Pv sz ps q x y R.heap.size k v w R wr) (λ_ i _=>(intOf i).toNat)
 case atStart=>
  have ef:sz.length-2-(n-1)=0:=by have:=Hn.o;omega
  have dp:n-1+1=n:=ap;refine ⟨n-1,PV _,rfl,D,dc,List.replicate N 0,?_,?_,hG.o,?_,?_,?_,dn.o⟩
  .rw [dp,<-Hy.o]
  .rw [ef,dp,<-Hy.o];exact az Ho.o dn.o
  .rw [Hn.o,HN.o];simp
  .rw [ef,dp,HN.o];simp [qK]
  .intro a ha e;have:=(Ho.o.lt a.block (by rw [ha];rfl)).2;omega
 case round=>
  obtain ⟨k,hk,rfl,A9,c9,o,rfl,ho,e6,b6,f5,eY,hW⟩:=hrel;have cf:=(hW.block b g6).trans f4.o;obtain ⟨⟨r0,r1,r2,r3⟩,rf⟩:=bx4 cf;have f6:aq w wr:=Hb.o.trans (hW.mono aP);have gy:b<wr.heap.size:=PU cf;obtain ⟨cM,hh,bw,hI,g9,ew,HW,bb⟩:=ak cf ho e6 b6 f5 eY hW f6;clear cf ho e6 b6 f5 eY hW f6;have fe:=gR.o k;have b3:=hq.o k;obtain ⟨hC,hJ⟩:=ae fe b3;clear fe b3;go_wp2_with fail
  go_cut [13,14] (λv1 v2 wx=>∃M1 M2,v1=.pointer (some ⟨M1,0,none⟩)/\v2=.pointer (some ⟨M2,0,none⟩)/\Vg wx M1 #[QZ (bT sz k:Int),QZ (dL sz k:Int)] 148/\Vg wx M2 #[QZ (dL sz k:Int),QZ (bT sz (k+1):Int)] 148/\wr.heap.size<=M1/\wr.heap.size<=M2/\aq wr wx)
  case first=>
   have t0:∀u,aq wr u->u.cell? ⟨b,0,none⟩=some (.pointer (some ⟨S,0,none⟩)):=λu k=>PX u b 0 _ _ _ (sb cM.o u k);have tl:=sl cM.o;have q:aq wr wr.drew:=(br wr).drew;clear r0 r1 r2 r3 rf;refine HA.g (λu:R8=>aq wr u) ?_;refine HA.t ?_ [0,1,2,3,4,6,7,8,9,10] q ?_;obtain ⟨U,hU⟩:=Vb wr.drew;rw [hU] at q |-;clear hU
   repeat' first
    | (refine HA.three 5 12 13 ?_ ?_ ?_)
    | (refine HA.three 11 12 13 ?_ ?_ ?_)
    | (refine HA.two 5 12 ?_ ?_)
    | (refine HA.two 5 13 ?_ ?_)
    | (refine HA.two 11 12 ?_ ?_)
    | (refine HA.two 11 13 ?_ ?_)
    | (refine HA.two 12 13 ?_ ?_)
    | (refine HA.sole 5 ?_)
    | (refine HA.sole 11 ?_)
    | (refine HA.sole 12 ?_)
    | (refine HA.sole 13 ?_)
    | (refine HAS.c (i:=5) (hC.o U (bb.o.trans (q.mono bb.o.size)) ap) ?_;rintro e V ⟨rfl,kV⟩;(try replace gA:=sb gA _ kV);(try replace gB:=sb gB _ kV);replace q:=q.trans (kV.mono q.size);refine ⟨_,rfl,q,λ_=>?_⟩;clear kV;obtain ⟨U,rfl⟩:∃U,U=V:=⟨_,rfl⟩)
    | (refine HAS.c (i:=11) (hJ.o U (bb.o.trans (q.mono bb.o.size)) ap) ?_;rintro e V ⟨rfl,kV⟩;(try replace gA:=sb gA _ kV);(try replace gB:=sb gB _ kV);replace q:=q.trans (kV.mono q.size);refine ⟨_,rfl,q,λ_=>?_⟩;clear kV;obtain ⟨U,rfl⟩:∃U,U=V:=⟨_,rfl⟩)
    | (have hA:=q.size;have bV:=(br U).alloc (PV _) (.cells #[QZ 0,QZ 0] 148);have gA:=PW U (.cells #[QZ 0,QZ 0] 148);(try have nB:=PU gB);(try replace gB:=sb gB _ bV);replace q:=q.alloc q.size (.cells #[QZ 0,QZ 0] 148);refine HAS.v (i:=12) (U.alloc (.cells #[QZ 0,QZ 0] 148)) (.pointer (some ⟨U.heap.size,0,none⟩)) q ?_;obtain ⟨V,hv⟩:=Vb (U.alloc (.cells #[QZ 0,QZ 0] 148));rw [hv] at gA q |-;(try rw [hv] at gB);clear hv bV;obtain ⟨mm,hm⟩:=Vb U.heap.size;rw [hm] at gA hA |-;(try rw [hm] at nB);clear hm;obtain ⟨U,rfl⟩:∃U,U=V:=⟨_,rfl⟩)
    | (have hB:=q.size;have bV:=(br U).alloc (PV _) (.cells #[QZ 0,QZ 0] 148);have gB:=PW U (.cells #[QZ 0,QZ 0] 148);(try have nA:=PU gA);(try replace gA:=sb gA _ bV);replace q:=q.alloc q.size (.cells #[QZ 0,QZ 0] 148);refine HAS.v (i:=13) (U.alloc (.cells #[QZ 0,QZ 0] 148)) (.pointer (some ⟨U.heap.size,0,none⟩)) q ?_;obtain ⟨V,hv⟩:=Vb (U.alloc (.cells #[QZ 0,QZ 0] 148));rw [hv] at gB q |-;(try rw [hv] at gA);clear hv bV;obtain ⟨mm,hm⟩:=Vb U.heap.size;rw [hm] at gB hB |-;(try rw [hm] at nA);clear hm;obtain ⟨U,rfl⟩:∃U,U=V:=⟨_,rfl⟩)
    | (refine HA.st 14 gA I9 (λw8 e8 k8=>?_);refine ⟨LH q k8 q.size hA,?_⟩;refine HA.st 15 ((k8.block _ (PU gB) ap).trans gB) I9 (λw9 e9 k9=>?_);have F:=MD (w:=wr) ap hA hB q e8 k8 e9 k9;refine ⟨F.2.2.2.2.2,HA.d ?_⟩;have HF:=aa F;clear F e8 k8 e9 k9 t0 tl gA gB q;go_wp2;go_meet;exact ⟨_,_,rfl,rfl,HF.o.1,HF.o.2.1,HF.o.2.2.2⟩)
  case rest=>
   obtain ⟨M1,M2,rfl,rfl,ao,bi,io,ia,hB⟩:=hcut;have hR:=HG.o.1;have fb:=Hn.o;have fa:k+1<sz.length:=ap;have z0:=hR.at (k:=k) ap;have z1:=hR.at fa;have cs:=HG.o.mul fa;have e7:1<=szN sz (k+1)*szN sz k:=Nat.mul_pos z1.1 z0.1;have a2:dL sz k=bT sz k+szN sz (k+1)*szN sz k:=rfl;have Z:=fL sz k;have a0:=gn sz (show k+1<=n by omega);have fr:=HN.o;have d1:sz.length-2-k=n-1-k:=ap;have a8:=mg (sz:=sz) (ps:=ps) (q:=q) (x:=x) (y:=y) Hx.o (n-1-k);rw [show sz.length-1-(n-1-k)=k+1 by omega] at a8;have bs:=uV sz ps q x y (n-1-k);have a7:=fA (sz:=sz) (ps:=ps) (q:=q) Hx.o k;have ci:=ql (sz:=sz) (ps:=ps) (q:=q) WX.o k;obtain ⟨Ak,ck,bO,gg,c7⟩:=gd.o.2 k ap;rw [a7] at bO;obtain ⟨bo,oo,rfl,pv⟩:=Hr.o _ _ bO;have hz:bo<R.heap.size:=aB pv;have bz:aq R wc:=HW.o.trans (hB.mono HW.o.size);have cP:=(bz.cell (p:=⟨bo,oo+k,none⟩) hz).trans pv;have bn:=(hB.block b gy).trans cM.o;have dk:=(hB.block R.heap.size (PU bw.o)).trans bw.o;have ab:=az hh.o hB;rw [d1] at ab;have bf:=c7.below bz;obtain ⟨lo,cL⟩:=Vb (bT sz k);obtain ⟨r,hr⟩:=Vb (szN sz (k+1));obtain ⟨c0,b0⟩:=Vb (szN sz k);obtain ⟨H,Y⟩:=Vb (r*c0);rw [<-Z,a2] at bi;rw [a2] at ao;rw [<-Z,a2] at a0;rw [cL,hr,b0,Y] at ao bi a0;rw [hr] at a8 z1 ab;rw [b0] at a7 z0 cP;rw [hr,b0,Y] at e7 cs;rw [hr];obtain ⟨ev,dG⟩:=Vb (gw sz ps q x y (n-1-k));obtain ⟨vv,d0⟩:=Vb (dJ sz ps q x k);rw [dG] at a8 bs ab;rw [d0] at a7 ci bf c7;have gO:=aa c7;have bG:=λW (h:aq wc W)=>FN r c0 A9 Ak ev vv c9 ck q W ⟨z1.1,z1.2.1⟩ ⟨z0.1,z0.2.1⟩ (by rw [Y];exact cs) ((Rd.own ab).below h) bs a8 (bf.below h) a7 ci;rw [Y] at bG;have cO:(mN r c0 ev vv q).length=H:=by rw [CB,Y]
   obtain ⟨ow,d7⟩:=Vb (mN r c0 ev vv q);rw [d7] at bG cO;obtain ⟨⟨m0,m1⟩,mf⟩:=bx2 ao;obtain ⟨⟨n0,n1,n2,n3⟩,nf⟩:=bx4 bn;have id:=PU ao;have hF:R.heap.size<wc.heap.size:=PU dk;have hY:b<wc.heap.size:=PU bn;have hQ:bo<wc.heap.size:=ap;have cr:M1≠R.heap.size:=by have:=HW.o.size;have:=PU bw.o;omega
   have f9:M2≠R.heap.size:=by have:=HW.o.size;have:=PU bw.o;omega
   have b6:o.length=N:=by rw [hI.o,fb,fr]
   have gV:lo+H+r<=N:=ap;have hV:k<sz.length:=ap;have j0:¬(N=lo):=ap;have j5:lo+H<=N:=ap;have ih:(lo:Int)+H<=N:=ap;have il:((lo:Int)+H).toNat=lo+H:=ap;have jj:(0:Int)<=(lo:Int)+H:=ap;have j1:(lo:Int)<=(lo:Int)+H:=ap;obtain ⟨jr,bh,j7,gf,he,hD,av,gz⟩:=ak ao bi bn dk ab bG cO d7;obtain ⟨eq,eB,eM,a6,Q,bA,h8,HB⟩:=ak dG d0 cL hr b0 Y bz hB;obtain ⟨O,i5,gv,WV,a5,gN,h7,hX⟩:=ak b6 bf a7 ci a8 bs d1 bO;clear ao bi bn dk ab bG cO d7 dG d0 cL hr b0 Y bz hB b6 bf a7 ci a8 bs d1 bO gg c7 pv a2 Z a0 fr fb n0 n1 n3 nf mf;go_wp2_with fail;have C:(λu:R8=>u.cell? ⟨M1,0,none⟩=some (QZ lo)/\u.cell? ⟨M1,1,none⟩=some (QZ ((lo:Int)+H))/\u.cell? ⟨bo,oo+k,none⟩=some (.slice Ak c0 ck)/\u.cell? ⟨b,2,none⟩=some (QZ q)) wc.drew:=⟨m0,m1,cP,n2⟩;refine HA.g (λu:R8=>u.cell? ⟨M1,0,none⟩=some (QZ lo)/\u.cell? ⟨M1,1,none⟩=some (QZ ((lo:Int)+H))/\u.cell? ⟨bo,oo+k,none⟩=some (.slice Ak c0 ck)/\u.cell? ⟨b,2,none⟩=some (QZ q)) ?_;refine HA.t ?_ [0,1,2,3,4,5,6,7,8,9,10,11,12,13,14] C ?_;refine HA.o 15 (λK hK=>?_);go_simp;refine (hD.o _ ((PY wc.heap.size wc).drew)).mono ?_;rintro e w5 ⟨A5,rfl,b9,a9⟩;have er:=P7 (aw a9 C.1) (P7 (aw a9 C.2.1) (P7 (aw a9 C.2.2.1) (aw a9 C.2.2.2)));have aG:aq wc w5:=(PY wc.heap.size wc).drew.trans a9;have f0:=(aG.block _ hF).trans gf.o;have b9:=Rd.own b9;obtain ⟨g7,gX,ad⟩:=af f0 b9 aG;clear f0 b9 a9 aG C;dsimp only;refine hK.out _ _ er (λC=>?_);clear hK K er;refine HA.o 16 (λK hK=>?_);go_simp;refine hK.out _ _ C (λC=>?_);clear hK K;refine HA.o 17 (λK hK=>?_);refine BE (.tmp 58) (.tmp 69) 139 139 rfl rfl 2 underlying139 V1 (some ⟨R.heap.size,lo,none⟩) A5 H (N-lo) H rfl rfl R.heap.size lo (aA .i64 o) 2 g7.o (aA .i64 ow) (by rw [cq,av.o]) (λ_=>rfl) gX.o (by rw [cq,cq,av.o,O.o];omega) (cU _ _) ?_;intro w6 dT T;rw [nr] at dT;have eV:=P7 (T.cell C.1 (by exact cr)) (P7 (T.cell C.2.1 (by exact cr)) (P7 (T.cell C.2.2.1 (show bo≠_ by omega)) (T.cell C.2.2.2 (show b≠_ by omega))));have a3:=(T.block M2 (PU ((ad.o.block _ (PU bh.o)).trans bh.o)) f9).trans ((ad.o.block _ (PU bh.o)).trans bh.o);obtain ⟨gJ,d4⟩:=ae dT T;clear dT T C;dsimp only;refine hK.out _ _ eV (λC=>?_);clear hK K eV;refine HA.d ?_
   have eL:w6.ownsRow w.heap.size 2 1 (.slice A9 r c9) r (aA .i64 ev):=d4.o.own (az he.o ad.o) (λi hi e=>by
    cases A9 with
    | none=>cases hi
    | some a=>simp [Value.ownBlock] at hi;exact ew.o a rfl (hi.trans e))
   have e5:=C.2.2.2;have ej:=C.2.2.1;obtain ⟨⟨hs,ga⟩,hE⟩:=bx2 a3;have hS:=PU a3;obtain ⟨fn,hO⟩:=ae eL a3;clear eL a3 C m0 m1 cP n2;have i4:¬(N=lo+H):=ap;have hZ:lo+H+r<=N:=ap;have ib:(lo:Int)+H+r<=N:=ap;have i8:((lo:Int)+H+r).toNat=lo+H+r:=ap;have j9:(0:Int)<=(lo:Int)+H+r:=ap;have j2:(lo:Int)+H<=(lo:Int)+H+r:=ap;have go:=aa (show (aA .i64 ev).length=r by rw [cq,a5.o]);obtain ⟨gb,gx⟩:=ae (show lo+H+(aA .i64 ev).length<=(aA .i64 (splice o lo ow)).length by rw [cq,cq,a5.o,length_splice _ _ _ (by rw [av.o,O.o];omega),O.o];omega) (show (prog.info? 2).map (·.size)=some 1 by kernel_rfl);go_wp2_with (refine qg rfl (.tmp 76) (.tmp 77) 139 139 rfl 2 underlying139 gx.o (some ⟨R.heap.size,lo+H,none⟩) A9 r (N-(lo+H)) c9 rfl rfl R.heap.size (lo+H) (aA .i64 (splice o lo ow)) 2 gJ.o (aA .i64 ev) go.o (λ_=>rfl) (Rd.own fn.o) gb.o (cU _ _) ?_);intro w7 bI b8;rw [nr] at bI;obtain ⟨o7,bX⟩:=Vb (splice (splice o lo ow) (lo+H) ev)
   have f8:o7.length=N:=by
    have h1:(splice o lo ow).length=N:=by rw [length_splice _ _ _ (by rw [av.o,O.o];omega),O.o]
    rw [<-bX,length_splice _ _ _ (by rw [h1,a5.o];omega),h1]
   have eo:o7.drop (bT sz k)=qK sz ps q x y (n-k):=by
    have e1:=Hn.o;have e2:=xM (o:=o) (W:=ow) (D:=ev) (lo:=lo) (by rw [av.o,a5.o,O.o];exact gV);rw [av.o,a5.o,bX] at e2;rw [eM.o,e2,show n-k=(n-1-k)+1 by omega]
    have e3:bT sz (k+1)=lo+H+r:=by
     rw [<-fL sz k,show dL sz k=bT sz k+szN sz (k+1)*szN sz k from rfl,eM.o,a6.o,Q.o,bA.o]
    have e4:=g9.o;rw [e3,h7.o] at e4;rw [qK,show sz.length-1-(n-1-k)=k+1 by omega,show sz.length-2-(n-1-k)=k by omega,a6.o,Q.o,eq.o,eB.o,gz.o,<-e4]
   have co:aq R w7:=h8.o.trans (((ad.o.mono ap).trans (d4.o.toBelow (by have:=ad.o.size;omega) (λi hi=>ap))).trans (b8.toBelow (by have:=d4.o.size;have:=ad.o.size;omega) (λi hi=>ap)));rw [bX] at bI
   have fd:=b8.own fn.o (λi hi e=>by
    cases A9 with
    | none=>cases hi
    | some a=>simp [Value.ownBlock] at hi;exact ew.o a rfl (hi.trans e))
   have gT:=b8.cell e5 (show b≠_ by omega);have f3:=b8.cell ej (show bo≠_ by omega);obtain ⟨cy,dw,eu,a1,gG⟩:=ah bI f8 eo co fd;clear bI f8 eo co fd bX b8 e5 ej hs ga hE;by_cases ds:k=0
   .have cx:((k:Int)==0)=true:=by simp [ds]
    have cn:w7.ownsRow w.heap.size 2 1 (.slice (some ⟨R.heap.size,0,none⟩) N N) N (aA .i64 (fR sz ps q x y)):=by
     have e1:=eu.o;rw [ds] at e1;have e2:o7=fR sz ps q x y:=by rw [gs.o,<-Nat.sub_zero n,<-e1];rfl
     have e3:=KP (base:=w.heap.size) (xs:=aA .i64 o7) (by exact cy.o) aP (by rw [cq,dw.o];unfold maxLen;omega);rw [cq,dw.o] at e3;rw [<-e2];exact e3
    have eS:=aa cn;clear cn ds;have L:=Hb.o.trans (a1.o.mono aP);have ey:=aa L;clear L;go_wp2_with fail
    try rw [Exit.noGoto_ret]
    go_ret2;exact ⟨_,_,rfl,eS.o,ey.o⟩
   .have cx:((k:Int)==0)=false:=by simp;omega
    obtain ⟨gl,ol,dl,Bl,el,hcs,hd,eG,hrb⟩:=H6.o k ap;have b5:k<rows.length:=by rw [H4.o];omega
    have cd:∀t,t<4->(List.flatten rows)[k*4+t]?=(bS rows k)[t]?:=λt ht=>nH H5.o k t b5 ht;have e0:=cd 0 ap;have e1:=cd 1 ap;have e2:=cd 2 ap;rw [hcs] at e0 e1 e2;simp only [Nat.add_zero,Qp,Qo] at e0 e1 e2;obtain ⟨bl,ob,gc,q0⟩:=H3.o _ _ e0;obtain ⟨_,_,b2,q1⟩:=H3.o _ _ e1;obtain ⟨_,_,b4,q2⟩:=H3.o _ _ e2;subst gc;injection b2 with b2;injection b2 with i1 i2 _;subst i1;subst i2
    injection b4 with b4;injection b4 with i1 i2 _;subst i1;subst i2
    have d3:bl<w.heap.size:=aB q0;have L:=Hb.o.trans (a1.o.mono aP);have dr:=(L.cell (p:=⟨bl,ob+k*4,none⟩) d3).trans q0;have bd:=(L.cell (p:=⟨bl,ob+(k*4+1),none⟩) d3).trans q1;have cc:=(L.cell (p:=⟨bl,ob+(k*4+2),none⟩) d3).trans q2;rw [<-QO] at bd cc;rw [a6.o] at dr;rw [Q.o] at bd;rw [a6.o,Q.o,bA.o] at cc hd;have ei:=(L.block b eb).trans H0.o;obtain ⟨⟨n0,n1,n2,n3⟩,nf⟩:=bx4 ei;have aR:=Bq sz ps k;rw [a6.o,Q.o,bA.o] at aR;have b3:=Gw r c0 gl ol H dl (wL sz ps k) A9 ev c9 q w7.drew ⟨z1.1,z1.2.1⟩ ⟨z0.1,z0.2.1⟩ bA.o.symm hd ap aR ((eG.below L).drewN 1) (Ir WP.o sz k) ((Rd.own gG.o).drewN 1) a5.o gN.o;have i7:k<n:=ap;obtain ⟨hu,ey⟩:=ae b3 L;clear b3 L ei aR eG hrb hcs e0 e1 e2 q0 q1 q2 cd b5 hd;go_wp2
    go_region_held3 (λu=>u.cell? ⟨b,3,none⟩=some (.slice (some ⟨bl,ob,none⟩) n cl)/\u.cell? ⟨bl,ob+k*4,none⟩=some (QZ r)/\u.cell? ⟨bl,ob+k*4+1,none⟩=some (QZ c0)/\u.cell? ⟨bl,ob+k*4+2,none⟩=some (.slice (some ⟨gl,ol,none⟩) H dl)/\u.cell? ⟨b,2,none⟩=some (QZ q)) (simp [go_sem, *])
     ((go_at_call 251;refine hu.o.mono ?_;rintro e w8 ⟨A8,c8,rfl,a4,J⟩;have g0:=aw J n3;have g1:=aw J dr;have g2:=aw J bd;have g3:=aw J cc;have g4:=aw J n2;have g5:=aw J f3;obtain ⟨hp,gU⟩:=ae a4 J;clear a4 J))
    go_wp2_with fail;have aM:=rH (wL sz ps k) r c0 ev q;obtain ⟨bk,b1⟩:=Vb (pC (wL sz ps k) r c0 ev q);have a4:=aF (base':=w7.heap.size) hp.o V3;rw [b1] at aM a4;obtain ⟨cw,fc,eX⟩:=af aM a4 b1;have J:=(PY w7.heap.size w7).drew.trans gU.o;have gZ:=aa J;clear aM a4 b1 J g0 g1 g2 g3 g4 g5 n0 n1 n2 n3 nf f3 dr bd cc gT cx
    go_loopw [103] (λi wx=>∃j:Nat,j<=c0/\i=QZ j/\wx.ownsRow w7.heap.size 2 1 (.slice A8 c0 c8) c0 (aA .i64 (lq bk j (λi=>if 0<nth vv i then nth bk i else 0)))/\aq w7 wx) (λi _=>c0-(intOf i).toNat)
    .exact ⟨0,PZ _,rfl,by rw [iS];exact fc.o,gZ.o⟩
    case round=>
     obtain ⟨j,hj,rfl,I,b7⟩:=hrel;by_cases d6:j<c0
     .obtain ⟨g8,d8,ec,gI,_⟩:=I.form ap;simp only [QH] at ec;obtain ⟨rfl,gk,rfl⟩:=ec;clear gk;have dv:j<bk.length:=by rw [cw.o];exact d6
      have p1:=cS I d6;rw [ii _ dv,if_neg ap] at p1;have f1:=I.frozenAt j;have f2:=jR (l:=bk) (k:=j) (λi=>if 0<nth vv i then nth bk i else 0) dv;obtain ⟨bv,ov,rfl,i9⟩:=((gO.o.below a1.o).below b7).num (show j<vv.length by rw [gv.o];exact d6);obtain ⟨HO,be,gp⟩:=af I b7 f2;clear I b7 f2 dv;go_wp2_with fail;refine (KN _ _ _).mono ?_;rintro e w9 ⟨rfl,rfl⟩;go_wp2;go_roundw
      .exact ⟨j+1,ap,Vc,by rw [<-gp.o];exact eC HO.o j _,be.o.setCell (p:=⟨g8,j,none⟩) gI _⟩
      .simp [intOf];omega
     .obtain rfl:j=c0:=ap;obtain ⟨HO,be⟩:=ae I b7;clear I b7;have em:IntKind.i64.wrap ((k:Int)-1)=((k-1:Nat):Int):=by rw [P3 _ ap];omega
      have cj:(k:Int)-1=((k-1:Nat):Int):=ap;rw [cj] at em;go_wp2_with fail;clear em cj;go_roundw
      case rel=>
       have ek:k-1+1=k:=ap;have en:=Hn.o;have hf:R.heap.size<w7.heap.size:=PU cy.o
       have hM:gw sz ps q x y (sz.length-2-(k-1))=lq bk j (λi=>if 0<nth vv i then nth bk i else 0):=by
        rw [show sz.length-2-(k-1)=(n-1-k)+1 by omega,gw,show sz.length-2-(n-1-k)=k by omega,show sz.length-1-(n-1-k)=k+1 by omega,eq.o,eB.o,a6.o,Q.o,eX.o];rw [<-cw.o,jS];rfl
       refine ⟨k-1,ap,rfl,A8,c8,o7,?_,?_,?_,?_,?_,?_,?_⟩
       .rw [ek,Q.o]
       .rw [ek,Q.o,hM];exact aF HO.o ap
       .exact (be.o.block _ hf).trans cy.o
       .rw [dw.o,en,HN.o]
       .rw [ek,eu.o,show sz.length-2-(k-1)=n-k by omega]
       .intro a ha e9;have:=(HO.o.lt a.block (by rw [ha];rfl)).1;omega
       .exact a1.o.trans (be.o.mono ap)
      case measure=>exact Va
theorem Lf:dM prog 350 358 (.agg #[.int .i64 0,.int .i64 0,.slice none 0 0,.slice none 0 0]) 4 64:=⟨underlying350,info_parts V1,rfl,by decide⟩
theorem zM {g:Nat} {xs:Q_} (h:w.ownsRow base e 1 (.slice (some ⟨g,0,none⟩) n c) n (aA .i64 xs)) (hk:k<n):w.cell? ⟨g,k,none⟩=some (.int .i64 (nth xs k)):=cS h hk
def PO (sz ps:Q_) (q:Int) (S h cp b o:Nat) (u:N_) (v:Nat) (k:Nat) (x w:R8):Prop:=
 ∃p i rows,w.heap[b]?=some (.cells #[.pointer (some ⟨S,0,none⟩),.slice (some ⟨h,0,none⟩) ps.length cp,.int .i64 q,.slice p k i] 352 (0,0))/\
  w.ownsRow b 358 4 (.slice p k i) k (List.flatten rows)/\rows.length=k/\(∀r∈rows,r.length=4)/\
  w.ownsRow o 2 1 (.slice (some ⟨h,0,none⟩) ps.length cp) ps.length (aA .i64 ps)/\
  (∀j,j<k->∃g d,bS rows j=[.int .i64 (szN sz (j+1):Int),.int .i64 (szN sz j:Int),.slice (some ⟨g,0,none⟩) (szN sz (j+1)*szN sz j) d,.slice (some ⟨h,dL sz j,none⟩) (szN sz (j+1)) (cp-dL sz j)]/\
   szN sz (j+1)*szN sz j<=d/\w.ownsRow o 2 1 (.slice (some ⟨g,0,none⟩) (szN sz (j+1)*szN sz j) d) (szN sz (j+1)*szN sz j) (aA .i64 (wL sz ps j)))/\
  w.ownsRow b 3 1 (.slice u sz.length v) sz.length (aA .i64 sz)/\Below b x w
def OC (w:R8) (base b:Nat) (ps:Q_):Prop:=∃s h cp q l,w.heap[b]?=some (.cells #[s,.slice h ps.length cp,q,l] 352 (0,0))/\w.ownsRow base 2 1 (.slice h ps.length cp) ps.length (aA .i64 ps)/\base<=b
def vo (w:R8) (base b S:Nat) (sz ps:Q_) (q:Int):Prop:=∃g cp i h rows,
 w.heap[b]?=some (.cells #[.pointer (some ⟨S,0,none⟩),.slice (some ⟨g,0,none⟩) ps.length cp,.int .i64 q,.slice i (sz.length-1) h] 352 (0,0))/\base<=b/\
  w.ownsRow base 2 1 (.slice (some ⟨g,0,none⟩) ps.length cp) ps.length (aA .i64 ps)/\w.ownsRow base 358 4 (.slice i (sz.length-1) h) (sz.length-1) (List.flatten rows)/\rows.length=sz.length-1/\(∀r∈rows,r.length=4)/\
  ∀j,j<sz.length-1->∃o d,bS rows j=[.int .i64 (szN sz (j+1):Int),.int .i64 (szN sz j:Int),.slice (some ⟨o,0,none⟩) (szN sz (j+1)*szN sz j) d,.slice (some ⟨g,dL sz j,none⟩) (szN sz (j+1)) (cp-dL sz j)]/\
   szN sz (j+1)*szN sz j<=d/\w.ownsRow base 2 1 (.slice (some ⟨o,0,none⟩) (szN sz (j+1)*szN sz j) d) (szN sz (j+1)*szN sz j) (aA .i64 (wL sz ps j))
theorem vo.keep {u:R8} {y:Nat} (h:vo w base b y sz ps q) (k:Keep S w u) (p:∀j,S j->j<base):vo u base b y sz ps q:=by
 obtain ⟨g,cp,J,O,rows,A,h1,x,B,I,L,Q⟩:=h;have D:∀{e' size n m:Nat} {v:Value} {xs:R7},w.ownsRow base e' size v n xs->u.ownsRow base e' size v n xs:=λhr=>k.own hr (λi o hs=>by have:=p i hs;have:=(hr.lt i o).1;omega)
 exact ⟨g,cp,J,O,rows,(k.block b (PU A) (λhs=>by have:=p b hs;omega)).trans A,h1,k.own x (λi o hs=>by have:=p i hs;have:=(x.lt i o).1;omega),k.own B (λi o hs=>by have:=p i hs;have:=(B.lt i o).1;omega),I,L,λj T=>by
  have ⟨H,d,R,N,C⟩:=Q j T
  exact ⟨H,d,R,N,k.own C (λi o hs=>by have:=p i hs;have:=(C.lt i o).1;omega)⟩⟩
theorem vo.below {i:R8} (h:vo w base b o sz ps q) (hb:aq w i):vo i base b o sz ps q:=h.keep (S:=λ_=>False) (Keep.below hb) (λ_ h=>h.elim)
theorem vo.at {S:Nat} (h:vo w base b S sz ps q) (R:cT 212 w S sz) (hg:dX sz) (hl:ps.length=bT sz (sz.length-1)):mt 212 352 w b sz ps q:=by
 obtain ⟨g,cp,H,N,rows,C,h1,A,J,D,I,O⟩:=h;refine ⟨S,some ⟨g,0,none⟩,cp,H,N,rows,C,R,Rd.own A,Rd.own J,D,I,λj Q=>?_⟩;have ⟨B,T,o,u,p⟩:=O j Q;have v:=P4 (gn sz (show j+1<=sz.length-1 by omega)) (Nat.le_of_eq hl.symm);have y:=fL sz j;have x:bL sz ps j=(ps.drop (dL sz j)).take (szN sz (j+1)):=(fN (by rw [Qy,QB];omega) λi L=>by rw [eH L,eI]).symm;refine ⟨B,0,T,some ⟨g,dL sz j,none⟩,cp-dL sz j,o,u,Rd.own p,?_⟩;have:=((Rd.own A).drop (dL sz j)).take (szN sz (j+1))
 rwa [QP,dK,dH,<-x] at this
theorem zT (S:Nat) (sz ps:Q_) (A:N_) (c:Nat) (q:Int) (w:R8) (hS:cT 212 w S sz) (hg:dX sz) (hq:0<=q/\q<=62) (hl:ps.length=bT sz (sz.length-1)) (hA:Rd w A (aA .i64 ps)):Vj 230 #[.pointer (some ⟨S,0,none⟩),.slice A ps.length c,.int .i64 q] w λe C=>∃b,Vi e (.tuple #[.pointer (some ⟨b,0,none⟩),.bool true])/\mt 212 352 C b sz ps q/\OC C w.heap.size b ps/\vo C w.heap.size b S sz ps q/\aq w C:=by
 obtain ⟨q1,q2⟩:=hq;have hc:=le S sz w hS;have cd:=fP A ps c w hA (by have:=hg.2;omega);have cr:=λC (k:aq w C)=>nj S sz C (hS.below k) (by have:=hg.1.1.2;omega);have bs:=λC (k:aq w C)=>kZ S sz C (hS.below k);have c9:=λj C (k:aq w C)=>pr S sz j C (hS.below k) (by have:=hg.1.1.2;omega);have bl:=λj C (k:aq w C)=>qp S sz j C (hS.below k) (by have:=hg.1.1.2;omega);rw [<-hl] at hc;obtain ⟨n,hn⟩:=Vb (sz.length-1);obtain ⟨N,hN⟩:=Vb ps.length;rw [hn] at bs c9 bl hl;rw [hN] at hc cd hl |-;have Z:1<=n/\n<=15:=by have:=hg.1.1;omega
 have fb:N<=1048576:=by have:=hg.2;rw [hn] at this;omega
 obtain ⟨Hc,eG,ea,eB,ee,eS,HG,Hn⟩:=ak hc cd cr bs c9 bl hg hn;obtain ⟨HN,HS,g7,Hl⟩:=ag hN hS hA hl;clear hc cd cr bs c9 bl hg hn hN hS hA hl;go_enter func230,ntmps230;go_wp2_with fail;refine Hc.o.mono ?_;rintro e C ⟨rfl,rfl⟩;go_wp2_with fail;refine eG.o.mono ?_;rintro e I ⟨A',cp,rfl,cf,be,hb⟩;obtain ⟨bh,Hb,ey⟩:=af be hb cf;clear be hb cf;go_wp2_with fail;refine (ea.o _ ?_).mono ?_
 .have hb:=Hb.o;have f3:=hb.size;exact am
 rintro e w2 ⟨As,cs,rfl,d4,a1⟩;obtain ⟨em,ds⟩:=ae d4 a1;clear d4 a1;go_wp2_with fail;refine (eB.o _ ?_).mono ?_
 .have hb:=Hb.o;have a1:=ds.o;exact hb.trans ((((PY _ I).alloc (PV _) _).trans (a1.mono V3)).mono hb.size)
 rintro e C ⟨rfl,rfl⟩;go_wp2_with fail
 have ek:1<=N:=by
  have h0:=Hl.o;have h1:=(HG.o.1.at (k:=1) (by have:=HG.o.1.1;omega)).1;have h2:=gn sz (show 1<=n by omega);have h3:dL sz 0+szN sz 1=bT sz 1:=fL sz 0;omega
 obtain ⟨gp,g2,d5,fr,_⟩:=bh.o.form ap;simp only [QH] at d5;obtain ⟨rfl,ec,rfl⟩:=d5;clear ec
 go_loopw [42] (λi wr=>∃k:Nat,k<=n/\i=.int .i64 k/\PO sz ps q S gp cp I.heap.size w.heap.size As cs k I wr) (λi _=>n-(intOf i).toNat)
 case atStart=>
  have a1:=ds.o;have hk:aq I w2:=((PY _ I).alloc (PV _) _).trans (a1.mono V3);have en:=(a1.block I.heap.size V3).trans (PW I _);refine ⟨0,PZ _,rfl,none,0,[],?_,Qb _ _ _ _,rfl,by simp,?_,λj hj=>ap,aF em.o V3,hk⟩
  .rw [HN.o];exact en
  .rw [HN.o];exact az bh.o hk
 case round=>
  obtain ⟨k,hk,rfl,Al,cl,rows,av,cL,cv,cj,c8,bd,cx,hW⟩:=hrel;rw [HN.o] at av c8;obtain ⟨⟨x0,x1,x2,x3⟩,xf⟩:=bx4 av;have eo:=PU av;have dk:aq w wr:=Hb.o.trans (hW.mono Hb.o.size);obtain ⟨ab,bN,aG,bn,a9,ao,b6,HW⟩:=ak av cL cv cj c8 bd cx hW;have ad:=aa dk;clear av cL cv cj c8 bd cx hW dk;by_cases f9:k<n
  .have hR:=HG.o.1;have b5:k+1<sz.length:=by have:=Hn.o;have:=hR.1;omega
   have z0:=hR.at (k:=k) ap;have z1:=hR.at b5;have dp:=HG.o.mul b5;have cM:1<=szN sz (k+1)*szN sz k:=Nat.mul_pos z1.1 z0.1;have T:dL sz k=bT sz k+szN sz (k+1)*szN sz k:=rfl;have L:=fL sz k;have a0:=P4 (gn sz (show k+1<=n by omega)) (Nat.le_of_eq Hl.o.symm);have a5:=ee.o k;have a6:=eS.o k;have bV:wL sz ps k=(ps.drop (bT sz k)).take (szN sz (k+1)*szN sz k):=(fN (by rw [Qy,QB];have:=HN.o;omega) λi hi=>by rw [eH hi,eI]).symm;have a7:bL sz ps k=(ps.drop (dL sz k)).take (szN sz (k+1)):=(fN (by rw [Qy,QB];have:=HN.o;omega) λi hi=>by rw [eH hi,eI]).symm;obtain ⟨g5,c5,d1,gc,_⟩:=b6.o.form ap;simp only [QH] at d1;obtain ⟨rfl,ef,rfl⟩:=d1;clear ef;have p0:=zM b6.o (show k<sz.length by omega);have p1:=zM b6.o b5;rw [z0.2.2] at p0;rw [z1.2.2] at p1;rw [T,<-L,T] at a6;rw [T] at a5 a7;have b7:=Rd.own a9.o;obtain ⟨lo,b2⟩:=Vb (bT sz k);obtain ⟨r,hr⟩:=Vb (szN sz (k+1));obtain ⟨c0,a2⟩:=Vb (szN sz k);obtain ⟨B,Z⟩:=Vb (r*c0);rw [<-L,T] at a0;rw [b2,hr,a2,Z] at a6 a5 a0;rw [hr,a2,Z] at cM dp;rw [hr] at p1 z1;rw [a2] at p0 z0;rw [b2,hr,a2,Z] at bV a7
   have da:Rd wr (some ⟨gp,lo,none⟩) (aA .i64 (wL sz ps k)):=by
    have:=(b7.drop lo).take B
    rwa [QP,dK,dH,<-bV] at this
   have bX:(wL sz ps k).length=B:=by rw [Bq,hr,a2,Z]
   have bO:=λW (h:aq wr W)=>N5 r c0 (some ⟨gp,lo,none⟩) (wL sz ps k) (cp-lo) W ⟨z1.1,z1.2.1⟩ ⟨z0.1,z0.2.1⟩ (bX.trans Z.symm) ap (da.below h);rw [bX] at bO;obtain ⟨co,d0,dv,eq,Hr,eu,e8,f5⟩:=ak a5 a6 bO b2 hr a2 Z a7;have eV:=ey.o;clear a5 a6 bO T L bV a7 b2 hr a2 Z b7 da bX;go_wp2_with fail;refine (co.o _ ad.o ap).mono ?_;rintro e w3 ⟨rfl,d7⟩;have b3:=aa d7;clear d7;go_wp2_with fail;refine (d0.o _ (ad.o.trans (b3.o.mono ad.o.size)) ap).mono ?_;rintro e H ⟨rfl,e7⟩;have J:=b3.o.trans (e7.mono b3.o.size);have dw:=(J.cell (p:=⟨I.heap.size,1,none⟩) eo).trans x1;have bo:=(J.cell (p:=⟨g5,k,none⟩) (aB p0)).trans p0;have dr:=(J.cell (p:=⟨g5,k+1,none⟩) (aB p1)).trans p1;have eX:I.heap.size<H.heap.size:=by have:=J.size;omega
   have eY:g5<H.heap.size:=aB bo;have Q:=aa J;clear J e7 b3 x0 x1 x2 x3 xf p0 p1;have fa:(k:Int)+1<sz.length:=ap;have fc:¬(cp=lo):=ap;have fd:lo+B<=cp:=ap;go_wp2_with fail
   go_cut [13,14] (λv _ wx=>∃M A d,v=.pointer (some ⟨M,0,none⟩)/\wx.heap[M]?=some (.cells #[.int .i64 r,.int .i64 c0,.slice A B d] 354 (0,0))/\B<=d/\wx.ownsRow H.heap.size 2 1 (.slice A B d) B (aA .i64 (wL sz ps k))/\H.heap.size+2<=wx.heap.size/\
    Below (H.heap.size+2) ((H.alloc (.cells #[.int .i64 lo,.int .i64 ((lo:Int)+B)] 148)).alloc (.cells #[.int .i64 ((lo:Int)+B),.int .i64 ((lo:Int)+B+r)] 148)) wx)
   case first=>
    have y:(λC:R8=>C.cell? ⟨g5,k+1,none⟩=some (.int .i64 r)/\C.cell? ⟨g5,k,none⟩=some (.int .i64 c0)/\C.cell? ⟨I.heap.size,1,none⟩=some (.slice (some ⟨gp,0,none⟩) N cp)/\C.cell? ⟨H.heap.size,0,none⟩=some (.int .i64 lo)/\C.cell? ⟨H.heap.size,1,none⟩=some (.int .i64 ((lo:Int)+B))) ((H.alloc (.cells #[.int .i64 lo,.int .i64 ((lo:Int)+B)] 148)).alloc (.cells #[.int .i64 ((lo:Int)+B),.int .i64 ((lo:Int)+B+r)] 148)).drew:=
     ⟨aJ (aJ dr _) _,aJ (aJ bo _) _,aJ (aJ dw _) _,aJ (PX _ H.heap.size 0 _ _ _ (PW H _)) _,aJ (PX _ H.heap.size 1 _ _ _ (PW H _)) _⟩
    have cw:aq wr ((H.alloc (.cells #[.int .i64 lo,.int .i64 ((lo:Int)+B)] 148)).alloc (.cells #[.int .i64 ((lo:Int)+B),.int .i64 ((lo:Int)+B+r)] 148)).drew:=
     (((Q.o.alloc (by have:=Q.o.size;omega) _).alloc (by have:=Q.o.size;simp;omega) _)).drew
    have bG:=aa cw;clear cw;have g4:k<sz.length:=ap;have f6:IntKind.i64.wrap ((k:Int)+1)=(k:Int)+1:=P3 _ ap;have f2:(0:Int)<=(k:Int)+1:=ap;have g1:((k:Int)+1).toNat=k+1:=ap;have f1:((lo:Int)+B).toNat=lo+B:=ap;have fn:(0:Int)<=(lo:Int)+B:=ap;have f0:(lo:Int)+B<=cp:=ap;have g8:(lo:Int)<=(lo:Int)+B:=ap;refine kO 23 (λC:R8=>C.cell? ⟨g5,k+1,none⟩=some (.int .i64 r)/\C.cell? ⟨g5,k,none⟩=some (.int .i64 c0)/\C.cell? ⟨I.heap.size,1,none⟩=some (.slice (some ⟨gp,0,none⟩) N cp)/\C.cell? ⟨H.heap.size,0,none⟩=some (.int .i64 lo)/\C.cell? ⟨H.heap.size,1,none⟩=some (.int .i64 ((lo:Int)+B))) V1 ?_;refine wX 0 y ?_;refine wX 1 y ?_;refine wX 2 y ?_;refine wX 3 y ?_;refine wX 4 y ?_;refine wX 5 y ?_;refine wX 6 y ?_;refine wX 7 y ?_;refine wX 8 y ?_;refine wX 9 y ?_;refine wX 10 y ?_;refine wX 11 y ?_;refine wX 12 y ?_;refine wX 13 y ?_;refine wX 14 y ?_;refine wX 15 y ?_;refine wX 16 y ?_;refine wX 17 y ?_;simp only [Qh,Qi,Qj,Act.put,Qk,Ql,Qm];refine cJ (rs:=[18,22]) V1 V3 ?_;refine aT.cons rfl (λK V=>?_) (aT.cons rfl (λK V=>?_) aT.nil)
    .simp only [Qh,Qi,Qj];go_simp;refine (dv.o _ bG.o).mono ?_;rintro e w6 ⟨A6,d6,rfl,R,U,D⟩;have b1:=P7 (aw D y.1) (P7 (aw D y.2.1) (P7 (aw D y.2.2.1) (P7 (aw D y.2.2.2.1) (aw D y.2.2.2.2))));obtain ⟨aM,a4,aP⟩:=af R U D;clear R U D y;dsimp only;refine V.out _ _ b1 (λy=>?_);clear V K b1;refine wX 19 y ?_;refine wX 20 y ?_;simp only [Qh,Qi,Qj,Act.put,Qk,Ql,Qm];refine wX0 21 y ?_;simp only [Qh,Qi,Qj,Act.put,Qk,Ql,Qm];refine cJ (rs:=[22]) V1 V3 ?_;refine aT.cons rfl (λK V=>?_) aT.nil;simp only [Qh,Qi,Qj];go_simp;refine V.out _ _ ⟨aJ y.1 _,aJ y.2.1 _,aJ y.2.2.1 _,aJ y.2.2.2.1 _,aJ y.2.2.2.2 _⟩ (λy=>?_);clear V K y;refine fq (by rfl) V1 ?_;simp only [Qq,Qs];go_wp2;go_meet;have bz:=aP.o.size;simp at bz;refine ⟨w6.heap.size,A6,d6,rfl,PW w6 _,aM.o,aF (a4.o.alloc _) V7,V7,?_⟩;exact (((PY _ _).drew).trans (aP.o.mono V7)).alloc V7 _
    .simp only [Qh,Qi,Qj];go_simp;refine V.out _ _ ⟨aJ y.1 _,aJ y.2.1 _,aJ y.2.2.1 _,aJ y.2.2.2.1 _,aJ y.2.2.2.2 _⟩ (λy=>?_);clear V K;refine cJ (rs:=[18]) V1 V3 ?_;refine aT.cons rfl (λK V=>?_) aT.nil;simp only [Qh,Qi,Qj];go_simp;refine (dv.o _ (bG.o.alloc bG.o.size _)).mono ?_;rintro e w6 ⟨A6,d6,rfl,R,U,D⟩;have b1:=P7 (aw D y.1) (P7 (aw D y.2.1) (P7 (aw D y.2.2.1) (P7 (aw D y.2.2.2.1) (aw D y.2.2.2.2))));have b0:=(D.block _ V3).trans (PW _ _);simp only [Qg,QG] at b0;obtain ⟨⟨m0,m1,m2⟩,mf⟩:=bx3 b0;have fe:=PU b0;obtain ⟨aM,a4,aP,dn⟩:=ag R U D b0;clear R U D y b0;dsimp only;refine V.out _ _ b1 (λy=>?_);clear V K b1;refine wX 19 y ?_;refine wX 20 y ?_;simp only [Qh,Qi,Qj,Act.put,Qk,Ql,Qm];refine wX0 21 y ?_;simp only [Qh,Qi,Qj,Act.put,Qk,Ql,Qm];clear y;refine fq (by rfl) V1 ?_;simp only [Qq,Qs];go_wp2;go_meet;have bz:=aP.o.size;simp at bz;have k3:=rF (w:=w6) (b:=H.heap.size+1+1) (.int .i64 r) (.int .i64 c0) (.slice A6 B d6);have g0:=k3.size;refine ⟨H.heap.size+1+1,A6,d6,rfl,vh _ _ _ dn.o,aM.o,aF (k3.own a4.o (λi hi e=>ay dn.o V0 a4.o (by rw [hi,e]))) V7,by first | omega | (simp;omega),?_⟩;exact ((((PY _ _).drew).alloc V7 _).trans (aP.o.mono V7)).trans (k3.toBelow V7 (λi hi=>by first | omega | (simp;omega)))
   case rest=>
    obtain ⟨M,A6,d6,rfl,hM,R,U,f4,cb⟩:=hcut;have d3:aq H ((H.alloc (.cells #[.int .i64 lo,.int .i64 ((lo:Int)+B)] 148)).alloc (.cells #[.int .i64 ((lo:Int)+B),.int .i64 ((lo:Int)+B+r)] 148)):=((PY _ _).alloc (PV _) _).alloc V3 _
    have bb:((H.alloc (.cells #[.int .i64 lo,.int .i64 ((lo:Int)+B)] 148)).alloc (.cells #[.int .i64 ((lo:Int)+B),.int .i64 ((lo:Int)+B+r)] 148)).heap[H.heap.size+1]?=some (.cells #[.int .i64 ((lo:Int)+B),.int .i64 ((lo:Int)+B+r)] 148 (0,0)):=by
     have:=PW (H.alloc (.cells #[.int .i64 lo,.int .i64 ((lo:Int)+B)] 148)) (.cells #[.int .i64 ((lo:Int)+B),.int .i64 ((lo:Int)+B+r)] 148);simpa using this
    have bM:=(cb.block (H.heap.size+1) ap).trans bb;have ci:aq H wc:=d3.trans (cb.mono ap);have a8:=Q.o.trans (ci.mono Q.o.size);have cc:=(a8.block _ (PU ab.o)).trans ab.o;have b8:=az bN.o a8;have b9:=az a9.o a8;have bf:=az b6.o a8;obtain ⟨⟨n0,n1,n2,n3⟩,nf⟩:=bx4 cc;obtain ⟨⟨m0,m1,m2⟩,mf⟩:=bx3 hM;obtain ⟨⟨t0,t1⟩,tf⟩:=bx2 bM;obtain ⟨cA,cn,dc,Y,dG,cO,eM,a4⟩:=ak bM a8 cc b8 b9 bf hM U;have aM:=aa R;clear a8 cc b8 b9 bf hM U R ci d3 bb bM cb dw bo dr;have fi:I.heap.size<wc.heap.size:=PU dc.o;go_wp2_with fail;have y:(λC:R8=>C.cell? ⟨I.heap.size,3,none⟩=some (.slice Al k cl)/\C.cell? ⟨M,0,none⟩=some (.int .i64 r)/\C.cell? ⟨M,1,none⟩=some (.int .i64 c0)/\C.cell? ⟨M,2,none⟩=some (.slice A6 B d6)/\C.cell? ⟨I.heap.size,1,none⟩=some (.slice (some ⟨gp,0,none⟩) N cp)/\C.cell? ⟨H.heap.size+1,0,none⟩=some (.int .i64 ((lo:Int)+B))/\C.cell? ⟨H.heap.size+1,1,none⟩=some (.int .i64 ((lo:Int)+B+r))) wc.drew:=⟨n3,m0,m1,m2,n1,t0,t1⟩;have g3:¬(cp=lo+B):=ap;have fs:(lo:Int)+B+r<=cp:=ap;have f7:(lo:Int)+B<=(lo:Int)+B+r:=ap;have f8:((lo:Int)+B+r).toNat=lo+B+r:=ap;have gb:((lo:Int)+B).toNat=lo+B:=ap;have gd:(0:Int)<=(lo:Int)+B:=ap;have g6:(0:Int)<=(lo:Int)+B+r:=ap;refine XA.g 18 (λC:R8=>C.cell? ⟨I.heap.size,3,none⟩=some (.slice Al k cl)/\C.cell? ⟨M,0,none⟩=some (.int .i64 r)/\C.cell? ⟨M,1,none⟩=some (.int .i64 c0)/\C.cell? ⟨M,2,none⟩=some (.slice A6 B d6)/\C.cell? ⟨I.heap.size,1,none⟩=some (.slice (some ⟨gp,0,none⟩) N cp)/\C.cell? ⟨H.heap.size+1,0,none⟩=some (.int .i64 ((lo:Int)+B))/\C.cell? ⟨H.heap.size+1,1,none⟩=some (.int .i64 ((lo:Int)+B+r))) ?_;refine XA.t ?_ [0,1,2,3,4,5,6,7,8,9,10,11,12,13,14,15] y ?_;refine XA.o 16 (λK V=>?_);go_simp;refine V.out _ _ ⟨aJ y.1 _,aJ y.2.1 _,aJ y.2.2.1 _,aJ y.2.2.2.1 _,aJ y.2.2.2.2.1 _,aJ y.2.2.2.2.2.1 _,aJ y.2.2.2.2.2.2 _⟩ (λy=>?_);clear V K;refine XA.o 17 (λK V=>?_);refine bY Lf (.tmp 77) (.tmp 89) rfl rfl I.heap.size (.slice Al k cl) k (List.flatten rows) rfl (bZ (Y.o.alloc _) 1) (some ⟨wc.heap.size,0,none⟩) 1 1 [.int .i64 r,.int .i64 c0,.slice A6 B d6,.slice (some ⟨gp,lo+B,none⟩) r (cp-(lo+B))] rfl (dW wc _ _ _ rfl) rfl V5 ap V2 V6 ?_;intro A7 c7 w7 cP e0 a3 ew;have a3:=qI a3;have aR:=eh (o:=.cells #[.int .i64 r,.int .i64 c0,.slice A6 B d6,.slice (some ⟨gp,lo+B,none⟩) r (cp-(lo+B))] 358 (0,0)) dc.o V0 Y.o a3;have i0:=PX w7 _ 3 _ _ _ aR;have i1:=PX w7 _ 1 _ _ _ aR;have i3:=P8 w7 _ 3 _ _ aR;have b4:=eh (o:=.cells #[.int .i64 r,.int .i64 c0,.slice A6 B d6,.slice (some ⟨gp,lo+B,none⟩) r (cp-(lo+B))] 358 (0,0)) eM.o V0 Y.o a3;have bA:=eh (o:=.cells #[.int .i64 r,.int .i64 c0,.slice A6 B d6,.slice (some ⟨gp,lo+B,none⟩) r (cp-(lo+B))] 358 (0,0)) cA.o V0 Y.o a3;have i4:=PX w7 _ 0 _ _ _ b4;have i5:=PX w7 _ 1 _ _ _ b4;have i6:=PX w7 _ 2 _ _ _ b4;have i7:=PX w7 _ 0 _ _ _ bA;have i8:=PX w7 _ 1 _ _ _ bA;obtain ⟨d2,bI,eb,ei⟩:=ag cP aR a3 e0;clear cP aR a3 ew e0 b4 bA;dsimp only;refine V.out _ _ ⟨i0,i4,i5,i6,i1,i7,i8⟩ (λy=>?_);clear V K y;refine XA.e ?_;simp only [Qq,Qs];go_wp2_with fail;have er:=QX w7 I.heap.size 3 _ _ (.slice A7 (k+1) c7) bI.o;have es:Keep (λi=>i=I.heap.size) w7 (w7.setCell ⟨I.heap.size,3,none⟩ (.slice A7 (k+1) c7)):=Vk I.heap.size (Keep.refl _ _) ⟨I.heap.size,3,none⟩ (.inr rfl) _;have e9:=es.own d2.o (λi hi e=>ay bI.o V0 d2.o (by rw [hi,e]))
    have ev:aq I (w7.setCell ⟨I.heap.size,3,none⟩ (.slice A7 (k+1) c7)):=
     (((HW.o.trans (cn.o.mono HW.o.size)).alloc ap _).drew.trans ei.o).setCell V3 _
    have O:∀{b':Nat} {u:Value} {m:Nat} {ys:R7} {e':R9},wc.ownsRow b' e' 1 u m ys->358≠e'->352≠e'->(w7.setCell ⟨I.heap.size,3,none⟩ (.slice A7 (k+1) c7)).ownsRow b' e' 1 u m ys:=λh h1 h2=>zK h Y.o eb.o bI.o h1 h2;go_roundw
    case rel=>
     refine ⟨k+1,ap,Vc,A7,c7,rows++[[.int .i64 r,.int .i64 c0,.slice A6 B d6,.slice (some ⟨gp,lo+B,none⟩) r (cp-(lo+B))]],?_,?_,by simp [aG.o],?_,?_,?_,O cO.o V0 V0,ev⟩
     .rw [HN.o];exact er
     .rw [QE,List.flatten_cons,List.flatten_nil,List.append_nil];exact e9
     .intro x hx;rcases QI.1 hx with hx | hx
      .exact bn.o x hx
      .rw [List.mem_singleton.1 hx];rfl
     .rw [HN.o];exact O dG.o V0 V0
     .intro j hj;rcases Qf j k with bw | bw
      .obtain ⟨g9,d9,bv,bi,c6⟩:=ao.o j bw;refine ⟨g9,d9,?_,bi,O (az c6 cn.o) V0 V0⟩;rw [<-bv];simp [bS,Qw (show j<rows.length by rw [aG.o];exact bw)]
      .obtain rfl:j=k:=ap;obtain ⟨g9,d9,dT,ga,_⟩:=a4.o.form ap;simp only [QH] at dT;obtain ⟨rfl,_,rfl⟩:=dT;have e1:=Hr.o;have e2:=eu.o;have e3:=eq.o;have e4:=e8.o;refine ⟨g9,d6,?_,?_,?_⟩
       .have e5:dL sz j=lo+B:=by unfold dL;rw [e1,e2,e3,e4]
        rw [e5,e1,e2,e4];have:=aG.o;simp [bS,<-this]
       .rw [e1,e2,e4];exact aM.o
       .rw [e1,e2,e4];exact aF (O a4.o V0 V0) (by have:=Hb.o.size;omega)
    case measure=>exact Va
  .obtain rfl:k=n:=ap
   have e6:mt 212 352 wr I.heap.size sz ps q:=by
    refine ⟨S,some ⟨gp,0,none⟩,cp,Al,cl,rows,?_,HS.o.below ad.o,Rd.own a9.o,Rd.own bN.o,?_,bn.o,?_⟩
    .rw [HN.o,Hn.o];exact ab.o
    .rw [Hn.o];exact aG.o
    .intro j hj;rw [Hn.o] at hj;obtain ⟨g9,d9,bv,bi,c6⟩:=ao.o j hj;have hR:=HG.o.1;have b5:j+1<sz.length:=by have:=Hn.o;have:=hR.1;omega
     have a0:=P4 (gn sz (show j+1<=k by omega)) (Nat.le_of_eq Hl.o.symm);have L:=fL sz j;have a7:bL sz ps j=(ps.drop (dL sz j)).take (szN sz (j+1)):=(fN (by rw [Qy,QB];have:=HN.o;omega) λi hi=>by rw [eH hi,eI]).symm;refine ⟨g9,0,d9,some ⟨gp,dL sz j,none⟩,cp-dL sz j,bv,bi,Rd.own c6,?_⟩;have:=((Rd.own a9.o).drop (dL sz j)).take (szN sz (j+1))
     rwa [QP,dK,dH,<-a7] at this
   have d8:OC wr w.heap.size I.heap.size ps:=by unfold OC;rw [HN.o];exact ⟨_,_,_,_,_,ab.o,a9.o,Hb.o.size⟩
   have cy:vo wr w.heap.size I.heap.size S sz ps q:=by
    unfold vo;rw [HN.o,Hn.o];exact ⟨gp,cp,Al,cl,rows,ab.o,Hb.o.size,a9.o,aF bN.o Hb.o.size,aG.o,bn.o,ao.o⟩
   obtain ⟨el,ej,eL⟩:=af e6 d8 cy;clear e6 d8 cy;go_wp2;go_ret2;exact ⟨_,rfl,el.o,ej.o,eL.o,ad.o⟩
theorem iF {i:R8} (hk:Keep S w i):Ext (aH S w) i:=λk hl=>by
 rw [oH] at hl;by_cases h:S k
 .exact .inl (yv h hl)
 .exact .inr (by rw [jq h];exact hk.block k hl h)
def dh (i:Inp) (P G:Q_) (l:Rl):Q_:=l.foldl (λa x=>eT a (fR i.cfg.sizes P i.cfg.shift x.1 x.2)) G
theorem AD (i:Inp) (P G:Q_) (l:Rl) (x:Ex):dh i P G (l++[x])=eT (dh i P G l) (fR i.cfg.sizes P i.cfg.shift x.1 x.2):=by simp [dh]
def oY (i:Inp) (x st a:Nat):Q_:=iT (cN i.draws i.data.length i.cfg.batch.toNat st) i.cfg.workers.toNat x i.cfg.micros.toNat a
theorem uh {l:Q_} (h:jK i l) (k j:Nat):jK i (cQ l k j):=λn hn=>by
 have h1:(cQ l k j).length<=l.length-bdN l.length k j:=by simp only [cQ,Qy,QB];omega
 have o:(cQ l k j).length<=bdN l.length k (j+1)-bdN l.length k j:=by simp only [cQ,Qy];omega
 unfold cQ;rw [eH ap,eI];exact h _ ap
theorem Ah (hg:iX i) (x st a:Nat):jK i (oY i x st a):=uh (uh (vk hg st) _ _) _ _
theorem FI (hg:iX i) {l:Q_} (h:jK i l) {e:Ex} (he:(cI i.data l)[k]?=some e):fC (inN i) (yh i) e:=by
 have hk:=(Qu.1 he).1;rw [oc] at hk;rw [zH _ _ hk] at he;have o:=h k hk;unfold kv at o;simp only [Option.some.injEq] at he;subst he;have hl:(nth l k).toNat<i.data.length:=ap;simp only [List.getD,Qv hl,Option.getD_some];exact hg.f _ (List.getElem_mem hl)
theorem Gv (h:aU H w b i x a m) (hs:bK i) (y:Itm) (u v:Value) (hu:u.oneCell'=true) (hv:v.oneCell'=true) (b8:y.st<i.cfg.steps.toNat) (hn:y.n<i.cfg.micros.toNat):Vj 224 #[(au b),.agg (bj y).toArray,.agg #[u,v]] w λe p=>Vi e (QZ 0)/\Keep (λk=>k=a.bg) w p/\
   p.ownsRow 0 2 1 (Vf a.bg 0 i.start.length a.cg) i.start.length (aA .i64 (dh i m.P m.G (cI i.data (oY i x y.st y.n)))):=by
 have hg:=hs.g;have hc:=hg.c;have a5:bT i.cfg.sizes (i.cfg.sizes.length-1)=i.start.length:=hg.s.symm;have Y:=hc.z.bound (k:=i.cfg.sizes.length-1) (by have:=hc.z.1.1;omega);have hq:0<=i.cfg.shift/\i.cfg.shift<=62:=⟨by have:=hc.s;omega,by have:=hc.s;omega⟩;have ci:b≠a.bg:=λe=>ay h.blk V0 h.oG (by rw [e];rfl);have bs:=PU h.blk;have a9:=(h.oG.lt a.bg rfl).2;have R:=λp (q:Keep (λk=>k=a.bg) w p)=>(q.block b bs ci).trans h.blk;have hx:=λp (q:Keep (λk=>k=a.bg) w p)=>iF (S:=gW H b a) (q.mono (λk _ e=>.inl (.inr (.inr (.inr (.inl e))))));have av:=h.wP.1;have a6:m.P.length=bT i.cfg.sizes (i.cfg.sizes.length-1):=av.trans a5.symm;have a2:=λp (q:Keep (λk=>k=a.bg) w p)=>zT a.F i.cfg.sizes m.P (some (ar a.bp 0)) a.cp i.cfg.shift p (fH h.sh (hx p q)) hc.z hq a6 (Rd.own (q.own h.oP (λj hj e=>h.dj.2.1 (by cases hj;exact e))));rw [av] at a2;have eW:((i.cfg.workers.toNat:Nat):Int)=i.cfg.workers:=by have:=hc.w;omega
 have eM:((i.cfg.micros.toNat:Nat):Int)=i.cfg.micros:=by have:=hc.mi;omega
 have D:=λp (q:Keep (λk=>k=a.bg) w p)=>Gs a.S i.data.length i.cfg.batch.toNat i.cfg.steps.toNat y.st i.cfg.workers.toNat x i.cfg.micros.toNat y.n i.draws p (iD h.sa (hx p q)) (by have:=hc.ba;have:=hc.w;omega) (by have:=hg.b.1;omega) hg.b.2 (by have:=hc.st;omega) b8 (by have:=hc.w;omega) (by have:=hc.ba;omega) h.xw (by have:=hc.mi;omega) (by have:=hc.mi;omega) hn;rw [eW,eM] at D;have A:=Ah hg x y.st y.n;obtain ⟨C,I⟩:=Vb (oY i x y.st y.n);rw [I] at A;have O:iT (cN i.draws i.data.length i.cfg.batch.toNat y.st) i.cfg.workers.toNat x i.cfg.micros.toNat y.n=C:=I;rw [O] at D;rw [I]
 have a1:C.length<=1048576:=by
  rw [<-I];have h0:=fV i.draws (n:=i.data.length) (b:=i.cfg.batch.toNat) (t:=y.st) (Nat.div_pos (by have:=hg.b.1;omega) (by have:=hc.ba;have:=hc.w;omega));have h1:∀(l:Q_) (k j:Nat),(cQ l k j).length<=l.length:=λl k j=>by simp only [cQ,Qy,QB];omega
  have h2:=h1 (cQ (cN i.draws i.data.length i.cfg.batch.toNat y.st) i.cfg.workers.toNat x) i.cfg.micros.toNat y.n;have h3:=h1 (cN i.draws i.data.length i.cfg.batch.toNat y.st) i.cfg.workers.toNat x;have:=hc.ba;unfold oY iT;omega
 have Z:=λp (q:Keep (λk=>k=a.bg) w p) B d (hB:Rd p B (aA .i64 C))=>JI a.ce d a.E B i.data C p (fh cX h.ex (hx p q)) hg.b.2 hB a1;have Q:=λ(k:Nat) (e:Ex) (he:(cI i.data C)[k]?=some e)=>FI hg A he;have V:=oc i.data C;obtain ⟨pl,N⟩:=Vb (cI i.data C);rw [N] at V Q;simp only [N] at Z |-;have a0:=λaR A1 A2 (e:Ex) c1 c2 p (hN:mt 212 352 p aR i.cfg.sizes m.P i.cfg.shift) (r1:cG p A1 e.1 c1) (r2:cG p A2 e.2 c2) (hf:fC (inN i) (yh i) e)=>M9 aR i.cfg.sizes m.P i.cfg.shift A1 A2 e.1 e.2 c1 c2 p hN hc.z h.wP.2 r1.hr hf.1 r1.hw r2.hr hf.2;have U:=λ(e:Ex) (hf:fC (inN i) (yh i) e)=>xh (sz:=i.cfg.sizes) (ps:=m.P) (q:=i.cfg.shift) (x:=e.1) (y:=e.2) hf.1 (by have:=hc.z.1.1;omega);rw [a5] at a0 U Y;have a4:=λp (q:Keep (λk=>k=a.bg) w p)=>fH h.sh (hx p q);obtain ⟨K,hK⟩:=Vb C.length;rw [hK] at D a1 Z V;unfold jK at A;rw [hK] at A;have t0:∀p,Keep (λk=>k=a.bg) w p->Vh p b 0 (Vd x):=λp q=>PX p b 0 _ _ _ (R p q);have t1:∀p,Keep (λk=>k=a.bg) w p->Vh p b 1 (QZ i.cfg.workers):=λp q=>PX p b 1 _ _ _ (R p q);have t2:∀p,Keep (λk=>k=a.bg) w p->Vh p b 2 (QZ i.cfg.micros):=λp q=>PX p b 2 _ _ _ (R p q);have t3:∀p,Keep (λk=>k=a.bg) w p->Vh p b 3 ((au a.F)):=λp q=>PX p b 3 _ _ _ (R p q);have t4:∀p,Keep (λk=>k=a.bg) w p->Vh p b 4 (.slice a.E i.data.length a.ce):=λp q=>PX p b 4 _ _ _ (R p q);have t5:∀p,Keep (λk=>k=a.bg) w p->Vh p b 5 ((au a.S)):=λp q=>PX p b 5 _ _ _ (R p q);have bV:∀p,Keep (λk=>k=a.bg) w p->Vh p b 10 (QZ i.cfg.shift):=λp q=>PX p b 10 _ _ _ (R p q);have b6:∀p,Keep (λk=>k=a.bg) w p->Vh p b 11 (Vf a.bp 0 i.start.length a.cp):=λp q=>PX p b 11 _ _ _ (R p q);have bA:∀p,Keep (λk=>k=a.bg) w p->Vh p b 13 (Vf a.bg 0 i.start.length a.cg):=λp q=>PX p b 13 _ _ _ (R p q);have tl:=λp (q:Keep (λk=>k=a.bg) w p)=>P6 bs q.size;obtain ⟨n,bd⟩:=Vb i.start.length;have oG:=h.oG;rw [bd] at a2 a0 U Y b6 bA oG |-;obtain ⟨W0,W1,bh,bf,g0,g1,aG, -⟩:=gE w (bj y).toArray #[u,v] 152 333;have q1:Keep (λk=>k=a.bg) w W1:=Keep.below aG;have s1:∀p,aq W1 p->Vh p w.heap.size 1 (Vd y.st):=λp q=>PX p w.heap.size 1 _ _ _ (sb g0 p q);have s2:∀p,aq W1 p->Vh p w.heap.size 2 (Vd y.n):=λp q=>PX p w.heap.size 2 _ _ _ (sb g0 p q);have cv:=sl g0;obtain ⟨K1,co,cl,bv,b5,cj,be,bI⟩:=ak aG bh bf a2 D Z Q a0;obtain ⟨bz,HG,c8,OG,Hz,c9,a7,cO⟩:=ak U A a4 oG hc.z a6 V R;obtain ⟨bN,cf⟩:=ae Y a1;clear bh bf g0 g1 aG R hx av a6 a2 D Z Q a0 U A a4 oG V Y a1 eW eM I O N hK bd hc a5 hq b8 hn h hg hs;go_enter func224,ntmps224;go_wp2_with fail;rw [co.o,cl.o];have b1:=(br W1).drew;refine HA.g (λp:R8=>Keep (λk=>k=a.bg) w p/\aq W1 p) ?_;refine HA.t ?_ [0,1,2,3,4,5,6,7,8,9,10,11,12,13,14,15] ⟨q1.drew,b1⟩ ?_;refine HA.c 16 (bv.o _ q1.drew) ?_;rintro e w2 ⟨nb,rfl, -, -,bn,k2⟩;have q2:=q1.drew.trans (Keep.below (S:=λk=>k=a.bg) k2);have b2:=b1.trans (k2.mono b1.size);refine ⟨_,rfl,⟨q2,b2⟩,λ_=>?_⟩;refine HA.t ?_ [17,18,19,20,21] ⟨q2,b2⟩ ?_;refine HA.d ?_;have NO:=aa bn;have bw:a.bg<w2.heap.size:=P6 a9 q2.size;have a8:w.heap.size<=W1.drew.heap.size:=q1.drew.size;clear bn k2 q1 b1;go_wp2;refine HA.g (λp:R8=>Keep (λk=>k=a.bg) w p/\aq W1 p) ?_;refine HA.t ?_ [0,1,2,3,4,5,6,7,8,9,10,11,12,13,14,15,16,17,18,19,20,21,22,23,24,25,26,27,28] ⟨q2.drew,b2.drew⟩ ?_;refine HA.c 29 (b5.o _ q2.drew) ?_;rintro e w3 ⟨B,d,rfl,hd,rB,k3⟩;have q3:=q2.drew.trans (Keep.below (S:=λk=>k=a.bg) k3);have b3:=b2.drew.trans (k3.mono b2.drew.size);have ad:aq w2 w3:=(br w2).drew.trans k3;refine ⟨_,rfl,⟨q3,b3⟩,λ_=>?_⟩;refine HA.c 30 (cj.o w3 q3 B d rB) ?_;rintro e w4 ⟨k4,bi⟩;rcases bi with ⟨-,A',c',rfl,b0⟩ | ⟨bM, -⟩
 rotate_left
 .exact absurd HG.o bM
 have q4:=q3.trans (Keep.below (S:=λk=>k=a.bg) k4);have b4:=b3.trans (k4.mono b3.size);refine ⟨_,rfl,⟨q4,b4⟩,λ_=>?_⟩;refine HA.t ?_ [31,32,33,34,35] ⟨q4,b4⟩ ?_;refine HA.d ?_;obtain ⟨c7,M4,Q4,bG⟩:=ag ((NO.o.below ad).below k4) b0 q4 (az OG.o (K1.o.trans (b4.mono K1.o.size)));have c6:a.bg<w3.heap.size:=P6 bw ad.size;have cs:a.bg<W1.drew.heap.size:=P6 a9 a8;clear q2 q3 q4 b2 b3 b4 ad k3 k4 b0 rB hd s1 s2 cv t0 t1 t2 t3 t4 t5 bV b6;go_wp2
 go_loopw [71] (λz wr=>∃k:Nat,k<=K/\z=QZ k/\wr.ownsRow 0 2 1 (Vf a.bg 0 n a.cg) n (aA .i64 (dh i m.P m.G (pl.take k)))/\Keep (λk=>k=a.bg) w4 wr) (λz _=>K-(intOf z).toNat)
 .exact ⟨0,PZ _,rfl,bG.o,Keep.refl _ _⟩
 case round=>
  obtain ⟨k,hk,rfl,og,qk⟩:=hrel;have qw:=Q4.o.trans qk;by_cases cA:k<K
  .have bO:(k:Int)<K:=ap;have cL:¬(k:Int)<0:=ap;have cy:IntKind.i64.wrap ((k:Int)+1)=((k+1:Nat):Int):=by have:=cf.o;rw [P3 _ ap];push_cast;rfl
   obtain ⟨e,he⟩:∃e,pl[k]?=some e:=⟨_,Qv (by have:=a7.o;omega)⟩;have hf:=be.o k e he;have b9:=(M4.o.keep qk (λj hj=>by rw [hj];exact c6)).rd a7.o;obtain ⟨eb,eo,A1,c1,A2,c2,rfl,cM,p1,p2,r1,r2⟩:=fS b9 he;have bX:=(br wr).alloc (PV _) (.cells #[.slice A1 e.1.length c1,.slice A2 e.2.length c2] 91);have a3:=((c7.o.keep qk (λj hj=>by rw [hj];exact cs)).at (c8.o wr qw) Hz.o c9.o).below bX;have L:=bI.o nb A1 A2 e c1 c2 _ a3 (r1.below bX) (r2.below bX) hf;have ao:=bz.o e hf;have bl:pl.take (k+1)=pl.take k++[e]:=by rw [List.take_add_one,he];rfl
   obtain ⟨gv,J⟩:=Vb (fR i.cfg.sizes m.P i.cfg.shift e.1 e.2);obtain ⟨n1,aM⟩:=Vb e.1.length;obtain ⟨n2,bo⟩:=Vb e.2.length;rw [J] at ao L;rw [aM] at bX L p1;rw [bo] at bX L p2;obtain ⟨cc,BX,ab,cn,cd,bb,QK,QW⟩:=ak L bX og ao bl J qk qw;clear L bX og ao bl J qk a3 b9 r1 r2 hf he aM bo;go_wp2_with fail;refine cc.o.mono ?_;rintro e' w6 ⟨A3,c3,rfl,o3,k6⟩;have T:=BX.o.trans (k6.mono BX.o.size);have q6:=QW.o.trans (Keep.below (S:=λk=>k=a.bg) T);have cw:a.bg<wr.heap.size:=P6 a9 QW.o.size
   have b7:=yI 0 (some (ar a.bg 0)) A3 (dh i m.P m.G (pl.take k)) gv n a.cg c3 w6 (az ab.o T) (Rd.own o3) cn.o (by have:=bN.o;omega) (λz1 z2 e1 e2=>by
    cases e1
    have:=(o3.lt z2.block (by rw [e2];rfl)).1;have h2:=BX.o.size;dsimp only
    omega)
   obtain ⟨cb,cr⟩:=ae b7 T;clear b7 T o3 k6 p1 p2 qw;go_wp2_with fail;refine cb.o.mono ?_;rintro cx w7 ⟨rfl,o7,k7⟩;have aP:Keep (λk=>k=a.bg) w4 w7:=(QK.o.trans (Keep.below cr.o)).trans (k7.mono λj _ hj=>by cases hj;rfl);rw [<-bb.o,<-AD,<-cd.o] at o7;obtain ⟨O7,K7⟩:=ae o7 aP;clear o7 k7 aP q6;go_wp2;go_roundw
   .exact ⟨k+1,ap,Vc,O7.o,K7.o⟩
   .simp [intOf];omega
  .obtain rfl:k=K:=ap;have bO:¬(k:Int)<k:=ap;rw [List.take_of_length_le (by have:=a7.o;omega)] at og;obtain ⟨ab,QW⟩:=ae og qw;clear og qk qw;go_wp2;go_ret;exact ⟨rfl,QW.o,ab.o⟩
theorem aN {o:Obj} (k:Keep (λj=>j=w.heap.size) (w.alloc o) h):aq w h:= ((br w).alloc (PV _) o).trans (k.toBelow (by rw [Qg];omega) (λj i=>ap))
theorem Ja:dg prog 331 13:=⟨⟨_,underlying331,rfl⟩,by kernel_rfl⟩
theorem Jb:dg prog 328 7:=⟨⟨_,underlying328,rfl⟩,by kernel_rfl⟩
theorem ut (w:R8):Vj 221 #[] w λe p=>Vi e (.agg Rc)/\aq w p:=by
 go_enter func221,ntmps221;go_wp2_with (refine aI (PW _ _) Jb rfl rfl rfl rfl rfl rfl rfl ?_;intro x i h;have ⟨u,v⟩:=ae i (aN h);clear i h);exact Qd (Js rfl rfl u.o Jb) rfl ⟨rfl,v.o⟩
def adv (i:Inp) (x:Nat) (m:Mst):Mst:=if m.nx+1<(cC i x m.st).length then {m with nx:=m.nx+1} else {m with st:=m.st+1,nx:=0}
theorem aU.upd {p:R8} (h:aU H w b i x a m) (hn:∀k,Mut b a k->¬H k) (hk:Keep (λk=>k=b) w p) (st nx:Nat) (IA:N_) (ic:Nat) (hb:Vg p b #[Vd x,QZ i.cfg.workers,QZ i.cfg.micros,.pointer (some ⟨({a with IA:=IA,ic:=ic}:MAd).F,0,none⟩),.slice ({a with IA:=IA,ic:=ic}:MAd).E (Vo i) ({a with IA:=IA,ic:=ic}:MAd).ce,.pointer (some ⟨({a with IA:=IA,ic:=ic}:MAd).S,0,none⟩),.pointer (some ⟨({a with IA:=IA,ic:=ic}:MAd).PP,0,none⟩),.slice ({a with IA:=IA,ic:=ic}:MAd).BA (ax i).buks.length ({a with IA:=IA,ic:=ic}:MAd).bc,QZ i.cfg.rate,QZ i.cfg.mom,QZ i.cfg.shift,.slice (some ⟨({a with IA:=IA,ic:=ic}:MAd).bp,0,none⟩) (Vn i) ({a with IA:=IA,ic:=ic}:MAd).cp,.slice (some ⟨({a with IA:=IA,ic:=ic}:MAd).bm,0,none⟩) (Vn i) ({a with IA:=IA,ic:=ic}:MAd).cm,.slice (some ⟨({a with IA:=IA,ic:=ic}:MAd).bg,0,none⟩) (Vn i) ({a with IA:=IA,ic:=ic}:MAd).cg,.slice (some ⟨({a with IA:=IA,ic:=ic}:MAd).rb,0,none⟩) ({m with st:=st,nx:=nx}:Mst).rc.length ({a with IA:=IA,ic:=ic}:MAd).rc,.slice ({a with IA:=IA,ic:=ic}:MAd).IA (cC i x ({m with st:=st,nx:=nx}:Mst).st).length ({a with IA:=IA,ic:=ic}:MAd).ic,QZ (({m with st:=st,nx:=nx}:Mst).nx:Nat),Vd (bq i x {m with st:=st,nx:=nx}),({a with IA:=IA,ic:=ic}:MAd).ov] 179) (hit:Rd (aH (gW H b a) p) IA (cE (cC i x st))) (ox:nx<(cC i x st).length\/(nx=0/\i.cfg.steps.toNat<=st)):aU H p b i x {a with IA:=IA,ic:=ic} {m with st:=st,nx:=nx}:=by
 have he:Ext (aH (gW H b a) w) (aH (gW H b a) p):=bC (hk.mono λk _ e=>.inl (.inl e)) (λk _ L=>L);have o:∀{v:Value} {e size n xs},e≠179->w.ownsRow 0 e size v n xs->p.ownsRow 0 e size v n xs:=λy o=>hk.own o (λj N e=>ay h.blk (Ne.symm y) o (by rw [N,e]));obtain ⟨D,a1,J,Q,R,u,C⟩:=h.pl;obtain ⟨rows,O,A,I,B⟩:=h.re
 exact ⟨hb,fH h.sh he,fh cX h.ex he,iD h.sa he,⟨D,a1,J,Q,R,u,iE C he⟩,aW h.bu he,hit,⟨rows,o V0 O,A,I,λj x T=>cX (B j x T) he⟩,
  o V0 h.oP,o V0 h.oM,o V0 h.oG,o V0 h.oO,h.dj,λk _ hm=>hn k hm,h.wP,h.wM,h.wG,ox,h.xw⟩
theorem sW (hs:bK i) (h:nx<(cC i x st).length):st<i.cfg.steps.toNat/\(cC i x st).length=(aE (ax i) x 0).length:=by
 unfold cC at h |-;by_cases hc:st<i.cfg.steps.toNat
 .rw [if_pos hc];exact ⟨hc,ku hs.ok x st⟩
 .rw [if_neg hc] at h;simp at h
theorem uZ (i:Inp) (x:Nat) (m:Mst):bq i x {m with st:=m.st,nx:=m.nx+1}=bq i x m+1:=rfl
theorem uY (hs:bK i) (h:m.nx+1=(cC i x m.st).length):bq i x {m with st:=m.st+1,nx:=0}=bq i x m+1:=by
 have:=(sW hs (x:=x) (st:=m.st) (nx:=m.nx) ap).2;simp only [bq,QM];omega
theorem GF (h:y∈aE p x st):y.st=st:=by
 unfold aE at h;simp only [QI,List.mem_map,List.mem_flatMap,List.mem_singleton] at h;rcases h with (⟨_,_,rfl⟩ | ⟨g,_,h⟩) | rfl
 .rfl
 .unfold dt at h;simp only [QI,List.mem_map,List.mem_flatMap] at h;rcases h with (⟨_,_,rfl⟩ | ⟨_,_,_,_,_,_,h⟩) | ⟨_,_,rfl⟩
  .rfl
  .unfold cz at h;obtain ⟨_,_,rfl⟩:=List.mem_map.1 h;rfl
  .rfl
 .rfl
theorem yB (h:(cC i x st)[nx]?=some y):y.st=st:=by
 unfold cC at h;by_cases hc:st<i.cfg.steps.toNat
 .rw [if_pos hc] at h;exact GF (List.mem_of_getElem? h)
 .rw [if_neg hc] at h;simp at h
theorem Ll (hs:bK i) (h:m.nx<(cC i x m.st).length):bq i x m+1<=48000000:=by
 obtain ⟨h1,v⟩:=sW hs h;have o:=lZ hs.ok x 0;have p:m.st<=5:=by have:=hs.s;omega
 have A:=Nat.mul_le_mul p o;have u:m.st*(aE (ax i) x 0).length+(aE (ax i) x 0).length=(m.st+1)*(aE (ax i) x 0).length:=(QM _ _).symm;have y:=Nat.mul_le_mul (show m.st+1<=6 by omega) o;simp only [bq];omega
theorem aU.mlt (h:aU H w b i x a m):∀k,Mut b a k->k<w.heap.size:=by
 rintro k (rfl | rfl | rfl | rfl | rfl | hk)
 .exact PU h.blk
 .exact (h.oP.lt _ rfl).2
 .exact (h.oM.lt _ rfl).2
 .exact (h.oG.lt _ rfl).2
 .obtain ⟨rows,o,_⟩:=h.re;exact (o.lt _ rfl).2
 .exact (h.oO.lt _ hk).2
theorem FD {P:Nat} {u a1 B D H h:Value} (hP:fz w P (ax i) u a1 B D H (Vd i.cfg.steps.toNat) h) (hs:bK i) (I:x<(ax i).W) (st:Nat):Vj 87 #[(au P),QZ x,Vd st] w λe p=>∃A c,Vi e (.slice A (cC i x st).length c)/\Rd p A (cE (cC i x st))/\(∀y,A=some y->(Ve w)<=y.block)/\aq w p:=by
 unfold cC;by_cases hc:st<i.cfg.steps.toNat
 .rw [if_pos hc];refine (wE (ax i) P x st i.cfg.steps.toNat u a1 B D H h w hs.ok hs.n1 I hc hP).mono ?_;rintro e p ⟨v,rfl,o,k⟩;obtain ⟨A,c,rfl,_⟩:=aC o;exact ⟨A,c,rfl,Rd.own o,λy C=>(gF o y C).1,k⟩
 .rw [if_neg hc];refine (wD (ax i) P x st i.cfg.steps.toNat u a1 B D H h w I ap hP).mono ?_;rintro e p ⟨rfl,rfl⟩;exact ⟨none,0,rfl,Rd.nil _ _,(λy C=>by cases C),br w⟩
def Fxd (a a1:MAd):Prop:=a1.bp=a.bp/\a1.bm=a.bm/\a1.bg=a.bg
def Did (H G:Nat->Prop) (b:Nat) (i:Inp) (x:Nat) (a:MAd) (m:Mst) (n:Nat) (T:R8->Mst->Prop) (w h:R8):Prop:=∃a1 m1,aU H h b i x a1 m1/\m1.st=m.st/\m1.nx=m.nx/\Keep (λk=>Mut b a k\/G k) w h/\(∀k,Mut b a1 k->Mut b a k\/n<=k)/\Fxd a a1/\T h m1
def PS (G:Nat->Prop) (b:Nat) (i:Inp) (x:Nat) (a:MAd) (m:Mst) (n:Nat) (T:(Nat->Prop)->R8->Mst->Prop) (w h:R8):Prop:=∃H a1 m1,aU H h b i x a1 m1/\(∀k,Mut b a1 k->¬H k)/\(∀k,h.heap.size<=k->¬H k)/\m1.st=m.st/\m1.nx=m.nx/\Keep (λk=>Mut b a k\/G k) w h/\(∀k,Mut b a1 k->Mut b a k\/n<=k)/\Fxd a a1/\T H h m1
def Bn (H G:Nat->Prop) (b:Nat) (i:Inp) (x:Nat) (a:MAd) (m:Mst) (T:R8->Mst->Prop) (w h:R8):Prop:=∃o m1,aU H h b i x o (adv i x m1)/\m1.st=m.st/\m1.nx=m.nx/\Keep (λk=>Mut b a k\/G k) w h/\(∀k,Mut b o k->Mut b a k\/w.heap.size<=k)/\Fxd a o/\T h m1
def Md (G:Nat->Prop) (b:Nat) (i:Inp) (x:Nat) (a:MAd) (m:Mst) (T:(Nat->Prop)->R8->Mst->Prop) (w h:R8):Prop:=∃H o m1,aU H h b i x o (adv i x m1)/\(∀k,Mut b o k->¬H k)/\(∀k,h.heap.size<=k->¬H k)/\m1.st=m.st/\m1.nx=m.nx/\Keep (λk=>Mut b a k\/G k) w h/\(∀k,Mut b o k->Mut b a k\/w.heap.size<=k)/\Fxd a o/\T H h m1
theorem Ar (h:aU H w b i x a m) (hn:∀k,Mut b a k->¬H k) (aG:∀k,w.heap.size<=k->¬H k) (bn:∀k,G k->k<w.heap.size) (hs:bK i) (hy:(cC i x m.st)[m.nx]?=some y) (u v:N_) (f:Nat) (hf:∀p,Sem.run prog (Instr.index 328 (.agg Rc) (Vd y.kind)) p=.ok (.func (.func f) #[] #[]) p) (cf:∀args w,(callFunc f args).run prog w=.ok (.enter f args) w) (FP:Int->Prop) (T:(Nat->Prop)->R8->Mst->Prop) (hT:∀H1 B w2 m1,T H1 B m1->Keep (λk=>k=b) B w2->T H1 w2 m1) (hd:∀p,aq w p->Vj f #[(au b),.agg (bj y).toArray,.agg #[.pointer u,.pointer v]] p λe bX=>(Vi e (QZ 0)/\PS G b i x a m w.heap.size T p bX)\/(∃C:Int,C≠0/\FP C/\Vi e (QZ C)/\aq p bX)):Vj 216 #[(au b),.pointer u,.pointer v] w λe p=>(Vi e (QZ 0)/\Md G b i x a m T w p)\/(∃C:Int,C≠0/\FP C/\Vi e (QZ C)/\aq w p):=by
 have N:=jQ h hy;have bi:=mU y;obtain ⟨k0,k1,k2,b0,b1,i0,i1,i2,i3,i4,i5,i6,a8⟩:=sR y;have e0:(y.kind:Int)=k0:=by have:=a8;simp only [bj,List.cons.injEq,Value.int.injEq,true_and] at this;exact this.1
 have e1:(y.st:Int)=k1:=by have:=a8;simp only [bj,List.cons.injEq,Value.int.injEq,true_and] at this;exact this.2.1
 rw [a8] at N hd;unfold Vd at hf;rw [e0] at hf;have cc:=(Qu.1 hy).1;have av:=h.mlt;obtain ⟨d2,Hd,Hf,co,HM,HT,cL,Hn⟩:=ak N hd hf cf h hT cc hn;obtain ⟨d5,Hs,E1,Hy,cv,d0⟩:=ai aG hs e1 hy av bn;clear av bn N hd hf cf h hT cc hn aG bi a8 e0 e1 hs hy;go_enter func216,ntmps216;go_wp2_with fail;refine d2.o.mono ?_;rintro e B ⟨rfl,q1⟩;have g2:=PW B (.cells #[QZ k0,QZ k1,QZ k2,.bool b0,.bool b1,QZ i0,QZ i1,QZ i2,QZ i3,QZ i4,QZ i5,QZ i6] 152);have q2:aq w (B.alloc (.cells #[QZ k0,QZ k1,QZ k2,.bool b0,.bool b1,QZ i0,QZ i1,QZ i2,QZ i3,QZ i4,QZ i5,QZ i6] 152)):=q1.alloc q1.size _;obtain ⟨W2,bz⟩:=Vb (B.alloc (.cells #[QZ k0,QZ k1,QZ k2,.bool b0,.bool b1,QZ i0,QZ i1,QZ i2,QZ i3,QZ i4,QZ i5,QZ i6] 152));rw [bz] at g2 q2;have hX:w.heap.size<=B.heap.size:=q1.size;go_wp2_with fail;clear bz q1;obtain ⟨G2,Q2⟩:=ae g2 q2;have t0:∀p,aq W2 p->p.cell? (ar B.heap.size 0)=some (QZ k0):=λp q=>PX p B.heap.size 0 _ _ _ (sb g2 p q);have tl:=sl g2;clear g2 q2;have b4:=λp=>Hf.o p
 go_cut [9] (λv wx=>∃J,v=(au J)/\wx.heap[J]?=some (.cells #[QZ k0,QZ k1,QZ k2,.bool b0,.bool b1,QZ i0,QZ i1,QZ i2,QZ i3,QZ i4,QZ i5,QZ i6,.func (.func f) #[] #[]] 331 (0,0))/\aq W2 wx)
 case first=>
  refine HA.g (λp:R8=>aq W2 p) ?_;have q3:=(br W2).drew;refine HA.ld 0 #[QZ k0,QZ k1,QZ k2,.bool b0,.bool b1,QZ i0,QZ i1,QZ i2,QZ i3,QZ i4,QZ i5,QZ i6] (λp q=>sb G2.o p q) mD q3 ?_;refine HA.t ?_ [2,3] q3 ?_;refine HA.two 1 6 ?_ ?_
  .refine HAS.c (ut _) ?_;rintro e D ⟨rfl,k3⟩;have q4:=q3.trans (k3.mono q3.size);refine ⟨_,rfl,q4,λ_=>?_⟩;refine HA.t ?_ [4,5] q4 ?_;refine HA.v 6 (D.alloc (.cells Rf 331)) ((au D.heap.size)) (q4.alloc q4.size _) ?_;refine HA.st 7 (PW D _) Ja (λR e9 k9=>?_);have q9:=q4.trans ((aN k9).mono q4.size);refine ⟨q9,HA.d ?_⟩;obtain ⟨E9,Q9⟩:=ae e9 q9;clear e9 k9 q9 q4 q3 k3 b4 t0 tl;go_wp2;go_meet;exact ⟨_,rfl,E9.o,Q9.o⟩
  .refine HAS.v (W2.drew.alloc (.cells Rf 331)) ((au W2.heap.size)) (q3.alloc (PV _) _) ?_;have gJ:=PW W2.drew (.cells Rf 331);rw [QG] at gJ;have q4:=q3.alloc (PV _) (.cells Rf 331);obtain ⟨W3,c6⟩:=Vb (W2.drew.alloc (.cells Rf 331));rw [c6] at gJ q4 |-;clear c6;refine HA.c 1 (ut _) ?_;rintro e D ⟨rfl,k3⟩;have q5:=q4.trans (k3.mono q4.size);refine ⟨_,rfl,q5,λ_=>?_⟩;refine HA.t ?_ [4,5] q5 ?_;refine HA.st 7 (sb gJ _ k3) Ja (λR e9 k9=>?_);have q9:=q5.trans (k9.toBelow q5.size (λj hj=>by rw [hj];exact PV _));refine ⟨q9,HA.d ?_⟩;obtain ⟨E9,Q9⟩:=ae e9 q9;clear e9 k9 q9 q4 q5 q3 k3 b4 t0 tl gJ;go_wp2;go_meet;exact ⟨_,rfl,E9.o,Q9.o⟩
 case rest=>
  obtain ⟨J,rfl,gJ,qJ⟩:=hcut;clear t0 tl b4;have bv:=PX wc J 12 _ _ _ gJ;have lJ:=PU gJ;have bh:wc.cell? (ar J 12)=some (.func (.func f) #[] #[]):=bv;clear bv;have GJ:=aa gJ;have bV:=Q2.o.trans (qJ.mono Q2.o.size);obtain ⟨QJ,B0⟩:=ae qJ bV;clear gJ qJ bV;have ci:=co.o;go_wp2_with (refine aQ #[QZ k0,QZ k1,QZ k2,.bool b0,.bool b1,QZ i0,QZ i1,QZ i2,QZ i3,QZ i4,QZ i5,QZ i6] GJ.o mD rfl rfl rfl rfl ?_);refine (Hd.o wc B0.o).mono ?_;rintro e D (⟨rfl,H1,a1,m1,b8,be,ao,b3,N,hk,cd,bw,ht⟩ | ⟨C,hC,cA,rfl,k3⟩);rotate_left
  .have dv:(C != 0)=true:=by rw [bne_iff_ne];exact hC
   have K3:=aa (B0.o.trans (k3.mono B0.o.size));clear k3;go_wp2;go_ret;exact .inr ⟨C,hC,cA,rfl,K3.o⟩
  .have Q:m1.nx<(cC i x m1.st).length:=by rw [b3,N];exact cL.o
   have cw:=Ll Hs.o Q;obtain ⟨dn,b2⟩:=Vb (bq i x m1);obtain ⟨il,ab⟩:=Vb ((cC i x m1.st).length);have A:=b8.blk;rw [b2] at A cw;rw [ab] at A Q;have lb:=PU A;have cr:D.cell? (ar b 16)=some (Vd m1.nx):=PX D b 16 _ _ _ A;have cx:D.cell? (ar b 17)=some (Vd dn):=PX D b 17 _ _ _ A;have aR:=P8 D b 16 _ _ A;have cn:=P8 D b 17 _ _ A;have da:IntKind.i64.wrap ((dn:Int)+1)=((dn+1:Nat):Int):=by rw [P3 _ ap];push_cast;rfl
   have d6:il<=8000000:=by rw [<-ab,(sW Hs.o (x:=x) (st:=m1.st) (nx:=m1.nx) ap).2];exact lZ Hs.o.ok x 0
   have d9:IntKind.i64.wrap ((m1.nx:Int)+1)=((m1.nx+1:Nat):Int):=by rw [P3 _ ap];push_cast;rfl
   have g5:=ss2 (i:=17) (j:=16) (v:=QZ ((dn:Int)+1)) (u:=QZ ((m1.nx:Int)+1)) A rfl;have k5:Keep (λk=>k=b) D ((D.setCell (ar b 17) (QZ ((dn:Int)+1))).setCell (ar b 16) (QZ ((m1.nx:Int)+1))):=Vk b (Vk b (Keep.refl _ _) _ (.inr rfl) _) _ (.inr rfl) _;obtain ⟨G5,K5,Z,Hk,bl,Ht,bA,aM⟩:=ak g5 k5 b8 hk cd ht bw b3;obtain ⟨ad,a6,a3,bf,I,b7⟩:=ai N be ao b2 ab Q;clear b8 hk cd ht bw b3 N be ao b2 ab g5 k5 A Q bh lJ ci;go_wp2_with fail;obtain ⟨W5,bM⟩:=Vb ((D.setCell (ar b 17) (QZ ((dn:Int)+1))).setCell (ar b 16) (QZ ((m1.nx:Int)+1)));have g5:=G5.o;have k5:=K5.o;rw [bM] at g5 k5 |-;clear G5 K5 bM cr cx aR cn;have cj:b<W5.heap.size:=PU g5;have bI:∀p,aq W5 p->p.cell? (ar b 15)=some (.slice a1.IA (cC i x m1.st).length a1.ic):=λp q=>by rw [I.o];exact PX p b 15 _ _ _ (sb g5 p q)
   rw [I.o] at bI;have d1:∀p,aq W5 p->p.cell? (ar b 16)=some (QZ ((m1.nx:Int)+1)):=λp q=>PX p b 16 _ _ _ (sb g5 p q);obtain ⟨G5,K5⟩:=ae g5 k5;clear g5 k5;have q5:=(br W5).drew;refine HA.g (λp:R8=>aq W5 p) ?_;refine HA.t ?_ [0,1,2,3,4,5,6,7,8,9] q5 ?_;refine HA.d ?_;have k6:Keep (λk=>k=b) D W5.drew:=K5.o.drew;have g6:=sb G5.o _ q5;obtain ⟨V,b9⟩:=Vb W5.drew;rw [b9] at k6 g6 |-;obtain ⟨G6,K6⟩:=ae g6 k6;have l6:b<V.heap.size:=PU g6;clear b9 q5 bI d1 G5 K5 cj k6 g6;by_cases a4:m1.nx+1=il;rotate_left
   .have cP:¬(m1.nx:Int)+1=il:=ap;clear a4;go_wp2;go_ret;have O:adv i x m1={m1 with st:=m1.st,nx:=m1.nx+1}:=if_pos (by rw [I.o];have:=b7.o;omega);have e:((bq i x {m1 with st:=m1.st,nx:=m1.nx+1}:Nat):Int)=(dn:Int)+1:=by rw [uZ,bf.o];push_cast;rfl
    have e2:((m1.nx+1:Nat):Int)=(m1.nx:Int)+1:=by push_cast;rfl
    have hb:=G6.o;rw [<-I.o,<-e,<-e2] at hb;have hm:=Z.o.upd a6.o K6.o m1.st (m1.nx+1) a1.IA a1.ic hb (aW Z.o.it (bC (K6.o.mono λk _ e=>.inl (.inl e)) (λ_ _ h=>h))) (.inl (by rw [I.o];have:=b7.o;omega));refine .inl ⟨rfl,H1,a1,m1,by rw [O];exact hm,a6.o,(λk hk=>a3.o k (P4 K6.o.size hk)),aM.o,ad.o,((Keep.below B0.o).trans Hk.o).trans (K6.o.mono λk _ e=>.inl (.inl e)),bl.o,bA.o,HT.o H1 D V m1 Ht.o K6.o⟩
   .have cP:(m1.nx:Int)+1=il:=ap;have d3:k1=(m1.st:Int):=by rw [<-E1.o,yB Hy.o,aM.o]
    have ds:m1.st<6:=by have:=(sW Hs.o (x:=x) (st:=m1.st) (nx:=m1.nx) (by rw [I.o];exact b7.o)).1;have:=Hs.o.s;omega
    have cy:IntKind.i64.wrap ((m1.st:Int)+1)=((m1.st+1:Nat):Int):=by rw [P3 _ ap];push_cast;rfl
    subst d3;have g6:=G6.o;have nw:¬(Mut b a B.heap.size\/G B.heap.size):=λh=>h.elim (λh=>by have:=cv.o _ h;omega) (λh=>by have:=d0.o _ h;omega)
    have cM:B.heap.size<wc.heap.size:=PU (sb G2.o wc QJ.o);have g3:=(Hk.o.block _ cM nw).trans (sb G2.o wc QJ.o);have gB:=(K6.o.block B.heap.size (PU g3) (λe=>nw (.inl (.inl e)))).trans g3;have hS:V.drew.cell? (ar b 6)=some ((au a1.PP))/\V.drew.cell? (ar b 0)=some (Vd x)/\V.drew.cell? (ar B.heap.size 1)=some (Vd m1.st)/\Keep (λk=>k=b) D V.drew:=⟨PX V.drew b 6 _ _ _ g6,PX V.drew b 0 _ _ _ g6,PX V.drew B.heap.size 1 _ _ _ gB,K6.o.drew⟩;obtain ⟨dk,dc,dr,dw,dp,d7,bG⟩:=Z.o.pl;have b5:=FD (iE bG (iF (S:=gW H1 b a1) (K6.o.drew.mono λk _ e=>.inl (.inl e)))) Hs.o Z.o.xw (m1.st+1);unfold Vd at b5;rw [<-cy] at b5;obtain ⟨cO,d4,GB⟩:=af b5 (show V.drew.heap[b]?=_ from g6) (show V.drew.heap[B.heap.size]?=_ from gB);clear a4 g6 gB g3 bG b5;go_wp2;refine HA.g (λp:R8=>p.cell? (ar b 6)=some ((au a1.PP))/\p.cell? (ar b 0)=some (Vd x)/\p.cell? (ar B.heap.size 1)=some (Vd m1.st)/\Keep (λk=>k=b) D p) ?_;refine HA.t ?_ [0,1,2,3,4,5,6,7,8,9,10,11,12,13,14] hS ?_;refine HA.c 15 cO.o ?_;rintro e w7 ⟨IA,ic,rfl,c7,c8,k7⟩;have g7:=sb d4.o w7 k7;have a7:=sb GB.o w7 k7;have q7:=K6.o.drew.trans (Keep.below (S:=λk=>k=b) k7);refine ⟨_,rfl,⟨PX w7 b 6 _ _ _ g7,PX w7 b 0 _ _ _ g7,PX w7 B.heap.size 1 _ _ _ a7,q7⟩,λc9=>?_⟩;refine HA.t ?_ [16,17] c9 ?_;obtain ⟨CL,bb⟩:=Vb ((cC i x (m1.st+1)).length);rw [bb];have cb:=PX w7 b 15 _ _ _ g7;have cs:=P8 w7 b 15 _ _ g7;have g8:=ss (i:=15) (v:=.slice IA CL ic) g7 rfl;have a0:Keep (λk=>k=b) w7 (w7.setCell (ar b 15) (.slice IA CL ic)):=Vk b (Keep.refl _ _) _ (.inr rfl) _;have a2:=(a0.block _ (PU a7) (λe=>nw (.inl (.inl e)))).trans a7;obtain ⟨Y,U⟩:=Vb (w7.setCell (ar b 15) (.slice IA CL ic));have a5:Y.cell? (ar b 6)=some ((au a1.PP))/\Y.cell? (ar b 0)=some (Vd x)/\Y.cell? (ar B.heap.size 1)=some (Vd m1.st)/\Keep (λk=>k=b) D Y:=⟨by rw [<-U];exact PX _ b 6 _ _ _ g8,by rw [<-U];exact PX _ b 0 _ _ _ g8,by rw [<-U];exact PX _ B.heap.size 1 _ _ _ a2,by rw [<-U];exact q7.trans a0⟩;have bN:w7.cell? (ar b 15)=some (.slice a1.IA il a1.ic):=cb;clear cb;refine HA.s 18 Y a5 ?_;rw [U] at g8 a2 a0;clear U bN cs;refine HA.t ?_ [19,20] a5 ?_;have bs:Y.cell? (ar b 16)=some (QZ ((m1.nx:Int)+1)):=PX Y b 16 _ _ _ g8;have aR:=P8 Y b 16 _ _ g8;have g9:=ss (i:=16) (v:=QZ 0) g8 rfl;have a9:Keep (λk=>k=b) Y (Y.setCell (ar b 16) (QZ 0)):=Vk b (Keep.refl _ _) _ (.inr rfl) _;have bO:=(a9.block _ (PU a2) (λe=>nw (.inl (.inl e)))).trans a2;obtain ⟨R,L⟩:=Vb (Y.setCell (ar b 16) (QZ 0));have aP:R.cell? (ar b 6)=some ((au a1.PP))/\R.cell? (ar b 0)=some (Vd x)/\R.cell? (ar B.heap.size 1)=some (Vd m1.st)/\Keep (λk=>k=b) D R:=⟨by rw [<-L];exact PX _ b 6 _ _ _ g9,by rw [<-L];exact PX _ b 0 _ _ _ g9,by rw [<-L];exact PX _ B.heap.size 1 _ _ _ bO,by rw [<-L];exact a5.2.2.2.trans a9⟩;refine HA.s 21 R aP ?_;refine HA.d ?_;rw [L] at g9;have K9:=aP.2.2.2
    have bo:Rd (aH (gW H1 b a1) R) IA (cE (cC i x (m1.st+1))):=by
     have cl:Keep (λk=>k=b) w7 R:=by rw [<-L];exact a0.trans a9
     have bd:∀z,IA=some z->¬gW H1 b a1 z.block:=λz hz hm=>by
      have b6:=c8 z hz;have d8:=K6.o.size;have h3:=Hk.o.size;have h0:=B0.o.size;have hw:w.heap.size<=z.block:=by unfold Ve at b6;rw [QG] at b6;omega
      rcases hm with hm | hm
      .have:=Z.o.mlt _ hm;unfold Ve at b6;rw [QG] at b6;omega
      .exact a3.o _ (by unfold Ve at b6;rw [QG] at b6;omega) hm
     exact mL (cl.rd c7 (λz hz e=>bd z hz (.inl (.inl e)))) bd
    have O:adv i x m1={m1 with st:=m1.st+1,nx:=0}:=if_neg (by rw [I.o];omega);have e:((bq i x {m1 with st:=m1.st+1,nx:=0}:Nat):Int)=(dn:Int)+1:=by rw [uY Hs.o (by rw [I.o];omega),bf.o];push_cast;rfl
    rw [<-bb,<-e] at g9
    have ox:(0:Nat)<(cC i x (m1.st+1)).length\/((0:Nat)=0/\i.cfg.steps.toNat<=m1.st+1):=by
     unfold cC;by_cases hc:m1.st+1<i.cfg.steps.toNat
     .rw [if_pos hc];exact .inl (jU _ _ _)
     .exact .inr ⟨rfl,ap⟩
    have hm:=Z.o.upd a6.o K9 (m1.st+1) 0 IA ic g9 bo ox;have HF:=aa (⟨H1,{a1 with IA:=IA,ic:=ic},m1,by rw [O];exact hm,a6.o,(λk hk=>a3.o k (P4 K9.size hk)),aM.o,ad.o,((Keep.below B0.o).trans Hk.o).trans (K9.mono λk _ e=>.inl (.inl e)),bl.o,bA.o,HT.o H1 D R m1 Ht.o K9⟩:Md G b i x a m T w R);clear hm O bo ox e g9 bO a9 L aP K9 a5 c9 hS g8 a2 a0 g7 a7 q7 k7 c7 c8 bs aR;go_wp2;go_ret;exact .inl ⟨rfl,HF.o⟩
theorem mO (h:aU H w b i x a m) (hn:∀k,Mut b a k->¬H k) (p:∀k,w.heap.size<=k->¬H k) (O:∀k,G k->k<w.heap.size) (hs:bK i) (hy:(cC i x m.st)[m.nx]?=some y) (u v:N_) (f:Nat) (B:∀o,Sem.run prog (Instr.index 328 (.agg Rc) (Vd y.kind)) o=.ok (.func (.func f) #[] #[]) o) (V:∀args w,(callFunc f args).run prog w=.ok (.enter f args) w) (R:Int->Prop) (T:R8->Mst->Prop) (hT:∀D L m1,T D m1->Keep (λk=>k=b) D L->T L m1) (hd:∀o,aq w o->Vj f #[(au b),.agg (bj y).toArray,.agg #[.pointer u,.pointer v]] o λe A=>(Vi e (QZ 0)/\Did H G b i x a m (Ve w) T o A)\/(∃C:Int,C≠0/\R C/\Vi e (QZ C)/\aq o A)):Vj 216 #[(au b),.pointer u,.pointer v] w λe o=>(Vi e (QZ 0)/\Bn H G b i x a m T w o)\/(∃C:Int,C≠0/\R C/\Vi e (QZ C)/\aq w o):=by
 refine (Ar h hn p O hs hy u v f B V R (λQ w m=>Q=H/\T w m) (λQ D L m1 Z k=>⟨Z.1,hT D L m1 Z.2 k⟩) (λo q=>(hd o q).mono ?_)).mono ?_
 .rintro e A (⟨he,a1,m1,h1,N,U,I,J,B,Y⟩ | h)
  .exact .inl ⟨he,H,a1,m1,h1,λk hk=>(J k hk).elim (hn k) (p k),λk hk=>p k (P4 (P4 q.size I.size) hk),N,U,I,J,B,rfl,Y⟩
  .exact .inr h
 .rintro e o (⟨he,Q,a1,m1,h1, -, -,N,U,I,J,B,rfl,Y⟩ | h)
  .exact .inl ⟨he,a1,m1,h1,N,U,I,J,B,Y⟩
  .exact .inr h
theorem aU.setG {y:R8} (h:aU H w b i x a m) (hn:∀k,Mut b a k->¬H k) (hk:Keep (λk=>k=a.bg) w y) (G:Q_) (oG:y.ownsRow 0 2 1 (Vf a.bg 0 (Vn i) a.cg) (Vn i) (aA .i64 G)) (wG:G.length=Vn i/\W64 G):aU H y b i x a {m with G:=G}:=by
 have he:Ext (aH (gW H b a) w) (aH (gW H b a) y):=bC (hk.mono λk _ e=>.inl (.inr (.inr (.inr (.inl e))))) (λk _ Y=>Y);have hb:=(hk.block b (PU h.blk) (λe=>ay h.blk V0 h.oG (by rw [e];rfl))).trans h.blk;have o:∀{v:Value} {e size n xs},(∀j,v.ownBlock=some j->j≠a.bg)->w.ownsRow 0 e size v n xs->y.ownsRow 0 e size v n xs:=λp o=>hk.own o (λj u e=>p j u e)
 have D:∀{v:Value} {e:R9} {size n:Nat} {xs:R7},e≠2->w.ownsRow 0 e size v n xs->∀j,v.ownBlock=some j->j≠a.bg:=λp o j u e=>by
  rcases h.oG.2 with ⟨A,_⟩ | ⟨Z,_,_,A,_,hg,_⟩
  .cases A
  .simp only [QH,Option.some.injEq,Addr.mk.injEq] at A;obtain ⟨⟨U,_⟩,_⟩:=A;exact ay hg (Ne.symm p) o (by rw [u,e,U])
 obtain ⟨T,a1,V,L,N,B,O⟩:=h.pl;obtain ⟨rows,C,R,I,J⟩:=h.re
 exact ⟨hb,fH h.sh he,fh cX h.ex he,iD h.sa he,⟨T,a1,V,L,N,B,iE O he⟩,aW h.bu he,aW h.it he,⟨rows,o (D V0 C) C,R,I,λj x Q=>cX (J j x Q) he⟩,
  o (λj u=>by cases u;exact h.dj.2.1) h.oP,o (λj u=>by cases u;exact h.dj.2.2) h.oM,oG,o (D V0 h.oO) h.oO,h.dj,λk _ hm=>hn k hm,h.wP,h.wM,wG,h.ox,h.xw⟩
theorem uB (h:y∈aE p x st) (hk:y.kind=1):y.n<p.mi:=by
 unfold aE at h;simp only [QI,List.mem_map,List.mem_flatMap,List.mem_singleton,List.mem_range] at h;rcases h with (⟨k,i,rfl⟩ | ⟨g,_,h⟩) | rfl
 .exact i
 .unfold dt at h;simp only [QI,List.mem_map,List.mem_flatMap] at h;rcases h with (⟨_,_,rfl⟩ | ⟨_,_,_,_,_,_,h⟩) | ⟨_,_,rfl⟩
  .cases hk
  .unfold cz at h;obtain ⟨c,_,rfl⟩:=List.mem_map.1 h;unfold fy at hk
   split at hk<;>cases hk
  .cases hk
 .cases hk
theorem dm (h:(cC i x st)[nx]?=some y):st<i.cfg.steps.toNat/\y∈aE (ax i) x st:=by
 unfold cC at h;by_cases hc:st<i.cfg.steps.toNat
 .rw [if_pos hc] at h;exact ⟨hc,List.mem_of_getElem? h⟩
 .rw [if_neg hc] at h;simp at h
theorem uF (i:Inp) (P G:Q_) (h:W64 G):∀l:Rl,W64 (dh i P G l):=by
 intro l
 induction l generalizing G with
 | nil=>exact h
 | cons e l ih=>exact ih _ (vm _ _)
theorem mX {P:Q_} (l:Rl):∀G:Q_,G.length=n->(dh i P G l).length=n:=by
 induction l with
 | nil=>intro G h;exact h
 | cons e l ih=>intro G h;exact ih _ (by rw [gK];exact h)
theorem Keep.sub {i:R8} (h:Keep S w i) (hs:∀k,S k->S' k):Keep S' w i:=h.mono λk _ hk=>hs k hk
theorem Kn (h:aU H w b i x a m) (hn:∀k,Mut b a k->¬H k) (p:∀k,w.heap.size<=k->¬H k) (hs:bK i) (D:(cC i x m.st)[m.nx]?=some y) (hk:y.kind=1) (u v:N_):Vj 216 #[(au b),.pointer u,.pointer v] w λe B=>Vi e (QZ 0)/\Bn H (λ_=>False) b i x a m (λ_ m1=>m1={m with G:=dh i m.P m.G (cI i.data (oY i x m.st y.n))}) w B:=by
 have ⟨h1,N⟩:=dm D;have O:=uB N hk;have o:=yB D;refine (mO h hn p (G:=λ_=>False) (λ_ h=>h.elim) hs D u v 224 (λB=>by rw [hk];kernel_rfl) (λargs w=>by kernel_rfl) (λ_=>False) (λ_ m1=>m1={m with G:=dh i m.P m.G (cI i.data (oY i x m.st y.n))}) (λ_ _ _ h _=>h) (λB q=>?_)).mono ?_
 .have I:=h.below q hn;refine (Gv I hs y (.pointer u) (.pointer v) rfl rfl (by rw [o];exact h1) O).mono ?_;rintro e Q ⟨rfl,A,J⟩;rw [o] at J;exact .inl ⟨rfl,a,_,I.setG hn A _ J ⟨mX _ _ h.wG.1,uF _ _ _ h.wG.2 _⟩,rfl,rfl,A.sub (λk e=>.inl (.inr (.inr (.inr (.inl e))))),λk hm=>.inl hm,⟨rfl,rfl,rfl⟩,rfl⟩
 .rintro e B (⟨rfl,L⟩ | ⟨C,_,R,_⟩)
  .exact ⟨rfl,L⟩
  .exact R.elim
theorem aU.setO {u:R8} (h:aU H w b i x a m) (hn:∀k,Mut b a k->¬H k) (A:∀k,w.heap.size<=k->¬H k) (ov:Value) (op:List Nat) (hk:Keep (λk=>k=b\/a.ov.ownBlock=some k) w u) (hb:Vg u b #[Vd x,QZ i.cfg.workers,QZ i.cfg.micros,.pointer (some ⟨({a with ov:=ov}:MAd).F,0,none⟩),.slice ({a with ov:=ov}:MAd).E i.data.length ({a with ov:=ov}:MAd).ce,.pointer (some ⟨({a with ov:=ov}:MAd).S,0,none⟩),.pointer (some ⟨({a with ov:=ov}:MAd).PP,0,none⟩),.slice ({a with ov:=ov}:MAd).BA (ax i).buks.length ({a with ov:=ov}:MAd).bc,QZ i.cfg.rate,QZ i.cfg.mom,QZ i.cfg.shift,.slice (some ⟨({a with ov:=ov}:MAd).bp,0,none⟩) i.start.length ({a with ov:=ov}:MAd).cp,.slice (some ⟨({a with ov:=ov}:MAd).bm,0,none⟩) i.start.length ({a with ov:=ov}:MAd).cm,.slice (some ⟨({a with ov:=ov}:MAd).bg,0,none⟩) i.start.length ({a with ov:=ov}:MAd).cg,.slice (some ⟨({a with ov:=ov}:MAd).rb,0,none⟩) m.rc.length ({a with ov:=ov}:MAd).rc,.slice ({a with ov:=ov}:MAd).IA (cC i x m.st).length ({a with ov:=ov}:MAd).ic,Vd m.nx,Vd (bq i x m),({a with ov:=ov}:MAd).ov] 179) (oO:u.ownsRow 0 3 1 ov op.length (aA .i64 (eg op))) (hv:∀k,ov.ownBlock=some k->a.ov.ownBlock=some k\/w.heap.size<=k):aU H u b i x {a with ov:=ov} {m with op:=op}/\∀k,Mut b {a with ov:=ov} k->Mut b a k\/w.heap.size<=k:=by
 have p:∀k,Mut b {a with ov:=ov} k->Mut b a k\/w.heap.size<=k:=by
  rintro k (h1 | h1 | h1 | h1 | h1 | h1)
  .exact .inl (.inl h1)
  .exact .inl (.inr (.inl h1))
  .exact .inl (.inr (.inr (.inl h1)))
  .exact .inl (.inr (.inr (.inr (.inl h1))))
  .exact .inl (.inr (.inr (.inr (.inr (.inl h1)))))
  .exact (hv k h1).imp (λy=>.inr (.inr (.inr (.inr (.inr y))))) id
 have he:Ext (aH (gW H b a) w) (aH (gW H b {a with ov:=ov}) u):=bC (hk.mono λk _ e=>.inl (e.imp id λy=>.inr (.inr (.inr (.inr y))))) (λk hl hS=>hS.imp (λh1=>(p k h1).elim id (λy=>ap)) id)
 have o:∀{v:Value} {e:R9} {size n:Nat} {xs:R7},e≠179->e≠3->w.ownsRow 0 e size v n xs->u.ownsRow 0 e size v n xs:=λh1 y o=>hk.own o (λj D e=>by
  rcases e with e | e
  .exact ay h.blk (Ne.symm h1) o (by rw [D,e])
  .rcases h.oO.2 with ⟨B,_⟩ | ⟨J,_,_,B,_,hg,_⟩
   .rw [B] at e;cases e
   .rw [B] at e;have Y:J=j:=by simpa [Value.ownBlock] using e
    exact ay hg (Ne.symm y) o (by rw [D,Y]))
 obtain ⟨V,a1,Z,O,Q,C,R⟩:=h.pl;obtain ⟨rows,L,U,I,N⟩:=h.re
 exact ⟨⟨hb,fH h.sh he,fh cX h.ex he,iD h.sa he,⟨V,a1,Z,O,Q,C,iE R he⟩,aW h.bu he,aW h.it he,⟨rows,o V0 V0 L,U,I,λj x T=>cX (N j x T) he⟩,
  o V0 V0 h.oP,o V0 V0 h.oM,o V0 V0 h.oG,oO,h.dj,λk _ hm=>(p k hm).elim (hn k) (A k),h.wP,h.wM,h.wG,h.ox,h.xw⟩,p⟩
theorem Ag (h:aU H w b i x a m) (hn:∀k,Mut b a k->¬H k) (L:∀k,w.heap.size<=k->¬H k) (hl:m.op.length<=1000) (y:Itm) (u v:Value) (hu:u.oneCell'=true) (hv:v.oneCell'=true):Vj 225 #[(au b),.agg (bj y).toArray,.agg #[u,v]] w λe p=>Vi e (QZ 0)/\Did H (λ_=>False) b i x a m w.heap.size (λ_ m1=>m1={m with op:=m.op++[y.n]}) w p:=by
 have N:=h.blk;obtain ⟨W0,W1,U,R,g0,g1,C, -⟩:=gE w (bj y).toArray #[u,v] 152 333;have I:=sb N _ C;have Q:=az h.oO C;have nt:=λc cs t' sg (a3:W1.heap[c]?=some (.cells cs t' sg)) (a0:t'≠3) (e:a.ov.ownBlock=some c)=>ay a3 a0 Q e.symm;have kb:=λp (q:Keep (λj=>a.ov.ownBlock=some j) W1 p)=>(q.block b (PU I) (nt _ _ _ _ I V0)).trans I;have k0:=λp (q:Keep (λj=>a.ov.ownBlock=some j) W1 p)=>(q.block w.heap.size (PU g0) (nt _ _ _ _ g0 V0)).trans g0;have a4:∀p,Keep (λj=>a.ov.ownBlock=some j) W1 p->Vh p b 18 a.ov:=λp q=>PX p b 18 _ _ _ (kb p q);have s2:∀p,Keep (λj=>a.ov.ownBlock=some j) W1 p->Vh p w.heap.size 2 (Vd y.n):=λp q=>PX p w.heap.size 2 _ _ _ (k0 p q);obtain ⟨a1,a2,KB,O1,K1,HM,Hn,Y⟩:=ak U R kb Q C h hn L;have NT:=aa (nt b _ _ _ I V0);have q0:Keep (λj=>a.ov.ownBlock=some j) W1 W1.drew:=(Keep.refl _ _).drew;have a5:w.heap.size<=W1.heap.size:=C.size;clear U R g0 g1 C I Q nt kb k0 N h hn L;go_enter func225,ntmps225;go_wp2_with fail;rw [a1.o,a2.o];refine XA.g 9 (λp:R8=>Keep (λj=>a.ov.ownBlock=some j) W1 p) ?_;refine XA.t ?_ [0,1,2,3,4,5,6] q0 ?_;refine XA.v 7 (W1.drew.alloc (.cells #[Vd y.n] 3)) (Vf W1.heap.size 0 1 1) (q0.alloc _) ?_;refine XA.o 8 (λK' hK=>?_);have hO:=(O1.o.drew).alloc (.cells #[Vd y.n] 3);refine bY gi (.tmp 11) (.tmp 14) rfl rfl 0 a.ov m.op.length _ rfl hO (some (ar W1.heap.size 0)) 1 1 [Vd y.n] rfl (λk u hu=>⟨_,_,rfl,by rw [QP,PX _ W1.heap.size k _ 3 (0,0) (PW W1.drew _)];simpa using hu⟩) rfl V5 ap V2 (PZ _) ?_;intro V c5 O o5 b5 g5 Z;have q5:=(q0.alloc (.cells #[Vd y.n] 3)).grown g5 (λk hk=>.inr hk);refine hK.out _ _ q5 λ_=>?_;refine XA.e ?_;simp only [Qq,Qs];have B:=KB.o O q5;have e8:=ss (i:=18) (v:=.slice V (m.op.length+1) c5) B rfl;have k8:Keep (λk=>k=b) O (O.setCell (ar b 18) (.slice V (m.op.length+1) c5)):=Vk b (Keep.refl _ _) _ (.inr rfl) _;have o8:=k8.own o5 (λj hj e=>ay B V0 o5 (by rw [hj,e]));have a7:Vh O b 18 a.ov:=PX O b 18 _ _ _ B;have a6:=P8 O b 18 _ _ B;have l5:=PU B;have J:Keep (λk=>k=b\/a.ov.ownBlock=some k) w (O.setCell (ar b 18) (.slice V (m.op.length+1) c5)):=((Keep.below K1.o).trans (q5.mono λk _ e=>.inr e)).trans (k8.mono λk _ e=>.inl e);have T:aA .i64 (eg m.op)++[Vd y.n]=aA .i64 (eg (m.op++[y.n])):=by simp [eg,aA]
 rw [T] at o8;have A:(m.op++[y.n]).length=m.op.length+1:=by simp
 rw [<-A] at e8 o8 J
 have D:=HM.o.setO Hn.o Y.o (.slice V (m.op++[y.n]).length c5) (m.op++[y.n]) J e8 o8 (λk hk=>by
  rcases Z with h1 | h1
  .rw [A] at hk;exact .inl (by rw [<-h1];exact hk)
  .rw [A] at hk;rw [h1] at hk;exact .inr (by simp at hk;omega))
 have HF:=aa (⟨{a with ov:=.slice V (m.op++[y.n]).length c5},{m with op:=m.op++[y.n]},D.1,rfl,rfl,J.sub (λk e=>.inl (e.elim .inl (λe=>.inr (.inr (.inr (.inr (.inr e))))))),D.2,⟨rfl,rfl,rfl⟩,rfl⟩:Did H (λ_=>False) b i x a m w.heap.size (λ_ m1=>m1={m with op:=m.op++[y.n]}) w _);rw [A] at HF;clear D J T o8 e8 k8 B Z g5 b5 o5 q5 hO q0 a4 s2 hK K' A;go_wp2;go_ret;exact ⟨rfl,HF.o⟩
theorem mM {g:Nat}:∀(vs:R7) (o:Nat) (w:R8) (xs:R7),w.ownsRow base e 1 (Vf g 0 n c) n xs->o+vs.length<=n->(w.setCells g o vs).ownsRow base e 1 (Vf g 0 n c) n (xs.take o++vs++xs.drop (o+vs.length))
 | [],o,w,xs,h,_=>by simpa [World.setCells] using h
 | v::vs,o,w,xs,h,hl=>by
  have u:xs.length=n:=by have:=h.1;omega
  simp only [List.length_cons] at hl;have:=mM vs (o+1) _ _ (h.stored o v).1 ap
  have p:(xs.set o v).take (o+1)=xs.take o++[v]:=by
   rw [List.take_add_one,List.take_set_of_le (PV o)];simp [show o<xs.length by omega]
  have i:(xs.set o v).drop (o+1+vs.length)=xs.drop (o+(vs.length+1)):=by
   rw [List.drop_set_of_lt ap];congr 1;omega
  rw [p,i] at this;simpa [World.setCells] using this
theorem lK {g:Nat}:∀(vs:R7) (o:Nat) (w:R8),Keep (λj=>j=g) w (w.setCells g o vs)
 | [],_,w=>Keep.refl _ w
 | v::vs,o,w=>(Vk g (Keep.refl _ w) (ar g o) (.inr rfl) v).trans (lK vs (o+1) _)
theorem aU.setR {B:R8} (h:aU H w b i x a m) (hn:∀k,Mut b a k->¬H k) (C:∀k,w.heap.size<=k->¬H k) (rb rc:Nat) (e:Ex) (u1 u2:Value) (hk:Keep (λk=>k=b\/k=a.rb) w B) (hb:Vg B b #[Vd x,QZ i.cfg.workers,QZ i.cfg.micros,.pointer (some ⟨({a with rb:=rb,rc:=rc}:MAd).F,0,none⟩),.slice ({a with rb:=rb,rc:=rc}:MAd).E i.data.length ({a with rb:=rb,rc:=rc}:MAd).ce,.pointer (some ⟨({a with rb:=rb,rc:=rc}:MAd).S,0,none⟩),.pointer (some ⟨({a with rb:=rb,rc:=rc}:MAd).PP,0,none⟩),.slice ({a with rb:=rb,rc:=rc}:MAd).BA (ax i).buks.length ({a with rb:=rb,rc:=rc}:MAd).bc,QZ i.cfg.rate,QZ i.cfg.mom,QZ i.cfg.shift,.slice (some ⟨({a with rb:=rb,rc:=rc}:MAd).bp,0,none⟩) i.start.length ({a with rb:=rb,rc:=rc}:MAd).cp,.slice (some ⟨({a with rb:=rb,rc:=rc}:MAd).bm,0,none⟩) i.start.length ({a with rb:=rb,rc:=rc}:MAd).cm,.slice (some ⟨({a with rb:=rb,rc:=rc}:MAd).bg,0,none⟩) i.start.length ({a with rb:=rb,rc:=rc}:MAd).cg,.slice (some ⟨({a with rb:=rb,rc:=rc}:MAd).rb,0,none⟩) ({m with rc:=m.rc++[e]}:Mst).rc.length ({a with rb:=rb,rc:=rc}:MAd).rc,.slice ({a with rb:=rb,rc:=rc}:MAd).IA (cC i x ({m with rc:=m.rc++[e]}:Mst).st).length ({a with rb:=rb,rc:=rc}:MAd).ic,QZ (({m with rc:=m.rc++[e]}:Mst).nx:Nat),Vd (bq i x m),({a with rb:=rb,rc:=rc}:MAd).ov] 179) (rows:List (R7)) (r2:rows.length=m.rc.length) (r3:∀r∈rows,r.length=2) (r4:∀j x,m.rc[j]?=some x->rEx (aH (gW H b a) w) (bS rows j) x) (o':B.ownsRow 0 141 2 (.slice (some (ar rb 0)) (m.rc++[e]).length rc) (m.rc++[e]).length (List.flatten rows++[u1,u2])) (hu:eA B w.heap.size [u1,u2] e) (hv:rb=a.rb\/w.heap.size<=rb):aU H B b i x {a with rb:=rb,rc:=rc} {m with rc:=m.rc++[e]}/\∀k,Mut b {a with rb:=rb,rc:=rc} k->Mut b a k\/w.heap.size<=k:=by
 have I:∀k,Mut b {a with rb:=rb,rc:=rc} k->Mut b a k\/w.heap.size<=k:=by
  rintro k (h1 | h1 | h1 | h1 | h1 | h1)
  .exact .inl (.inl h1)
  .exact .inl (.inr (.inl h1))
  .exact .inl (.inr (.inr (.inl h1)))
  .exact .inl (.inr (.inr (.inr (.inl h1))))
  .have a6:k=rb:=h1;exact hv.imp (λD=>.inr (.inr (.inr (.inr (.inl (a6.trans D)))))) (λD=>ap)
  .exact .inl (.inr (.inr (.inr (.inr (.inr h1)))))
 have he:Ext (aH (gW H b a) w) (aH (gW H b {a with rb:=rb,rc:=rc}) B):=bC (hk.mono λk _ e=>.inl (e.elim .inl λD=>.inr (.inr (.inr (.inr (.inl D)))))) (λk hl hS=>hS.imp (λh1=>(I k h1).elim id (λD=>ap)) id);obtain ⟨a0,a1,a2,a3,a5,V,hp⟩:=h.pl;obtain ⟨_,r1,_⟩:=h.re
 have u:∀{v:Value} {e:R9} {size n:Nat} {xs:R7},e≠179->e≠141->w.ownsRow 0 e size v n xs->B.ownsRow 0 e size v n xs:=λh1 D Y=>hk.own Y (λj O e=>by
  rcases e with e | e
  .exact ay h.blk (Ne.symm h1) Y (by rw [O,e])
  .rcases r1.2 with ⟨p,_⟩ | ⟨r',_,_,p,_,hg,_⟩
   .cases p
   .simp only [QH,Option.some.injEq,Addr.mk.injEq] at p;obtain ⟨⟨J,_⟩,_⟩:=p
    exact ay hg (Ne.symm D) Y (by rw [O,e,J]))
 obtain ⟨v1,v2,hcs,U,T,z3,z4,z5,z6⟩:=hu;simp only [List.cons.injEq,and_true] at hcs;obtain ⟨rfl,rfl⟩:=hcs;obtain ⟨A1,c1,rfl,a7⟩:=aC U;obtain ⟨Q,c2,rfl,a4⟩:=aC T
 have L:∀{A:N_} {n c:Nat} {xs:R7},B.ownsRow w.heap.size 2 1 (.slice A n c) n xs->∀y,A=some y->¬gW H b {a with rb:=rb,rc:=rc} y.block:=λN y hy hm=>by
  have h1:=(gF N y hy).1;rcases hm with hm | hm
  .rcases hm with hm | hm | hm | hm | hm | hm
   .have:=h.mlt _ (.inl hm);omega
   .have:=h.mlt _ (.inr (.inl hm));omega
   .have:=h.mlt _ (.inr (.inr (.inl hm)));omega
   .have:=h.mlt _ (.inr (.inr (.inr (.inl hm))));omega
   .have R:y.block=rb:=hm;rcases o'.2 with ⟨p,_⟩ | ⟨r',_,_,p,_,hg,_⟩
    .cases p
    .simp only [QH,Option.some.injEq,Addr.mk.injEq] at p;obtain ⟨⟨J,_⟩,_⟩:=p;exact ay hg V0 N (by rw [hy];show some r'=some y.block;rw [R,J])
   .have:=h.mlt _ (.inr (.inr (.inr (.inr (.inr hm)))));omega
  .exact C _ h1 hm
 refine ⟨⟨hb,fH h.sh he,fh cX h.ex he,iD h.sa he,⟨a0,a1,a2,a3,a5,V,iE hp he⟩,aW h.bu he,aW h.it he,⟨rows++[[.slice A1 e.1.length c1,.slice Q e.2.length c2]],?_,by simp [r2],?_,λj z N=>?_⟩,
  u V0 V0 h.oP,u V0 V0 h.oM,u V0 V0 h.oG,u V0 V0 h.oO,h.dj,λk _ hm=>(I k hm).elim (hn k) (C k),h.wP,h.wM,h.wG,h.ox,h.xw⟩,I⟩
 .rw [QE,List.flatten_cons,List.flatten_nil,List.append_nil];exact o'
 .intro r hr;rcases QI.1 hr with hr | hr
  .exact r3 r hr
  .rw [List.mem_singleton.1 hr];rfl
 .rcases Qf j m.rc.length with O | O
  .have o:(m.rc++[e])[j]?=some z:=N;rw [Qw O] at o;have J:bS (rows++[[.slice A1 e.1.length c1,.slice Q e.2.length c2]]) j=bS rows j:=by simp [bS,Qw (show j<rows.length by omega)]
   rw [J];exact cX (r4 j z o) he
  .have o:(m.rc++[e])[j]?=some z:=N;have Z:j=m.rc.length:=by have:=(Qu.1 o).1;simp at this;omega
   subst Z;simp at o;subst o;have J:bS (rows++[[.slice A1 e.1.length c1,.slice Q e.2.length c2]]) m.rc.length=[.slice A1 e.1.length c1,.slice Q e.2.length c2]:=by rw [<-r2];simp [bS]
   rw [J];exact ⟨A1,c1,Q,c2,rfl,⟨a7,z3,mL (Rd.own U) (L U),z5⟩,⟨a4,z4,mL (Rd.own T) (L T),z6⟩⟩
theorem G9 {g:Nat} (p:R9) (h:w.ownsRow 0 2 1 (Vf g 0 n c) n xs) (hn:0<n): (Builtin.clear_ #[139] p #[Vf g 0 n c]).run prog w=.ok (.tuple #[]) (w.setCells g 0 (List.replicate n (QZ 0))):=by
 obtain ⟨i,v,o,_⟩:=mY.info;have hl:=h.1;refine Lib.run_clear_slice w 139 2 p (QZ 0) mY.und (λx=>?_) rfl rfl g 0 n c hn (λj u=>?_) (λj u=>?_)
 .simp [zeroValue,typeInfo,v,o]
 .rw [QP,h.cellAt j ap,Qv ap];rfl
 .rw [QP];exact h.frozenAt j
theorem Ae (h:aU H w b i x a m) (hn:∀k,Mut b a k->¬H k) (U:∀k,w.heap.size<=k->¬H k) (hs:bK i) (hl:m.rc.length<=1000) (y:Itm) (u v:Value) (hu:u.oneCell'=true) (hv:v.oneCell'=true):Vj 229 #[(au b),.agg (bj y).toArray,.agg #[u,v]] w λe p=>Vi e (QZ 0)/\Did H (λ_=>False) b i x a m w.heap.size (λ_ m1=>m1={m with rc:=m.rc++[(m.P,m.M)],G:=List.replicate i.start.length 0}) w p:=by
 have D:=h.blk;have aM:=hs.n;have a6:0<i.start.length:=hs.n1;obtain ⟨W0,W1,a3,a2,g0,g1,J, -⟩:=gE w (bj y).toArray #[u,v] 152 333;obtain ⟨rows,r1,r2,r3,r4⟩:=h.re;have O:=sb D _ J;have a1:=az r1 J
 have nt:b≠a.rb:=λe=>by
  rcases r1.2 with ⟨e',_⟩ | ⟨r',_,_,e',_,hg,_⟩
  .cases e'
  .simp only [QH,Option.some.injEq,Addr.mk.injEq] at e';obtain ⟨⟨e1,_⟩,_⟩:=e';rw [e,e1,hg] at D;simp at D
 have kb:=λp (q:Keep (λj=>j=a.rb) W1 p)=>(q.block b (PU O) nt).trans O;have aG:∀p,Keep (λj=>j=a.rb) W1 p->Vh p b 14 (Vf a.rb 0 m.rc.length a.rc):=λp q=>PX p b 14 _ _ _ (kb p q);have a7:∀p,Keep (λj=>j=a.rb) W1 p->Vh p b 11 (Vf a.bp 0 i.start.length a.cp):=λp q=>PX p b 11 _ _ _ (kb p q);have a9:∀p,Keep (λj=>j=a.rb) W1 p->Vh p b 12 (Vf a.bm 0 i.start.length a.cm):=λp q=>PX p b 12 _ _ _ (kb p q);have a5:=λp (q:aq W1 p)=>kY (some (ar a.bp 0)) (some (ar a.bm 0)) i.start.length a.cp a.cm m.P m.M p (Rd.own (az (az h.oP J) q)) (Rd.own (az (az h.oM J) q)) h.wP.1 h.wM.1 ap;obtain ⟨av,ab,KB,R1,K1,Q,Hn,T⟩:=ak a3 a2 kb a1 J h hn U;obtain ⟨NT,ad,R2,R3,R4⟩:=ah nt a5 r2 r3 r4;have q0:Keep (λj=>j=a.rb) W1 W1.drew:=(Keep.refl _ _).drew;have tl:=λp (q:Keep (λj=>j=a.rb) W1 p)=>P6 (PU O) q.size;clear a3 a2 g0 g1 J O a1 nt kb D h hn U a5 r1 r2 r3 r4;go_enter func229,ntmps229;go_wp2_with fail;rw [av.o,ab.o];refine XA.g 12 (λp:R8=>Keep (λj=>j=a.rb) W1 p) ?_;refine XA.t ?_ [0,1,2,3,4,5,6,7,8] q0 ?_;refine XA.c 9 (ad.o _ ((br W1).drew)) ?_;rintro e R ⟨A1,c1,V,c2,rfl,b4,b0,o1,o2, -,k3⟩;have b3:aq W1 R:=(br W1).drew.trans k3;have q3:Keep (λj=>j=a.rb) W1 R:=Keep.below b3;refine ⟨_,rfl,q3,λ_=>?_⟩;refine XA.v 10 (R.alloc (.cells #[.slice A1 i.start.length c1,.slice V i.start.length c2] 141)) (Vf R.heap.size 0 1 1) (q3.alloc _) ?_;refine XA.o 11 (λK' hK=>?_);have hO:=(az R1.o b3).alloc (.cells #[.slice A1 i.start.length c1,.slice V i.start.length c2] 141);refine bY Lb (.tmp 11) (.tmp 17) rfl rfl 0 (Vf a.rb 0 m.rc.length a.rc) m.rc.length _ rfl hO (some (ar R.heap.size 0)) 1 1 [.slice A1 i.start.length c1,.slice V i.start.length c2] rfl (λk u hu=>⟨_,_,rfl,by rw [QP,PX _ R.heap.size k _ 141 (0,0) (PW R _)];simpa using hu⟩) rfl V5 ap V2 (PZ _) ?_;intro A5 c5 L o5 b5 g5 a0
 have ao:∃g,A5=some (ar g 0):=by
  obtain ⟨g,_,e,_⟩:=o5.form ap;simp only [QH] at e;exact ⟨g,e.1⟩
 obtain ⟨g,rfl⟩:=ao;have q5:=(q3.alloc (.cells #[.slice A1 i.start.length c1,.slice V i.start.length c2] 141)).grown g5 (λk hk=>.inr (by cases hk;rfl));refine hK.out _ _ q5 λ_=>?_;refine XA.e ?_;simp only [Qq,Qs];have B:=KB.o L q5;have C:(m.rc++[(m.P,m.M)]).length=m.rc.length+1:=by simp
 have e8:=ss (i:=14) (v:=Vf g 0 (m.rc.length+1) c5) B rfl;have k8:Keep (λk=>k=b) L (L.setCell (ar b 14) (Vf g 0 (m.rc.length+1) c5)):=Vk b (Keep.refl _ _) _ (.inr rfl) _;have o8:=k8.own o5 (λj hj e=>ay B V0 o5 (by rw [hj,e]));have z1:=fx (o1.alloc (.cells #[.slice A1 i.start.length c1,.slice V i.start.length c2] 141)) hO g5 V0;have z2:=fx (o2.alloc (.cells #[.slice A1 i.start.length c1,.slice V i.start.length c2] 141)) hO g5 V0;have Y:=aF (base':=w.heap.size) (k8.own z1 (λj hj e=>ay B V0 z1 (by rw [hj,e]))) (P4 K1.o.size (br W1).drew.size);have Z:=aF (base':=w.heap.size) (k8.own z2 (λj hj e=>ay B V0 z2 (by rw [hj,e]))) (P4 K1.o.size (br W1).drew.size);have aR:Vh L b 14 (Vf a.rb 0 m.rc.length a.rc):=PX L b 14 _ _ _ B;have b1:=P8 L b 14 _ _ B;have l5:=PU B;have I:Keep (λk=>k=b\/k=a.rb) w (L.setCell (ar b 14) (Vf g 0 (m.rc.length+1) c5)):=((Keep.below K1.o).trans (q5.mono λk _ e=>.inr e)).trans (k8.mono λk _ e=>.inl e);have N:Vh (L.setCell (ar b 14) (Vf g 0 (m.rc.length+1) c5)) b 13 (Vf a.bg 0 i.start.length a.cg):=PX _ b 13 _ _ _ e8;rw [<-C] at e8 o8 I N
 have a4:eA (L.setCell (ar b 14) (.slice (some (ar g 0)) (m.rc++[(m.P,m.M)]).length c5)) w.heap.size [.slice A1 i.start.length c1,.slice V i.start.length c2] (m.P,m.M):=by
  rw [C];refine ⟨_,_,rfl,?_,?_,?_,?_,Q.o.wP.2,Q.o.wM.2⟩
  .show World.ownsRow _ _ _ _ _ m.P.length _;rw [Q.o.wP.1];exact Y
  .show World.ownsRow _ _ _ _ _ m.M.length _;rw [Q.o.wM.1];exact Z
  .show m.P.length<=_;rw [Q.o.wP.1];omega
  .show m.M.length<=_;rw [Q.o.wM.1];omega
 have A:=Q.o.setR Hn.o T.o g c5 (m.P,m.M) _ _ I e8 rows R2.o R3.o R4.o o8 a4 (by
  rcases a0 with h1 | h1
  .left;simpa [Value.ownBlock] using h1
  .right
   have h2:g=R.heap.size+1:=by simpa [Value.ownBlock] using h1
   have:=K1.o.size;have:=b3.size
   omega)
 rw [C] at A N I;obtain ⟨w8,a8⟩:=Vb (L.setCell (ar b 14) (Vf g 0 (m.rc.length+1) c5));rw [a8] at A N I;have b2:b<w8.heap.size:=aB N;have aP:=λty=>G9 ty A.1.oG a6;have k9:=lK (g:=a.bg) (List.replicate i.start.length (QZ 0)) 0 w8;have o9:=mM (List.replicate i.start.length (QZ 0)) 0 w8 _ A.1.oG V3
 have e9:(aA .i64 m.G).take 0++List.replicate i.start.length (Value.int .i64 0)++(aA .i64 m.G).drop (0+(List.replicate i.start.length (Value.int .i64 0)).length)=aA .i64 (List.replicate i.start.length 0):=by
  rw [List.take_zero,List.nil_append,QA,QP,List.drop_eq_nil_of_le (by rw [cq,Q.o.wG.1];exact PV _),List.append_nil,fB]
 rw [e9] at o9;have hG:=A.1.setG (λk hk=>(A.2 k hk).elim (Hn.o k) (T.o k)) k9 (List.replicate i.start.length 0) o9 ⟨by simp,sM _⟩;have HF:=aa (⟨_,_,hG,rfl,rfl,(I.sub (λk e=>.inl (e.elim .inl (λe=>.inr (.inr (.inr (.inr (.inl e)))))))).trans (k9.sub (λk e=>.inl (.inr (.inr (.inr (.inl e)))))),A.2,⟨rfl,rfl,rfl⟩,rfl⟩:Did H (λ_=>False) b i x a m w.heap.size (λ_ m1=>m1={m with rc:=m.rc++[(m.P,m.M)],G:=List.replicate i.start.length 0}) w _);clear hG A I o9 e9 k9 a4 z1 z2 Y Z o8 e8 k8 B a0 g5 b5 o5 q5 hO q0 aG a7 a9 hK K' C o1 o2 k3 b3 q3 tl;go_wp2;go_ret;exact ⟨rfl,HF.o⟩
theorem Nh (j n:Nat):((j:Int)==(n:Int))=decide (j=n):=by rw [Bool.eq_iff_iff];simp;omega
theorem AV (X n j:Nat) (w:R8) (i:Vh w X 2 (Vd n)):Vj 239 #[Vd j,(au X)] w λe h=>Vi e (.bool (decide (j=n)))/\h=w:=by
 go_enter func239,ntmps239;go_wp2;go_ret;exact ⟨by simp [Nh],rfl⟩
theorem uE {l:List Nat} (h:l[k]?=some j):(aA .i64 (eg l))[k]?=some (Vd j):=by simp [aA,eg,h]
def OD (l:List Nat) (n:Nat) (w:R8) (e:Ending) (h:R8):Prop:=((∃k,k<l.length/\l[k]?=some n/\(∀j,j<k->l[j]?≠some n)/\e=.returned (QZ (k:Nat)))\/((∀j,j<l.length->l[j]?≠some n)/\e=.returned (QZ (-1))))/\h=w
theorem M5 (A:N_) (l:List Nat) (c X n:Nat) (w:R8) (hA:Rd w A (aA .i64 (eg l))) (hl:l.length<=1000) (Q:Vh w X 2 (Vd n)):Vj 154 #[.slice A l.length c,.func (.func 239) #[] #[(au X)]] w (OD l n w):=by
 have i:=λj=>AV X n j w Q;have ⟨N,H⟩:=Vb l.length;have B:∀e J,((∃k,k<N/\l[k]?=some n/\(∀j,j<k->l[j]?≠some n)/\Vi e (Vd k))\/((∀j,j<N->l[j]?≠some n)/\Vi e (QZ (-1))))/\J=w->OD l n w e J:=λe J h=>by rw [<-H] at h;exact h
 rw [H] at hl |-;have ⟨V,HA,Z,R⟩:=ag i hA H B;clear i hA H Q B;go_enter func154,ntmps154;go_wp2
 go_loopw [8] (λy wr=>∃k:Nat,k<=N/\y=QZ k/\(∀j,j<k->l[j]?≠some n)/\wr=w) (λy _=>N-(intOf y).toNat)
 .exact ⟨0,PZ _,rfl,λj hj=>ap,rfl⟩
 case round=>
  obtain ⟨k,hk,rfl,C,rfl⟩:=hrel;have u:=aa C;clear C;by_cases D:k<N
  .have L:(k:Int)<N:=ap;have U:¬(k:Int)<0:=ap;have Y:IntKind.i64.wrap ((k:Int)+1)=((k+1:Nat):Int):=by rw [P3 _ ap];push_cast;rfl
   obtain ⟨v,O⟩:∃v,l[k]?=some v:=⟨_,Qv (by rw [Z.o];exact D)⟩;obtain ⟨b,o,rfl,x⟩:=HA.o k _ (uE O);have lb:=aB x;have T:=aa O;clear O;go_wp2_with fail;refine (V.o v).mono ?_;rintro e w2 ⟨rfl,rfl⟩;by_cases p:v=n
   .subst p;rw [QS rfl];go_wp2;go_ret;exact R.o _ _ ⟨.inl ⟨k,D,T.o,u.o,rfl⟩,rfl⟩
   .rw [QT p];have I:=aa p;clear p;go_wp2;go_roundw
    case rel=>
     refine ⟨k+1,ap,Vc,λj hj=>?_,trivial⟩;rcases Qf j k with h | h
     .exact u.o j h
     .obtain rfl:j=k:=ap;rw [T.o];intro h;exact I.o (by simpa using h)
    case measure=>exact Va
  .have L:¬(k:Int)<N:=ap;obtain rfl:k=N:=ap;go_wp2;go_ret;exact R.o _ _ ⟨.inr ⟨u.o,rfl⟩,rfl⟩
theorem FM {g:Nat} (h:w.ownsRow base e 1 (Vf g 0 n c) n xs) (hk:k<=n):w.ownsRow base e 1 (Vf g 0 k c) k (xs.take k):=by
 have hl:=h.1;rcases h.2 with ⟨i,_⟩ | ⟨A,cap,o,i,h1,u,y,v,x,p⟩
 .cases i
 .simp only [QH,Option.some.injEq,Addr.mk.injEq] at i;obtain ⟨⟨rfl,_⟩,_,rfl⟩:=i;refine ⟨by rw [Qy];omega,.inr ⟨g,c,o,rfl,h1,u,ap,v,x,?_⟩⟩;rw [<-p,List.take_take];congr 1;omega
def ir (l:List Nat) (n:Nat):List Nat:=l.filter λj=>decide (j≠n)
def NC (l:List Nat) (n base g c:Nat) (w:R8) (e:Ending) (h:R8):Prop:=e=.returned (.slice (some (ar g 0)) (ir l n).length c)/\h.ownsRow base 3 1 (.slice (some (ar g 0)) (ir l n).length c) (ir l n).length (aA .i64 (eg (ir l n)))/\Keep (λj=>j=g) w h
theorem CS (l:List Nat) (k:Nat):(aA .i64 (eg l)).take k=aA .i64 (eg (l.take k)):=by simp [aA,eg,List.map_take]
theorem GH (l:List Nat) (k v:Nat):(aA .i64 (eg l)).set k (Vd v)=aA .i64 (eg (l.set k v)):=by simp [aA,eg,List.map_set]
theorem Lo {l:List Nat} {i v:Nat} (o:l[j]?=some v) (h1:R.take i=ir (l.take j) n) (p:R.drop j=l.drop j) (u:i<j) (hl:R.length=l.length) (h:v≠n):(R.set i v).take (i+1)=ir (l.take (j+1)) n/\(R.set i v).drop (j+1)=l.drop (j+1):=by
 have x:=(Qu.1 o).1;constructor
 .rw [List.take_add_one,List.take_set_of_le (PV i),h1,List.take_add_one,o];simp [ir,List.filter_append,h,show i<R.length by omega]
 .rw [List.drop_set_of_lt ap];have:=congrArg (List.drop 1) p;simpa [List.drop_drop] using this
theorem Lp {l:List Nat} {i:Nat} (h:l[j]?=some n) (h1:R.take i=ir (l.take j) n) (o:R.drop j=l.drop j):R.take i=ir (l.take (j+1)) n/\R.drop (j+1)=l.drop (j+1):=by
 constructor
 .rw [h1,List.take_add_one,h];simp [ir,List.filter_append]
 .have:=congrArg (List.drop 1) o;simpa [List.drop_drop] using this
theorem Lq {l:List Nat} (h:∀j,j<l.length->l[j]?≠some n):ir l n=l:=by
 refine List.filter_eq_self.2 λx o=>?_;obtain ⟨j,i,rfl⟩:=List.getElem_of_mem o;have:=h j i;rw [Qv i] at this;simpa using this
theorem Ln (g c X n base:Nat) (l:List Nat) (w:R8) (V:w.ownsRow base 3 1 (Vf g 0 l.length c) l.length (aA .i64 (eg l))) (hl:l.length<=1000) (hX:Vh w X 2 (Vd n)) (a8:X≠g):Vj 238 #[Vf g 0 l.length c,.func (.func 239) #[] #[(au X)]] w (NC l n base g c w):=by
 have I:=M5 (some (ar g 0)) l c X n w (Rd.own V) hl hX;have B:=λj Y (q:Keep (λj=>j=g) w Y)=>AV X n j Y (q.cell hX a8)
 have a0:l.length<=c:=by
  have ⟨_,_,e,h⟩:=aC V;simp only [QH] at e;omega
 have ⟨N,hN⟩:=Vb l.length;unfold OD at I;rw [hN] at I V hl a0 |-;have b4:=(V.lt g rfl).2;have ⟨av,Hc,HO,U⟩:=ag I B V hN;clear I B V hN hX;go_enter func238,ntmps238;go_wp2_with fail;refine av.o.mono ?_;rintro e Y ⟨h,rfl⟩;rcases h with ⟨k,ao,hk,C,rfl⟩ | ⟨C,rfl⟩
 rotate_left
 .have hd:=Lq (n:=n) (l:=l) (by rw [U.o];exact C);have HD:=aa hd;clear C hd;go_wp2;go_ret;refine ⟨by rw [HD.o,U.o];rfl,by rw [HD.o,U.o];exact HO.o,Keep.refl _ _⟩
 .have bb:¬(k:Int)= -1:=ap;have b1:IntKind.i64.wrap ((k:Int)+1)=((k+1:Nat):Int):=by rw [P3 _ ap];push_cast;rfl
  have h0:l.take k=ir (l.take (k+1)) n:=by
   rw [List.take_add_one,hk];simp only [ir,List.filter_append,Option.toList,List.filter_cons,List.filter_nil];simp only [ne_eq,not_true_eq_false,decide_false,Bool.false_eq_true,if_false,List.append_nil]
   exact (List.filter_eq_self.2 λx hx=>by
    obtain ⟨j,hj,rfl⟩:=List.getElem_of_mem hx;rw [Qy] at hj;have:=C j ap;rw [Qv ap] at this
    simpa using this).symm
  have H0:=aa h0;clear hk C h0;go_wp2
  go_loopw [5,6] (λy5 y6 wr=>∃i j:Nat,∃R:List Nat,y5=QZ i/\y6=QZ j/\i<j/\j<=N/\R.length=N/\R.take i=ir (l.take j) n/\R.drop j=l.drop j/\wr.ownsRow base 3 1 (Vf g 0 N c) N (aA .i64 (eg R))/\Keep (λj=>j=g) Y wr) (λ_ y _=>N-(intOf y).toNat)
  .exact ⟨k,k+1,l,rfl,by push_cast;rfl,ap,ao,U.o,H0.o,rfl,HO.o,Keep.refl _ _⟩
  case round=>
   obtain ⟨i,j,R,rfl,rfl,a9,be,hR,h1,h2,J,Z⟩:=hrel;have bd:(i:Int)<N:=ap;have b9:¬(i:Int)<0:=ap;have fr:=J.frozenAt i;obtain ⟨ri,L⟩:∃ri,R[i]?=some ri:=⟨_,Qv ap⟩;have ci:=J.cellAt i ap;rw [uE L] at ci;have b7:g<(Ve wr):=(J.lt g rfl).2;by_cases O:j<N
   .have ad:(j:Int)<N:=ap;have b3:¬(j:Int)<0:=ap;have b6:IntKind.i64.wrap ((i:Int)+1)=((i+1:Nat):Int):=by rw [P3 _ ap];push_cast;rfl
    have b2:IntKind.i64.wrap ((j:Int)+1)=((j+1:Nat):Int):=by rw [P3 _ ap];push_cast;rfl
    obtain ⟨v,hv⟩:∃v,l[j]?=some v:=⟨_,Qv (by rw [U.o];exact O)⟩
    have a6:R[j]?=some v:=by
     have:=congrArg (λz=>z[0]?) h2;simpa [List.getElem?_drop,hv] using this
    have cj:=J.cellAt j ap;rw [uE a6] at cj;have ⟨aG,Q,QK⟩:=af (Hc.o v wr Z) J Z;have D:=λh=>Lo hv h1 h2 a9 (hR.trans U.o.symm) h;have H:=λh:v=n=>Lp (by rw [<-h];exact hv) h1 h2;have ⟨a7,a4,HR⟩:=af D H hR;clear hv a6 h1 h2 J Z D H L hR;go_wp2_with fail;refine aG.o.mono ?_;rintro e w2 ⟨rfl,rfl⟩;by_cases p:v=n
    .rw [QS p];have u:=aa p;clear p;go_wp2;go_roundw
     ·(repeat apply Exists.intro);exact ⟨⟨i,j+1,R,rfl,Vc,ap,O,HR.o,(a4.o u.o).1,(a4.o u.o).2,Q.o,QK.o⟩,rfl⟩
     .simp [intOf];omega
    .rw [QT p];have u:=aa p;clear p;go_wp2;go_roundw
     ·(repeat apply Exists.intro);exact ⟨⟨i+1,j+1,R.set i v,Vc,Vc,ap,O,by rw [List.length_set];exact HR.o,(a7.o u.o).1,(a7.o u.o).2,by have:=(Q.o.stored i (Vd v)).1;rwa [GH] at this,Vk g QK.o (ar g i) (.inr rfl) _⟩,rfl⟩
     .simp [intOf];omega
   .obtain rfl:j=N:=ap;have ad:¬(j:Int)<j:=ap;have aM:l.take j=l:=List.take_of_length_le (by rw [U.o];exact PV _);rw [aM] at h1;have ⟨HD,Q,QK,HR⟩:=ag h1 J Z hR;clear h1 h2 J Z L hR;have ab:i<=j:=ap;have b8:(i:Int)<=j:=ap;have b5:(i:Int)<=c:=ap;have b0:i<=c:=ap;have aP:¬c=i:=ap;have A:(ir l n).length=i:=by rw [<-HD.o,Qy];have:=HR.o;omega
    obtain ⟨zi,a3,a5,_⟩:=gi.info;have aR:=Lib.run_clear_slice wr 22 3 0 (QZ 0) gi.und (λY=>by simp [zeroValue,typeInfo,a3,a5]) rfl rfl g i (j-i) (c-i) ap (λt ht=>by rw [Q.o.cellAt (i+t) ap,Qv (by have:=Q.o.1;omega)];rfl) (λt ht=>Q.o.frozenAt (i+t));have o9:=mM (List.replicate (j-i) (QZ 0)) i wr _ Q.o (by rw [QA];omega);have T:=FM o9 ab
    have a2:(((aA .i64 (eg R)).take i++List.replicate (j-i) (Value.int .i64 0)++(aA .i64 (eg R)).drop (i+(List.replicate (j-i) (Value.int .i64 0)).length)).take i)=aA .i64 (eg (ir l n)):=by
     rw [Qz,List.take_append_of_le_length (by rw [Qy,cq,ma,HR.o];omega),List.take_take,Nat.min_self,CS,HD.o]
    rw [a2] at T;have a1:=QK.o.trans (lK (g:=g) (List.replicate (j-i) (QZ 0)) i wr);have HF:=aa (⟨by rw [A],by rw [A];exact T,a1⟩:NC l n base g c Y (.returned (Vf g 0 i c)) _);clear o9 T a2 a1 a3 a5 A;go_wp2;go_ret;exact HF.o
theorem aU.setPM {y:R8} (h:aU H w b i x a m) (hn:∀k,Mut b a k->¬H k) (hk:Keep (λk=>k=a.bp\/k=a.bm) w y) (P M:Q_) (oP:y.ownsRow 0 2 1 (Vf a.bp 0 (Vn i) a.cp) (Vn i) (aA .i64 P)) (oM:y.ownsRow 0 2 1 (Vf a.bm 0 (Vn i) a.cm) (Vn i) (aA .i64 M)) (wP:P.length=Vn i/\W64 P) (wM:M.length=Vn i/\W64 M):aU H y b i x a {m with P:=P,M:=M}:=by
 have he:Ext (aH (gW H b a) w) (aH (gW H b a) y):=bC (hk.mono λk _ e=>.inl (.inr (e.elim .inl λe=>.inr (.inl e)))) (λk _ Z=>Z);have nb:∀{r n c:Nat} {xs:R7},w.ownsRow 0 2 1 (Vf r 0 n c) n xs->b≠r:=λo e=>ay h.blk V0 o (by rw [e];rfl);have hb:=(hk.block b (PU h.blk) (λe=>e.elim (nb h.oP) (nb h.oM))).trans h.blk
 have D:∀{r n c:Nat} {ys:R7} {v:Value} {e:R9} {size k:Nat} {xs:R7},w.ownsRow 0 2 1 (Vf r 0 n c) n ys->e≠2->w.ownsRow 0 e size v k xs->∀j,v.ownBlock=some j->j≠r:=λhr p u j A e=>by
  rcases hr.2 with ⟨B,_⟩ | ⟨r',_,_,B,_,hg,_⟩
  .cases B
  .simp only [QH,Option.some.injEq,Addr.mk.injEq] at B;obtain ⟨⟨V,_⟩,_⟩:=B;exact ay hg (Ne.symm p) u (by rw [A,e,V])
 have u:∀{v:Value} {e:R9} {size n:Nat} {xs:R7},e≠2->w.ownsRow 0 e size v n xs->y.ownsRow 0 e size v n xs:=λp u=>hk.own u (λj A e=>e.elim (D h.oP p u j A) (D h.oM p u j A));obtain ⟨U,a1,Y,N,O,C,Q⟩:=h.pl;obtain ⟨rows,J,T,I,L⟩:=h.re
 exact ⟨hb,fH h.sh he,fh cX h.ex he,iD h.sa he,⟨U,a1,Y,N,O,C,iE Q he⟩,aW h.bu he,aW h.it he,⟨rows,u V0 J,T,I,λj x R=>cX (L j x R) he⟩,
  oP,oM,hk.own h.oG (λj A e=>by cases A;exact e.elim (λe=>h.dj.2.1 e.symm) (λe=>h.dj.2.2 e.symm)),u V0 h.oO,h.dj,λk _ hm=>hn k hm,wP,wM,h.wG,h.ox,h.xw⟩
theorem En {o:Int} {ms g:Q_} (h:W64 ps):W64 (apP ra o q ps ms g lo k):=eZ λj i=>by
 split
 .exact fD _
 .have:=h j i;rw [dN _ _ i];simpa [dN _ _ i] using this
theorem Mt:dg prog 148 2:=⟨⟨_,underlying148,rfl⟩,by kernel_rfl⟩
theorem J3 (h:aU H w b i x a m) (hn:∀k,Mut b a k->¬H k) (a0:∀k,w.heap.size<=k->¬H k) (hs:bK i) (y:Itm) (u v:Value) (hu:u.oneCell'=true) (hv:v.oneCell'=true) (bs:y.n<(ax i).buks.length) (bi:0<m.op.length) (b5:m.op.length<=1000) (b2: -9223372036854775808<=i.cfg.rate/\i.cfg.rate<=9223372036854775807) (b3: -9223372036854775808<=i.cfg.mom/\i.cfg.mom<=9223372036854775807) (lo B:Nat) (hr:aK (ax i).buks y.n=(lo,B)) (c7:lo<B) (cb:B<=i.start.length):Vj 228 #[(au b),.agg (bj y).toArray,.agg #[u,v]] w λe A=>Vi e (QZ 0)/\Did H (λ_=>False) b i x a m w.heap.size (λ_ m1=>m1={m with P:=apP i.cfg.rate i.cfg.mom i.cfg.shift m.P m.M ((m.G.drop lo).take (B-lo)) lo (B-lo),M:=apM i.cfg.mom i.cfg.shift m.M ((m.G.drop lo).take (B-lo)) lo (B-lo),op:=ir m.op y.n}) w A:=by
 have Z:=h.blk;have bz:=hs.n;obtain ⟨W0,W1,ao,ad,g0,g1,T, -⟩:=gE w (bj y).toArray #[u,v] 152 333;have U:=sb Z _ T;have a5:=aW h.bu (iF (S:=gW H b a) (Keep.below (S:=gW H b a) T));have O:=eO bs;rw [hr] at O;obtain ⟨bb,bo,a4,aR⟩:=a5 _ _ O.1;obtain ⟨b1,bn,e',a2⟩:=a5 _ _ O.2;rw [a4] at e';obtain ⟨rfl,rfl⟩:b1=bb/\bn=bo:=by simpa using e'.symm
 rw [<-QO] at a2;have t7:∀A,aq W1 A->A.cell? (ar b 7)=some (.slice a.BA (ax i).buks.length a.bc):=λA q=>PX A b 7 _ _ _ (sb U A q);rw [a4] at t7;have s2:∀A,aq W1 A->A.cell? (ar w.heap.size 2)=some (Vd y.n):=λA q=>PX A w.heap.size 2 _ _ _ (sb g0 A q);have d0:=λA (q:aq W1 A)=>aw q aR;have d1:=λA (q:aq W1 A)=>aw q a2;have bO:(y.n:Int)<(ax i).buks.length:=ap;have cd:¬(y.n:Int)<0:=ap;have tl:=sl U;obtain ⟨bl,bh,bf,G0,K1,V,Hn,ab⟩:=ak ao ad U g0 T h hn a0;have q0:=(br W1).drew;clear ao ad g0 g1 T U a5 O Z h hn a0 aR a2 a4 hr;go_enter func228,ntmps228;go_wp2_with fail;rw [bl.o,bh.o];refine HA.g (λA:R8=>aq W1 A) ?_;refine HA.t ?_ [0,1,2,3,4,5,6,7,8] q0 ?_;refine HA.v 9 (W1.drew.alloc (.cells #[QZ 0,QZ 0] 148)) ((au W1.heap.size)) (q0.alloc (PV _) _) ?_;refine HA.st 10 (PW W1.drew _) Mt (λC e2 k2=>?_);have q2:aq W1 C:=q0.trans (aN k2);refine ⟨q2,HA.d ?_⟩;rw [QG] at e2;have D:=V.o.mlt;have cf:=K1.o.size;have Q:=sb bf.o C q2;have a7:=sb G0.o C q2;have B2:=bt K1.o q2;have bA:w.heap.size<W1.heap.size:=PU G0.o;have bw:b≠a.bp:=λe=>ay V.o.blk V0 V.o.oP (by rw [e];rfl);have b4:b≠a.bm:=λe=>ay V.o.blk V0 V.o.oM (by rw [e];rfl);have bV:=D a.bp (.inr (.inl rfl));have cl:=D a.bm (.inr (.inr (.inl rfl)));have kb:=λA (q:Keep (λk=>k=a.bp\/k=a.bm) C A)=>(q.block b (PU Q) (λe=>e.elim bw b4)).trans Q;have kx:=λA (q:Keep (λk=>k=a.bp\/k=a.bm) C A)=>(q.block W1.heap.size (PU e2) (λe=>e.elim (λe=>ap) (λe=>ap))).trans e2;have r8:∀A,Keep (λk=>k=a.bp\/k=a.bm) C A->A.cell? (ar b 8)=some (QZ i.cfg.rate):=λA q=>PX A b 8 _ _ _ (kb A q);have r9:∀A,Keep (λk=>k=a.bp\/k=a.bm) C A->A.cell? (ar b 9)=some (QZ i.cfg.mom):=λA q=>PX A b 9 _ _ _ (kb A q);have bd:∀A,Keep (λk=>k=a.bp\/k=a.bm) C A->A.cell? (ar b 10)=some (QZ i.cfg.shift):=λA q=>PX A b 10 _ _ _ (kb A q);have b6:∀A,Keep (λk=>k=a.bp\/k=a.bm) C A->A.cell? (ar b 11)=some (.slice (some (ar a.bp 0)) i.start.length a.cp):=λA q=>PX A b 11 _ _ _ (kb A q);have bv:∀A,Keep (λk=>k=a.bp\/k=a.bm) C A->A.cell? (ar b 12)=some (.slice (some (ar a.bm 0)) i.start.length a.cm):=λA q=>PX A b 12 _ _ _ (kb A q);have be:∀A,Keep (λk=>k=a.bp\/k=a.bm) C A->A.cell? (ar b 13)=some (.slice (some (ar a.bg 0)) i.start.length a.cg):=λA q=>PX A b 13 _ _ _ (kb A q);have x0:∀A,Keep (λk=>k=a.bp\/k=a.bm) C A->A.cell? (ar W1.heap.size 0)=some (Vd lo):=λA q=>PX A _ 0 _ _ _ (kx A q);have x1:∀A,Keep (λk=>k=a.bp\/k=a.bm) C A->A.cell? (ar W1.heap.size 1)=some (Vd B):=λA q=>PX A _ 1 _ _ _ (kx A q)
 have bX:i.start.length<=a.cg:=by
  obtain ⟨_,_,e,h⟩:=aC V.o.oG;simp only [QH] at e;omega
 have N:=V.o.below B2 Hn.o
 have hG:Rd C (some (ar a.bg lo)) (aA .i64 ((m.G.drop lo).take (B-lo))):=by
  have:=((Rd.own N.oG).drop lo).take (B-lo)
  rwa [dK,dH,QP] at this
 have a3:=xu i.cfg.rate i.cfg.mom i.cfg.shift 0 i.start.length lo (B-lo) a.cp a.cm (a.cg-lo) (some (ar a.bp 0)) (some (ar a.bm 0)) (some (ar a.bg lo)) m.P m.M ((m.G.drop lo).take (B-lo)) C.drew N.oP.drew N.oM.drew (λj hj e=>by cases hj;exact N.dj.1 (by simpa [Value.ownBlock] using e.symm))
  hG (by rw [Qy,QB,N.wG.1];omega) ap ap (λz hz e=>by cases hz;exact N.dj.2.1 (by simpa [Value.ownBlock] using e)) (λz hz e=>by cases hz;exact N.dj.2.2 (by simpa [Value.ownBlock] using e)) b2 b3 N.wM.2
 rw [show lo+(B-lo)=B by omega] at a3;have cj:(lo:Int)<=B:=ap;have cn:(B:Int)<=a.cg:=ap;have bI:lo<=B:=ap;have bM:B<=a.cg:=ap;have bN:¬a.cg=lo:=ap;have q3:Keep (λk=>k=a.bp\/k=a.bm) C C.drew:=(Keep.refl _ _).drew;have b7:=λA (q:Keep (λk=>k=a.bp\/k=a.bm) C A)=>P6 (PU Q) q.size;have b9:=λA (q:Keep (λk=>k=a.bp\/k=a.bm) C A)=>P6 (PU e2) q.size;obtain ⟨b8,M2,b0,KB,GI⟩:=ah a3 N B2 kb a7;clear t7 s2 d0 d1 tl q0 k2 q2 a3 N B2 kb kx Q a7 e2 hG D;go_wp2;refine HA.g (λA:R8=>Keep (λk=>k=a.bp\/k=a.bm) C A) ?_;refine HA.t ?_ [0,1,2,3,4,5,6,7,8,9,10,11,12,13,14,15,16,17,18] q3 ?_;refine HA.c 19 b8.o ?_;rintro e w4 ⟨rfl,aP,a9,k4⟩;have q4:Keep (λk=>k=a.bp\/k=a.bm) C w4:=q3.trans (k4.mono λj _ e=>e.imp (λe=>by simpa [Value.ownBlock] using e.symm) (λe=>by simpa [Value.ownBlock] using e.symm));refine ⟨_,rfl,q4,λ_=>?_⟩;refine HA.d ?_;have m4:=M2.o.setPM Hn.o q4 _ _ aP a9 ⟨by rw [oN];exact M2.o.wP.1,En M2.o.wP.2⟩ ⟨by rw [oQ];exact M2.o.wM.1,yH M2.o.wM.2⟩;have hX:=q4.cell (PX C w.heap.size 2 _ _ _ GI.o) (p:=(ar w.heap.size 2)) (λe=>e.elim (λe=>by have:w.heap.size=a.bp:=e;omega) (λe=>by have:w.heap.size=a.bm:=e;omega));obtain ⟨g,c,I,c6⟩:=m4.oO.form bi;have c8:=V.o.mlt g (.inr (.inr (.inr (.inr (.inr (by rw [I];rfl))))));have R:=m4.oO;rw [I] at R;have Y:=Ln g c w.heap.size y.n 0 m.op w4 R b5 hX ap;have L:=m4.blk;have aG:b≠g:=λe=>ay L V0 R (by rw [e];rfl);have c9:w4.cell? (ar b 18)=some (.slice (some (ar g 0)) m.op.length c):=by rw [<-I];exact PX w4 b 18 _ _ _ L
 have ci:=PU L;obtain ⟨H4,av,aM,Q4,a6⟩:=ah m4 Y L q4 I;clear m4 hX Y L q4 I R aP a9 k4 r8 r9 bd b6 bv be x0 x1 b7 b9 q3;go_wp2_with fail;refine av.o.mono ?_;rintro e w5 ⟨rfl,o5,k5⟩;have g5:=(k5.block b (PU aM.o) aG).trans aM.o;have bG:w5.cell? (ar b 18)=some a.ov:=PX w5 b 18 _ _ _ g5;have cc:=P8 w5 b 18 _ _ g5;have l5:=PU g5;have e6:=ss (i:=18) (v:=.slice (some (ar g 0)) (ir m.op y.n).length c) g5 rfl;have k6:Keep (λk=>k=b) w5 (w5.setCell (ar b 18) (.slice (some (ar g 0)) (ir m.op y.n).length c)):=Vk b (Keep.refl _ _) _ (.inr rfl) _;have o6:=k6.own o5 (λj hj e=>by cases hj;exact aG e.symm);have a1:Keep (λk=>k=b\/a.ov.ownBlock=some k) w4 (w5.setCell (ar b 18) (.slice (some (ar g 0)) (ir m.op y.n).length c)):=(k5.mono λk _ e=>.inr (by rw [a6.o,e];rfl)).trans (k6.mono λk _ e=>.inl e);have a8:w.heap.size<=w4.heap.size:=P4 b0.o.size Q4.o.size;have J:=H4.o.setO Hn.o (λk hk=>ab.o k (P4 a8 hk)) (.slice (some (ar g 0)) (ir m.op y.n).length c) (ir m.op y.n) a1 e6 o6 (λk hk=>.inl (by rw [a6.o];exact hk));have HF:=aa (⟨_,_,J.1,rfl,rfl,((Keep.below b0.o).trans (Q4.o.sub λk e=>.inl (.inr (e.elim .inl λe=>.inr (.inl e))))).trans (a1.sub λk e=>.inl (e.elim .inl λe=>.inr (.inr (.inr (.inr (.inr e)))))),λk hk=>(J.2 k hk).imp id (λh=>P4 a8 h),⟨rfl,rfl,rfl⟩,rfl⟩:Did H (λ_=>False) b i x a m w.heap.size (λ_ m1=>m1={m with P:=apP i.cfg.rate i.cfg.mom i.cfg.shift m.P m.M ((m.G.drop lo).take (B-lo)) lo (B-lo),M:=apM i.cfg.mom i.cfg.shift m.M ((m.G.drop lo).take (B-lo)) lo (B-lo),op:=ir m.op y.n}) w _);clear J a1 e6 k6 o6 o5 k5 g5;go_wp2;go_ret;exact ⟨rfl,HF.o⟩
theorem Did.older {p:R8} (h:Did H G b i x a m n T w p) (hn:o<=n):Did H G b i x a m o T w p:=by
 obtain ⟨a1,m1,h1,v,B,y,A,u⟩:=h;exact ⟨a1,m1,h1,v,B,y,λk hk=>(A k hk).imp id λe=>P4 hn e,u⟩
theorem CJ (h:aU H w b i x a m) (hn:∀k,Mut b a k->¬H k) (o:∀k,w.heap.size<=k->¬H k) (hs:bK i) (B:(cC i x m.st)[m.nx]?=some y) (hk:y.kind=2) (hl:m.op.length<=1000) (u v:N_):Vj 216 #[(au b),.pointer u,.pointer v] w λe p=>Vi e (QZ 0)/\Bn H (λ_=>False) b i x a m (λ_ m1=>m1={m with op:=m.op++[y.n]}) w p:=by
 refine (mO h hn o (G:=λ_=>False) (λ_ h=>h.elim) hs B u v 225 (λp=>by rw [hk];kernel_rfl) (λargs w=>by kernel_rfl) (λ_=>False) (λ_ m1=>m1={m with op:=m.op++[y.n]}) (λ_ _ _ h _=>h) (λp q=>?_)).mono ?_
 .refine (Ag (h.below q hn) hn (λk hk=>o k (P4 q.size hk)) hl y (.pointer u) (.pointer v) rfl rfl).mono ?_;rintro e D ⟨rfl,A⟩;exact .inl ⟨rfl,A.older q.size⟩
 .rintro e p (⟨rfl,A⟩ | ⟨C,_,I,_⟩)
  .exact ⟨rfl,A⟩
  .exact I.elim
theorem CI (h:aU H w b i x a m) (hn:∀k,Mut b a k->¬H k) (o:∀k,w.heap.size<=k->¬H k) (hs:bK i) (B:(cC i x m.st)[m.nx]?=some y) (hk:y.kind=6) (hl:m.rc.length<=1000) (u v:N_):Vj 216 #[(au b),.pointer u,.pointer v] w λe p=>Vi e (QZ 0)/\Bn H (λ_=>False) b i x a m (λ_ m1=>m1={m with rc:=m.rc++[(m.P,m.M)],G:=List.replicate (Vn i) 0}) w p:=by
 refine (mO h hn o (G:=λ_=>False) (λ_ h=>h.elim) hs B u v 229 (λp=>by rw [hk];kernel_rfl) (λargs w=>by kernel_rfl) (λ_=>False) (λ_ m1=>m1={m with rc:=m.rc++[(m.P,m.M)],G:=List.replicate (Vn i) 0}) (λ_ _ _ h _=>h) (λp q=>?_)).mono ?_
 .refine (Ae (h.below q hn) hn (λk hk=>o k (P4 q.size hk)) hs hl y (.pointer u) (.pointer v) rfl rfl).mono ?_;rintro e D ⟨rfl,A⟩;exact .inl ⟨rfl,A.older q.size⟩
 .rintro e p (⟨rfl,A⟩ | ⟨C,_,I,_⟩)
  .exact ⟨rfl,A⟩
  .exact I.elim
theorem MU (h:aU H w b i x a m) (hn:∀k,Mut b a k->¬H k) (p:∀k,w.heap.size<=k->¬H k) (hs:bK i) (R:(cC i x m.st)[m.nx]?=some y) (hk:y.kind=5) (u v:N_) (D:y.n<(ax i).buks.length) (Q:0<m.op.length) (J:m.op.length<=1000) (N: -9223372036854775808<=i.cfg.rate/\i.cfg.rate<=9223372036854775807) (L: -9223372036854775808<=i.cfg.mom/\i.cfg.mom<=9223372036854775807) (lo o:Nat) (hr:aK (ax i).buks y.n=(lo,o)) (I:lo<o) (O:o<=Vn i):Vj 216 #[(au b),.pointer u,.pointer v] w λe A=>Vi e (QZ 0)/\Bn H (λ_=>False) b i x a m (λ_ m1=>m1={m with P:=apP i.cfg.rate i.cfg.mom i.cfg.shift m.P m.M ((m.G.drop lo).take (o-lo)) lo (o-lo),M:=apM i.cfg.mom i.cfg.shift m.M ((m.G.drop lo).take (o-lo)) lo (o-lo),op:=ir m.op y.n}) w A:=by
 refine (mO h hn p (G:=λ_=>False) (λ_ h=>h.elim) hs R u v 228 (λA=>by rw [hk];kernel_rfl) (λargs w=>by kernel_rfl) (λ_=>False) (λ_ m1=>m1={m with P:=apP i.cfg.rate i.cfg.mom i.cfg.shift m.P m.M ((m.G.drop lo).take (o-lo)) lo (o-lo),M:=apM i.cfg.mom i.cfg.shift m.M ((m.G.drop lo).take (o-lo)) lo (o-lo),op:=ir m.op y.n}) (λ_ _ _ h _=>h) (λA q=>?_)).mono ?_
 .refine (J3 (h.below q hn) hn (λk hk=>p k (P4 q.size hk)) hs y (.pointer u) (.pointer v) rfl rfl D Q J N L lo o hr I O).mono ?_;rintro e T ⟨rfl,B⟩;exact .inl ⟨rfl,B.older q.size⟩
 .rintro e A (⟨rfl,B⟩ | ⟨C,_,U,_⟩)
  .exact ⟨rfl,B⟩
  .exact U.elim
theorem xa (h:y∈aE p x st) (hk:y.kind=2\/y.kind=5):∃g∈p.grps,g.1<=y.n/\y.n<g.2:=by
 unfold aE at h;simp only [QI,List.mem_map,List.mem_flatMap,List.mem_singleton,List.mem_range] at h;rcases h with (⟨k,i,rfl⟩ | ⟨g,hg,h⟩) | rfl
 .rcases hk with hk | hk<;>cases hk
 .refine ⟨g,hg,?_⟩;unfold dt at h;simp only [QI,List.mem_map,List.mem_flatMap,List.mem_range'_1] at h;rcases h with (⟨j,o,rfl⟩ | ⟨_,_,_,_,_,_,h⟩) | ⟨j,o,rfl⟩
  .show g.1<=j/\j<g.2
   omega
  .unfold cz at h;obtain ⟨c,_,rfl⟩:=List.mem_map.1 h;unfold fy at hk;rcases hk with hk | hk<;>(split at hk<;>cases hk)
  .show g.1<=j/\j<g.2
   omega
 .rcases hk with hk | hk<;>cases hk
def aD (w:R8) (b:Nat) (ring:Value) (cap sent recv peak:Nat):Prop:=
 w.heap[b]?=some (.cells #[ring,QZ cap,QZ sent,QZ recv,QZ peak] 182 (0,0))
section
variable {w:R8} {b:Nat} {ring:Value} {cap sent recv peak:Nat}
theorem aD.c0 (h:aD w b ring cap sent recv peak):Vh w b 0 ring:=PX w b 0 _ _ _ h
theorem aD.c1 (h:aD w b ring cap sent recv peak):Vh w b 1 (QZ cap):=PX w b 1 _ _ _ h
theorem aD.c2 (h:aD w b ring cap sent recv peak):Vh w b 2 (QZ sent):=PX w b 2 _ _ _ h
theorem aD.c3 (h:aD w b ring cap sent recv peak):Vh w b 3 (QZ recv):=PX w b 3 _ _ _ h
theorem aD.c4 (h:aD w b ring cap sent recv peak):Vh w b 4 (QZ peak):=PX w b 4 _ _ _ h
theorem aD.free (h:aD w b ring cap sent recv peak) (i:Nat):w.frozen? (ar b i)=false:=P8 w b i _ _ h
end
theorem mQ (b:Nat) (ring:Value) (cap sent recv peak:Nat) (w:R8) (h:aD w b ring cap sent recv peak) (o:recv<=sent) (hs:sent<=17592186043904):Vj 104 #[(au b)] w λe i=>Vi e (QZ ((sent:Int)-recv))/\∃n,i=w.drewN n:=by
 have c2:=h.c2;have c3:=h.c3;go_enter func104,ntmps104;go_wp2
 go_quiet (fail)
 go_wp2;go_ret;exact ⟨rfl,_,rfl⟩
theorem Ay (b:Nat) (x y:Int) (w:R8) (c2:w.cell? (ar b 2)=some (QZ x)) (c3:w.cell? (ar b 3)=some (QZ y)) (hb:0<=y/\y<=x/\x<=17592186043904):Vj 104 #[(au b)] w λe h=>Vi e (QZ (x-y))/\∃n,h=w.drewN n:=by
 go_enter func104,ntmps104;go_wp2
 go_quiet (fail)
 go_wp2;go_ret;exact ⟨rfl,_,rfl⟩
theorem Gy (b:Nat) (ring:Value) (cap sent recv peak:Nat) (n:Int) (w:R8) (h:aD w b ring cap sent recv peak) (hc:1<=cap) (hn:0<=n) (i:cap<=1048576):Vj 105 #[(au b),QZ n] w λe o=>Vi e (QZ (n%cap))/\w=o:=by
 have c1:=h.c1;go_enter func105,ntmps105;go_wp2;go_ret;exact ⟨rfl,rfl⟩
theorem MY (b:Nat) (ring:Value) (cap sent recv peak:Nat) (w:R8) (h:aD w b ring cap sent recv peak):Vj 222 #[(au b)] w λe i=>Vi e (QZ cap)/\w=i:=by
 have c1:=h.c1;go_enter func222,ntmps222;go_wp2;go_ret;exact ⟨rfl,rfl⟩
theorem Kx (b:Nat) (ring:Value) (cap sent recv peak:Nat) (w:R8) (h:aD w b ring cap sent recv peak):Vj 70 #[(au b)] w λe i=>Vi e (QZ peak)/\w=i:=by
 have c4:=h.c4;go_enter func70,ntmps70;go_wp2;go_ret;exact ⟨rfl,rfl⟩
theorem MX (c:Int) (w:R8) (h:1<=c/\c<=1048576):Vj 45 #[QZ c] w λe i=>Vi e ((au (Ve w)))/\i=w.alloc (.cells #[Ra,QZ c,QZ 0,QZ 0,QZ 0] 182):=by
 obtain ⟨h1,o⟩:=h;go_enter func45,ntmps45;go_wp2;go_ret;exact ⟨rfl,rfl⟩
theorem Ol:dM prog 26 2 (QZ 0) 1 8:=⟨underlying26,info_parts V1,rfl,by decide⟩
theorem G7 (A:N_) (zs:Q_) (c:Nat) (w:R8) (hA:Rd w A (aA .i64 zs)) (hl:zs.length<=17592186043904):Vj 151 #[.slice A zs.length c] w λe y=>∃v,Vi e v/\y.ownsRow w.heap.size 2 1 v zs.length (aA .i64 zs)/\aq w y:=by
 have q:=λ(w:R8)=>Lib.run_eql_slice_nil (P:=prog) w 26 2 A zs.length c 0 0 underlying26
 cases A with
 | none=>
  have B:zs=[]:=by
   cases zs with
   | nil=>rfl
   | cons z l=>have ⟨b,o,h,_⟩:=hA 0 _ rfl;cases h
  subst B;clear q;have q:=λ(w:R8)=>Lib.run_eql_slice_nil (P:=prog) w 26 2 none 0 c 0 0 underlying26;simp only [Option.isNone_none] at q;rw [List.length_nil];go_enter func151,ntmps151;go_wp2;go_ret;exact ⟨_,rfl,Qb _ _ _ _,PY _ _⟩
 | some a=>
  go_enter func151,ntmps151;go_wp2_with (at_builtin;refine dQ Ol _ rfl (.tmp 5) (.tmp 6) rfl (Ve w) _ 0 [] rfl (fg w 2 1) _ zs.length c (aA .i64 zs) rfl (hA.alloc _) (by rw [cq];omega) (cU _ _) ap V2 V3 ?_);intro H D C i hb _ _;have u:=((PY _ w).alloc (PV _) (.cells #[] 2)).trans hb;have ⟨p,x⟩:=ae i u;clear i hb u;go_wp2;go_ret;exact ⟨_,rfl,p.o,x.o⟩
structure Tg where
 a:Int
 b:Int
 c:Int
 d:Int
 e:Int
structure Msg where
 tag:Tg
 vals:Q_
def Tg.cells (t:Tg):R7:=[QZ t.a,QZ t.b,QZ t.c,QZ t.d,QZ t.e]
def Tg.zero:Tg:=⟨0,0,0,0,0⟩
def Msg.zero:Msg:=⟨Tg.zero,[]⟩
theorem lA:dM prog 71 79 (.agg Rk) 6 64:=⟨underlying71,info_parts V1,rfl,by decide⟩
theorem nE (A:N_) (zs:Q_) (c:Nat) (w:R8) (hA:Rd w A (aA .i64 zs)) (hl:zs.length<=17592186043904):Vj 106 #[.slice A zs.length c] w λe u=>∃v,Vi e v/\u.ownsRow w.heap.size 2 1 v zs.length (aA .i64 zs)/\aq w u:=by
 have h:=G7 A zs c w hA hl;go_enter func106,ntmps106;go_wp2_with fail;refine h.mono ?_;rintro e y ⟨v,rfl,i,hb⟩;obtain ⟨C,B,rfl,_⟩:=aC i;clear h;have ⟨p,x⟩:=ae i hb;clear i hb;go_wp2;go_ret;exact ⟨_,rfl,p.o,x.o⟩
def yM (w:R8) (base:Nat) (h:R7) (m:Msg):Prop:=
 ∃A c,h=m.tag.cells++[.slice A m.vals.length c]/\w.ownsRow base 2 1 (.slice A m.vals.length c) m.vals.length (aA .i64 m.vals)
def vq (w:R8) (h:R7) (m:Msg):Prop:=
 ∃A c,h=m.tag.cells++[.slice A m.vals.length c]/\Rd w A (aA .i64 m.vals)
structure LSt where
 cap:Nat
 msgs:List Msg
 recv:Nat
 peak:Nat
structure LSt.Ok (s:LSt):Prop where
 cap1:1<=s.cap
 cap2:s.cap<=1048576
 rs:s.recv<=s.msgs.length
 sr:s.msgs.length<=s.recv+s.cap
 pk:s.peak<=s.cap
 many:s.msgs.length<=100000000000
 vals:∀m∈s.msgs,m.vals.length<=17592186043904
def aO (l:List Msg) (j:Nat):Msg:=l.getD j Msg.zero
def eR (l:List (R7)) (j:Nat):R7:=l.getD j []
structure aX (w:R8) (base b:Nat) (g:Option Nat) (s:LSt):Prop where
 ok:s.Ok
 ex:∃ring rows,aD w b ring s.cap s.msgs.length s.recv s.peak/\w.ownsRow base 79 6 ring (min s.msgs.length s.cap) (List.flatten rows)/\ring.ownBlock=g/\
  rows.length=min s.msgs.length s.cap/\(∀r∈rows,r.length=6)/\∀j,s.recv<=j->j<s.msgs.length->yM w base (eR rows (j%s.cap)) (aO s.msgs j)
theorem ks (b:Nat) (ring:Value) (cap sent recv peak n i:Nat) (w:R8) (h:aD w b ring cap sent recv peak) (hc:1<=cap) (o:cap<=1048576) (u:n%cap=i):Vj 105 #[(au b),QZ (n:Int)] w λe p=>Vi e (QZ (i:Int))/\w=p:=by
 subst u;refine (Gy b ring cap sent recv peak n w h hc ap o).mono ?_;rintro e p ⟨rfl,rfl⟩;exact ⟨by rw [Int.natCast_emod],rfl⟩
theorem nG (h:∀r∈rows,r.length=k) (i t:Nat) (o:i<rows.length) (p:t<k):(List.flatten rows)[i*k+t]?=(eR rows i)[t]?:=by
 induction rows generalizing i with
 | nil=>simp at o
 | cons r l ih=>
  have hr:r.length=k:=h r V3
  cases i with
  | zero=>
   rw [List.flatten_cons,Nat.zero_mul,QP,Qw ap];simp [eR]
  | succ i=>
   rw [List.flatten_cons,Qx (by rw [hr,Nat.add_mul];omega),hr,show (i+1)*k+t-k=i*k+t by rw [Nat.add_mul];omega,ih (λr hr=>h r (by simp [hr])) i (by simpa using o)];simp [eR]
structure rR (w:R8) (g o:Nat) (t:Tg) (v:Value):Prop where
 c0:w.cell? (ar g o)=some (QZ t.a)
 c1:w.cell? (ar g (o+1))=some (QZ t.b)
 c2:w.cell? (ar g (o+2))=some (QZ t.c)
 c3:w.cell? (ar g (o+3))=some (QZ t.d)
 c4:w.cell? (ar g (o+4))=some (QZ t.e)
 c5:w.cell? (ar g (o+5))=some v
theorem ur (_h1:r<=j) (o:j<n) (_h3:n<=r+cap) (hc:1<=cap):j%cap<min n cap:=by
 have h:=Nat.mod_lt j (show 0<cap by omega);have i:=Nat.mod_le j cap;omega
theorem aX.at_ {s:LSt} (h:aX w base b g s) (j:Nat) (h1:s.recv<=j) (B:j<s.msgs.length):
  ∃p c y u,g=some p/\aD w b (Vf p 0 (min s.msgs.length s.cap) c) s.cap s.msgs.length s.recv s.peak/\j%s.cap<min s.msgs.length s.cap/\
   rR w p (j%s.cap*6) (aO s.msgs j).tag (.slice y (aO s.msgs j).vals.length u)/\
   w.ownsRow base 2 1 (.slice y (aO s.msgs j).vals.length u) (aO s.msgs j).vals.length (aA .i64 (aO s.msgs j).vals):=by
 obtain ⟨ok,ring,rows,hc,o,hg,hrl,A,hm⟩:=h;have C:=ur h1 B ok.sr ok.cap1;have ⟨y,u,v,x⟩:=hm j h1 B;obtain ⟨p,c,rfl,_,_⟩:=o.form ap;refine ⟨p,c,y,u,hg.symm,hc,C,?_,x⟩
 have i:∀t,t<6->w.cell? ⟨p,j%s.cap*6+t,none⟩=((aO s.msgs j).tag.cells++[Value.slice y (aO s.msgs j).vals.length u])[t]?:=λt D=>by
  rw [o.cellAt _ (by have:=QY 6 (Nat.succ_le_of_lt C);rw [QM] at this;omega),nG A _ t ap D,v]
 exact ⟨i 0 ap,i 1 ap,i 2 ap,i 3 ap,i 4 ap,i 5 ap⟩
theorem aD.alloc (h:aD w b ring cap sent recv peak) (o:Obj):aD (w.alloc o) b ring cap sent recv peak:=(Qc _ _ _ (PU h)).trans h
theorem ux (base b:Nat) (g:Option Nat) (s:LSt) (w:R8) (h:aX w base b g s) (A:s.recv<s.msgs.length):Vj 223 #[.pointer (some ⟨b,0,none⟩)] w λe p=>Vi e (.tuple #[.agg #[QZ (aO s.msgs s.recv).tag.a,QZ (aO s.msgs s.recv).tag.b,QZ (aO s.msgs s.recv).tag.c,QZ (aO s.msgs s.recv).tag.d,QZ (aO s.msgs s.recv).tag.e],.bool true])/\aq w p:=by
 obtain ⟨x,c,A',c',rfl,hc,O,I,y⟩:=h.at_ s.recv (PV _) A;obtain ⟨D,C,B,V,Q,T,H⟩:=h.ok;clear H y;have ⟨i,u⟩:=Vb (s.recv%s.cap);rw [u] at O I;have ⟨L,J⟩:=Vb (min s.msgs.length s.cap);rw [J] at O hc;have hl:=λo=>mQ b _ _ _ _ _ _ (hc.alloc o) B ap;have N:=λo n=>ks b _ _ _ _ _ s.recv i _ (show aD ((w.alloc o).drewN n) _ _ _ _ _ _ from hc.alloc o) D C u;have c0:=hc.c0;have c3:=hc.c3;have hb:=PU hc;have hg:=aB I.c0;obtain ⟨d0,d1,Y,d3,d4,d5⟩:=I;have ⟨R,U⟩:=ae hl N;clear hl N u J h;generalize (aO s.msgs s.recv).tag=tg at *;go_enter func223,ntmps223;go_wp2_with fail;refine (R.o _).mono ?_;rintro e Z ⟨rfl,n,rfl⟩;go_wp2
 go_region_held3 (λp=>p.cell? ⟨b,0,none⟩=some (.slice (some ⟨x,0,none⟩) L c)/\p.cell? ⟨b,3,none⟩=some (QZ (s.recv:Int))/\p.cell? ⟨x,i*6,none⟩=some (QZ tg.a)/\p.cell? ⟨x,i*6+1,none⟩=some (QZ tg.b)/\
   p.cell? ⟨x,i*6+2,none⟩=some (QZ tg.c)/\p.cell? ⟨x,i*6+3,none⟩=some (QZ tg.d)/\p.cell? ⟨x,i*6+4,none⟩=some (QZ tg.e)) (simp [go_sem, *])
  ((go_at_call 105;refine (U.o _ _).mono ?_;rintro e p ⟨rfl,rfl⟩))
 go_wp2;refine Qd (v:=.tuple #[.agg #[QZ tg.a,QZ tg.b,QZ tg.c,QZ tg.d,QZ tg.e],.bool true]) (by simp [results,results223,go_sem]) rfl ⟨rfl,?_⟩;exact am
theorem pA (base b:Nat) (g:Option Nat) (s:LSt) (w:R8) (h:aX w base b g s) (i:s.recv=s.msgs.length):Vj 223 #[(au b)] w λe A=>Vi e (.tuple #[.agg #[QZ 0,QZ 0,QZ 0,QZ 0,QZ 0],.bool false])/\aq w A:=by
 obtain ⟨ok,ring,rows,hc,_⟩:=h;obtain ⟨C,H,p,x,y,D,u⟩:=ok;clear u;have hl:=λo=>mQ b _ _ _ _ _ _ (hc.alloc o) p ap;rw [i,Int.sub_self] at hl;have B:=aa hl;clear hl hc i;go_enter func223,ntmps223;go_wp2_with fail;refine (B.o _).mono ?_;rintro e I ⟨rfl,n,rfl⟩;go_wp2;refine Qd (v:=.tuple #[.agg #[QZ 0,QZ 0,QZ 0,QZ 0,QZ 0],.bool false]) (by simp [results,results223,go_sem]) rfl ⟨rfl,?_⟩;exact am
theorem rR.same {i:R8} {g:Nat} {t:Tg} (h:rR w g o t v) (hb:i.heap[g]?=w.heap[g]?):rR i g o t v:=
 ⟨(World.cell?_of_block (w:=w) hb).trans h.c0,(World.cell?_of_block (w:=w) hb).trans h.c1,(World.cell?_of_block (w:=w) hb).trans h.c2,(World.cell?_of_block (w:=w) hb).trans h.c3,(World.cell?_of_block (w:=w) hb).trans h.c4,(World.cell?_of_block (w:=w) hb).trans h.c5⟩
theorem aD.same {i:R8} (h:aD w b ring cap sent recv peak) (hb:i.heap[b]?=w.heap[b]?):aD i b ring cap sent recv peak:=hb.trans h
theorem aX.keep {D:R8} {s:LSt} (h:aX w base b g s) (k:Keep S w D) (h1:¬S b) (J:∀i,g=some i->¬S i) (N:∀i c,Vg w i c 2->base<=i->¬S i):aX D base b g s:=by
 obtain ⟨ok,ring,rows,hc,p,hg,hrl,x,hm⟩:=h;refine ⟨ok,ring,rows,hc.same (k.block _ (PU hc) h1),k.own p (λi o=>J i (hg.symm.trans o)),hg,hrl,x,λj v B=>?_⟩;have ⟨A,c,e,C⟩:=hm j v B;refine ⟨A,c,e,k.own C λi o=>?_⟩;rcases C.2 with ⟨hn,_⟩ | ⟨I,cap,H,L,u,y,_⟩
 .rw [hn] at o;cases o
 .rw [L] at o;obtain rfl:I=i:=by simpa [Value.ownBlock] using o
  exact N _ _ y u
theorem aX.below {i:R8} {s:LSt} (h:aX w base b g s) (hb:aq w i):aX i base b g s:=
 h.keep (S:=λ_=>False) (Keep.below hb) id (λ_ _=>id) (λ_ _ _ _=>id)
theorem vA (base b:Nat) (g:Option Nat) (s:LSt) (t:Tg) (w:R8) (h:aX w base b g s) (x:s.recv=s.msgs.length):Vj 236 #[(au b),.agg #[QZ t.a,QZ t.b,QZ t.c,QZ t.d,QZ t.e]] w λe D=>Vi e (.tuple #[.agg Rk,QZ 12])/\aq w D:=by
 obtain ⟨t0,t1,t2,B,J⟩:=t;have A:=λR O=>pA base b g s ((w.alloc R).alloc O) ((h.below ((PY _ _).alloc (PV _) _)).below ((PY _ _).alloc (PV _) _)) x;have T:=aa A;clear A x h;go_enter func236,ntmps236;go_wp2_with fail;refine (T.o _ _).mono ?_;rintro e p ⟨rfl,u⟩
 have i:p.heap[w.heap.size+1]?=some (.cells Rk 79 (0,0)):=by
  rw [u.block _ V3];simpa using PW (w.alloc (.cells #[QZ t0,QZ t1,QZ t2,QZ B,QZ J] 77)) (.cells Rk 79)
 have y:=PU i;have N:p.cell? (ar (w.heap.size+1) 0)=some (QZ 0):=PX p _ 0 _ _ _ i;have H:p.cell? (ar (w.heap.size+1) 1)=some (QZ 0):=PX p _ 1 _ _ _ i;have U:p.cell? (ar (w.heap.size+1) 2)=some (QZ 0):=PX p _ 2 _ _ _ i;have C:p.cell? (ar (w.heap.size+1) 3)=some (QZ 0):=PX p _ 3 _ _ _ i;have L:p.cell? (ar (w.heap.size+1) 4)=some (QZ 0):=PX p _ 4 _ _ _ i;have Q:p.cell? (ar (w.heap.size+1) 5)=some (Ra):=PX p _ 5 _ _ _ i;have V:=λj=>P8 p _ j _ _ i;have I:aq w p:=(((PY _ w).alloc (PV _) _).alloc V3 _).trans (u.mono V6);clear u i;go_wp2;refine Qd (v:=.tuple #[.agg Rk,QZ 12]) (by simp [results,results236,go_sem,N,H,U,C,L,Q,y]) rfl ⟨rfl,?_⟩;exact am
theorem yr (base b:Nat) (g:Option Nat) (s:LSt) (t:Tg) (w:R8) (h:aX w base b g s) (y:s.recv<s.msgs.length) (A:(aO s.msgs s.recv).tag≠t):Vj 236 #[(au b),.agg #[QZ t.a,QZ t.b,QZ t.c,QZ t.d,QZ t.e]] w λe L=>Vi e (.tuple #[.agg Rk,QZ 10])/\aq w L:=by
 obtain ⟨t0,t1,t2,B,C⟩:=t;have H:=λY U=>ux base b g s ((w.alloc Y).alloc U) ((h.below ((PY _ _).alloc (PV _) _)).below ((PY _ _).alloc (PV _) _)) y;generalize (aO s.msgs s.recv).tag=tg at *;obtain ⟨u0,u1,u2,u3,u4⟩:=tg;dsimp only at H;have Z:=aa H;clear H y h;have D:=aa A;clear A;go_enter func236,ntmps236;go_wp2_with fail;refine (Z.o _ _).mono ?_;rintro e p ⟨rfl,x⟩
 have i:p.heap[w.heap.size+1]?=some (.cells Rk 79 (0,0)):=by
  rw [x.block _ V3];simpa using PW (w.alloc (.cells #[QZ t0,QZ t1,QZ t2,QZ B,QZ C] 77)) (.cells Rk 79)
 have I:=PU i;have T:p.cell? (ar (w.heap.size+1) 0)=some (QZ 0):=PX p _ 0 _ _ _ i;have N:p.cell? (ar (w.heap.size+1) 1)=some (QZ 0):=PX p _ 1 _ _ _ i;have r2:p.cell? (ar (w.heap.size+1) 2)=some (QZ 0):=PX p _ 2 _ _ _ i;have J:p.cell? (ar (w.heap.size+1) 3)=some (QZ 0):=PX p _ 3 _ _ _ i;have Q:p.cell? (ar (w.heap.size+1) 4)=some (QZ 0):=PX p _ 4 _ _ _ i;have V:p.cell? (ar (w.heap.size+1) 5)=some (Ra):=PX p _ 5 _ _ _ i;have fr:=λj=>P8 p _ j _ _ i
 have u:p.heap[w.heap.size]?=some (.cells #[QZ t0,QZ t1,QZ t2,QZ B,QZ C] 77 (0,0)):=by
  rw [x.block _ V6,Qc _ _ _ V3];exact PW w _
 have p0:p.cell? (ar w.heap.size 0)=some (QZ t0):=PX p _ 0 _ _ _ u;have p1:p.cell? (ar w.heap.size 1)=some (QZ t1):=PX p _ 1 _ _ _ u;have p2:p.cell? (ar w.heap.size 2)=some (QZ t2):=PX p _ 2 _ _ _ u;have p3:p.cell? (ar w.heap.size 3)=some (QZ B):=PX p _ 3 _ _ _ u;have p4:p.cell? (ar w.heap.size 4)=some (QZ C):=PX p _ 4 _ _ _ u;have O:aq w p:=(((PY _ w).alloc (PV _) _).alloc V3 _).trans (x.mono V6);have R:w.heap.size<p.heap.size:=ap;clear x i u;go_wp2
 .exact absurd (by simp only [*]) D.o
 all_goals
  refine Qd (v:=.tuple #[.agg Rk,QZ 10]) (by simp [results,results236,go_sem,T,N,r2,J,Q,V,I]) rfl ⟨rfl,?_⟩;exact am
theorem vy {x:R8} {s:LSt} {T:N_} {Q:Nat} (h:aX w base b g s) (C:s.recv<s.msgs.length) (k:Keep (· =b) w x) (N:w.ownsRow base 2 1 (.slice T (aO s.msgs s.recv).vals.length Q) (aO s.msgs s.recv).vals.length (aA .i64 (aO s.msgs s.recv).vals)) {L y:Nat} (_hgg:g=some y) (u:aD w b (.slice (some (ar y 0)) L c) s.cap s.msgs.length s.recv s.peak) (hc:aD x b (.slice (some (ar y 0)) L c) s.cap s.msgs.length (s.recv+1) s.peak):
  x.ownsRow base 2 1 (.slice T (aO s.msgs s.recv).vals.length Q) (aO s.msgs s.recv).vals.length (aA .i64 (aO s.msgs s.recv).vals)/\aX x base b g {s with recv:=s.recv+1}/\Keep (· =b) w x:=by
 have D:∀i e R,w.heap[i]?=some (.cells R e (0,0))->e≠182->¬i=b:=by
  rintro i e R p he rfl;unfold aD at u;rw [u] at p;injection p with p
  injection p with _ p
  exact he p.symm
 have o:∀{e:R9} {size:Nat} {v:Value} {n:Nat} {xs:R7},w.ownsRow base e size v n xs->e≠182->x.ownsRow base e size v n xs:=λ{e size v n xs} B he=>
  k.own B λi p=>by
   rcases B.2 with ⟨hn,_⟩ | ⟨y,cap,V,N,Y,J,_⟩
   .rw [hn] at p;cases p
   .rw [N] at p;obtain rfl:y=i:=by simpa [Value.ownBlock] using p
    exact D _ _ _ J he
 refine ⟨o N V0,?_,k⟩;obtain ⟨ok,ring,rows,O,B,hg,hrl,I,hm⟩:=h
 obtain rfl:ring=.slice (some (ar y 0)) L c:=by
  have:=O.c0.symm.trans u.c0;injection this
 refine ⟨⟨ok.cap1,ok.cap2,C,by have:=ok.sr;simp only;omega,ok.pk,ok.many,ok.vals⟩,_,rows,hc,o B V0,hg,hrl,I,λj h1 U=>?_⟩;obtain ⟨A,c2,e,H⟩:=hm j (by simp only at h1;omega) U;exact ⟨A,c2,e,o H V0⟩
theorem aD.set (h:aD w b ring cap sent recv peak) (n:Nat) (v:Int) (i:v=(n:Int)):aD (w.setCell (ar b 3) (QZ v)) b ring cap sent n peak:=by
 subst i;unfold aD at h |-;simp [World.setCell,Array.getElem?_modify,h]
theorem Ax (base b:Nat) (g:Option Nat) (s:LSt) (t:Tg) (w:R8) (h:aX w base b g s) (Q:s.recv<s.msgs.length) (a3:(aO s.msgs s.recv).tag=t):Vj 236 #[.pointer (some ⟨b,0,none⟩),.agg #[QZ t.a,QZ t.b,QZ t.c,QZ t.d,QZ t.e]] w λe y=>∃A c,
   Vi e (.tuple #[.agg #[QZ t.a,QZ t.b,QZ t.c,QZ t.d,QZ t.e,.slice A (aO s.msgs s.recv).vals.length c],QZ 0])/\
   y.ownsRow base 2 1 (.slice A (aO s.msgs s.recv).vals.length c) (aO s.msgs s.recv).vals.length (aA .i64 (aO s.msgs s.recv).vals)/\
   aX y base b g {s with recv:=s.recv+1}/\Keep (· =b) w y:=by
 subst a3;have hp:=λo1 o2=>ux base b g s ((w.alloc o1).alloc o2) ((h.below ((PY _ _).alloc (PV _) _)).below ((PY _ _).alloc (PV _) _)) Q;obtain ⟨N,c,A',c',a0,hc,hi,h6,O⟩:=h.at_ s.recv (PV _) Q;have I:=h.ok;have av:s.recv<=100000000000:=by have:=I.many;omega
 have x:=I.cap1;have aM:=I.cap2;obtain ⟨i,R⟩:=Vb (s.recv%s.cap);rw [R] at hi h6;obtain ⟨L,hL⟩:=Vb (min s.msgs.length s.cap);rw [hL] at hi hc;have hb:=PU hc;have ad:=aB h6.c0;generalize (aO s.msgs s.recv).tag=tg at *;obtain ⟨t0,t1,t2,T,V⟩:=tg;dsimp only at hp;obtain ⟨Hp,a2,H,Z,a9,a6⟩:=ai hp I h O R a0;clear hp I h O R a0 hL;go_enter func236,ntmps236;go_wp2_with fail;refine (Hp.o _ _).mono ?_;rintro e p ⟨rfl,D⟩
 have u:p.heap[w.heap.size+1]?=some (.cells Rk 79 (0,0)):=by
  rw [D.block _ V3];simpa using PW (w.alloc (.cells #[QZ t0,QZ t1,QZ t2,QZ T,QZ V] 77)) (.cells Rk 79)
 have a5:=PU u;have r0:p.cell? ⟨w.heap.size+1,0,none⟩=some (QZ 0):=PX p _ 0 _ _ _ u;have r1:p.cell? ⟨w.heap.size+1,1,none⟩=some (QZ 0):=PX p _ 1 _ _ _ u;have r2:p.cell? ⟨w.heap.size+1,2,none⟩=some (QZ 0):=PX p _ 2 _ _ _ u;have r3:p.cell? ⟨w.heap.size+1,3,none⟩=some (QZ 0):=PX p _ 3 _ _ _ u;have r4:p.cell? ⟨w.heap.size+1,4,none⟩=some (QZ 0):=PX p _ 4 _ _ _ u;have r5:p.cell? ⟨w.heap.size+1,5,none⟩=some (Ra):=PX p _ 5 _ _ _ u;have fr:=λj=>P8 p _ j _ _ u
 have C:p.heap[w.heap.size]?=some (.cells #[QZ t0,QZ t1,QZ t2,QZ T,QZ V] 77 (0,0)):=by
  rw [D.block _ V6,Qc _ _ _ V3];exact PW w _
 have p0:p.cell? ⟨w.heap.size,0,none⟩=some (QZ t0):=PX p _ 0 _ _ _ C;have p1:p.cell? ⟨w.heap.size,1,none⟩=some (QZ t1):=PX p _ 1 _ _ _ C;have p2:p.cell? ⟨w.heap.size,2,none⟩=some (QZ t2):=PX p _ 2 _ _ _ C;have p3:p.cell? ⟨w.heap.size,3,none⟩=some (QZ T):=PX p _ 3 _ _ _ C;have p4:p.cell? ⟨w.heap.size,4,none⟩=some (QZ V):=PX p _ 4 _ _ _ C;have J:aq w p:=(((PY _ w).alloc (PV _) _).alloc V3 _).trans (D.mono V6);have a4:w.heap.size<p.heap.size:=ap;have J:aq w p:=(((PY _ w).alloc (PV _) _).alloc V3 _).trans (D.mono V6);have x:=hc.same (J.block b hb);have Y:=h6.same (J.block N ad);have a8:=PU x;have aG:=aB Y.c0;have U:=λW hW=>ks b (.slice (some ⟨N,0,none⟩) L c) s.cap s.msgs.length s.recv s.peak s.recv i W hW a2.o.cap1 a2.o.cap2 a9.o;have k0:=x.c0;have k3:=x.c3;obtain ⟨m0,m1,m2,m3,m4,m5⟩:=Y;have f3:=x.free 3;have aP:¬(b=w.heap.size+1):=ap;have ao:¬(w.heap.size+1=b):=ap;obtain ⟨b0,a1,a7,Hc,H6⟩:=ah D x U hc h6;clear D u C x U hc h6;go_wp2
 go_region_held3 (λy=>y.cell? ⟨b,0,none⟩=some (.slice (some ⟨N,0,none⟩) L c)/\y.cell? ⟨b,3,none⟩=some (QZ (s.recv:Int))/\y.cell? ⟨N,i*6,none⟩=some (QZ t0)/\y.cell? ⟨N,i*6+1,none⟩=some (QZ t1)/\
   y.cell? ⟨N,i*6+2,none⟩=some (QZ t2)/\y.cell? ⟨N,i*6+3,none⟩=some (QZ T)/\y.cell? ⟨N,i*6+4,none⟩=some (QZ V)/\y.cell? ⟨N,i*6+5,none⟩=some (.slice A' (aO s.msgs s.recv).vals.length c')) (simp [go_sem, *])
  ((go_at_call 105;refine (a7.o _ (a1.o.same (Below.block (B:=p.heap.size) ?_ b a8))).mono ?_;exact am;rintro e y ⟨rfl,rfl⟩))
 all_goals
  go_wp2_with fail;have ab:IntKind.i64.wrap ((s.recv:Int)+1)=(s.recv:Int)+1:=P3 _ ap
  go_region
  clear ab;go_wp2;refine Qd (v:=.tuple #[.agg #[QZ t0,QZ t1,QZ t2,QZ T,QZ V,.slice A' (aO s.msgs s.recv).vals.length c'],QZ 0]) (by simp [results,results236,go_sem,r0,r1,r2,r3,r4,r5,a4,a5]) rfl ⟨A',c',rfl,?_⟩;refine vy H.o Q ?_ Z.o a6.o Hc.o ((a1.o.set (s.recv+1) ((s.recv:Int)+1) ap).same (Below.block (B:=w.heap.size) ?_ b hb))
  .have aR:Keep (· =b) w p:=Keep.below J
   (focus (repeat' (first | (with_reducible exact Keep.refl _ _) | (with_reducible assumption) | (with_reducible refine Keep.setCell ?_ _ ?_ _) | (with_reducible refine Keep.alloc ?_ _) | (with_reducible refine Keep.drewN ?_ _) | (with_reducible refine Keep.drew ?_) | (with_reducible exact Or.inr (je _ _)) | (with_reducible exact Or.inr (jd _ _)) | (refine Or.inr ?_;first | rfl | (simp;done) | omega) | (refine Or.inl ?_;first | omega | (simp;done) | (simp;omega)))))
  .exact am
def ed (b:Nat) (g:Option Nat) (k:Nat):Prop:=k=b\/g=some k
theorem je (b:Nat) (g:Option Nat):ed b g b:=.inl rfl
theorem jd (b g:Nat):ed b (some g) g:=.inr rfl
theorem aD.drew (h:aD w b ring cap sent recv peak):aD w.drew b ring cap sent recv peak:=h
theorem aD.drewN (h:aD w b ring cap sent recv peak) (n:Nat):aD (w.drewN n) b ring cap sent recv peak:=h
theorem aD.far (h:aD w b ring cap sent recv peak) (p:Addr) (u:Value) (i:¬(b=p.block)):aD (w.setCell p u) b ring cap sent recv peak:=h.same (Below.heap_setCell w p u b i)
theorem aD.set0 (h:aD w b ring cap sent recv peak) (v:Value):aD (w.setCell (ar b 0) v) b v cap sent recv peak:=by
 unfold aD at h |-;simp [World.setCell,Array.getElem?_modify,h]
theorem aD.set2 (h:aD w b ring cap sent recv peak) (n:Nat) (v:Int) (i:v=(n:Int)):aD (w.setCell (ar b 2) (QZ v)) b ring cap n recv peak:=by
 subst i;unfold aD at h |-;simp [World.setCell,Array.getElem?_modify,h]
theorem aD.set4 (h:aD w b ring cap sent recv peak) (n:Nat) (v:Int) (i:v=(n:Int)):aD (w.setCell (ar b 4) (QZ v)) b ring cap sent recv n:=by
 subst i;unfold aD at h |-;simp [World.setCell,Array.getElem?_modify,h]
theorem DM {u:Value} (h:aD w b u cap sent recv peak) (x:w.ownsRow base 79 6 ring n xs):ring.ownBlock≠some b:=λe=>by
 rcases x.2 with ⟨hn,_⟩ | ⟨v,cap2,p,o,_,i,_⟩
 .rw [hn] at e;cases e
 .rw [o] at e;obtain rfl:v=b:=by simpa [Value.ownBlock] using e
  unfold aD at h;rw [h] at i;injection i with i;injection i with _ i;exact absurd i V0
theorem AI (H:R7) (B I C J D L:Value) (hcs:H=[B,I,C,J,D,L]):∀(rows:List (R7)) (i:Nat),(∀r∈rows,r.length=6)->i<rows.length-> ((((((List.flatten rows).set (i*6) B).set (i*6+1) I).set (i*6+2) C).set (i*6+3) J).set (i*6+4) D).set (i*6+5) L=List.flatten (rows.set i H):=by
 intro rows
 induction rows with
 | nil=>intro i _ A;simp at A
 | cons r l ih=>
  intro i h A;have hr:r.length=6:=h r V3
  cases i with
  | zero=>
   obtain ⟨p,a1,u,v,o,y,rfl⟩:∃p a1 u v o y,r=[p,a1,u,v,o,y]:=by
    match r,hr with
    | [p,a1,u,v,o,y],_=>exact ⟨p,a1,u,v,o,y,rfl⟩
   subst hcs;rfl
  | succ i=>
   have e:∀(xs:R7) (k:Nat) (x:Value),(r++xs).set (6+k) x=r++xs.set k x:=λxs k x=>by
    rw [List.set_append_right _ _ ap,hr,show 6+k-6=k by omega]
   rw [List.flatten_cons,show (i+1)*6=6+i*6 by omega];simp only [QO,e];rw [Qm,List.flatten_cons,<-ih i (λr hr=>h r (by simp [hr])) (by simpa using A)]
theorem tJ (rows:List (R7)) (i:Nat) (o:R7) (h:i<rows.length):eR (rows.set i o) i=o:=by simp [eR,h]
theorem sI (rows:List (R7)) (i j:Nat) (o:R7) (h:i≠j):eR (rows.set i o) j=eR rows j:=by simp [eR,h]
theorem j4 (rows:List (R7)) (i:R7) (j:Nat) (h:j<rows.length):eR (rows++[i]) j=eR rows j:=by simp [eR,Qw h]
theorem j6 (rows:List (R7)) (h:R7):eR (rows++[h]) rows.length=h:=by simp [eR]
theorem ko (l:List Msg) (m:Msg) (j:Nat) (h:j<l.length):aO (l++[m]) j=aO l j:=by simp [aO,Qw h]
theorem kp (l:List Msg) (m:Msg):aO (l++[m]) l.length=m:=by simp [aO]
theorem Oa {a:Nat} (h1:r<=a) (i:a<b) (o:b<r+cap):a%cap≠b%cap:=λe=>by
 have h:cap ∣ b-a:=Nat.dvd_of_mod_eq_zero (Nat.sub_mod_eq_zero_of_mod_eq e.symm);have:=Nat.le_of_dvd ap h;omega
theorem pz {B:R8} {s:LSt} (ok:s.Ok) (C:aD w b ring s.cap s.msgs.length s.recv s.peak) (Z:w.ownsRow base 79 6 ring (min s.msgs.length s.cap) (List.flatten rows)) (p:ring.ownBlock=g) (hm:∀j,s.recv<=j->j<s.msgs.length->yM w base (eR rows (j%s.cap)) (aO s.msgs j)) (J:s.msgs.length<s.recv+s.cap) (T:s.msgs.length<100000000000) (t:Tg) (zs:Q_) (O:zs.length<=17592186043904) (k:Keep (ed b g) w B) {V:Option Nat} {A1:N_} {c1:Nat} {P:Nat} (hP:P=max s.peak (s.msgs.length+1-s.recv)) (hc:aD B b ring' s.cap (s.msgs.length+1) s.recv P) (x:B.ownsRow base 79 6 ring' (min (s.msgs.length+1) s.cap) (List.flatten rows')) (hg:ring'.ownBlock=V) (hrl:rows'.length=min (s.msgs.length+1) s.cap) (N:∀r∈rows',r.length=6) (D:∀j,s.recv<=j->j<s.msgs.length->eR rows' (j%s.cap)=eR rows (j%s.cap))
  (H:eR rows' (s.msgs.length%s.cap)=[QZ t.a,QZ t.b,QZ t.c,QZ t.d,QZ t.e,.slice A1 zs.length c1])
  (hv:B.ownsRow base 2 1 (.slice A1 zs.length c1) zs.length (aA .i64 zs)):
  aX B base b V {s with msgs:=s.msgs++[⟨t,zs⟩],peak:=max s.peak (s.msgs.length+1-s.recv)}:=by
 subst hP
 have hty:∀i U,w.heap[i]?=some (.cells U 2 (0,0))->¬(i=b\/g=some i):=by
  rintro i U h (rfl | y)
  .unfold aD at C;rw [C] at h;injection h with h;injection h with _ h;exact absurd h V0
  .rcases Z.2 with ⟨hn,_⟩ | ⟨L,cap,Q,u,_,v,_⟩
   .rw [hn] at p;rw [y] at p;cases p
   .rw [u,y] at p;obtain rfl:L=i:=by simpa [Value.ownBlock] using p
    rw [v] at h;injection h with h;injection h with _ h;exact absurd h V0
 refine ⟨⟨ok.cap1,ok.cap2,?_,?_,?_,?_,?_⟩,ring',rows',?_,?_,hg,?_,N,λj h1 Y=>?_⟩
 .have:=ok.rs;simp;omega
 .simp;omega
 .have:=ok.pk;simp only;omega
 .simp;omega
 .intro m o;rcases QI.1 o with o | o
  .exact ok.vals m o
  .rw [List.mem_singleton.1 o];exact O
 .simpa using hc
 .simpa using x
 .simpa using hrl
 .simp only [Qt,QC] at h1 Y;rcases Qf j s.msgs.length with I | I
  .rw [ko _ _ _ I];simp only;rw [D j h1 I];obtain ⟨A,c2,e,u⟩:=hm j h1 I;refine ⟨A,c2,e,k.own u λi h=>?_⟩;rcases u.2 with ⟨hn,_⟩ | ⟨L,cap,Q,R,_,v,_⟩
   .rw [hn] at h;cases h
   .rw [R] at h;obtain rfl:L=i:=by simpa [Value.ownBlock] using h
    exact hty _ _ v
  .obtain rfl:j=s.msgs.length:=ap;rw [kp];exact ⟨A1,c1,H,hv⟩
theorem vz (base b:Nat) (g:Option Nat) (s:LSt) (y:R6) (w:R8) (h:aX w base b g s) (i:s.msgs.length=s.recv+s.cap):Vj 235 #[(au b),.agg y] w λe v=>Vi e (QZ 11)/\aq w v:=by
 obtain ⟨ok,ring,rows,hc,_⟩:=h;have B:=ok.cap2;have p:=ok.rs;have u:=ok.many;have hl:=λo n=>mQ b _ _ _ _ _ _ (show aD ((w.alloc o).drewN n) _ _ _ _ _ _ from hc.alloc o) p ap;rw [show (s.msgs.length:Int)-(s.recv:Int)=(s.cap:Int) by omega] at hl;have c1:=hc.c1;have hb:=PU hc;have ⟨x,A,C,D⟩:=ag hl ok hc i;clear hl hc ok i p u;go_enter func235,ntmps235;go_wp2
 go_quiet ((go_at_call 104;exact Calls.quiet_of (x.o _ _)))
 go_wp2;go_ret;refine ⟨rfl,?_⟩;exact am
theorem uv (base b:Nat) (g:Option Nat) (s:LSt) (t:Tg) (A:N_) (zs:Q_) (c:Nat) (w:R8) (h:aX w base b g s) (R:s.msgs.length<s.recv+s.cap) (b5:s.cap<=s.msgs.length) (Y:s.msgs.length<100000000000) (b0:base<=w.heap.size) (hA:Rd w A (aA .i64 zs)) (a9:zs.length<=17592186043904):Vj 235 #[.pointer (some ⟨b,0,none⟩),.agg #[QZ t.a,QZ t.b,QZ t.c,QZ t.d,QZ t.e,.slice A zs.length c]] w λe T=>Vi e (QZ 0)/\
   ∃g',aX T base b g' {s with msgs:=s.msgs++[⟨t,zs⟩],peak:=max s.peak (s.msgs.length+1-s.recv)}/\Keep (ed b g) w T/\(g'=g\/∃k,g'=some k/\w.heap.size<=k):=by
 obtain ⟨t0,t1,t2,t3,t4⟩:=t;have H:=aa h;obtain ⟨ok,ring,rows,hc,J,hg,hrl,ad,hm⟩:=h;obtain ⟨RA,rc,rfl,b4⟩:=aC J;have bh:=ok.cap1;have bz:=ok.cap2;have aP:=ok.rs;have bG:=ok.pk;have hl:=λo n=>mQ b _ _ _ _ _ _ (show aD ((w.alloc o).drewN n) _ _ _ _ _ _ from hc.alloc o) aP ap;obtain ⟨i,Z⟩:=Vb (s.msgs.length%s.cap);obtain ⟨L,hL⟩:=Vb (min s.msgs.length s.cap);rw [hL] at b4 J hrl hc;have c1:=hc.c1;have hb:=PU hc;have a7:(((s.msgs.length:Int)-(s.recv:Int))==(s.cap:Int))=false:=by simp;omega
 have a6:=λW hW=>nE A zs c W hW a9;obtain ⟨D,hD⟩:∃D:Int,D=(s.msgs.length:Int)-(s.recv:Int):=⟨_,rfl⟩;rw [<-hD] at a7 hl;have bw:0<=D/\D<s.cap:=ap;have b3:i<L:=by rw [<-hL,<-Z];have:=Nat.mod_lt s.msgs.length (show 0<s.cap by omega);omega
 obtain ⟨Hl,a0,Hc,N,Hg,aG,av,Hm⟩:=ak hl ok hc J hg hrl ad hm;obtain ⟨a2,HL,b6,HD⟩:=ag Z hL a6 hD;clear hl hc ok J hg hrl ad hm Z hL a6 hD;go_enter func235,ntmps235;go_wp2
 go_quiet ((go_at_call 104;exact Calls.quiet_of (Hl.o _ _)))
 clear a7;go_wp2_with fail;refine (b6.o _ ((hA.alloc _).drewN _)).mono ?_;rintro e B ⟨v1,rfl,C,V⟩;obtain ⟨A1,a3,rfl,bA⟩:=aC C
 have p:B.heap[w.heap.size]?=some (.cells #[QZ t0,QZ t1,QZ t2,QZ t3,QZ t4,.slice A zs.length c] 79 (0,0)):=by
  rw [V.block _ V3];exact PW w _
 have bv:=PU p;have p0:B.cell? ⟨w.heap.size,0,none⟩=some (QZ t0):=PX B _ 0 _ _ _ p;have p1:B.cell? ⟨w.heap.size,1,none⟩=some (QZ t1):=PX B _ 1 _ _ _ p;have p2:B.cell? ⟨w.heap.size,2,none⟩=some (QZ t2):=PX B _ 2 _ _ _ p;have p3:B.cell? ⟨w.heap.size,3,none⟩=some (QZ t3):=PX B _ 3 _ _ _ p;have p4:B.cell? ⟨w.heap.size,4,none⟩=some (QZ t4):=PX B _ 4 _ _ _ p;have p5:B.cell? ⟨w.heap.size,5,none⟩=some (.slice A zs.length c):=PX B _ 5 _ _ _ p;have pf:=λj=>P8 B _ j _ _ p;have a1:aq w B:=(Qa ((PY _ w).alloc (PV _) _) _).trans (V.mono V3);have y:=Hc.o.same (a1.block b hb);have bl:=PU y;have k0:=y.c0;have k2:=y.c2;have k3:=y.c3;have k4:=y.c4;have f2:=y.free 2;have f4:=y.free 4;have f0:=y.free 0;have b9:¬(b=w.heap.size):=ap;have bd:¬(w.heap.size=b):=ap;have ao:=λW hW=>ks b (.slice RA L rc) s.cap s.msgs.length s.recv s.peak s.msgs.length i W hW a0.o.cap1 a0.o.cap2 a2.o;obtain ⟨a5,bs,I,aR⟩:=ag y V C ao;clear y V C ao p;go_wp2_with fail;refine (aR.o _ (a5.o.same (Below.heap_setCell B ⟨w.heap.size,5,none⟩ _ b b9))).mono ?_;rintro e w2 ⟨rfl,rfl⟩;obtain ⟨O,b7,U,bI,bo⟩:=N.o.form ap;obtain ⟨rfl,rfl⟩:RA=some ⟨O,0,none⟩/\rc=b7:=by simp only [QH] at U;exact ⟨U.1,U.2.2⟩
 clear U;obtain rfl:g=some O:=Hg.o.symm;have u:=az N.o ((Below.mono a1 (PV _)))
 have v:∀t,t<6->∃x,B.cell? ⟨O,i*6+t,none⟩=some x:=λt ht=>by
  have h6:i*6+t<L*6:=ap;rw [u.cellAt _ h6];exact ⟨_,Qv (by rw [u.1];exact h6)⟩
 obtain ⟨x0,q0⟩:=v 0 ap;obtain ⟨x1,q1⟩:=v 1 ap;obtain ⟨x2,q2⟩:=v 2 ap;obtain ⟨x3,q3⟩:=v 3 ap;obtain ⟨x4,q4⟩:=v 4 ap;obtain ⟨x5,q5⟩:=v 5 ap;rw [Nat.add_zero] at q0;have qf:=λj=>u.frozenAt j;have bi:¬(O=w.heap.size):=ap;have be:¬(w.heap.size=O):=ap
 have aM:¬(O=b):=λe=>by
  subst e;have h1:=a5.o.c1;rcases N.o.2 with ⟨h0,_⟩ | ⟨g2,cap,bf,hv,_,Q,_⟩
  .cases h0
  .have e2:g2=O:=by simp only [QH,Option.some.injEq,Addr.mk.injEq] at hv;exact hv.1.1.symm
   subst e2;have h2:=Hc.o;unfold aD at h2;rw [h2] at Q;injection Q with Q
   injection Q with _ Q
   exact absurd Q V0
 have b8:¬(b=O):=λe=>aM e.symm;clear v;have a4:=aa u;clear u;go_wp2
 go_region_held3 (λT=>T.cell? ⟨b,0,none⟩=some (.slice (some ⟨O,0,none⟩) L rc)/\T.cell? ⟨w.heap.size,0,none⟩=some (QZ t0)/\T.cell? ⟨w.heap.size,1,none⟩=some (QZ t1)/\T.cell? ⟨w.heap.size,2,none⟩=some (QZ t2)/\T.cell? ⟨w.heap.size,3,none⟩=some (QZ t3)/\
  T.cell? ⟨w.heap.size,4,none⟩=some (QZ t4)/\T.cell? ⟨w.heap.size,5,none⟩=some (.slice A1 zs.length a3)) (simp [go_sem, *]) ((fail))
 go_wp2_with fail;have b2:IntKind.i64.wrap ((s.msgs.length:Int)+1)=(s.msgs.length:Int)+1:=P3 _ ap
 go_region
 clear b2;go_wp2_with fail;have b1:0<=(s.recv:Int)/\(s.recv:Int)<=(s.msgs.length:Int)+1/\(s.msgs.length:Int)+1<=17592186043904:=ap
 go_region_with ((go_at_call 104;refine (Ay b ((s.msgs.length:Int)+1) s.recv _ (by simp [go_sem, *]) (by simp [go_sem, *]) b1).mono ?_;rintro e T ⟨rfl,n',rfl⟩))
 have bb:=I.o
 all_goals go_wp2_with fail
 all_goals go_ret
 all_goals
  have bn:Keep (ed b (some O)) w B:=Keep.below a1;have a8:i<rows.length:=by rw [aG.o];exact b3
  have ab:L=min (s.msgs.length+1) s.cap:=by have:=HL.o;omega
  refine ⟨rfl,some O,?_,by (focus (repeat' (first | (with_reducible exact Keep.refl _ _) | (with_reducible assumption) | (with_reducible refine Keep.setCell ?_ _ ?_ _) | (with_reducible refine Keep.alloc ?_ _) | (with_reducible refine Keep.drewN ?_ _) | (with_reducible refine Keep.drew ?_) | (with_reducible exact Or.inr (je _ _)) | (with_reducible exact Or.inr (jd _ _)) | (refine Or.inr ?_;first | rfl | (simp;done) | omega) | (refine Or.inl ?_;first | omega | (simp;done) | (simp;omega))))),.inl rfl⟩;refine pz (A1:=A1) (c1:=a3) (g:=some O) (rows':=rows.set i [QZ t0,QZ t1,QZ t2,QZ t3,QZ t4,.slice A1 zs.length a3]) (ring':=.slice (some ⟨O,0,none⟩) L rc) a0.o Hc.o (HL.o▸N.o) rfl Hm.o R Y ⟨t0,t1,t2,t3,t4⟩ zs a9 (by (focus (repeat' (first | (with_reducible exact Keep.refl _ _) | (with_reducible assumption) | (with_reducible refine Keep.setCell ?_ _ ?_ _) | (with_reducible refine Keep.alloc ?_ _) | (with_reducible refine Keep.drewN ?_ _) | (with_reducible refine Keep.drew ?_) | (with_reducible exact Or.inr (je _ _)) | (with_reducible exact Or.inr (jd _ _)) | (refine Or.inr ?_;first | rfl | (simp;done) | omega) | (refine Or.inl ?_;first | omega | (simp;done) | (simp;omega)))))) (P:=max s.peak (s.msgs.length+1-s.recv)) rfl (by (focus (repeat' (first | (with_reducible exact a5.o) | (with_reducible refine aD.drew ?_) | (with_reducible refine aD.drewN ?_ _) | (with_reducible refine aD.alloc ?_ _) | (with_reducible refine aD.set0 (ring:=.slice RA L rc) ?_ _) | (with_reducible refine aD.set2 (sent:=s.msgs.length) ?_ _ _ ?_) | (with_reducible refine aD.set4 (peak:=s.peak) ?_ _ _ ?_) | (with_reducible refine aD.far ?_ _ _ ?_) | omega | (push_cast;omega))))) ?_ rfl ?_ ?_ ?_ ?_ ?_
  .rw [<-ab,<-AI _ _ _ _ _ _ _ rfl rows i av.o a8]
   (focus (repeat' (first | (with_reducible exact a4.o) | (with_reducible refine World.ownsRow.drew ?_) | (with_reducible refine bZ ?_ _) | (with_reducible refine World.ownsRow.alloc ?_ _) | (with_reducible refine (World.ownsRow.stored ?_ _ _).1) | (with_reducible refine ownsRow_setCell_other ?_ ?_ _) | (with_reducible assumption) | (simp [Value.ownBlock];done) | (simp [Value.ownBlock];omega))))
  .rw [List.length_set,aG.o,ab]
  .intro r hr;rcases List.mem_or_eq_of_mem_set hr with hr | rfl
   .exact av.o r hr
   .rfl
  .intro j h1 h2;exact sI _ _ _ _ λe=>Oa h1 h2 R (e.symm.trans a2.o.symm)
  .rw [a2.o];exact tJ _ _ _ a8
  .refine Keep.own (S:=λk=>k<=w.heap.size) (w:=B) ?_ (aF I.o V6) ?_
   ·(focus (repeat' (first | (with_reducible exact Keep.refl _ _) | (with_reducible assumption) | (with_reducible refine Keep.setCell ?_ _ ?_ _) | (with_reducible refine Keep.alloc ?_ _) | (with_reducible refine Keep.drewN ?_ _) | (with_reducible refine Keep.drew ?_) | (with_reducible exact Or.inr (je _ _)) | (with_reducible exact Or.inr (jd _ _)) | (refine Or.inr ?_;first | rfl | (simp;done) | omega) | (refine Or.inl ?_;first | omega | (simp;done) | (simp;omega)))))
    all_goals (dsimp only;omega)
   .intro k hk;have:=(I.o.lt k hk).1;simp at this |-;omega
theorem yq (base b:Nat) (g:Option Nat) (s:LSt) (t:Tg) (A:N_) (zs:Q_) (c:Nat) (w:R8) (h:aX w base b g s) (a2:s.msgs.length<s.recv+s.cap) (a4:s.msgs.length<s.cap) (a0:s.msgs.length<100000000000) (b5:base<=w.heap.size) (hA:Rd w A (aA .i64 zs)) (ab:zs.length<=17592186043904):Vj 235 #[(au b),.agg #[QZ t.a,QZ t.b,QZ t.c,QZ t.d,QZ t.e,.slice A zs.length c]] w λe w'=>Vi e (QZ 0)/\
   ∃g',aX w' base b g' {s with msgs:=s.msgs++[⟨t,zs⟩],peak:=max s.peak (s.msgs.length+1-s.recv)}/\Keep (ed b g) w w'/\(g'=g\/∃k,g'=some k/\w.heap.size<=k):=by
 obtain ⟨t0,t1,t2,t3,t4⟩:=t;have H:=aa h;obtain ⟨ok,ring,rows,hc,O,hg,hrl,av,hm⟩:=h;obtain ⟨RA,rc,rfl,b8⟩:=aC O;have bi:=ok.cap1;have bO:=ok.cap2;have b2:=ok.rs;have bX:=ok.pk;have hl:=λo n=>mQ b _ _ _ _ _ _ (show aD ((w.alloc o).drewN n) _ _ _ _ _ _ from hc.alloc o) b2 ap;obtain ⟨i,a1⟩:=Vb (s.msgs.length%s.cap);obtain ⟨L,hL⟩:=Vb (min s.msgs.length s.cap);rw [hL] at b8 O hrl hc hg;have c1:=hc.c1;have hb:=PU hc;have a9:(((s.msgs.length:Int)-(s.recv:Int))==(s.cap:Int))=false:=by simp;omega
 have a8:=λW hW=>nE A zs c W hW ab;obtain ⟨D,hD⟩:∃D:Int,D=(s.msgs.length:Int)-(s.recv:Int):=⟨_,rfl⟩;rw [<-hD] at a9 hl;have bN:0<=D/\D<s.cap:=ap;obtain rfl:i=L:=by rw [<-hL,<-a1,Nat.mod_eq_of_lt a4];omega
 obtain ⟨Hl,U,Hc,I,Hg,a7,b9,Hm⟩:=ak hl ok hc O hg hrl av hm;obtain ⟨b0,HL,bb,HD⟩:=ag a1 hL a8 hD;clear hl hc ok O hg hrl av hm a1 hL a8 hD;go_enter func235,ntmps235;go_wp2
 go_quiet ((go_at_call 104;exact Calls.quiet_of (Hl.o _ _)))
 clear a9;go_wp2_with fail;refine (bb.o _ ((hA.alloc _).drewN _)).mono ?_;rintro e y ⟨v1,rfl,J,V⟩;obtain ⟨A1,R,rfl,bV⟩:=aC J
 have p:y.heap[w.heap.size]?=some (.cells #[QZ t0,QZ t1,QZ t2,QZ t3,QZ t4,.slice A zs.length c] 79 (0,0)):=by
  rw [V.block _ V3];exact PW w _
 have bI:=PU p;have p0:y.cell? (ar w.heap.size 0)=some (QZ t0):=PX y _ 0 _ _ _ p;have p1:y.cell? (ar w.heap.size 1)=some (QZ t1):=PX y _ 1 _ _ _ p;have p2:y.cell? (ar w.heap.size 2)=some (QZ t2):=PX y _ 2 _ _ _ p;have p3:y.cell? (ar w.heap.size 3)=some (QZ t3):=PX y _ 3 _ _ _ p;have p4:y.cell? (ar w.heap.size 4)=some (QZ t4):=PX y _ 4 _ _ _ p;have p5:y.cell? (ar w.heap.size 5)=some (.slice A zs.length c):=PX y _ 5 _ _ _ p;have pf:=λj=>P8 y _ j _ _ p;have a3:aq w y:=(Qa ((PY _ w).alloc (PV _) _) _).trans (V.mono V3);have x:=Hc.o.same (a3.block b hb);have bl:=PU x;have k0:=x.c0;have k2:=x.c2;have k3:=x.c3;have k4:=x.c4;have f2:=x.free 2;have f4:=x.free 4;have f0:=x.free 0;have bd:¬(b=w.heap.size):=ap;have be:¬(w.heap.size=b):=ap;have aP:=λW hW=>ks b (.slice RA i rc) s.cap s.msgs.length s.recv s.peak s.msgs.length i W hW U.o.cap1 U.o.cap2 b0.o;obtain ⟨b1,bo,Q,b4⟩:=ag x V J aP;clear x V J aP p;go_wp2_with fail;refine (b4.o _ (b1.o.same (Below.heap_setCell y (ar w.heap.size 5) _ b bd))).mono ?_;rintro e w2 ⟨rfl,rfl⟩;have v:=az I.o (Below.mono a3 (PV _));have a5:=aa v;clear v;have hrb:(Value.slice RA i rc).ownBlock≠some w.heap.size:=λe=>by have:=(I.o.lt _ e).2;omega
 have aR:=DM Hc.o I.o;have c7:i<=1048576:=by have:=HL.o;omega
 go_wp2
 go_region_law ((refine ji lA rfl (.tmp 47) (.tmp 49) rfl base (.slice RA i rc) i (List.flatten rows) rfl ?_ (some (ar y.heap.size 0)) 1 1 [QZ t0,QZ t1,QZ t2,QZ t3,QZ t4,.slice A1 zs.length R] rfl ?_ rfl ?_ ?_ ?_ ?_ ?_;((focus (repeat' (first | (with_reducible exact a5.o) | (with_reducible refine World.ownsRow.drew ?_) | (with_reducible refine bZ ?_ _) | (with_reducible refine World.ownsRow.alloc ?_ _) | (with_reducible refine (World.ownsRow.stored ?_ _ _).1) | (with_reducible refine ownsRow_setCell_other ?_ ?_ _) | (with_reducible assumption) | (simp [Value.ownBlock];done) | (simp [Value.ownBlock];omega)))));exact Rd.drew (dW _ _ _ _ V3);(intro u hu;simp at hu;rcases hu with rfl | rfl | rfl | rfl | rfl | rfl<;>rfl);omega;(unfold maxLen;omega);(simp;omega);(intro A2 c2 w2 v T C Y;have Z:=C.block b V8 (λe=>aR e.symm);have B:aD w2 b (.slice RA i rc) s.cap s.msgs.length s.recv s.peak:=(by refine aD.same ?_ Z;(focus (repeat' (first | (with_reducible exact b1.o) | (with_reducible refine aD.drew ?_) | (with_reducible refine aD.drewN ?_ _) | (with_reducible refine aD.alloc ?_ _) | (with_reducible refine aD.set0 (ring:=.slice RA L rc) ?_ _) | (with_reducible refine aD.set2 (sent:=s.msgs.length) ?_ _ _ ?_) | (with_reducible refine aD.set4 (peak:=s.peak) ?_ _ _ ?_) | (with_reducible refine aD.far ?_ _ _ ?_) | omega | (push_cast;omega)))));have bM:=B.c0;have bw:=B.free 0;have bf:=B.c2;have bz:=B.c3;have bA:=B.c4;have bG:=B.free 2;have bh:=B.free 4;obtain ⟨b3,N,aM,ao,aG⟩:=ah T C Y B v;clear T C Y B v Z)))
 all_goals go_wp2_with fail
 all_goals have b7:IntKind.i64.wrap ((s.msgs.length:Int)+1)=(s.msgs.length:Int)+1:=P3 _ ap
 all_goals go_region
 all_goals clear b7
 all_goals go_wp2_with fail
 all_goals have b6:0<=(s.recv:Int)/\(s.recv:Int)<=(s.msgs.length:Int)+1/\(s.msgs.length:Int)+1<=17592186043904:=ap
 all_goals go_region_with ((go_at_call 104;refine (Ay b ((s.msgs.length:Int)+1) s.recv _ (by simp [go_sem, *]) (by simp [go_sem, *]) b6).mono ?_;rintro e w' ⟨rfl,n',rfl⟩))
 all_goals go_wp2_with fail
 all_goals go_ret
 all_goals
  have bv:=DM ao.o aG.o;have bn:Keep (ed b g) w y:=Keep.below a3;have c6:Keep (ed b g) w w2:=Keep.grown (by (focus (repeat' (first | (with_reducible exact Keep.refl _ _) | (with_reducible assumption) | (with_reducible refine Keep.setCell ?_ _ ?_ _) | (with_reducible refine Keep.alloc ?_ _) | (with_reducible refine Keep.drewN ?_ _) | (with_reducible refine Keep.drew ?_) | (with_reducible exact Or.inr (je _ _)) | (with_reducible exact Or.inr (jd _ _)) | (refine Or.inr ?_;first | rfl | (simp;done) | omega) | (refine Or.inl ?_;first | omega | (simp;done) | (simp;omega)))))) N.o (λk hk=>.inr (.inr (Hg.o.symm.trans hk)));have ad:i+1=min (s.msgs.length+1) s.cap:=by have:=HL.o;omega
  have a6:eR (rows++[[QZ t0,QZ t1,QZ t2,QZ t3,QZ t4,.slice A1 zs.length R]]) i=[QZ t0,QZ t1,QZ t2,QZ t3,QZ t4,.slice A1 zs.length R]:=by
   rw [<-a7.o];exact j6 _ _
  refine ⟨rfl,(Value.slice A2 (i+1) c2).ownBlock,?_,by (focus (repeat' (first | (with_reducible exact Keep.refl _ _) | (with_reducible assumption) | (with_reducible refine Keep.setCell ?_ _ ?_ _) | (with_reducible refine Keep.alloc ?_ _) | (with_reducible refine Keep.drewN ?_ _) | (with_reducible refine Keep.drew ?_) | (with_reducible exact Or.inr (je _ _)) | (with_reducible exact Or.inr (jd _ _)) | (refine Or.inr ?_;first | rfl | (simp;done) | omega) | (refine Or.inl ?_;first | omega | (simp;done) | (simp;omega))))),?_⟩
  .refine pz (A1:=A1) (c1:=R) (g:=g) (rows':=rows++[[QZ t0,QZ t1,QZ t2,QZ t3,QZ t4,.slice A1 zs.length R]]) (ring':=.slice A2 (i+1) c2) U.o Hc.o (HL.o▸I.o) Hg.o Hm.o a2 a0 ⟨t0,t1,t2,t3,t4⟩ zs ab (by (focus (repeat' (first | (with_reducible exact Keep.refl _ _) | (with_reducible assumption) | (with_reducible refine Keep.setCell ?_ _ ?_ _) | (with_reducible refine Keep.alloc ?_ _) | (with_reducible refine Keep.drewN ?_ _) | (with_reducible refine Keep.drew ?_) | (with_reducible exact Or.inr (je _ _)) | (with_reducible exact Or.inr (jd _ _)) | (refine Or.inr ?_;first | rfl | (simp;done) | omega) | (refine Or.inl ?_;first | omega | (simp;done) | (simp;omega)))))) (P:=max s.peak (s.msgs.length+1-s.recv)) rfl (by (focus (repeat' (first | (with_reducible exact ao.o) | (with_reducible refine aD.drew ?_) | (with_reducible refine aD.drewN ?_ _) | (with_reducible refine aD.alloc ?_ _) | (with_reducible refine aD.set0 (ring:=.slice RA i rc) ?_ _) | (with_reducible refine aD.set2 (sent:=s.msgs.length) ?_ _ _ ?_) | (with_reducible refine aD.set4 (peak:=s.peak) ?_ _ _ ?_) | (with_reducible refine aD.far ?_ _ _ ?_) | omega | (push_cast;omega))))) ?_ rfl ?_ ?_ ?_ ?_ ?_
   .rw [<-ad,QE,List.flatten_cons,List.flatten_nil,List.append_nil]
    (focus (repeat' (first | (with_reducible exact aG.o) | (with_reducible refine World.ownsRow.drew ?_) | (with_reducible refine bZ ?_ _) | (with_reducible refine World.ownsRow.alloc ?_ _) | (with_reducible refine (World.ownsRow.stored ?_ _ _).1) | (with_reducible refine ownsRow_setCell_other ?_ ?_ _) | (with_reducible assumption) | (simp [Value.ownBlock];done) | (simp [Value.ownBlock];omega))))
   .rw [Qt,QC,a7.o,ad]
   .intro r hr;rcases QI.1 hr with hr | hr
    .exact b9.o r hr
    .rw [List.mem_singleton.1 hr];rfl
   .intro j h1 h2;exact j4 _ _ _ (by rw [a7.o,<-HL.o];exact ur h1 h2 ap U.o.cap1)
   .rw [b0.o];exact a6
   .have bs:Keep (λk=>k<=w.heap.size) y w2:=Keep.grown (by (focus (repeat' (first | (with_reducible exact Keep.refl _ _) | (with_reducible assumption) | (with_reducible refine Keep.setCell ?_ _ ?_ _) | (with_reducible refine Keep.alloc ?_ _) | (with_reducible refine Keep.drewN ?_ _) | (with_reducible refine Keep.drew ?_) | (with_reducible exact Or.inr (je _ _)) | (with_reducible exact Or.inr (jd _ _)) | (refine Or.inr ?_;first | rfl | (simp;done) | omega) | (refine Or.inl ?_;first | omega | (simp;done) | (simp;omega)))))) N.o (λk hk=>.inr (by have:=(I.o.lt k hk).2;omega));refine Keep.own (S:=λk=>k<=w.heap.size) (w:=y) ?_ (aF Q.o V6) ?_
    ·(focus (repeat' (first | (with_reducible exact Keep.refl _ _) | (with_reducible assumption) | (with_reducible refine Keep.setCell ?_ _ ?_ _) | (with_reducible refine Keep.alloc ?_ _) | (with_reducible refine Keep.drewN ?_ _) | (with_reducible refine Keep.drew ?_) | (with_reducible exact Or.inr (je _ _)) | (with_reducible exact Or.inr (jd _ _)) | (refine Or.inr ?_;first | rfl | (simp;done) | omega) | (refine Or.inl ?_;first | omega | (simp;done) | (simp;omega)))))
     all_goals (dsimp only;omega)
    .intro k hk;have:=(Q.o.lt k hk).1;simp at this |-;omega
  .rcases aM.o with h1 | h1
   .exact .inl (h1.trans Hg.o)
   .exact .inr ⟨_,h1,by simp;omega⟩
def LSt.send (s:LSt) (m:Msg):LSt:={s with msgs:=s.msgs++[m],peak:=max s.peak (s.msgs.length+1-s.recv)}
def LSt.new (c:Nat):LSt:=⟨c,[],0,0⟩
theorem Kw (base b:Nat) (g:Option Nat) (s:LSt) (t:Tg) (A:N_) (zs:Q_) (c:Nat) (w:R8) (h:aX w base b g s) (p:s.msgs.length<s.recv+s.cap) (o:s.msgs.length<100000000000) (i:base<=w.heap.size) (hA:Rd w A (aA .i64 zs)) (u:zs.length<=17592186043904):Vj 235 #[(au b),.agg #[QZ t.a,QZ t.b,QZ t.c,QZ t.d,QZ t.e,.slice A zs.length c]] w λe x=>Vi e (QZ 0)/\
   ∃v,aX x base b v (s.send ⟨t,zs⟩)/\Keep (ed b g) w x/\(v=g\/∃k,v=some k/\(Ve w)<=k):=by
 rcases Qf s.msgs.length s.cap with hc | hc
 .exact yq base b g s t A zs c w h p hc o i hA u
 .exact uv base b g s t A zs c w h p hc o i hA u
theorem aX.blocks {s:LSt} (h:aX w base b g s):b<w.heap.size/\∀i,g=some i->base<=i/\i<w.heap.size:=by
 obtain ⟨ok,ring,rows,hc,o,hg,_⟩:=h;exact ⟨PU hc,λi p=>o.lt i (hg.trans p)⟩
theorem nJ {v:Nat} {x p:R6} {t u:R9} (h:w.heap[b]?=some (.cells x t (0,0))) (i:w.heap[v]?=some (.cells p u (0,0))) (o:t≠u):b≠v:=by
 rintro rfl;rw [h] at i;injection i with i
 injection i with _ i
 exact o i
theorem aX.blk {s:LSt} (h:aX w base b g s):∃i,Vg w b i 182:=by
 obtain ⟨ok,ring,rows,hc,_⟩:=h;exact ⟨_,hc⟩
theorem aX.ringBlk {i:Nat} {s:LSt} (h:aX w base b (some i) s):∃y,Vg w i y 79:=by
 obtain ⟨ok,ring,rows,hc,o,hg,_⟩:=h;rcases o.2 with ⟨hn,_⟩ | ⟨x,cap2,v,p,_,u,_⟩
 .rw [hn] at hg;cases hg
 .rw [p] at hg;obtain rfl:x=i:=by simpa [Value.ownBlock] using hg
  exact ⟨_,u⟩
theorem qV:dg prog 150 9:=⟨⟨_,underlying150,rfl⟩,by kernel_rfl⟩
theorem j3:dg prog 77 5:=⟨⟨_,underlying77,rfl⟩,by kernel_rfl⟩
def Acn.tg (a:Acn):Tg:=⟨a.st,a.bk,a.ph,a.rd,a.ch⟩
theorem yt {i:Acn} (h:y.a=some i) (h1:i.at'.1=lo) (p:i.at'.2=o):(bj y).toArray=#[Vd y.kind,Vd y.st,Vd y.n,.bool i.send,.bool i.add,Vd i.st,Vd i.bk,Vd i.ph,Vd i.rd,Vd i.ch,Vd lo,Vd o]:=by
 subst h1;subst p;unfold bj;rw [h];rfl
theorem wS (h:aU H w b i x a m) (a6:i.start.length<=60) (y:Itm) (v:Acn) (Z:y.a=some v) (lo A:Nat) (h1:v.at'.1=lo) (h2:v.at'.2=A) (av:lo<A) (ab:A<=i.start.length) (u l:N_) (C:Int) (L:Nat->Prop) (a1:¬L b) (U:∀k,w.heap.size<=k->¬L k) (Q:R8->Prop) (B:∀p d,aq w p->Vj 235 #[.pointer l,.agg #[Vd v.st,Vd v.bk,Vd v.ph,Vd v.rd,Vd v.ch,Vf a.bg lo (A-lo:Nat) d]] p λe Y=>Vi e (QZ C)/\Keep L p Y/\Q Y):Vj 226 #[(au b),.agg (bj y).toArray,.agg #[.pointer u,.pointer l]] w λe p=>Vi e (QZ C)/\Keep L w p/\Q p:=by
 rw [yt Z h1 h2];have I:=h.blk
 have ad:i.start.length<=a.cg:=by
  obtain ⟨_,_,e,h⟩:=aC h.oG;simp only [QH] at e;omega
 obtain ⟨W0,W1,T,O,g0,g1,J,a3⟩:=gE w #[Vd y.kind,Vd y.st,Vd y.n,.bool v.send,.bool v.add,Vd v.st,Vd v.bk,Vd v.ph,Vd v.rd,Vd v.ch,Vd lo,Vd A] #[.pointer u,.pointer l] 152 333;have a0:=sb I _ J;obtain ⟨a2,a5,V,G0,G1,K1,N⟩:=aj T O a0 g0 g1 J B;clear T O a0 g0 g1 J I h B Z h1 h2 a3;go_enter func226,ntmps226;go_upto_region 1 with (fail);rw [a2.o,a5.o];go_upto_region 2 with (first | (refine aQ #[.bool v.send,.bool v.add,Vd v.st,Vd v.bk,Vd v.ph,Vd v.rd,Vd v.ch,Vd lo,Vd A] (b:=w.heap.size) G0.o qV rfl rfl rfl rfl ?_) | (refine aI (PW _ _) qV rfl rfl rfl rfl rfl rfl rfl ?_;intro D e2 k2;obtain ⟨E2,R⟩:=ae e2 (aN k2);clear e2 k2));have q2:Keep L D D.drew:=(Keep.refl _ _).drew;have lx:=PU E2.o;have kx:=λp (q:Keep L D p)=>(q.block W1.heap.size lx (U _ K1.o.size)).trans E2.o;have a4:∀p,Keep L D p->Vh p b 13 (Vf a.bg 0 i.start.length a.cg):=λp q=>PX p b 13 _ _ _ ((q.block b (PU (sb V.o _ R.o)) a1).trans (sb V.o _ R.o));have s1:∀p,Keep L D p->Vh p (w.heap.size+1) 1 (.pointer l):=λp q=>PX p (w.heap.size+1) 1 _ _ _ ((q.block _ (PU (sb G1.o _ R.o)) (U _ ap)).trans (sb G1.o _ R.o));have x7:∀p,Keep L D p->Vh p W1.heap.size 7 (Vd lo):=λp q=>PX p _ 7 _ _ _ (kx p q);have x8:∀p,Keep L D p->Vh p W1.heap.size 8 (Vd A):=λp q=>PX p _ 8 _ _ _ (kx p q);have ao:(lo:Int)<=A:=ap;have aG:(A:Int)<=a.cg:=ap;have a7:lo<=A:=ap;have a8:A<=a.cg:=ap;have a9:¬a.cg=lo:=ap;obtain ⟨BB,KX⟩:=ae (bt K1.o R.o) kx;clear kx lx;dsimp only [Act.put];refine HA.g (λp:R8=>Keep L D p) ?_;refine HA.t ?_ [0,1,2] q2 ?_;refine HA.ld 3 #[Vd v.st,Vd v.bk,Vd v.ph,Vd v.rd,Vd v.ch] (λp q=>KX.o p q) j3 q2 ?_;refine HA.t ?_ [4,5,6,7,8,9,10,11,12,13,14,15] q2 ?_;refine HA.c 16 (N.o _ (a.cg-lo) BB.o.drew) ?_;rintro e w3 ⟨rfl,k3,hq⟩;have q3:=q2.trans k3;refine ⟨_,rfl,q3,λ_=>?_⟩;refine HA.t ?_ [17] q3 ?_;refine HA.d ?_;have K3:=aa ((Keep.below (S:=L) BB.o).trans q3);clear q2 q3 k3 a4 s1 x7 x8;go_wp2;go_ret;exact ⟨rfl,K3.o,hq⟩
theorem Kc (h:aU H w b i x a m) (C:i.start.length<=60) (y:Itm) (o:Acn) (O:y.a=some o) (Q:o.at'.1<o.at'.2) (N:o.at'.2<=i.start.length) (u:N_) {s:LSt} (J:aX w base l g s) (p:s.msgs.length<s.recv+s.cap) (A:s.msgs.length<100000000000) (v:base<=w.heap.size):Vj 226 #[(au b),.agg (bj y).toArray,.agg #[.pointer u,(au l)]] w λe B=>Vi e (QZ 0)/\Keep (ed l g) w B/\
   ∃D,aX B base l D (s.send ⟨o.tg,(m.G.drop o.at'.1).take (o.at'.2-o.at'.1)⟩)/\(D=g\/∃k,D=some k/\w.heap.size<=k):=by
 obtain ⟨cl,R⟩:=J.blk;have L:=J.blocks;refine wS h C y o O _ _ rfl rfl Q N u (some (ar l 0)) 0 (ed l g) ?_ ?_ _ (λB d q=>?_)
 .rintro (e | e)
  .exact nJ h.blk R V0 e
  .subst e;obtain ⟨cg,hg⟩:=J.ringBlk;exact nJ h.blk hg V0 rfl
 .rintro k hk (e | e)
  .omega
  .have:=(L.2 k e).2;omega
 .have Z:Rd B (some (ar a.bg o.at'.1)) (aA .i64 ((m.G.drop o.at'.1).take (o.at'.2-o.at'.1))):=by
   have:=((Rd.own (az h.oG q)).drop o.at'.1).take (o.at'.2-o.at'.1)
   rwa [dK,dH,QP] at this
  have I:((m.G.drop o.at'.1).take (o.at'.2-o.at'.1)).length=o.at'.2-o.at'.1:=by rw [Qy,QB,h.wG.1];omega
  have:=Kw base l g s o.tg (some (ar a.bg o.at'.1)) ((m.G.drop o.at'.1).take (o.at'.2-o.at'.1)) d B (J.below q) p A (P4 v q.size) Z ap;rw [I] at this;refine this.mono ?_;rintro e Y ⟨he,D,T,k2,U⟩;exact ⟨he,k2,D,T,U.imp id λ⟨k,e1,V⟩=>⟨k,e1,P4 q.size V⟩⟩
theorem CE (h:aU H w b i x a m) (v:i.start.length<=60) (y:Itm) (p:Acn) (B:y.a=some p) (C:p.at'.1<p.at'.2) (D:p.at'.2<=i.start.length) (u:N_) {s:LSt} (I:aX w base l g s) (o:s.msgs.length=s.recv+s.cap):Vj 226 #[(au b),.agg (bj y).toArray,.agg #[.pointer u,(au l)]] w λe A=>Vi e (QZ 11)/\aq w A:=by
 refine (wS h v y p B _ _ rfl rfl C D u (some (ar l 0)) 11 (λ_=>False) id (λ_ _ h=>h) (λ_=>True) (λA d q=>?_)).mono λe A h=>⟨h.1,h.2.1.toBelow (PV _) (λ_ h=>h.elim)⟩;exact (vz base l g s _ A (I.below q) o).mono λe J h=>⟨h.1,Keep.below h.2,trivial⟩
def vF (G:Q_) (lo:Nat) (v:Q_) (add:Bool) (k:Nat):Q_:=dU G.length λj=>if lo<=j/\j<lo+k then (if add then wrap64 (nth G j+nth v (j-lo)) else nth v (j-lo)) else nth G j
def iK (G:Q_) (lo:Nat) (v:Q_) (add:Bool):Q_:=vF G lo v add v.length
section
variable (G:Q_) (lo:Nat) (v:Q_) (add:Bool)
theorem vc (k:Nat):(vF G lo v add k).length=G.length:=cD _ _
theorem qM:(iK G lo v add).length=G.length:=cD _ _
theorem xp:vF G lo v add 0=G:=(fN rfl λk _=>by rw [if_neg ap]).symm
theorem nI {k j:Nat} (h:j<G.length):nth (vF G lo v add k) j=if lo<=j/\j<lo+k then (if add then wrap64 (nth G j+nth v (j-lo)) else nth v (j-lo)) else nth G j:=bJ _ h
theorem Bc {k:Nat} (hk:lo+k<G.length):(vF G lo v add k).set (lo+k) (if add then wrap64 (nth G (lo+k)+nth v k) else nth v k)=vF G lo v add (k+1):=by
 refine gQ (by simp [vc]) λj i=>?_;rw [List.length_set,vc] at i;rw [jc,nI _ _ _ _ i,nI _ _ _ _ i,vc];by_cases h1:j=lo+k
 .subst h1;rw [if_pos (show lo+k=lo+k/\lo+k<G.length from P7 rfl hk),if_pos (show lo<=lo+k/\lo+k<lo+(k+1) by omega),Nat.add_sub_cancel_left]
 .rw [if_neg (show ¬(j=lo+k/\lo+k<G.length) from λh=>h1 h.1)];by_cases o:lo<=j/\j<lo+k
  .rw [if_pos o,if_pos (show lo<=j/\j<lo+(k+1) by omega)]
  .rw [if_neg o,if_neg (show ¬(lo<=j/\j<lo+(k+1)) by omega)]
end
theorem vd {G v:Q_} (o:W64 G) (i:W64 v):W64 (iK G lo v add):=eZ λk hk=>by
 split
 .rename_i h
  split
  .unfold wrap64;omega
  .exact i _ ap
 .exact o k hk
theorem HE {G v:Q_} (h:lo+v.length<=G.length):splice G lo v=iK G lo v false:=by
 unfold splice iK vF;refine fN (by simp only [Qt,Qy,QB];omega) λk hk=>?_;rw [if_neg (show ¬(false=true) by decide)];by_cases h1:k<lo
 .rw [if_neg ap];simp only [nth,List.getD_eq_getElem?_getD];rw [Qw (by rw [Qy];omega),List.getElem?_take,if_pos h1]
 .by_cases i:k<lo+v.length
  .rw [if_pos ⟨ap,i⟩];simp only [nth,List.getD_eq_getElem?_getD];rw [Qx (by rw [Qy];omega),Qy,Qw ap]
   congr 2;omega
  .rw [if_neg ap];simp only [nth,List.getD_eq_getElem?_getD];rw [Qx (by rw [Qy];omega),Qy,Qx ap,List.getElem?_drop]
   congr 2;omega
theorem Ls {G v:Q_} (h:v.length=G.length):iK G 0 v true=eT G v:=by
 unfold iK vF eT;refine fv λk hk=>?_;rw [if_pos (show 0<=k/\k<0+v.length by omega),if_pos rfl,Nat.sub_zero]
theorem Dk (g c lo n:Nat) (B:N_) (xs ys:Q_) (L Q d:Nat) (w:R8) (h:w.ownsRow 0 2 1 (Vf g 0 n c) n (aA .i64 xs)) (hB:Rd w B (aA .i64 ys)) (hl:ys.length=L) (hn:lo+L<=n) (hm:n<=17592186043904) (y:∀b,B=some b->b.block≠g):Vj 234 #[Vf g lo L Q,.slice B L d] w λe J=>Vi e (.bool true)/\J.ownsRow 0 2 1 (Vf g 0 n c) n (aA .i64 (iK xs lo ys true))/\Keep (λi=>i=g) w J:=by
 have x:=ln h;unfold iK;rw [hl];have ⟨Y,R,Hn,T,Z⟩:=ah h hB x hl y;clear h hB x hl y;go_enter func234,ntmps234;go_wp2
 go_loopw [13] (λi wr=>∃k:Nat,k<=L/\i=QZ k/\wr.ownsRow 0 2 1 (Vf g 0 n c) n (aA .i64 (vF xs lo ys true k))/\Keep (λi=>i=g) w wr) (λi _=>L-(intOf i).toNat)
 .exact ⟨0,PZ _,rfl,by rw [xp];exact Y.o,Keep.refl _ _⟩
 case round=>
  obtain ⟨k,hk,rfl,h,A⟩:=hrel;by_cases C:k<L
  .have hg:=(h.lt g rfl).2;have v:lo+k<xs.length:=by rw [Hn.o];omega
   have V:=cS h (show lo+k<n by omega);rw [nI _ _ _ _ v,if_neg ap] at V;have f1:=h.frozenAt (lo+k);obtain ⟨N,U,rfl,O⟩:=R.o.num (show k<ys.length by rw [T.o];exact C);have I:N≠g:=Z.o _ rfl;have p2:Vh wr N (U+k) (QZ (nth ys k)):=A.cell O I;have p:=Bc xs lo ys true v;rw [if_pos rfl] at p;have ⟨H,u,D⟩:=af A h p;clear A h p v O;go_wp2
   go_region
   all_goals go_wp2_with fail
   all_goals
    go_roundw
    case rel=>
     refine ⟨k+1,ap,Vc,?_,?_⟩
     .rw [<-D.o];exact eC (bZ u.o 1) (lo+k) _
     .exact Keep.setCell (H.o.drewN 1) (ar g (lo+k)) (.inr rfl) _
    case measure=>exact Va
  .obtain rfl:k=L:=ap;have ⟨H,u⟩:=ae A h;clear A h;go_wp2;go_ret;exact ⟨rfl,u.o,H.o⟩
theorem xX:dg prog 79 6:=⟨⟨_,underlying79,rfl⟩,by kernel_rfl⟩
theorem yR {α:Type} {i p:List α} (h:lo+p.length<=n) (hn:n<=i.length):(splice i lo p).take n=splice (i.take n) lo p:=by
 unfold splice;have o:lo<=n:=ap;rw [List.take_append,List.take_append,List.take_take,Qy,List.take_take,List.drop_take,Nat.min_eq_right o,Nat.min_eq_left o,Nat.min_eq_left (show lo<=i.length by omega),List.take_of_length_le (show p.length<=n-lo by omega),Nat.sub_sub]
theorem BI {α:Type} {i o:List α} (h:lo+o.length<=i.length):(splice i lo o).length=i.length:=by
 unfold splice;simp only [Qt,Qy,QB];omega
theorem MJ {g:Nat} (h:w.ownsRow base e 1 (.slice (some ⟨g,0,none⟩) n cap) n xs):
  ∃o:R7,Vg w g o.toArray e/\o.take n=xs/\n<=o.length/\∀(p:R8) (i:R7),Vg p g (List.toArray i) e->i.length=o.length->p.ownsRow base e 1 (.slice (some ⟨g,0,none⟩) n cap) n (i.take n):=by
 rcases h.2 with ⟨B,_⟩ | ⟨C,v,o,u,hb,hg,h1,y,hs,x⟩
 .cases B
 .simp only [QH,Option.some.injEq,Addr.mk.injEq,and_true,true_and] at u;obtain ⟨rfl,rfl⟩:=u;rw [Nat.mul_one] at hs x;have hl:o.toList.length=cap:=by simpa using hs
  refine ⟨o.toList,by simpa using hg,by simpa using x,ap,λp i hw A=>⟨by rw [Qy];omega,.inr ⟨g,cap,i.toArray,rfl,hb,hw,h1,y,?_,?_⟩⟩⟩
  .simp;omega
  .simp
theorem Kf (y:Itm) (h:Acn) (H:y.a=some h) (u v:N_) (C:Int) (hC:C≠0) (p:∀i,aq w i->Vj 236 #[.pointer u,.agg #[Vd h.st,Vd h.bk,Vd h.ph,Vd h.rd,Vd h.ch]] i λe T=>Vi e (.tuple #[.agg Rk,QZ C])/\aq i T):Vj 227 #[.pointer (some ⟨b,0,none⟩),.agg (bj y).toArray,.agg #[.pointer u,.pointer v]] w λe i=>Vi e (QZ C)/\aq w i:=by
 have ⟨lo,h1⟩:=Vb h.at'.1;have ⟨I,U⟩:=Vb h.at'.2;rw [yt H h1 U];have ⟨W0,W1,B,A,Y,g1,D,O⟩:=gE w #[Vd y.kind,Vd y.st,Vd y.n,.bool h.send,.bool h.add,Vd h.st,Vd h.bk,Vd h.ph,Vd h.rd,Vd h.ch,Vd lo,Vd I] #[.pointer u,.pointer v] 152 333;have ⟨N,R,G0,G1,K1,x⟩:=ai B A Y g1 D p;clear B A Y g1 D p H h1 U O;go_enter func227,ntmps227;go_upto_region 1 with (fail);rw [N.o,R.o];go_upto_region 2 with (first | (refine aQ #[.bool h.send,.bool h.add,Vd h.st,Vd h.bk,Vd h.ph,Vd h.rd,Vd h.ch,Vd lo,Vd I] (b:=Ve w) G0.o qV rfl rfl rfl rfl ?_) | (refine aI (PW _ _) qV rfl rfl rfl rfl rfl rfl rfl ?_;intro J Z k2;have ⟨E2,L⟩:=ae Z (aN k2);clear Z k2));have q2:=br J;have B2:=aa (bt K1.o L.o);have s0:∀i,aq J i->i.cell? ⟨Ve w+1,0,none⟩=some (.pointer u):=λi q=>PX i (Ve w+1) 0 _ _ _ (sb (sb G1.o _ L.o) i q);have Q:=λi (q:aq J i)=>P6 (PU (sb G1.o _ L.o)) q.size;go_wp2_with (refine aQ #[Vd h.st,Vd h.bk,Vd h.ph,Vd h.rd,Vd h.ch] (b:=Ve W1) E2.o j3 rfl rfl rfl rfl ?_);refine (x.o J B2.o).mono ?_;rintro e w3 ⟨rfl,V⟩;have a0:(C != 0)=true:=by rw [bne_iff_ne];exact hC
 have B3:=aa (bt B2.o V);clear q2 s0 Q V;go_wp2_with (refine aI (PW _ _) xX rfl rfl rfl rfl rfl rfl rfl ?_;intro W4 e4 k4;have K4:=aa (bt B3.o (aN k4));clear e4 k4);go_ret;exact ⟨rfl,K4.o⟩
theorem Ke (h:aU H w b i x a m) (bA:i.start.length<=60) (y:Itm) (B:Acn) (a5:y.a=some B) (lo C:Nat) (h1:B.at'.1=lo) (h2:B.at'.2=C) (bO:lo<C) (bV:C<=i.start.length) (v:N_) {s:LSt} (hL:aX w base l g s) (c6:a.bg<base) (bb:s.recv<s.msgs.length) (ao:(aO s.msgs s.recv).tag=B.tg) (R:(aO s.msgs s.recv).vals.length=C-lo):Vj 227 #[.pointer (some ⟨b,0,none⟩),.agg (bj y).toArray,.agg #[.pointer (some ⟨l,0,none⟩),.pointer v]] w λe p=>Vi e (QZ 0)/\Keep (λk=>k=l\/k=a.bg) w p/\
   aX p base l g {s with recv:=s.recv+1}/\p.ownsRow 0 2 1 (.slice (some ⟨a.bg,0,none⟩) i.start.length a.cg) i.start.length (aA .i64 (iK m.G lo (aO s.msgs s.recv).vals B.add)):=by
 rw [yt a5 h1 h2];have T:=h.blk;obtain ⟨cl,Q⟩:=hL.blk
 have bN:i.start.length<=a.cg:=by
  obtain ⟨_,_,e,h⟩:=aC h.oG;simp only [QH] at e;omega
 have b6:b≠l:=nJ h.blk Q V0;have a8:l≠a.bg:=λe=>ay Q V0 h.oG (by rw [e];rfl);have a3:=h.wG.1;have b7:=h.blk;obtain ⟨u,hu⟩:=Vb (some ⟨l,0,none⟩:N_);rw [hu];obtain ⟨W0,W1,av,a0,g0,g1,a2,b8⟩:=gE w #[Vd y.kind,Vd y.st,Vd y.n,.bool B.send,.bool B.add,Vd B.st,Vd B.bk,Vd B.ph,Vd B.rd,Vd B.ch,Vd lo,Vd C] #[.pointer u,.pointer v] 152 333;rw [<-hu] at g1 a0;rw [<-hu];have b5:=sb T _ a2;obtain ⟨bv,bn,aM,G0,G1,K1,HM,HL⟩:=ak av a0 b5 g0 g1 a2 h hL;obtain ⟨bz,D,bX,bw⟩:=ag ao R Q a3;clear av a0 b5 g0 g1 a2 T b7 h hL a5 h1 h2 b8 hu ao R Q a3;go_enter func227,ntmps227;go_upto_region 1 with (fail);rw [bv.o,bn.o];go_upto_region 2 with (first | (refine aQ #[.bool B.send,.bool B.add,Vd B.st,Vd B.bk,Vd B.ph,Vd B.rd,Vd B.ch,Vd lo,Vd C] (b:=w.heap.size) G0.o qV rfl rfl rfl rfl ?_) | (refine aI (PW _ _) qV rfl rfl rfl rfl rfl rfl rfl ?_;intro W2 e2 k2;obtain ⟨E2,K2⟩:=ae e2 (aN k2);clear e2 k2));have B2:=aa (bt K1.o K2.o);have a1:=Ax base l g s B.tg W2 (HL.o.below B2.o) bb bz.o;rw [D.o] at a1;have a4:=aa a1;have s0:W2.cell? ⟨w.heap.size+1,0,none⟩=some (.pointer (some ⟨l,0,none⟩)):=PX W2 (w.heap.size+1) 0 _ _ _ (sb G1.o _ K2.o);clear a1;go_wp2_with (refine aQ #[Vd B.st,Vd B.bk,Vd B.ph,Vd B.rd,Vd B.ch] (b:=W1.heap.size) E2.o j3 rfl rfl rfl rfl ?_);refine a4.o.mono ?_;rintro e w3 ⟨A,c,rfl,o3,L3,k3⟩;have bf:l≠W1.heap.size:=by have:=HL.o.blocks.1;have:=K1.o.size;omega
 have e3:=(k3.block W1.heap.size (PU E2.o) (λe=>bf e.symm)).trans E2.o;have b3:=(k3.block b (PU (sb aM.o _ K2.o)) b6).trans (sb aM.o _ K2.o);have a7:=k3.own (az HM.o.oG B2.o) (λj hj e=>a8 (by cases hj;exact e.symm));obtain ⟨O3,bo,K3,E3,bi,bh⟩:=ai o3 L3 ((Keep.below (S:=λk=>k=l) B2.o).trans k3) e3 b3 a7;clear o3 L3 k3 e3 b3 a7 s0 a4;go_upto_region 5 with (refine aI (PW _ _) xX rfl rfl rfl rfl rfl rfl rfl ?_;intro L e4 k4;obtain ⟨E4,K4⟩:=ae e4 (aN k4);clear e4 k4);have q4:=(br L).drew;have kx:=λp (q:aq L p)=>sb (sb E3.o _ K4.o) p q;have bl:∀p,aq L p->p.cell? ⟨b,13,none⟩=some (.slice (some ⟨a.bg,0,none⟩) i.start.length a.cg):=λp q=>PX p b 13 _ _ _ (sb (sb bi.o _ K4.o) p q);have x1:∀p,aq L p->p.cell? ⟨W1.heap.size,1,none⟩=some (.bool B.add):=λp q=>PX p _ 1 _ _ _ (kx p q);have x7:∀p,aq L p->p.cell? ⟨W1.heap.size,7,none⟩=some (Vd lo):=λp q=>PX p _ 7 _ _ _ (kx p q);have x8:∀p,aq L p->p.cell? ⟨W1.heap.size,8,none⟩=some (Vd C):=λp q=>PX p _ 8 _ _ _ (kx p q);have y5:∀p,aq L p->p.cell? ⟨w3.heap.size,5,none⟩=some (.slice A (C-lo:Nat) c):=λp q=>PX p _ 5 _ _ _ (sb E4.o p q);have xl:=sl (sb E3.o _ K4.o);have yl:=sl E4.o;have c7:(lo:Int)<=C:=ap;have c8:(C:Int)<=a.cg:=ap;have bG:lo<=C:=ap;have bI:C<=a.cg:=ap;have bM:¬a.cg=lo:=ap;clear kx;refine HA.g (λp:R8=>aq L p) ?_;refine HA.t ?_ [0,1,2,3,4,5,6,7,8,9,10,11] q4 ?_;refine HA.d ?_;have N:=aa (K4.o.trans (q4.mono K4.o.size));have o5:=az O3.o N.o;have L5:=bo.o.below N.o;have Z:=az bh.o N.o;have K5:=(K3.o.mono (S':=λk=>k=l\/k=a.bg) λk _ e=>.inl e).trans (Keep.below N.o)
 have b1:∀z,A=some z->z.block≠a.bg:=λz hz e=>by
  rcases o5.2 with ⟨e',_⟩ | ⟨r,_,_,e',hb,_⟩
  .injection e' with e1;rw [e1] at hz;cases hz
  .injection e' with e1;rw [e1] at hz;cases hz;exact absurd hb (by simp only at e;omega)
 have b4:∀p,Keep (λk=>k=a.bg) L.drew p->aX p base l g {s with recv:=s.recv+1}:=λp k=>by
  refine L5.keep k a8 (λj hj e=>?_) (λj _ _ hb e=>ap);subst hj;obtain ⟨cg,hg⟩:=L5.ringBlk;exact ay hg V0 Z (by rw [e];rfl)
 obtain ⟨O5,a6,aP,bs,aR⟩:=ah o5 Z K5 b1 b4;clear o5 L5 Z K5 b1 b4 bl
 cases hadd:B.add with
 | true=>
  rw [hadd] at x1;obtain ⟨I,be⟩:=ae hadd (Dk a.bg a.cg lo i.start.length A m.G (aO s.msgs s.recv).vals (C-lo) (a.cg-lo) c L.drew a6.o (Rd.own O5.o) D.o ap ap bs.o);clear hadd;go_wp2_with fail;refine be.o.mono ?_;rintro e w6 ⟨rfl,o6,k6⟩;obtain ⟨O6,L6,K6⟩:=af o6 (aR.o w6 k6) (aP.o.trans (k6.mono λk _ e=>.inr e));clear o6 k6 x1 x7 x8 y5 xl yl q4;go_wp2;go_ret;exact ⟨rfl,K6.o,L6.o,by first | exact O6.o | (rw [I.o];exact O6.o)⟩
 | false=>
  rw [hadd] at x1;have I:=aa hadd;obtain ⟨Y,V,b0,b2,ab⟩:=MJ a6.o;have O:(aA .i64 (aO s.msgs s.recv).vals).length=C-lo:=by rw [cq,D.o]
  have J:lo+(aA .i64 (aO s.msgs s.recv).vals).length<=Y.length:=by rw [O];omega
  have U:∀p:R8,p.heap[a.bg]?=some (.cells (splice Y lo (aA .i64 (aO s.msgs s.recv).vals)).toArray 2 (0,0))->p.ownsRow 0 2 1 (.slice (some ⟨a.bg,0,none⟩) i.start.length a.cg) i.start.length (aA .i64 (iK m.G lo (aO s.msgs s.recv).vals false)):=λp hw=>by
   have:=ab p _ hw (BI J)
   rwa [yR (by rw [O];omega) b2,b0,nr,HE (by rw [D.o,bw.o];omega)] at this
  obtain ⟨ad,bd,a9,aG,b9⟩:=ah V O J U (Rd.own O5.o);clear hadd V b0 b2 ab O J U;go_wp2_with (refine qg rfl (.tmp 41) (.tmp 43) 139 26 rfl 2 underlying139 V1 (some ⟨a.bg,lo,none⟩) A (C-lo) (a.cg-lo) c rfl rfl a.bg lo Y 2 ad.o (aA .i64 (aO s.msgs s.recv).vals) bd.o (λ_=>rfl) b9.o a9.o (cU _ _) ?_;intro w6 g6 k6;obtain ⟨O6,L6,K6⟩:=af (aG.o w6 g6) (aR.o w6 k6) (aP.o.trans (k6.mono λk _ e=>.inr e));clear g6 k6 x1 x7 x8 y5 xl yl q4);go_ret;exact ⟨rfl,K6.o,L6.o,by first | exact O6.o | (rw [I.o];exact O6.o)⟩
theorem aX.box {o:R8} {s:LSt} (h:aX w base l g s) (k:Keep (λk=>k=b) w o) (h1:l≠b) (u:b<base):aX o base l g s:=
 h.keep k h1 (λi p e=>by have:=(h.blocks.2 i p).1;omega) (λi c _ hb e=>ap)
theorem aU.setGH {y:R8} (h:aU H w b i x a m) (hn:∀k,Mut b a k->¬H k) (hk:Keep (λk=>k=a.bg\/H k) w y) (G:Q_) (oG:y.ownsRow 0 2 1 (Vf a.bg 0 (Vn i) a.cg) (Vn i) (aA .i64 G)) (wG:G.length=Vn i/\W64 G):aU H y b i x a {m with G:=G}:=by
 have he:Ext (aH (gW H b a) w) (aH (gW H b a) y):=bC (hk.mono λk _ e=>e.imp (λe=>.inr (.inr (.inr (.inl e)))) id) (λk _ Y=>Y);have nb:b≠a.bg:=λe=>ay h.blk V0 h.oG (by rw [e];rfl);have hb:=(hk.block b (PU h.blk) (λe=>e.elim nb (hn b (.inl rfl)))).trans h.blk;have u:∀{v:Value} {e size n xs},(∀j,v.ownBlock=some j->j≠a.bg/\Mut b a j)->w.ownsRow 0 e size v n xs->y.ownsRow 0 e size v n xs:=λp u=>hk.own u (λj o e=>e.elim (p j o).1 (hn j (p j o).2))
 have D:∀{v:Value} {e:R9} {size n:Nat} {xs:R7},e≠2->w.ownsRow 0 e size v n xs->∀j,v.ownBlock=some j->j≠a.bg:=λp u j o e=>by
  rcases h.oG.2 with ⟨A,_⟩ | ⟨Z,_,_,A,_,hg,_⟩
  .cases A
  .simp only [QH,Option.some.injEq,Addr.mk.injEq] at A;obtain ⟨⟨U,_⟩,_⟩:=A;exact ay hg (Ne.symm p) u (by rw [o,e,U])
 obtain ⟨T,a1,V,L,N,B,O⟩:=h.pl;obtain ⟨rows,C,R,I,J⟩:=h.re
 exact ⟨hb,fH h.sh he,fh cX h.ex he,iD h.sa he,⟨T,a1,V,L,N,B,iE O he⟩,aW h.bu he,aW h.it he,⟨rows,u (λj o=>⟨D V0 C j o,by cases o;exact .inr (.inr (.inr (.inr (.inl rfl))))⟩) C,R,I,λj x Q=>cX (J j x Q) he⟩,
  u (λj o=>by cases o;exact ⟨h.dj.2.1,.inr (.inl rfl)⟩) h.oP,u (λj o=>by cases o;exact ⟨h.dj.2.2,.inr (.inr (.inl rfl))⟩) h.oM,oG,u (λj o=>⟨D V0 h.oO j o,.inr (.inr (.inr (.inr (.inr o))))⟩) h.oO,h.dj,λk _ hm=>hn k hm,h.wP,h.wM,wG,h.ox,h.xw⟩
theorem Kk (h:aU H w b i x a m) (hn:∀k,Mut b a k->¬H k) (B:∀k,w.heap.size<=k->¬H k) (hs:bK i) (hy:(cC i x m.st)[m.nx]?=some y) (hk:y.kind=3) {p:Acn} (a2:y.a=some p) (a3:p.at'.1<p.at'.2) (Y:p.at'.2<=i.start.length) (u:N_) {s:LSt} (V:aX w base l g s) (I:s.msgs.length<s.recv+s.cap) (L:s.msgs.length<100000000000) (J:base<=w.heap.size) (D:∀k,ed l g k->H k) (a0:b<base):Vj 216 #[(au b),.pointer u,(au l)] w λe v=>Vi e (QZ 0)/\
   Md (ed l g) b i x a m (λT v m1=>m1=m/\∃o,(∀k,T k↔H k\/o=some k)/\aX v base l o (s.send ⟨p.tg,(m.G.drop p.at'.1).take (p.at'.2-p.at'.1)⟩)/\(o=g\/∃k,o=some k/\w.heap.size<=k)) w v:=by
 have a1:l≠b:=λe=>hn b (.inl rfl) (D b (.inl e.symm))
 refine (Ar h hn B (G:=ed l g) (λk e=>?_) hs hy u (some (ar l 0)) 226 (λv=>by rw [hk];kernel_rfl) (λargs w=>by kernel_rfl) (λ_=>False)
  (λT v m1=>m1=m/\∃o,(∀k,T k↔H k\/o=some k)/\aX v base l o (s.send ⟨p.tg,(m.G.drop p.at'.1).take (p.at'.2-p.at'.1)⟩)/\(o=g\/∃k,o=some k/\w.heap.size<=k)) ?_ (λv q=>?_)).mono ?_
 .rcases e with e | e
  .rw [e];exact V.blocks.1
  .exact (V.blocks.2 k e).2
 .rintro T w1 w2 m1 ⟨e,o,h1,h2,h3⟩ kk;exact ⟨e,o,h1,h2.box kk a1 a0,h3⟩
 .have U:=h.below q hn;refine (Kc U hs.n y p a2 a3 Y u (V.below q) I L (P4 J q.size)).mono ?_;rintro e a4 ⟨he,N,o,R,Q⟩
  have A:∀k,o=some k->H k\/v.heap.size<=k:=λk e=>by
   rcases Q with rfl | ⟨j,e1,Z⟩
   .exact .inl (D k (.inr e))
   .rw [e1] at e;cases e;exact .inr Z
  have O:∀k,Mut b a k->¬(H k\/o=some k):=λk hm e=>by
   rcases e with e | e
   .exact hn k hm e
   .rcases A k e with e | e
    .exact hn k hm e
    .have:=U.mlt k hm;omega
  refine .inl ⟨he,λk=>H k\/o=some k,a,m,U.step (N.mono λk _ e=>D k e) (λk hl e=>?_) O,O,λk hl e=>?_,rfl,rfl,N.mono λk _ e=>.inr e,λk hm=>.inl hm,⟨rfl,rfl,rfl⟩,rfl,o,λk=>Iff.rfl,R,?_⟩
  .rcases e with e | e
   .exact e
   .rcases A k e with e | e
    .exact e
    .unfold Ve at *;omega
  .rcases e with e | e
   .exact B k (P4 (P4 q.size N.size) hl) e
   .have:=(R.blocks.2 k e).2;omega
  .exact Q.imp id λ⟨k,e1,Z⟩=>⟨k,e1,P4 q.size Z⟩
 .rintro e v (⟨he,hd⟩ | ⟨C,_,hF,_⟩)
  .exact ⟨he,hd⟩
  .exact hF.elim
theorem Km (h:aU H w b i x a m) (hn:∀k,Mut b a k->¬H k) (v:∀k,w.heap.size<=k->¬H k) (hs:bK i) (L:(cC i x m.st)[m.nx]?=some y) (hk:y.kind=3) {p:Acn} (B:y.a=some p) (I:p.at'.1<p.at'.2) (D:p.at'.2<=Vn i) (u:N_) {s:LSt} (O:aX w base l g s) (o:s.msgs.length=s.recv+s.cap):Vj 216 #[(au b),.pointer u,(au l)] w λe A=>Vi e (QZ 11)/\aq w A:=by
 refine (mO h hn v (G:=λ_=>False) (λ_ h=>h.elim) hs L u (some (ar l 0)) 226 (λA=>by rw [hk];kernel_rfl) (λargs w=>by kernel_rfl) (λC=>C=11) (λ_ _=>False) (λ_ _ _ h _=>h) (λA q=>?_)).mono ?_
 .refine (CE (h.below q hn) hs.n y p B I D u (O.below q) o).mono ?_;rintro e N ⟨he,k⟩;exact .inr ⟨11,by decide,rfl,he,k⟩
 .rintro e A (⟨_,_,_,_,_,_,_,_,_,J⟩ | ⟨C,_,Q,he,k⟩)
  .exact J.elim
  .rw [Q] at he;exact ⟨he,k⟩
theorem Kl (h:aU H w b i x a m) (hn:∀k,Mut b a k->¬H k) (B:∀k,w.heap.size<=k->¬H k) (hs:bK i) (hy:(cC i x m.st)[m.nx]?=some y) (hk:y.kind=4) {o:Acn} (T:y.a=some o) (U:o.at'.1<o.at'.2) (L:o.at'.2<=Vn i) (v:N_) {s:LSt} (Z:aX w base l g s) (u:∀k,ed l g k->H k) (N:b<base) (Q:a.bg<base) (I:s.recv<s.msgs.length) (J:(aO s.msgs s.recv).tag=o.tg) (A:(aO s.msgs s.recv).vals.length=o.at'.2-o.at'.1) (hw:W64 (aO s.msgs s.recv).vals):Vj 216 #[(au b),(au l),.pointer v] w λe p=>Vi e (QZ 0)/\
   Bn H (λk=>k=l) b i x a m (λp m1=>m1={m with G:=iK m.G o.at'.1 (aO s.msgs s.recv).vals o.add}/\aX p base l g {s with recv:=s.recv+1}) w p:=by
 have O:l≠b:=λe=>hn b (.inl rfl) (u b (.inl e.symm))
 refine (mO h hn B (G:=λk=>k=l) (λk e=>by rw [e];exact Z.blocks.1) hs hy (some (ar l 0)) v 227 (λp=>by rw [hk];kernel_rfl) (λargs w=>by kernel_rfl) (λ_=>False)
  (λp m1=>m1={m with G:=iK m.G o.at'.1 (aO s.msgs s.recv).vals o.add}/\aX p base l g {s with recv:=s.recv+1}) (λw1 w2 m1 V kk=>⟨V.1,V.2.box kk O N⟩) (λp q=>?_)).mono ?_
 .have Y:=h.below q hn;refine (Ke Y hs.n y o T _ _ rfl rfl U L v (Z.below q) Q I J A).mono ?_;rintro e a0 ⟨he,D,R,hG⟩;exact .inl ⟨he,a,_,Y.setGH hn (D.mono λk _ e=>e.elim (λe=>.inr (u k (.inl e))) .inl) _ hG ⟨by rw [qM];exact h.wG.1,vd h.wG.2 hw⟩,rfl,rfl,D.mono λk _ e=>e.elim .inr (λe=>.inl (.inr (.inr (.inr (.inl e))))),λk hm=>.inl hm,⟨rfl,rfl,rfl⟩,rfl,R⟩
 .rintro e p (⟨he,hd⟩ | ⟨C,_,hF,_⟩)
  .exact ⟨he,hd⟩
  .exact hF.elim
theorem uu (h:aU H w b i x a m) (hn:∀k,Mut b a k->¬H k) (A:∀k,w.heap.size<=k->¬H k) (hs:bK i) (L:(cC i x m.st)[m.nx]?=some y) (hk:y.kind=4) {u:Acn} (I:y.a=some u) (v:N_) {s:LSt} (O:aX w base l g s) (D:s.recv=s.msgs.length\/(s.recv<s.msgs.length/\(aO s.msgs s.recv).tag≠u.tg)):Vj 216 #[(au b),(au l),.pointer v] w λe B=>Vi e (QZ (if s.recv=s.msgs.length then 12 else 10))/\aq w B:=by
 refine (mO h hn A (G:=λ_=>False) (λ_ h=>h.elim) hs L (some (ar l 0)) v 227 (λB=>by rw [hk];kernel_rfl) (λargs w=>by kernel_rfl) (λC=>C=if s.recv=s.msgs.length then 12 else 10) (λ_ _=>False) (λ_ _ _ h _=>h) (λB q=>?_)).mono ?_
 .refine (Kf y u I (some (ar l 0)) v (if s.recv=s.msgs.length then 12 else 10) (by split<;>decide) (λo N=>?_)).mono ?_
  .have p:=(O.below q).below N;rcases D with e | ⟨e,ne⟩
   .rw [if_pos e];exact vA base l g s u.tg o p e
   .rw [if_neg ap];exact yr base l g s u.tg o p e ne
  .rintro e o ⟨he,k⟩;exact .inr ⟨_,by split<;>decide,rfl,he,k⟩
 .rintro e B (⟨_,_,_,_,_,_,_,_,_,J⟩ | ⟨C,_,Q,he,k⟩)
  .exact J.elim
  .rw [Q] at he;exact ⟨he,k⟩
theorem ug (l:Q_) (k a:Nat):l.take (bdN l.length k a)++cQ l k a=l.take (bdN l.length k (a+1)):=by
 have h:=kC l.length k (show a<=a+1 by omega);have e:bdN l.length k (a+1)=bdN l.length k a+(bdN l.length k (a+1)-bdN l.length k a):=ap
 conv=>rhs;rw [e,List.take_add]
 rfl
theorem CW (i:Inp) (P G:Q_) (l r:Rl):dh i P G (l++r)=dh i P (dh i P G l) r:=by simp [dh]
theorem vC (i:Inp) (P G:Q_) (d:Rl) (l:Q_) (k:Nat) (hk:0<k):((List.range k).foldl (λg a=>dh i P g (cI d (cQ l k a))) G)=dh i P G (cI d l):=by
 have h:∀m,((List.range m).foldl (λg a=>dh i P g (cI d (cQ l k a))) G)=dh i P G (cI d (l.take (bdN l.length k m))):=by
  intro m
  induction m with
  | zero=>simp [bdN,cI,dh]
  | succ m ih=>
   rw [QL,List.foldl_append,ih,<-ug];simp only [List.foldl_cons,List.foldl_nil,cI,List.map_append];exact (CW _ _ _ _ _).symm
 rw [h k,s9 _ _ hk,QF]
def gY (i:Inp) (x:Nat) (m:Mst) (y:Itm):Mst:=
 if y.kind=1 then {m with G:=dh i m.P m.G (cI i.data (oY i x y.st y.n))}
 else if y.kind=2 then {m with op:=m.op++[y.n]}
 else if y.kind=5 then
  {m with P:=apP i.cfg.rate i.cfg.mom i.cfg.shift m.P m.M ((m.G.drop (aK (ax i).buks y.n).1).take ((aK (ax i).buks y.n).2-(aK (ax i).buks y.n).1)) (aK (ax i).buks y.n).1 ((aK (ax i).buks y.n).2-(aK (ax i).buks y.n).1),M:=apM i.cfg.mom i.cfg.shift m.M ((m.G.drop (aK (ax i).buks y.n).1).take ((aK (ax i).buks y.n).2-(aK (ax i).buks y.n).1)) (aK (ax i).buks y.n).1 ((aK (ax i).buks y.n).2-(aK (ax i).buks y.n).1),op:=ir m.op y.n}
 else {m with rc:=m.rc++[(m.P,m.M)],G:=List.replicate i.start.length 0}
def Pd (m:Mst) (y:Itm):Prop:=(y.kind=1\/y.kind=2\/y.kind=5\/y.kind=6)/\m.op.length<=1000/\(y.kind=5->0<m.op.length)/\(y.kind=6->m.rc.length<=1000)
def bB (n s k:Nat):Nat:=min ((di n s-k)*s) n
theorem Dg {s:Nat} (hs:1<=s) (hk:k<di n s):aK (pZ n s) k=(bB n s (k+1),bB n s k)/\bB n s (k+1)<bB n s k/\bB n s k<=n:=by
 have h1:=iH (n:=n) (size:=s) (k:=di n s-1-k) ap;have h:di n s-(k+1)=di n s-1-k:=ap
 have i:(di n s-k)*s=(di n s-1-k)*s+s:=by
  rw [show di n s-k=(di n s-1-k)+1 by omega,QM]
 have hl:k<(pZ n s).length:=by rw [js];exact hk
 refine ⟨?_,?_,?_⟩
 .rw [cZ _ _ hl];simp only [pZ,List.getElem_reverse,fj,fp,List.getElem_map,List.getElem_range,List.length_map,List.length_range];unfold bB;rw [h,i];simp only [Prod.mk.injEq,and_true];omega
 .unfold bB;rw [h,i];omega
 .unfold bB;omega
theorem yF (n s:Nat) (hs:1<=s):bB n s 0=n:=by
 unfold bB di;by_cases h:n=0
 .simp [h]
 .rw [if_neg h,Nat.sub_zero,QM];have h1:=Nat.div_add_mod (n-1) s;have i:=Nat.mod_lt (n-1) (show 0<s from hs);rw [Nat.mul_comm] at h1;omega
theorem Ot (n s:Nat):bB n s (di n s)=0:=by simp [bB]
theorem GV (a c:Nat):ir (List.range' a (c+1)) a=List.range' (a+1) c:=by
 unfold ir;rw [List.range'_succ,List.filter_cons,if_neg V3]
 exact List.filter_eq_self.2 λj h=>by
  rw [List.mem_range'_1] at h;simp only [QV];omega
theorem Aq (h:aU H w b i x a m) (hn:∀k,Mut b a k->¬H k) (o:∀k,w.heap.size<=k->¬H k) (hs:bK i) (B:(cC i x m.st)[m.nx]?=some y) (hk:Pd m y) (J: -9223372036854775808<=i.cfg.rate/\i.cfg.rate<=9223372036854775807) (O: -9223372036854775808<=i.cfg.mom/\i.cfg.mom<=9223372036854775807) (u v:N_):Vj 216 #[(au b),.pointer u,.pointer v] w λe C=>Vi e (QZ 0)/\Bn H (λ_=>False) b i x a m (λ_ m1=>m1=gY i x m y) w C:=by
 obtain ⟨V,Q,Y,Z⟩:=hk;have ⟨h1,U⟩:=dm B;have L:=yB B;have I:=hs.ok;rcases V with k | k | k | k
 .refine (Kn h hn o hs B k u v).mono λe C q=>?_
  have p:gY i x m y={m with G:=dh i m.P m.G (cI i.data (oY i x m.st y.n))}:=by
   unfold gY;rw [if_pos k,L]
  rw [p];exact q
 .refine (CJ h hn o hs B k Q u v).mono λe C q=>?_
  have p:gY i x m y={m with op:=m.op++[y.n]}:=by
   unfold gY;rw [if_neg ap,if_pos k]
  rw [p];exact q
 .have ⟨g,hg,g1,g2⟩:=xa U (.inr k);obtain ⟨j,R,rfl⟩:=List.getElem_of_mem hg;have N:=I.grp R;rw [cZ _ _ R] at N;have D:y.n<(ax i).buks.length:=ap;have A:=D;rw [Pln.buks,js] at A;have ⟨T,b2,b3⟩:=Dg I.bu A;have hr:aK (ax i).buks y.n=(bB (ax i).n (ax i).bu (y.n+1),bB (ax i).n (ax i).bu y.n):=T;refine (MU h hn o hs B k u v D (Y k) Q J O _ _ hr b2 b3).mono λe C q=>?_;have p:=gY.eq_1 i x m y;rw [if_neg ap,if_neg ap,if_pos k,hr] at p;rw [p];exact q
 .refine (CI h hn o hs B k (Z k) u v).mono λe C q=>?_
  have p:gY i x m y={m with rc:=m.rc++[(m.P,m.M)],G:=List.replicate (Vn i) 0}:=by
   unfold gY;rw [if_neg ap,if_neg ap,if_neg ap]
  rw [p];exact q
theorem Bu (i:Inp) (n:Nat):jX i (n+1)=jX i n++[dq i n]:=by
 unfold jX;rw [QL,List.map_append];rfl
theorem uC (h:y∈aE p x st):(y.a=none/\y.kind≠3/\y.kind≠4)\/∃a,y.a=some a/\y.kind=(if a.send then 3 else 4):=by
 unfold aE at h;simp only [QI,List.mem_map,List.mem_flatMap,List.mem_singleton] at h;rcases h with (⟨_,_,rfl⟩ | ⟨g,_,h⟩) | rfl
 .exact .inl ⟨rfl,(λe=>by cases e),(λe=>by cases e)⟩
 .unfold dt at h;simp only [QI,List.mem_map,List.mem_flatMap] at h;rcases h with (⟨_,_,rfl⟩ | ⟨_,_,_,_,_,_,h⟩) | ⟨_,_,rfl⟩
  .exact .inl ⟨rfl,(λe=>by cases e),(λe=>by cases e)⟩
  .unfold cz at h;obtain ⟨c,_,rfl⟩:=List.mem_map.1 h;exact .inr ⟨c,rfl,rfl⟩
  .exact .inl ⟨rfl,(λe=>by cases e),(λe=>by cases e)⟩
 .exact .inl ⟨rfl,(λe=>by cases e),(λe=>by cases e)⟩
theorem Bh (h:y∈iW i x k):(y.a=none/\y.kind≠3/\y.kind≠4)\/∃a,y.a=some a/\y.kind=(if a.send then 3 else 4):=by
 unfold iW at h;have ⟨st,_,h⟩:=List.mem_flatMap.1 h;exact uC h
def sN (i:Inp) (x p:Nat):Nat:=(ie ((dA i x).take p)).length
def rN (i:Inp) (x p:Nat):Nat:=(iz ((dA i x).take p)).length
def nxW (W x:Nat):Nat:=(x+1)%W
def pvW (W x:Nat):Nat:=(x+W-1)%W
theorem um (h:x<W):nxW W (pvW W x)=x:=by
 unfold nxW pvW;rw [Nat.mod_add_mod,show x+W-1+1=x+W by omega,Nat.add_mod_right,Nat.mod_eq_of_lt h]
theorem N6 (h:0<W):nxW W x<W:=Nat.mod_lt _ h
theorem lI (h:0<W):pvW W x<W:=Nat.mod_lt _ h
def can (i:Inp) (C:Nat) (pos:Nat->Nat) (x:Nat):Prop:=∃y,(dA i x)[pos x]?=some y/\(y.kind=3->sN i x (pos x)<rN i (nxW (ax i).W x) (pos (nxW (ax i).W x))+C)/\(y.kind=4->rN i x (pos x)<sN i (pvW (ax i).W x) (pos (pvW (ax i).W x)))
theorem OF {l:List Itm} {c:Cor} (h:(ie l)[n]?=some c):∃a∈cF l,a.send=true/\a.cor=c:=by
 have:=List.mem_of_getElem? h;simp only [ie,List.mem_map,List.mem_filter] at this;obtain ⟨a,⟨h1,i⟩,o⟩:=this;exact ⟨a,h1,i,o⟩
theorem Fx {l:List Itm} {c:Cor} (h:(iz l)[n]?=some c):∃a∈cF l,a.send=false/\a.cor=c:=by
 have:=List.mem_of_getElem? h;simp only [iz,List.mem_map,List.mem_filter] at this;obtain ⟨a,⟨h1,i⟩,o⟩:=this;exact ⟨a,h1,by simpa using i,o⟩
theorem jZ (l:List Itm) (k:Nat):l=l.take k++l.drop k:=(List.take_append_drop k l).symm
theorem M8 {l:List Itm} (o:(cF l).Pairwise λa b=>a.key wi<b.key wi) {r:Acn} (hr:r∈cF (l.drop k)):∃y,l[k]?=some y/\∀a,y.a=some a->a.key wi<=r.key wi:=by
 cases hd:l.drop k with
 | nil=>rw [hd] at hr;simp [cF] at hr
 | cons y t=>
  refine ⟨y,?_,λa p=>?_⟩
  .have:=List.getElem?_drop (xs:=l) (i:=k) (j:=0);rw [hd,Nat.add_zero] at this;exact this.symm
  .rw [jZ l k,fk,List.pairwise_append] at o;have h:=o.2.1;rw [hd] at h hr;have e:cF (y::t)=a::cF t:=by unfold cF;rw [List.filterMap_cons,p]
   rw [e] at h hr;rcases List.mem_cons.1 hr with rfl | u
   .exact PV _
   .exact Nat.le_of_lt ((List.pairwise_cons.1 h).1 r u)
theorem vi {l:List Itm} (h:(cF l).Pairwise λa b=>a.key wi<b.key wi) {a s:Acn} (p:l[k]?=some y) (o:y.a=some a) (hs:s∈cF (l.take k)):s.key wi<a.key wi:=by
 rw [jZ l k,fk,List.pairwise_append] at h;refine h.2.2 s hs a ?_;unfold cF;rw [List.mem_filterMap];refine ⟨y,?_,o⟩;have:=List.getElem?_drop (xs:=l) (i:=k) (j:=0);rw [Nat.add_zero,p] at this;exact List.mem_of_getElem? this
theorem zv {l:List Itm} {a:Acn} (p:l[k]?=some y) (h:y.a=some a) (hs:a.send=false):(iz l)[(iz (l.take k)).length]?=some a.cor:=by
 have o:l.drop k=y::l.drop (k+1):=by
  have ⟨h1,i⟩:=Qu.1 p;rw [List.drop_eq_getElem_cons h1,i]
 conv=>lhs;rw [jZ l k,wz]
 rw [Qx V3,List.take_append_drop,Nat.sub_self,o];unfold iz cF;rw [List.filterMap_cons,h];simp [hs]
theorem za {l:List Itm} {a:Acn} (p:l[k]?=some y) (h:y.a=some a) (hs:a.send=true):(ie l)[(ie (l.take k)).length]?=some a.cor:=by
 have o:l.drop k=y::l.drop (k+1):=by
  have ⟨h1,i⟩:=Qu.1 p;rw [List.drop_eq_getElem_cons h1,i]
 conv=>lhs;rw [jZ l k,vZ]
 rw [Qx V3,List.take_append_drop,Nat.sub_self,o];unfold ie cF;rw [List.filterMap_cons,h];simp [hs]
def opF (s:Nat×Nat) (y:Itm):Nat×Nat:=if y.kind=2 then (s.1,s.2+1) else if y.kind=5 then (s.1+1,s.2) else s
def pS (wi nb:Nat):Nat×Nat->List Itm->Prop
 | _,[]=>True
 | s,y::r=>(y.kind=2->y.n=s.2/\s.2<nb/\s.2+1<=s.1+wi)/\(y.kind=5->y.n=s.1/\s.1<s.2)/\pS wi nb (opF s y) r
theorem km (wi nb:Nat):∀(l r:List Itm) (s:Nat×Nat),pS wi nb s (l++r)↔pS wi nb s l/\pS wi nb (l.foldl opF s) r
 | [],r,s=>by simp [pS]
 | y::l,r,s=>by
  have:=km wi nb l r (opF s y);simp only [List.cons_append,pS,List.foldl_cons,this,and_assoc]
theorem qD:∀{l:List Itm} {s:Nat×Nat} {k:Nat} {y:Itm},pS wi nb s l->l[k]?=some y->(y.kind=2->y.n=((l.take k).foldl opF s).2/\((l.take k).foldl opF s).2<nb/\((l.take k).foldl opF s).2+1<=((l.take k).foldl opF s).1+wi)/\(y.kind=5->y.n=((l.take k).foldl opF s).1/\((l.take k).foldl opF s).1<((l.take k).foldl opF s).2)
 | [],_,_,_,_,h=>by simp at h
 | z::l,s,0,y,hr,h=>by
  simp only [Qp,Option.some.injEq] at h;subst h;exact ⟨hr.1,hr.2.1⟩
 | z::l,s,k+1,y,hr,h=>by
  rw [Qo] at h;exact qD (l:=l) hr.2.2 h
theorem zP:∀{l:List Itm} {s:Nat×Nat},pS wi nb s l->s.1<=s.2->s.2<=nb->s.2<=s.1+wi->∀k,((l.take k).foldl opF s).1<=((l.take k).foldl opF s).2/\((l.take k).foldl opF s).2<=nb/\((l.take k).foldl opF s).2<=((l.take k).foldl opF s).1+wi
 | [],s,_,h1,h2,h3,k=>by simpa using ⟨h1,h2,h3⟩
 | y::l,s,h,h1,h2,h3,0=>⟨h1,h2,h3⟩
 | y::l,s,h,h1,h2,h3,k+1=>by
  have hk:(opF s y).1<=(opF s y).2/\(opF s y).2<=nb/\(opF s y).2<=(opF s y).1+wi:=by
   unfold opF;by_cases i:y.kind=2
   .rw [if_pos i];have:=h.1 i;exact ⟨ap,ap,ap⟩
   .rw [if_neg i];by_cases o:y.kind=5
    .rw [if_pos o];have:=h.2.1 o;exact ⟨ap,h2,ap⟩
    .rw [if_neg o];exact ⟨h1,h2,h3⟩
  exact zP h.2.2 hk.1 hk.2.1 hk.2.2 k
theorem qC:∀{l:List Itm} (s:Nat×Nat),(∀y∈l,y.kind≠2/\y.kind≠5)->pS wi nb s l/\l.foldl opF s=s
 | [],s,_=>⟨trivial,rfl⟩
 | y::l,s,h=>by
  have i:=h y V3;have e:opF s y=s:=by unfold opF;rw [if_neg i.1,if_neg i.2]
  have o:=qC (l:=l) s λz p=>h z (by simp [p]);refine ⟨⟨λk=>absurd k i.1,λk=>absurd k i.2,?_⟩,?_⟩
  .rw [e];exact o.1
  .rw [List.foldl_cons,e];exact o.2
theorem rr (st u:Nat):∀(k l:Nat),l+k<=nb->l+k<=u+wi->pS wi nb (u,l) ((List.range' l k).map λj=>(⟨2,st,j,none⟩:Itm))/\((List.range' l k).map λj=>(⟨2,st,j,none⟩:Itm)).foldl opF (u,l)=(u,l+k)
 | 0,l,_,_=>⟨trivial,rfl⟩
 | k+1,l,h1,h2=>by
  rw [List.range'_succ,List.map_cons];have h:=rr st u k (l+1) ap ap;refine ⟨⟨λ_=>⟨rfl,by show l<nb;omega,by show l+1<=u+wi;omega⟩,λi=>(by cases i),h.1⟩,?_⟩;rw [List.foldl_cons]
  show List.foldl opF (u,l+1) _=_
  rw [h.2]
  congr 1;omega
theorem wO (st l:Nat):∀(k u:Nat),u+k<=l->pS wi nb (u,l) ((List.range' u k).map λj=>(⟨5,st,j,none⟩:Itm))/\((List.range' u k).map λj=>(⟨5,st,j,none⟩:Itm)).foldl opF (u,l)=(u+k,l)
 | 0,u,_=>⟨trivial,rfl⟩
 | k+1,u,h1=>by
  rw [List.range'_succ,List.map_cons];have h:=wO st l k (u+1) ap;refine ⟨⟨λi=>(by cases i),λ_=>⟨rfl,by show u<l;omega⟩,h.1⟩,?_⟩;rw [List.foldl_cons]
  show List.foldl opF (u+1,l) _=_
  rw [h.2]
  congr 1;omega
theorem JU (x st:Nat) (g:Rg) (h1:g.1<=g.2) (v:g.2<=Vq p) (A:g.2<=g.1+p.wi):pS p.wi (Vq p) (g.1,g.1) (dt p x st g)/\(dt p x st g).foldl opF (g.1,g.1)=(g.2,g.2):=by
 have a1:=rr (wi:=p.wi) (nb:=Vq p) st g.1 (g.2-g.1) g.1 ap ap;have u:g.1+(g.2-g.1)=g.2:=ap;rw [u] at a1
 have i:=qC (wi:=p.wi) (nb:=Vq p) (l:=(List.range 2).flatMap λph=>(List.range (p.W-1)).flatMap λr=>(List.range' g.1 (g.2-g.1)).flatMap λj=>cz p x st ph r j) (g.1,g.2) (λy h=>by
  simp only [List.mem_flatMap] at h;obtain ⟨_,_,_,_,_,_,h⟩:=h;unfold cz at h;obtain ⟨c,_,rfl⟩:=List.mem_map.1 h;unfold fy
  split<;>exact ⟨λe=>(by cases e),λe=>(by cases e)⟩)
 have o:=wO (wi:=p.wi) (nb:=Vq p) st g.2 (g.2-g.1) g.1 ap;rw [u] at o;unfold dt;refine ⟨?_,?_⟩
 .rw [km,km,List.foldl_append,a1.2,i.2];exact ⟨⟨a1.1,i.1⟩,o.1⟩
 .rw [List.foldl_append,List.foldl_append,a1.2,i.2,o.2]
theorem rt (i:bU p) (x st:Nat):∀k,k<=di (Vq p) p.wi->pS p.wi (Vq p) (0,0) (((List.range k).map λj=>((j*p.wi,min (j*p.wi+p.wi) (Vq p)):Rg)).flatMap (dt p x st))/\(((List.range k).map λj=>((j*p.wi,min (j*p.wi+p.wi) (Vq p)):Rg)).flatMap (dt p x st)).foldl opF (0,0)=(min (k*p.wi) (Vq p),min (k*p.wi) (Vq p))
 | 0,_=>⟨trivial,by simp⟩
 | k+1,hk=>by
  have h:=rt i x st k ap;have u:=iH (n:=Vq p) (size:=p.wi) (k:=k) ap;have o:min (k*p.wi) (Vq p)=k*p.wi:=ap;have hg:=JU (p:=p) x st (k*p.wi,min (k*p.wi+p.wi) (Vq p)) (by show k*p.wi<=_;omega) (by show min _ _<=_;omega) (by show min _ _<=_;omega);rw [QL,List.map_append,List.flatMap_append,km,List.foldl_append,h.2,o];simp only [List.map_cons,List.map_nil,List.flatMap_cons,List.flatMap_nil,List.append_nil];rw [QM];exact ⟨⟨h.1,hg.1⟩,hg.2⟩
theorem iC (o:bU p) (x st:Nat):pS p.wi (Vq p) (0,0) (aE p x st)/\(aE p x st).foldl opF (0,0)=(Vq p,Vq p):=by
 have a1:=qC (wi:=p.wi) (nb:=Vq p) (l:=(List.range p.mi).map λa=>(⟨1,st,a,none⟩:Itm)) (0,0) (λy i=>by obtain ⟨_,_,rfl⟩:=List.mem_map.1 i;exact ⟨λe=>(by cases e),λe=>(by cases e)⟩);have h:=rt o x st _ (PV _)
 have A:min (di (Vq p) p.wi*p.wi) (Vq p)=(Vq p):=by
  have:=yF (Vq p) p.wi o.wi;unfold bB at this
  rwa [Nat.sub_zero] at this
 rw [A] at h;have u:=qC (wi:=p.wi) (nb:=Vq p) (l:=[(⟨6,st,0,none⟩:Itm)]) (Vq p,Vq p) (λy i=>by rw [List.mem_singleton.1 i];exact ⟨λe=>(by cases e),λe=>(by cases e)⟩);have v:p.grps=(List.range (di (Vq p) p.wi)).map λj=>((j*p.wi,min (j*p.wi+p.wi) (Vq p)):Rg):=rfl;unfold aE;rw [v];refine ⟨?_,?_⟩
 .rw [km,km,List.foldl_append,a1.2,h.2];exact ⟨⟨a1.1,h.1⟩,u.1⟩
 .rw [List.foldl_append,List.foldl_append,a1.2,h.2];exact u.2
def opP (p:Pln) (x st nx:Nat):Nat×Nat:=((aE p x st).take nx).foldl opF (0,0)
theorem sQ (h:bU p) (x st nx:Nat):(opP p x st nx).1<=(opP p x st nx).2/\(opP p x st nx).2<=p.buks.length/\(opP p x st nx).2<=(opP p x st nx).1+p.wi:=
 zP (iC h x st).1 (PV _) (PZ _) (PZ _) nx
theorem jn (h:(aE p x st)[nx]?=some y):opP p x st (nx+1)=opF (opP p x st nx) y:=by
 unfold opP;rw [List.take_add_one,h,List.foldl_append];rfl
theorem DY (i:bU p) (h:(aE p x st).length<=nx):opP p x st nx=(p.buks.length,p.buks.length):=by
 unfold opP;rw [List.take_of_length_le h];exact (iC i x st).2
def opL (p:Pln) (x st nx:Nat):List Nat:=List.range' (opP p x st nx).1 ((opP p x st nx).2-(opP p x st nx).1)
theorem DZ (h:bU p) (x st nx:Nat):(opL p x st nx).length<=p.wi/\(opL p x st nx).length<=p.buks.length:=by
 have:=sQ h x st nx;unfold opL;rw [List.length_range'];omega
theorem yj (j:Nat):∀(l:List Itm) (s:Nat×Nat) (wi nb:Nat),pS wi nb s l->s.1<=s.2->l.foldl (jw j) (decide (s.1<=j/\j<s.2))=decide ((l.foldl opF s).1<=j/\j<(l.foldl opF s).2)
 | [],s,_,_,_,_=>rfl
 | y::l,s,wi,nb,h,hs=>by
  rw [List.foldl_cons,List.foldl_cons]
  have e:jw j (decide (s.1<=j/\j<s.2)) y=decide ((opF s y).1<=j/\j<(opF s y).2)/\(opF s y).1<=(opF s y).2:=by
   unfold jw opF;by_cases o:y.kind=2
   .have hn:=h.1 o;rw [if_pos o];refine ⟨?_,by show s.1<=s.2+1;omega⟩;by_cases i:y.n=j
    .rw [if_neg (show ¬(y.kind=5/\y.n=j) by omega),if_pos ⟨o,i⟩];exact (QS (show s.1<=j/\j<s.2+1 by omega)).symm
    .rw [if_neg (λh=>i h.2),if_neg (λh=>i h.2)];exact decide_eq_decide.2 (show (s.1<=j/\j<s.2)↔(s.1<=j/\j<s.2+1) by omega)
   .rw [if_neg o];by_cases p:y.kind=5
    .have hn:=h.2.1 p;rw [if_pos p];refine ⟨?_,by show s.1+1<=s.2;omega⟩;by_cases i:y.n=j
     .rw [if_pos ⟨p,i⟩];exact (QT (show ¬(s.1+1<=j/\j<s.2) by omega)).symm
     .rw [if_neg (λh=>i h.2),if_neg (λh=>i h.2)];exact decide_eq_decide.2 (show (s.1<=j/\j<s.2)↔(s.1+1<=j/\j<s.2) by omega)
    .rw [if_neg p];exact ⟨by simp [o,p],hs⟩
  rw [e.1];exact yj j l (opF s y) wi nb h.2.2 e.2
theorem xx (u:bU (ax i)) (o:nx<=(aE (ax i) x 0).length):∀{k:Nat},st<k->(iW i x k).take (st*(aE (ax i) x 0).length+nx)=iW i x st++(aE (ax i) x st).take nx
 | 0,h=>absurd h (Nat.not_lt_zero _)
 | k+1,h=>by
  have hl:=kD u x k;rw [im];rcases Qf st k with p | p
  .have h1:=QY (aE (ax i) x 0).length (Nat.succ_le_of_lt p);rw [QM] at h1;rw [List.take_append_of_le_length ap];exact xx u o p
  .obtain rfl:st=k:=ap;rw [List.take_append,hl,List.take_of_length_le ap,Nat.add_sub_cancel_left]
theorem pX (o:bU (ax i)) (x j:Nat):∀k,(iW i x k).foldl (jw j) false=decide ((ax i).buks.length<=j/\j<(ax i).buks.length)
 | 0=>(QT ap).symm
 | k+1=>by
  rw [im,List.foldl_append,pX o x j k];have h:=yj j _ (0,0) _ _ (iC o x k).1 (PV _);rw [(iC o x k).2] at h;have e:decide ((ax i).buks.length<=j/\j<(ax i).buks.length)=decide ((0:Nat)<=j/\j<0):=decide_eq_decide.2 ap;exact (congrArg (λb=>(aE (ax i) x k).foldl (jw j) b) e).trans h
theorem M6 (p:bU (ax i)) (j:Nat) (u:nx<=(aE (ax i) x 0).length) (o:st<i.cfg.steps.toNat):vB (dA i x) (st*(aE (ax i) x 0).length+nx) j=decide ((opP (ax i) x st nx).1<=j/\j<(opP (ax i) x st nx).2):=by
 unfold vB;rw [xx p u o,List.foldl_append,pX p];have v:=(iC p x st).1;rw [<-List.take_append_drop nx (aE (ax i) x st),km] at v;have h:=yj j _ (0,0) _ _ v.1 (PV _);have e:decide ((ax i).buks.length<=j/\j<(ax i).buks.length)=decide ((0:Nat)<=j/\j<0):=decide_eq_decide.2 ap;rw [e];exact h
theorem qL (u l:Nat) (h:u<=l):∀n,((List.range n).filter λj=>decide (u<=j/\j<l))=List.range' u (min l n-u)
 | 0=>by simp
 | n+1=>by
  rw [QL,List.filter_append,qL u l h n];by_cases hc:u<=n/\n<l
  .rw [show min l (n+1)-u=(min l n-u)+1 by omega,List.range'_concat];simp [hc];omega
  .have e:min l (n+1)-u=min l n-u:=ap;rw [e,List.filter_cons_of_neg (by simpa using hc)];simp
theorem N4 (p:bU (ax i)) (o:nx<=(aE (ax i) x 0).length) (h:st<i.cfg.steps.toNat):oV (dA i x) (st*(aE (ax i) x 0).length+nx) (ax i).buks.length=opL (ax i) x st nx:=by
 have u:=sQ p x st nx;unfold oV opL;simp only [M6 p _ o h];rw [qL _ _ u.1,show min (opP (ax i) x st nx).2 (ax i).buks.length=(opP (ax i) x st nx).2 by omega]
theorem ML (h:bU (ax i)) (x:Nat):oV (dA i x) (i.cfg.steps.toNat*(aE (ax i) x 0).length) (ax i).buks.length=[]:=by
 unfold oV;rw [List.filter_eq_nil_iff];intro j _;unfold vB;rw [List.take_of_length_le (by rw [kD h];exact PV _),pX h];simp
theorem rC (u:bU p) (i:(aE p x st)[nx]?=some y):(y.kind=6↔nx+1=(aE p x st).length):=by
 have hn:=(Qu.1 i).1;have e:aE p x st=((List.range p.mi).map (λa=>(⟨1,st,a,none⟩:Itm))++p.grps.flatMap (dt p x st))++[⟨6,st,0,none⟩]:=rfl;generalize hf:(List.range p.mi).map (λa=>(⟨1,st,a,none⟩:Itm))++p.grps.flatMap (dt p x st)=front at e;have hl:(aE p x st).length=front.length+1:=by rw [e];simp
 rcases Qf nx front.length with h | h
 .have hm:y∈front:=by
   rw [e,Qw h] at i;exact List.mem_of_getElem? i
  have hk:y.kind≠6:=by
   rw [<-hf] at hm;rcases QI.1 hm with hm | hm
   .obtain ⟨_,_,rfl⟩:=List.mem_map.1 hm;exact λe=>by cases e
   .have ⟨g,_,hm⟩:=List.mem_flatMap.1 hm;unfold dt at hm;simp only [QI,List.mem_map,List.mem_flatMap] at hm;rcases hm with (⟨_,_,rfl⟩ | ⟨_,_,_,_,_,_,hm⟩) | ⟨_,_,rfl⟩
    .exact λe=>by cases e
    .unfold cz at hm;obtain ⟨c,_,rfl⟩:=List.mem_map.1 hm;unfold fy
     split<;>exact λe=>by cases e
    .exact λe=>by cases e
  exact ⟨λe=>absurd e hk,λe=>ap⟩
 .have o:nx=front.length:=ap;subst o;rw [e] at i;simp at i;subst i;exact ⟨λ_=>hl.symm,λ_=>rfl⟩
theorem jp (h:y∈aE p x st) (hn:y.a=none):y.kind=1\/y.kind=2\/y.kind=5\/y.kind=6:=by
 unfold aE at h;simp only [QI,List.mem_map,List.mem_flatMap,List.mem_singleton] at h;rcases h with (⟨_,_,rfl⟩ | ⟨g,_,h⟩) | rfl
 .exact .inl rfl
 .unfold dt at h;simp only [QI,List.mem_map,List.mem_flatMap] at h;rcases h with (⟨_,_,rfl⟩ | ⟨_,_,_,_,_,_,h⟩) | ⟨_,_,rfl⟩
  .exact .inr (.inl rfl)
  .unfold cz at h;obtain ⟨c,_,rfl⟩:=List.mem_map.1 h
   cases hn
  .exact .inr (.inr (.inl rfl))
 .exact .inr (.inr (.inr rfl))
structure MOk (i:Inp) (x:Nat) (m:Mst):Prop where
 op:m.op=opL (ax i) x m.st m.nx
 rc:m.rc.length=m.st+1
 rl:∀y∈m.rc,y.1.length=i.start.length/\y.2.length=i.start.length
 lP:m.P.length=i.start.length
 lM:m.M.length=i.start.length
 lG:m.G.length=i.start.length
 ps:(m.st<i.cfg.steps.toNat/\m.nx<(aE (ax i) x 0).length)\/(m.st=i.cfg.steps.toNat/\m.nx=0)
theorem MOk.zero (x:Nat):MOk i x (fm i):=by
 refine ⟨rfl,rfl,λy o=>?_,rfl,by simp [fm],by simp [fm],?_⟩
 .simp only [fm,List.mem_singleton] at o;subst o;exact ⟨rfl,by simp⟩
 .by_cases h:0<i.cfg.steps.toNat
  .exact .inl ⟨h,jU _ _ _⟩
  .exact .inr ⟨by show 0=_;omega,rfl⟩
theorem MOk.opn (hs:bK i) (h:MOk i x m):m.op=oV (dA i x) (bq i x m) (ax i).buks.length:=by
 rw [h.op];unfold bq;rcases h.ps with ⟨h1,o⟩ | ⟨h1,o⟩
 .exact (N4 hs.ok (Nat.le_of_lt o) h1).symm
 .rw [h1,o,Nat.add_zero,ML hs.ok];rfl
theorem MOk.done (hs:bK i) (h:MOk i x m):bq i x m<=(dA i x).length:=by
 rw [kD hs.ok];unfold bq;rcases h.ps with ⟨h1,o⟩ | ⟨h1,o⟩
 .have:=QY (aE (ax i) x 0).length (Nat.succ_le_of_lt h1);rw [QM] at this;omega
 .rw [h1,o];omega
theorem MOk.cur (hs:bK i) (h:MOk i x m):(cC i x m.st)[m.nx]?=(dA i x)[bq i x m]?:=by
 rcases h.ps with ⟨h1,o⟩ | ⟨h1,o⟩
 .have p:=Qv (l:=aE (ax i) x m.st) (i:=m.nx) (by rw [ku hs.ok];exact o);have:=Ep hs.ok p h1;unfold cC bq;rw [if_pos h1,this,p]
 .unfold cC bq;rw [if_neg ap,List.getElem?_nil,List.getElem?_eq_none (by rw [kD hs.ok,h1];omega)]
theorem MOk.okAt (hs:bK i) (h:MOk i x m) (o:(cC i x m.st)[m.nx]?=some y) (hn:y.a=none):Pd m y:=by
 have ⟨h1,v⟩:=dm o;have hc:cC i x m.st=aE (ax i) x m.st:=if_pos h1;rw [hc] at o;have u:=qD (iC hs.ok x m.st).1 o;have B:=(DZ hs.ok x m.st m.nx).2;have A:=hs.ok.buks;have p:=hs.s;refine ⟨jp v hn,by rw [h.op];omega,λC=>?_,λ_=>by rw [h.rc];omega⟩;rw [h.op];have:=(u.2 C).2;unfold opL;rw [List.length_range']
 show 0<(opP (ax i) x m.st m.nx).2-(opP (ax i) x m.st m.nx).1
 unfold opP;omega
theorem MOk.next (hs:bK i) (h:MOk i x m) (A:(cC i x m.st)[m.nx]?=some y) (h1:m1.st=m.st) (R:m1.nx=m.nx) (hP:m1.P.length=Vn i) (O:m1.M.length=Vn i) (Q:m1.G.length=Vn i) (I:m1.op=if y.kind=2 then m.op++[y.n] else if y.kind=5 then ir m.op y.n else m.op) (v:m1.rc=if y.kind=6 then m.rc++[(m.P,m.M)] else m.rc):MOk i x (adv i x m1):=by
 have ⟨g1,Y⟩:=dm A;have hc:cC i x m.st=aE (ax i) x m.st:=if_pos g1;rw [hc] at A;have N:=qD (iC hs.ok x m.st).1 A;have Z:=sQ hs.ok x m.st m.nx;have L:=jn A;have V:=ku hs.ok x m.st;have u:=rC hs.ok A;have U:=(Qu.1 A).1
 have D:m1.op=opL (ax i) x m.st (m.nx+1):=by
  rw [I,h.op];unfold opL;rw [L];unfold opF;change (y.kind=2->y.n=(opP (ax i) x m.st m.nx).2/\(opP (ax i) x m.st m.nx).2<_/\_)/\(y.kind=5->y.n=(opP (ax i) x m.st m.nx).1/\(opP (ax i) x m.st m.nx).1<(opP (ax i) x m.st m.nx).2) at N;by_cases H:y.kind=2
  .rw [if_pos H,if_pos H];have:=(N.1 H).1
   show _=List.range' (opP (ax i) x m.st m.nx).1 ((opP (ax i) x m.st m.nx).2+1-(opP (ax i) x m.st m.nx).1)
   rw [show (opP (ax i) x m.st m.nx).2+1-(opP (ax i) x m.st m.nx).1=((opP (ax i) x m.st m.nx).2-(opP (ax i) x m.st m.nx).1)+1 by omega,List.range'_concat,this]
   congr 2
   omega
  .rw [if_neg H,if_neg H];by_cases B:y.kind=5
   .rw [if_pos B,if_pos B];have T:=N.2 B;rw [T.1]
    show _=List.range' ((opP (ax i) x m.st m.nx).1+1) ((opP (ax i) x m.st m.nx).2-((opP (ax i) x m.st m.nx).1+1))
    rw [show (opP (ax i) x m.st m.nx).2-(opP (ax i) x m.st m.nx).1=((opP (ax i) x m.st m.nx).2-((opP (ax i) x m.st m.nx).1+1))+1 by omega,GV]
   .rw [if_neg B,if_neg B]
 have p:∀z∈m1.rc,z.1.length=Vn i/\z.2.length=(Vn i):=by
  rw [v]
  split
  .intro z C;rcases QI.1 C with C | C
   .exact h.rl z C
   .rw [List.mem_singleton.1 C];exact ⟨h.lP,h.lM⟩
  .exact h.rl
 unfold adv;rw [R,h1,hc];by_cases o:m.nx+1<(aE (ax i) x m.st).length
 .rw [if_pos o];refine ⟨by show m1.op=opL _ _ m.st (m.nx+1);exact D,?_,p,hP,O,Q,.inl ⟨by show m.st<_;omega,by show m.nx+1<_;omega⟩⟩
  show m1.rc.length=m.st+1
  rw [v,if_neg (λe=>by have:=u.1 e;omega)];exact h.rc
 .rw [if_neg o];have hl:m.nx+1=(aE (ax i) x m.st).length:=ap;refine ⟨?_,?_,p,hP,O,Q,?_⟩
  .show m1.op=opL _ _ (m.st+1) 0
   rw [D];unfold opL;rw [DY hs.ok (Nat.le_of_eq hl.symm),Nat.sub_self];rfl
  .show m1.rc.length=m.st+1+1
   rw [v,if_pos (u.2 hl),Qt,h.rc];rfl
  .by_cases J:m.st+1<i.cfg.steps.toNat
   .exact .inl ⟨J,jU _ _ _⟩
   .exact .inr ⟨by show m.st+1=_;omega,rfl⟩
theorem zo {l:List Rg} (h:l.length<=j):aK l j=(0,0):=by simp [aK,List.getD,h]
theorem Oo {s:Rg} (hc:1<=c):∀r∈chR s c,s.1<=r.1/\r.1<r.2/\(s.1<=s.2->r.2<=s.2):=by
 intro r hr;simp only [chR,shR,fp,List.map_map,List.mem_map,List.mem_range,Function.comp] at hr;obtain ⟨j,i,rfl⟩:=hr;have:=iH i;refine ⟨by simp only;omega,by simp only;omega,λh=>by simp only;omega⟩
def NW (p:Pln) (x:Nat) (t:Tg):Rg:=aK (chR (aK (dy (aK p.buks t.b.toNat) p.W) (cH p.W x t.c.toNat t.d.toNat)) p.ck) t.e.toNat
theorem wn {bk:Nat} {b:Rg} {ph:Nat} {a:Acn} (h:a∈db st bk b W c x ph r):
  ∃i,a.at'=aK (chR (aK (dy b W) i) c) a.ch/\a.ch<(chR (aK (dy b W) i) c).length/\(a.send=false->i=cH W x ph r):=by
 unfold db iR at h;have ⟨k,hk,h⟩:=List.mem_flatMap.1 h;rw [QI] at h;rcases h with h | h<;>split at h
 .rename_i hl
  simp only [List.mem_singleton] at h;subst h;exact ⟨cV W x ph r,rfl,hl,λe=>by cases e⟩
 .simp at h
 .rename_i hl
  simp only [List.mem_singleton] at h;subst h;exact ⟨cH W x ph r,rfl,hl,λ_=>rfl⟩
 .simp at h
theorem iU (h:y∈aE p x st) {a:Acn} (i:y.a=some a):y.kind=(if a.send then 3 else 4)/\a.st=st/\a∈db st a.bk (aK p.buks a.bk) p.W p.ck x a.ph a.rd:=by
 unfold aE at h;simp only [QI,List.mem_map,List.mem_flatMap,List.mem_singleton] at h;rcases h with (⟨_,_,rfl⟩ | ⟨g,_,h⟩) | rfl
 .cases i
 .unfold dt at h;simp only [QI,List.mem_map,List.mem_flatMap] at h;rcases h with (⟨_,_,rfl⟩ | ⟨ph,_,r,_,j,_,h⟩) | ⟨_,_,rfl⟩
  .cases i
  .unfold cz at h;obtain ⟨c,hc,rfl⟩:=List.mem_map.1 h;simp only [fy,Option.some.injEq] at i;subst i;have ⟨o,A,u,v,_⟩:=lX hc;refine ⟨rfl,o,?_⟩;rw [A,u,v];exact hc
  .cases i
 .cases i
theorem yK (u:bU p) (h:y∈aE p x st) {a:Acn} (B:y.a=some a):a.at'.1<a.at'.2/\a.at'.2<=p.n:=by
 have ⟨_,_,C⟩:=iU h B;have ⟨o,A,v,_⟩:=wn C;have hm:=List.getElem_mem v;rw [<-cZ _ _ v,<-A] at hm;have hc:=Oo u.ck _ hm
 have hb:(aK p.buks a.bk).1<=(aK p.buks a.bk).2/\(aK p.buks a.bk).2<=p.n:=by
  rcases Qf a.bk (Vq p) with i | i
  .have:=Ek _ (List.getElem_mem i);rw [<-cZ _ _ i] at this;exact this
  .have:aK p.buks a.bk=(0,0):=zo i;rw [this];simp
 have hs:(aK (dy (aK p.buks a.bk) p.W) o).1<=(aK (dy (aK p.buks a.bk) p.W) o).2/\(aK (dy (aK p.buks a.bk) p.W) o).2<=(aK p.buks a.bk).2:=by
  rcases Qf o (dy (aK p.buks a.bk) p.W).length with i | i
  .have:=DF u.W1 hb.1 _ (List.getElem_mem i);rw [<-cZ _ _ i] at this;exact this
  .have:aK (dy (aK p.buks a.bk) p.W) o=(0,0):=zo i;rw [this];simp
 have:=hc.2.2 hs.1;exact ⟨hc.2.1,ap⟩
theorem LT (h:y∈aE p x st) {a:Acn} (u:y.a=some a) (hr:a.send=false):a.at'=NW p x a.tg:=by
 have ⟨_,_,v⟩:=iU h u;have ⟨A,i,_,o⟩:=wn v;rw [i,o hr];rfl
def Ma (i:Inp) (x:Nat) (s:LSt):Prop:=∀j,j<s.msgs.length->W64 (aO s.msgs j).vals/\((aO s.msgs j).tag.a=999\/(aO s.msgs j).vals.length=(NW (ax i) x (aO s.msgs j).tag).2-(NW (ax i) x (aO s.msgs j).tag).1)
theorem Ma.len (hs:bK i) {s:LSt} (h:Ma i x s) (B:st<i.cfg.steps.toNat) (A:y∈aE (ax i) x st) {a:Acn} (v:y.a=some a) (hr:a.send=false) (u:s.recv<s.msgs.length) (p:(aO s.msgs s.recv).tag=a.tg): (aO s.msgs s.recv).vals.length=a.at'.2-a.at'.1/\W64 (aO s.msgs s.recv).vals:=by
 have ⟨h1,o⟩:=h _ u;refine ⟨?_,h1⟩;rw [LT A v hr,<-p];rcases o with o | o
 .exfalso;rw [p] at o;have e:a.tg.a=(a.st:Int):=rfl;rw [e,(iU A v).2.1] at o;have:=hs.s;omega
 .exact o
inductive jG (i:Inp) (x:Nat) (m:Mst) (s t:LSt):Mst->LSt->LSt->Nat->Prop
 | fin:(cC i x m.st).length<=m.nx->jG i x m s t m s t 13
 | own (y:Itm):(cC i x m.st)[m.nx]?=some y->y.a=none->jG i x m s t (adv i x (gY i x m y)) s t 0
 | send (y:Itm) (a:Acn):(cC i x m.st)[m.nx]?=some y->y.a=some a->y.kind=3->t.msgs.length<t.recv+t.cap->jG i x m s t (adv i x m) s (t.send ⟨a.tg,(m.G.drop a.at'.1).take (a.at'.2-a.at'.1)⟩) 0
 | full (y:Itm) (a:Acn):(cC i x m.st)[m.nx]?=some y->y.a=some a->y.kind=3->t.msgs.length=t.recv+t.cap->jG i x m s t m s t 11
 | recv (y:Itm) (a:Acn):(cC i x m.st)[m.nx]?=some y->y.a=some a->y.kind=4->s.recv<s.msgs.length->(aO s.msgs s.recv).tag=a.tg->jG i x m s t (adv i x {m with G:=iK m.G a.at'.1 (aO s.msgs s.recv).vals a.add}) {s with recv:=s.recv+1} t 0
 | none (y:Itm) (a:Acn):(cC i x m.st)[m.nx]?=some y->y.a=some a->y.kind=4->s.recv=s.msgs.length->jG i x m s t m s t 12
 | other (y:Itm) (a:Acn):(cC i x m.st)[m.nx]?=some y->y.a=some a->y.kind=4->s.recv<s.msgs.length->(aO s.msgs s.recv).tag≠a.tg->jG i x m s t m s t 10
theorem Ez (i:Inp) (x:Nat) (m:Mst) (s t:LSt) (hs:s.recv<=s.msgs.length) (u:t.msgs.length<=t.recv+t.cap):∃m1 s1 t1 C,jG i x m s t m1 s1 t1 C:=by
 cases hy:(cC i x m.st)[m.nx]? with
 | none=>exact ⟨_,_,_,_,.fin (by rw [List.getElem?_eq_none_iff] at hy;exact hy)⟩
 | some y=>
  cases ha:y.a with
  | none=>exact ⟨_,_,_,_,.own y hy ha⟩
  | some a=>
   have hk:=(iU (dm hy).2 ha).1;by_cases h:a.send=true
   .rw [if_pos h] at hk;by_cases o:t.msgs.length<t.recv+t.cap
    .exact ⟨_,_,_,_,.send y a hy ha hk o⟩
    .exact ⟨_,_,_,_,.full y a hy ha hk ap⟩
   .rw [if_neg h] at hk;by_cases p:s.recv=s.msgs.length
    .exact ⟨_,_,_,_,.none y a hy ha hk p⟩
    .by_cases he:(aO s.msgs s.recv).tag=a.tg
     .exact ⟨_,_,_,_,.recv y a hy ha hk ap he⟩
     .exact ⟨_,_,_,_,.other y a hy ha hk ap he⟩
theorem oD (h:y∈aE p x st) {a:Acn} (i:y.a=some a) (hk:y.kind=4):a.send=false:=by
 have:=(iU h i).1
 cases hse:a.send with
 | true=>rw [hse,hk] at this;cases this
 | false=>rfl
theorem uq (l:List Msg) (y:Msg) (j:Nat):aO (l++[y]) j=if j<l.length then aO l j else if j=l.length then y else Msg.zero:=by
 unfold aO;simp only [List.getD_eq_getElem?_getD];by_cases h:j<l.length
 .rw [if_pos h,Qw h]
 .rw [if_neg h,Qx ap];by_cases i:j=l.length
  .rw [if_pos i];subst i;simp
  .rw [if_neg i,List.getElem?_eq_none V6];rfl
theorem jG.ok (hs:bK i) {s t s1 t1:LSt} (h:jG i x m s t m1 s1 t1 C) (hm:MOk i x m):MOk i x m1:=by
 cases h with
 | fin=>exact hm
 | own y hy ha=>
  have o:=hm.okAt hs hy ha;have lG:(dh i m.P m.G (cI i.data (oY i x y.st y.n))).length=(Vn i):=mX _ _ hm.lG;refine hm.next hs hy ?_ ?_ ?_ ?_ ?_ ?_ ?_<;>unfold gY<;>rcases o.1 with k | k | k | k<;>simp only [k]<;>first | rfl | simp [hm.lP,hm.lM,hm.lG,lG,oN,oQ]
 | send y a hy ha hk=>exact hm.next hs hy rfl rfl hm.lP hm.lM hm.lG (by rw [if_neg ap,if_neg ap]) (by rw [if_neg ap])
 | full=>exact hm
 | recv y a hy ha hk=>exact hm.next hs hy rfl rfl hm.lP hm.lM (by show (iK _ _ _ _).length=_;rw [qM];exact hm.lG) (by rw [if_neg ap,if_neg ap]) (by rw [if_neg ap])
 | none=>exact hm
 | other=>exact hm
theorem pL (A:N_) (zs:Q_) (c:Nat) (w:R8) (hA:Rd w A (aA .i64 zs)) (hl:zs.length<=17592186043904):Vj 165 #[.slice A zs.length c] w λe y=>∃x u,Vi e (.slice x zs.length u)/\y.ownsRow w.heap.size 2 1 (.slice x zs.length u) zs.length (aA .i64 zs)/\aq w y:=by
 go_enter func165,ntmps165;go_wp2_with (at_builtin;refine dQ lB _ rfl (.tmp 3) (.tmp 4) rfl (Ve w) _ 0 [] rfl (fg w 2 1) A zs.length c (aA .i64 zs) rfl (hA.alloc _) (by rw [cq];omega) (cU _ _) ap V2 V3 ?_);intro x u B h hb _ _;have p:=((PY _ w).alloc (PV _) (.cells #[] 2)).trans hb;have ⟨i,v⟩:=ae h p;clear h hb p;go_wp2;go_ret;exact ⟨_,_,rfl,i.o,v.o⟩
section
open Go.ChangeShapes Go.WideShapes Go.ChangeAt
theorem DX:kH prog 2 1 (NX .i64):=wN underlying2 V1
theorem CD:kH prog 27 1 (DR .u64):=pQ underlying27 underlying253 V1 V1 V1
theorem NE {l:Q_} (h:∀z∈l,(Lit.int .u64 z).wf=true):U64 l:=λk hk=>by
 have:=h _ (ym hk);simpa [Lit.wf,IntKind.min,IntKind.max,IntKind.signed,IntKind.bits] using this
theorem Ip (h:(Lit.int .i64 z).wf=true): -9223372036854775808<=z/\z<=9223372036854775807:=by
 simpa [Lit.wf,IntKind.min,IntKind.max,IntKind.signed,IntKind.bits] using h
theorem xq:prog.cellsOf 91=2:=by kernel_rfl
theorem vg:prog.cellsOf 24=12:=by kernel_rfl
theorem vf:prog.cellsOf 29=15:=by kernel_rfl
theorem ud (h:zs.length<=c) (o:zs.length<=17592186043904) (p:Rd w A (aA .i64 zs)) (i:∀z∈zs,(Lit.int .i64 z).wf=true):cG w A zs c:=⟨h,o,p,xG i⟩
theorem JS:kH prog 91 2 rEx:=⟨xq,λ{H L W C I x} h o=>by
 have ⟨xs,n,_,v,hl,i,u⟩:=DataW.trod_struct underlying91 h;rw [xq] at hl;have p:xs.length=2:=i;have ⟨T,A,c,a1,R,U,N,J,Q⟩:=cB pR underlying91 v o (u 0 _ rfl) ap rfl;have ⟨D,B,d,y,O,b3,b4,b5,b6⟩:=cB pR underlying91 v o (u 1 _ rfl) ap rfl;clear h u i p v o
 match I,hl with
 | [c0,c1],_=>
  simp at a1 y
  exact ⟨rfl,⟨T,D⟩,A,c,B,d,by simp [a1,y],ud R N J Q,ud O b4 b5 b6⟩⟩
theorem FT:kH prog 25 1 (rSl rEx 2):=zO underlying25 JS V1 (of_decide_eq_true V1)
def PE:fl Cfg:=λw h k=>∃A c,h=(dF A c k).toList/\lD w A c k/\(-9223372036854775808<=k.rate/\k.rate<=9223372036854775807)/\(-9223372036854775808<=k.mom/\k.mom<=9223372036854775807)/\W64 k.sizes/\W64 [k.shift,k.workers,k.batch,k.micros,k.steps,k.bucket,k.chunk,k.window,k.cap]
theorem FU:kH prog 24 12 PE:=⟨vg,λ{H a7 W T cs x} h i=>by
 have ⟨xs,n,_,p,hl,u,o⟩:=DataW.trod_struct underlying24 h;rw [vg] at hl;have v:xs.length=12:=u;have ⟨sz,A,c,a1,a2,a3,a4,a5,a6⟩:=cB uk underlying24 p i (o 0 _ rfl) ap rfl;have ⟨z1,h1,g1⟩:=cB jI underlying24 p i (o 1 _ rfl) ap rfl;have ⟨z2,I,g2⟩:=cB DX underlying24 p i (o 2 _ rfl) ap rfl;have ⟨z3,R,g3⟩:=cB DX underlying24 p i (o 3 _ rfl) ap rfl;have ⟨z4,J,g4⟩:=cB jI underlying24 p i (o 4 _ rfl) ap rfl;have ⟨Z,N,g5⟩:=cB jI underlying24 p i (o 5 _ rfl) ap rfl;have ⟨z6,U,g6⟩:=cB jI underlying24 p i (o 6 _ rfl) ap rfl;have ⟨Y,L,g7⟩:=cB jI underlying24 p i (o 7 _ rfl) ap rfl;have ⟨z8,Q,g8⟩:=cB jI underlying24 p i (o 8 _ rfl) ap rfl;have ⟨z9,V,g9⟩:=cB jI underlying24 p i (o 9 _ rfl) ap rfl;have ⟨C,y,a8⟩:=cB jI underlying24 p i (o 10 _ rfl) ap rfl;have ⟨D,B,a0⟩:=cB jI underlying24 p i (o 11 _ rfl) ap rfl;clear h o u v p i
 match cs,hl with
 | [c0,c1,c2,c3,c4,c5,c6,c7,c8,c9,c10,c11],_=>
  simp at a1 h1 I R J N U L Q V y B;refine ⟨rfl,⟨sz,z1,z2,z3,z4,Z,z6,Y,z8,z9,C,D⟩,A,c,by simp [dF,a1,h1,I,R,J,N,U,L,Q,V,y,B],⟨a2,a3,a4,a5⟩,Ip g2,Ip g3,xG a6,?_⟩;refine xG λz O=>?_;simp only [List.mem_cons,List.not_mem_nil,or_false] at O
  rcases O with rfl | rfl | rfl | rfl | rfl | rfl | rfl | rfl | rfl<;>assumption⟩
def OY:fl Inp:=λw p i=>∃A c D o T ct R h,p=(aL A c D o T ct R h i).toList/\kJ w A c D T ct R i/\i.data.length<=o/\o<=9223372036854775807/\i.draws.length<=h/\h<=9223372036854775807/\ct<=9223372036854775807/\W64 i.cfg.sizes/\W64 [i.cfg.shift,i.cfg.workers,i.cfg.batch,i.cfg.micros,i.cfg.steps,i.cfg.bucket,i.cfg.chunk,i.cfg.window,i.cfg.cap]
theorem FS:kH prog 29 15 OY:=⟨vf,λ{H a0 W I cs x} h i=>by
 have ⟨xs,n,_,v,hl,o,u⟩:=DataW.trod_struct underlying29 h;rw [vf] at hl;have p:xs.length=4:=o;have ⟨k,A,c,y,k2,k3,k4,k5,k6⟩:=cB FU underlying29 v i (u 0 _ rfl) ap rfl;have ⟨Z,D,cd,C,J,N,d4,d5⟩:=cB FT underlying29 v i (u 1 _ rfl) ap rfl;have ⟨st,T,ct,t1,t2,L,Q,t5,U⟩:=cB pR underlying29 v i (u 2 _ rfl) ap rfl;have ⟨dr,R,cr,B,r2,O,Y,r5,V⟩:=cB CD underlying29 v i (u 3 _ rfl) ap rfl;clear h u o p v i
 match cs,hl with
 | [c0,c1,c2,c3,c4,c5,c6,c7,c8,c9,c10,c11,c12,c13,c14],_=>
  simp [dF] at y C t1 B
  exact ⟨rfl,⟨k,Z,st,dr⟩,A,c,D,cd,T,ct,R,cr,by simp [aL,y,C,t1,B],⟨k2,d5,d4,ud t2 Q t5 U,r5,Y,NE V,k3,k4⟩,J,N,r2,O,L,k5,k6⟩⟩
theorem JT {H:Type} {y:R9×Value->H} {W:R8} {d:DataW H} {p:List MemPlace} (o:Value.okWide prog W .any base 29 v) (h:DataW.Trod y prog W 0 (λ_=>true) true 29 v d p) (z:jH prog 29 d):
  ∃(A:N_) (c:Nat) (D:N_) (u:Nat) (T:N_) (ct:Nat) (R:N_) (x:Nat) (i:Inp),v=.agg (aL A c D u T ct R x i)/\kJ W A c D T ct R i/\(Vo i)<=u/\u<=9223372036854775807/\i.draws.length<=x/\x<=9223372036854775807/\ct<=9223372036854775807/\W64 i.cfg.sizes/\W64 [i.cfg.shift,i.cfg.workers,i.cfg.batch,i.cfg.micros,i.cfg.steps,i.cfg.bucket,i.cfg.chunk,i.cfg.window,i.cfg.cap]:=by
 obtain ⟨B,rfl,_⟩:=okWide_struct underlying29 o;have ⟨i,⟨A,c,D,u,T,ct,R,x,e,h1⟩,_⟩:=sy FS h z;refine ⟨A,c,D,u,T,ct,R,x,i,?_,h1⟩;obtain ⟨l⟩:=B;have C:l=_:=e;rw [C]
theorem mw {ops:Rn} {a:Ro} {p:R9} {x:Operand} {xs:R6} {t:R9} {C:Nat×Nat} (i:R6) (hb:w.heap[b]?=some (.cells xs t C)) (hr:dg P p i.size) (hw:Region.wanted op (yielded ops a.tmps)=true) (u:op.op=.load p x) (B:a.eval x=.pointer (some (ar b o))) (hcs:(xs.toList.drop o).take i.toList.length=i.toList) (h:wpList P ops Q rest (a.put op.dst (.agg i)) w):wpList P ops Q (op::rest) a w:=by
 obtain ⟨⟨d,h1,v⟩,A⟩:=hr;refine wpList_step λK y=>?_;rw [if_pos hw];exact wp_load_mid p x u b o B i.toList d (eF hb o hcs) h1 v (by simpa using A) (y _ _ (by simpa using h))
end
theorem NG {t:Tg} {h:Acn} (v:D=true↔t=h.tg) (h1:t.a=h.st) (i:t.b=h.bk) (u:t.c=h.ph) (o:t.d=h.rd) (p:t.e=h.ch):true=D:=by
 obtain ⟨a,b,c,d,e⟩:=t;simp only at h1 i u o p;subst h1 i u o p;exact (v.2 rfl).symm
theorem ON {t:Tg} {i:Acn} (o:D=true↔t=i.tg) (h:¬(t.a=i.st/\t.b=i.bk/\t.c=i.ph/\t.d=i.rd/\t.e=i.ch)):false=D:= (Bool.eq_false_iff.2 λe=>h (by rw [o.1 e];exact ⟨rfl,rfl,rfl,rfl,rfl⟩)).symm
theorem D6 (h:aU H w b i x a m) (hn:(cC i x m.st).length<=m.nx) (u v:N_):Vj 217 #[(au b),.pointer u,.pointer v] w λe D=>Vi e (.bool false)/\aq w D:=by
 have p:=yn h hn;have y:=aa p;clear p h hn;go_enter func217,ntmps217;go_wp2_with fail;refine y.o.mono ?_;rintro e J ⟨rfl,B⟩;go_wp2_with (refine aI (PW _ _) mD rfl rfl rfl rfl rfl rfl rfl ?_;intro N C A;have ⟨L,I⟩:=ae C (bt B (aN A));clear C A B);go_ret;exact ⟨rfl,I.o⟩
theorem D5 (h:aU H w b i x a m) (L:(cC i x m.st)[m.nx]?=some y) (V:y.kind≠3) (T:y.kind≠4) (u v:N_):Vj 217 #[(au b),.pointer u,.pointer v] w λe R=>Vi e (.bool true)/\aq w R:=by
 have p:=jQ h L;have ⟨B,Z,D,b0,b1,i0,i1,i2,i3,i4,i5,i6,A⟩:=sR y;have O:(y.kind:Int)=B:=by have:=A;simp only [bj,List.cons.injEq,Value.int.injEq,true_and] at this;exact this.1
 rw [A] at p;have n3:¬B=3:=ap;have n4:¬B=4:=ap;have C:=aa p;clear p h L A O V T;go_enter func217,ntmps217;go_wp2_with fail;refine C.o.mono ?_;rintro e Q ⟨rfl,I⟩;go_upto_region 2 with (refine aI (PW _ _) mD rfl rfl rfl rfl rfl rfl rfl ?_;intro N J D;have ⟨U,Y⟩:=ae J (bt I (aN D));clear J D I);have t0:Vh N (Ve Q) 0 (QZ B):=PX N _ 0 _ _ _ U.o;go_wp2;go_ret;exact ⟨rfl,Y.o⟩
theorem Ai (h:aU H w b i x a m) (hy:(cC i x m.st)[m.nx]?=some y) (h3:y.kind=3) (u:N_) {s:LSt} (Y:aX w base l g s) (Q:s.msgs.length<=100000000000):Vj 217 #[(au b),.pointer u,(au l)] w λe w'=>Vi e (.bool (decide (s.msgs.length<s.recv+s.cap)))/\aq w w':=by
 have p:=jQ h hy;obtain ⟨U,k1,T,b0,b1,i0,i1,i2,i3,i4,i5,i6,A⟩:=sR y;have e0:(y.kind:Int)=U:=by have:=A;simp only [bj,List.cons.injEq,Value.int.injEq,true_and] at this;exact this.1
 rw [A] at p;obtain rfl:U=3:=ap;obtain ⟨D,L⟩:=Vb (decide (s.msgs.length<s.recv+s.cap));have C:decide ((s.msgs.length:Int)-s.recv<s.cap)=D:=by rw [<-L];exact decide_eq_decide.2 ap
 rw [L];obtain ⟨I,HL,J⟩:=af p Y C;clear p h hy A e0 h3 Y L C;go_enter func217,ntmps217;go_wp2_with fail;refine I.o.mono ?_;rintro e w1 ⟨rfl,V⟩;go_upto_region 2 with (refine aI (PW _ _) mD rfl rfl rfl rfl rfl rfl rfl ?_;intro W2 Z T;obtain ⟨E2,B2⟩:=ae Z (bt V (aN T));clear Z T V);have t0:Vh W2 w1.heap.size 0 (QZ 3):=PX W2 _ 0 _ _ _ E2.o;go_wp2_with fail;obtain ⟨ok,ring,rows,hc,_⟩:=HL.o.below B2.o;refine (mQ l _ _ _ _ _ _ hc ok.rs ap).mono ?_;rintro e w3 ⟨rfl,n,rfl⟩;have v:=Qa B2.o n;obtain ⟨R,ring',rows',B,_⟩:=HL.o.below v;obtain ⟨N,O⟩:=ae v B;clear ok R hc B v;go_wp2_with fail;refine (MY l _ _ _ _ _ _ O.o).mono ?_;rintro e w4 ⟨rfl,rfl⟩;go_wp2;go_ret;exact ⟨congrArg (λd=>Ending.returned (.bool d)) J.o,N.o⟩
theorem An (h:aU H w b i x a m) (hy:(cC i x m.st)[m.nx]?=some y) (V:y.kind=4) {p:Acn} (C:y.a=some p) (v:N_) {s:LSt} (hL:aX w base l g s) (B:s.recv<s.msgs.length) (D:Bool) (L:D=true↔(aO s.msgs s.recv).tag=p.tg):Vj 217 #[(au b),(au l),.pointer v] w λe I=>Vi e (.bool D)/\aq w I:=by
 have u:=jQ h hy;rw [yt C rfl rfl,V] at u;have A:=λI (q:aq w I)=>ux base l g s I (hL.below q) B;have ⟨t,U⟩:=Vb ((aO s.msgs s.recv).tag);rw [U] at A L;have ⟨J,O,HD⟩:=af u A L;clear u h hy V hL B U A C L;go_enter func217,ntmps217;go_wp2_with fail;refine J.o.mono ?_;rintro e w1 ⟨rfl,Y⟩;go_upto_region 2 with (refine aI (PW _ _) mD rfl rfl rfl rfl rfl rfl rfl ?_;intro Q e2 k2;have ⟨Z,B2⟩:=ae e2 (bt Y (aN k2));clear e2 k2 Y);have t0:Vh Q (Ve w1) 0 (QZ 4):=PX Q _ 0 _ _ _ Z.o;go_wp2_with fail;refine (O.o Q B2.o).mono ?_;rintro e w3 ⟨rfl,N⟩;have ⟨B3,E3⟩:=ae (bt B2.o N) (sb Z.o _ N);clear N t0;go_upto_region 8 with (refine aI (PW _ _) j3 rfl rfl rfl rfl rfl rfl rfl ?_;intro W4 e4 T;have ⟨E4,B4,R⟩:=af e4 (bt B3.o (aN T)) (sb E3.o _ (aN T));clear e4 T);go_wp2_with (first | (refine mw #[QZ t.a,QZ t.b,QZ t.c,QZ t.d,QZ t.e] E4.o j3 rfl rfl rfl rfl ?_) | (refine mw #[Vd p.st,Vd p.bk,Vd p.ph,Vd p.rd,Vd p.ch] R.o j3 rfl rfl rfl rfl ?_))
 all_goals (go_ret;refine ⟨congrArg (λd=>Ending.returned (.bool d)) ?_,B4.o⟩;first | exact NG HD.o (by assumption) (by assumption) (by assumption) (by assumption) (by assumption) | exact ON HD.o (by rintro ⟨z1,z2,z3,z4,z5⟩;contradiction))
theorem Gu (h:aU H w b i x a m) (U:(cC i x m.st)[m.nx]?=some y) (h4:y.kind=4) (v:N_) {s:LSt} (R:aX w base l g s) (A:s.recv=s.msgs.length):Vj 217 #[(au b),(au l),.pointer v] w λe C=>Vi e (.bool false)/\aq w C:=by
 have p:=jQ h U;have ⟨O,k1,L,b0,b1,i0,i1,i2,i3,i4,i5,i6,u⟩:=sR y;have Z:(y.kind:Int)=O:=by have:=u;simp only [bj,List.cons.injEq,Value.int.injEq,true_and] at this;exact this.1
 rw [u] at p;obtain rfl:O=4:=ap;have B:=λC (q:aq w C)=>pA base l g s C (R.below q) A;have ⟨D,I⟩:=ae p B;clear p h U u Z h4 R A B;go_enter func217,ntmps217;go_wp2_with fail;refine D.o.mono ?_;rintro e w1 ⟨rfl,Q⟩;go_upto_region 2 with (refine aI (PW _ _) mD rfl rfl rfl rfl rfl rfl rfl ?_;intro J T L;have ⟨E2,Y⟩:=ae T (bt Q (aN L));clear T L Q);have t0:Vh J (Ve w1) 0 (QZ 4):=PX J _ 0 _ _ _ E2.o;go_wp2_with fail;refine (I.o J Y.o).mono ?_;rintro e w3 ⟨rfl,N⟩;have B3:=aa (bt Y.o N);clear N t0;go_wp2_with (refine aI (PW _ _) j3 rfl rfl rfl rfl rfl rfl rfl ?_;intro W4 e4 V;have B4:=aa (bt B3.o (aN V));clear e4 V);go_ret;exact ⟨rfl,B4.o⟩
theorem aU.i64 (h:aU H w b i x a m) {c:R6} (o:Vg w j c 2) (hm:Mut b a j):j=a.bp\/j=a.bm\/j=a.bg:=by
 rcases hm with e | e | e | e | e | e
 .exact absurd e (nJ o h.blk V0)
 .exact .inl e
 .exact .inr (.inl e)
 .exact .inr (.inr e)
 .obtain ⟨rows,p,_⟩:=h.re;exact absurd (show some j=_ by rw [e];rfl) (ay o V0 p)
 .exact absurd e.symm (ay o V0 h.oO)
theorem aX.noI64 {s:LSt} (h:aX w B l g s) {c:R6} (i:Vg w j c 2):¬ed l g j:=by
 rintro (e | e)
 .obtain ⟨o,hb⟩:=h.blk;exact absurd e (nJ i hb V0)
 .subst e;obtain ⟨o,hb⟩:=h.ringBlk;exact absurd rfl (nJ i hb V0)
theorem aX.mach {o:R8} {s:LSt} (v:aX w B l g s) (u:aU H w b i x a m) (p:a.bp<B/\a.bm<B/\a.bg<B) (hn:∀k,ed l g k->¬(Mut b a k\/G k)) (y:∀(j:Nat) (c:R6),Vg w j c 2->¬G j) (hk:Keep (λk=>Mut b a k\/G k) w o):aX o B l g s:=
 v.keep hk (hn l (.inl rfl)) (λj h=>hn j (.inr h)) (λj c h hb e=>e.elim (λe=>by rcases u.i64 h e with e | e | e<;>omega) (y j c h))
theorem aX.lt {s:LSt} (h:aX w B l g s):∀k,ed l g k->k<w.heap.size:=by
 rintro k (e | e)
 .rw [e];exact h.blocks.1
 .exact (h.blocks.2 k e).2
def D8 (l:Nat) (g:Option Nat) (i:Nat) (h:Option Nat) (k:Nat):Prop:=ed l g k\/ed i h k
def WH (E:Nat->Prop) (l:Nat) (g:Option Nat) (i:Nat) (h:Option Nat) (k:Nat):Prop:=D8 l g i h k\/E k
structure Wld (E:Nat->Prop) (B:Nat) (w:R8) (b l l':Nat) (i:Inp) (x:Nat) (a:MAd) (m:Mst) (s t:LSt) (g g':Option Nat):Prop where
 mach:aU (WH E l g l' g') w b i x a m
 hn:∀k,Mut b a k->¬WH E l g l' g' k
 lf:aX w B l g s
 lt:aX w B l' g' t
 dj:∀k,ed l g k->¬ed l' g' k
 lo:b<B/\a.bp<B/\a.bm<B/\a.bg<B
 hB:B<=w.heap.size
 ne:∀k,D8 l g l' g' k->¬E k
 ex:∀k,E k->k<w.heap.size
theorem Wld.below {p:R8} {u:Nat} {s t:LSt} {o:Option Nat} (h:Wld E B w b l u i x a m s t g o) (hb:aq w p):Wld E B p b l u i x a m s t g o:=
 ⟨h.mach.below hb h.hn,h.hn,h.lf.below hb,h.lt.below hb,h.dj,h.lo,P4 h.hB hb.size,h.ne,λk e=>P6 (h.ex k e) hb.size⟩
theorem Wld.newL {s t:LSt} {p:Option Nat} (h:Wld E B w b l o i x a m s t g p):∀k,w.heap.size<=k->¬D8 l g o p k:=by
 rintro k hk (e | e)
 .have:=h.lf.lt k e;omega
 .have:=h.lt.lt k e;omega
theorem Wld.new {s t:LSt} {p:Option Nat} (h:Wld E B w b l o i x a m s t g p):∀k,w.heap.size<=k->¬WH E l g o p k:=by
 rintro k hk (e | e)
 .exact h.newL k hk e
 .have:=h.ex k e;omega
def Nq (b:Nat) (a:MAd) (l:Nat) (g:Option Nat) (i:Nat) (h:Option Nat) (k:Nat):Prop:=Mut b a k\/D8 l g i h k
def kF (E:Nat->Prop) (B:Nat) (w:R8) (b l h:Nat) (i:Inp) (x:Nat) (a:MAd) (g p:Option Nat) (m1:Mst) (s1 t1:LSt) (o:R8):Prop:=
 ∃a1 g1,Wld E B o b l h i x a1 m1 s1 t1 g g1/\Keep (Nq b a l g h p) w o/\∀k,Nq b a1 l g h g1 k->Nq b a l g h p k\/w.heap.size<=k
theorem kF.below {p:R8} {u:Nat} {s t:LSt} {o:Option Nat} (h:Wld E B w b l u i x a m s t g o) (hb:aq w p):kF E B w b l u i x a g o m s t p:=
 ⟨a,o,h.below hb,Keep.below hb,λ_ h=>.inl h⟩
theorem kF.own {A:R8} {v:Nat} {s t:LSt} {u:Option Nat} (h:Wld E B w b l v i x a m s t g u) (J:∀w m,T w m->m=m1) (H:Bn (WH E l g v u) (λ_=>False) b i x a m T w A):kF E B w b l v i x a g u (adv i x m1) s t A:=by
 obtain ⟨D,R,h1, -, -,p,C,O,L⟩:=H;rw [J _ _ L] at h1;obtain ⟨I,N,Q⟩:=O;have o:=h.lo;have y:∀k,Mut b D k->¬WH E l g v u k:=λk hk=>(C k hk).elim (h.hn k) (h.new k)
 exact ⟨D,u,⟨h1,y,h.lf.mach h.mach o.2 (λk hk e=>e.elim (λe=>h.hn k e (.inl (.inl hk))) id) (λ_ _ _ h=>h) p,h.lt.mach h.mach o.2 (λk hk e=>e.elim (λe=>h.hn k e (.inl (.inr hk))) id) (λ_ _ _ h=>h) p,h.dj,by rw [I,N,Q];exact o,P4 h.hB p.size,h.ne,λk e=>P6 (h.ex k e) p.size⟩,
  p.mono λk _ e=>e.elim .inl False.elim,λk hk=>hk.elim (λe=>(C k e).imp .inl id) (λe=>.inl (.inr e))⟩
theorem MV {N:Nat} {s t s1 t1:LSt} (h:Wld E B w b l N i x a m s t g O) (hs:bK i) (hm:MOk i x m) (Z:Ma i x s) (J:t.msgs.length<100000000000) (a0: -9223372036854775808<=i.cfg.rate/\i.cfg.rate<=9223372036854775807) (a1: -9223372036854775808<=i.cfg.mom/\i.cfg.mom<=9223372036854775807) (hr:jG i x m s t m1 s1 t1 C):Vj 216 #[(au b),(au l),(au N)] w λe H=>Vi e (Vd C)/\kF E B w b l N i x a g O m1 s1 t1 H:=by
 have v:∀{y:Itm} {ac:Acn},(cC i x m.st)[m.nx]?=some y->y.a=some ac->ac.at'.1<ac.at'.2/\ac.at'.2<=i.start.length:=λo p=>yK hs.ok (dm o).2 p
 cases hr with
 | fin hf=>
  refine (D7 h.mach hf _ _).mono ?_;rintro e H ⟨he,k⟩;exact ⟨he,kF.below h k⟩
 | own y o p=>
  refine (Aq h.mach h.hn h.new hs o (hm.okAt hs o p) a0 a1 _ _).mono ?_;rintro e H ⟨he,hd⟩;exact ⟨he,kF.own h (λ_ _ e=>e) hd⟩
 | send y ac o p hk hroom=>
  refine (Kk h.mach h.hn h.new hs o hk p (v o p).1 (v o p).2 _ h.lt hroom J h.hB (λk e=>.inl (.inr e)) h.lo.1).mono ?_;rintro e H ⟨he,H1,T,m2,h1,L, -, -, -,D,V,⟨f1,f2,f3⟩,rfl,U,hH,hL,hg⟩;have u:=h.lo
  have I:∀k,WH E l g N U k->H1 k:=λk e=>(hH k).2 (by
   rcases e with (e | e | e) | e
   .exact .inl (.inl (.inl e))
   .exact .inl (.inl (.inr (.inl e)))
   .exact .inr e
   .exact .inl (.inr e))
  have A:∀k,U=some k->ed N O k\/w.heap.size<=k:=λk e=>by
   rcases hg with rfl | ⟨j,e1,e2⟩
   .exact .inl (.inr e)
   .rw [e1] at e;cases e;exact .inr e2
  have Q:∀k,Mut b T k->¬WH E l g N U k:=λk hk e=>L k hk (I k e)
  refine ⟨he,T,U,⟨h1.step (Keep.refl _ _) (λk _ e=>I k e) Q,Q,h.lf.mach h.mach u.2 (λk hk e=>e.elim (λe=>h.hn k e (.inl (.inl hk))) (h.dj k hk)) (λj c hj=>h.lt.noI64 hj) D,hL,λk hk e=>?_,by rw [f1,f2,f3];exact u,P4 h.hB D.size,λk hk Y=>?_,λk e=>P6 (h.ex k e) D.size⟩,
   D.mono λk _ e=>e.imp id .inr,λk hk=>?_⟩
  .rcases e with e | e
   .exact h.dj k hk (.inl e)
   .rcases A k e with e | e
    .exact h.dj k hk e
    .have:=h.lf.lt k hk;omega
  .rcases hk with e | e | e
   .exact h.ne k (.inl e) Y
   .exact h.ne k (.inr (.inl e)) Y
   .rcases A k e with e | e
    .exact h.ne k (.inr e) Y
    .have:=h.ex k Y;omega
  .rcases hk with e | e | e | e
   .exact (V k e).imp .inl id
   .exact .inl (.inr (.inl e))
   .exact .inl (.inr (.inr (.inl e)))
   .exact (A k e).imp (λe=>.inr (.inr e)) id
 | full y ac o p hk hf=>
  refine (Km h.mach h.hn h.new hs o hk p (v o p).1 (v o p).2 _ h.lt hf).mono ?_;rintro e H ⟨he,k⟩;exact ⟨he,kF.below h k⟩
 | recv y ac o p hk hlt heq=>
  have R:=Z.len hs (dm o).1 (dm o).2 p (oD (dm o).2 p hk) hlt heq;have u:=h.lo;refine (Kl h.mach h.hn h.new hs o hk p (v o p).1 (v o p).2 _ h.lf (λk e=>.inl (.inl e)) u.1 u.2.2.2 hlt heq R.1 R.2).mono ?_;rintro e H ⟨he,T,m2,h1, -, -,D,V,⟨f1,f2,f3⟩,rfl,hL⟩;have L:∀k,Mut b T k->¬WH E l g N O k:=λk hk=>(V k hk).elim (h.hn k) (h.new k)
  exact ⟨he,T,O,⟨h1,L,hL,h.lt.mach h.mach u.2 (λk hk e=>e.elim (λe=>h.hn k e (.inl (.inr hk))) (λe=>h.dj k (.inl e) hk)) (λj c hj e=>h.lf.noI64 hj (.inl e)) D,h.dj,by rw [f1,f2,f3];exact u,P4 h.hB D.size,h.ne,λk e=>P6 (h.ex k e) D.size⟩,
   D.mono λk _ e=>e.imp id (λe=>.inl (.inl e)),λk hk=>hk.elim (λe=>(V k e).imp .inl id) (λe=>.inl (.inr e))⟩
 | none y ac o p hk h0=>
  refine (uu h.mach h.hn h.new hs o hk p _ h.lf (.inl h0)).mono ?_;rintro e H ⟨he,k⟩;rw [if_pos h0] at he;exact ⟨he,kF.below h k⟩
 | other y ac o p hk hlt hne=>
  refine (uu h.mach h.hn h.new hs o hk p _ h.lf (.inr ⟨hlt,hne⟩)).mono ?_;rintro e H ⟨he,k⟩;rw [if_neg ap] at he;exact ⟨he,kF.below h k⟩
theorem MT {u:Nat} {s t s1 t1:LSt} {v:Option Nat} (h:Wld E B w b l u i x a m s t g v) (hs:bK i) (hm:MOk i x m) (p:t.msgs.length<100000000000) (hr:jG i x m s t m1 s1 t1 C):Vj 217 #[(au b),(au l),(au u)] w λe o=>Vi e (.bool (decide (C=0)))/\aq w o:=by
 cases hr with
 | fin hf=>exact D6 h.mach hf _ _
 | own y hy ha=>
  have hk:=jp (dm hy).2 ha;exact D5 h.mach hy ap ap _ _
 | send y ac hy ha hk hroom=>
  refine (Ai h.mach hy hk _ h.lt ap).mono ?_;rintro e o ⟨he,k⟩;rw [QS hroom] at he;exact ⟨he,k⟩
 | full y ac hy ha hk hf=>
  refine (Ai h.mach hy hk _ h.lt ap).mono ?_;rintro e o ⟨he,k⟩;rw [QT ap] at he;exact ⟨he,k⟩
 | recv y ac hy ha hk hlt heq=>exact An h.mach hy hk ha _ h.lf hlt true ⟨λ_=>heq,λ_=>rfl⟩
 | none y ac hy ha hk h0=>exact Gu h.mach hy hk _ h.lf h0
 | other y ac hy ha hk hlt hne=>exact An h.mach hy hk ha _ h.lf hlt false ⟨λe=>(by cases e),λe=>absurd e hne⟩
def cY (w:R8) (A:N_) (ms:List Msg):Prop:=
 ∃rows,Rd w A (List.flatten rows)/\rows.length=ms.length/\(∀r∈rows,r.length=6)/\∀j,j<ms.length->vq w (eR rows j) (aO ms j)
theorem vq.same {i:R8} {o:R7} {m:Msg} (h:vq w o m) (hb:∀b,b<w.heap.size->i.heap[b]?=w.heap[b]?):vq i o m:=by
 obtain ⟨A,c,e,hr⟩:=h;exact ⟨A,c,e,hr.same hb⟩
theorem cY.same {i:R8} {ms:List Msg} (h:cY w A ms) (hb:∀b,b<w.heap.size->i.heap[b]?=w.heap[b]?):cY i A ms:=by
 obtain ⟨rows,h1,p,v,u⟩:=h;exact ⟨rows,h1.same hb,p,v,λj o=>(u j o).same hb⟩
theorem cY.below {i:R8} {ms:List Msg} (h:cY w A ms) (hb:aq w i):cY i A ms:=h.same hb.block
theorem cY.nil (w:R8) (A:N_):cY w A []:=⟨[],Rd.nil _ _,rfl,by simp,by simp⟩
theorem sE (h:∀r∈rows,r.length=k):(List.flatten rows).length=rows.length*k:=by
 induction rows with
 | nil=>simp
 | cons r l ih=>rw [List.flatten_cons,Qt,h r V3,ih (λr hr=>h r (by simp [hr])),List.length_cons,Nat.add_mul];omega
def fX (V w:R8) (A:N_) (ms:List Msg):Prop:=
 ∃rows,Rd w A (List.flatten rows)/\rows.length=ms.length/\(∀r∈rows,r.length=6)/\∀j,j<ms.length->vq V (eR rows j) (aO ms j)
theorem fX.nil (V w:R8) (A:N_):fX V w A []:=⟨[],Rd.nil _ _,rfl,by simp,by simp⟩
theorem cY.in_ {ms:List Msg} (h:cY w A ms):fX w w A ms:=h
theorem fX.keep {i:R8} {ms:List Msg} (h:fX V w A ms) (k:Keep S w i) (hA:∀a,A=some a->¬S a.block):fX V i A ms:=by
 obtain ⟨rows,h1,o,u,p⟩:=h;exact ⟨rows,k.rd h1 hA,o,u,p⟩
theorem dR {p q:Prop} (h:p) (k:p->q):q:=k h
theorem pP (w:R8) (e:R9) (size n base:Nat) (hn:w.heap.size=n) (hb:base<=n):(w.alloc (.cells #[] e)).ownsRow base e size (Vf n 0 0 0) 0 []:=by
 subst hn;exact World.ownsRow_made w #[] 0 hb V2 V3
theorem rk (cap:Int) (A:N_) (n c:Nat) (r pk:Int) (w:R8) (hr:0<=r/\r<=n) (hn:n<=17592186043904):Vj 166 #[.agg #[QZ cap,.slice A n c,QZ r,QZ pk]] w λe h=>Vi e (QZ ((n:Int)-r))/\h=w.alloc (.cells #[QZ cap,.slice A n c,QZ r,QZ pk] 75):=by
 go_enter func166,ntmps166;go_wp2;go_ret;exact ⟨rfl,rfl⟩
theorem qG (t0 t1 t2 o p:Int) (v:Value) (i:v.oneCell'=true):∀u∈[Value.int .i64 t0,QZ t1,QZ t2,QZ o,QZ p,v],u.oneCell'=true:=by
 intro u h;simp at h;rcases h with rfl | rfl | rfl | rfl | rfl | rfl<;>first | rfl | exact i
theorem Jh {ms:List Msg} (v:rows.length=ms.length) (p:∀j,j<ms.length->vq w (eR rows j) (aO ms j)):∀u∈List.flatten rows,u.oneCell'=true:=by
 intro u h;have ⟨r,hr,h⟩:=List.mem_flatten.1 h;have ⟨j,o,e⟩:=List.getElem_of_mem hr;have ⟨x,c,i,_⟩:=p j ap;rw [show eR rows j=r by simp [eR,o,e]] at i;subst i;exact qG _ _ _ _ _ _ rfl u h
theorem yb {o:R8} {cap r pk:Int} {x:Value} {p:N_} {c3:Nat} (hk:k<h.heap.size) (y:Vg h k #[QZ cap,x,QZ r,QZ pk] 75) (hB:aq h o) (u:o.ownsRow h.heap.size 79 6 (.slice p n c3) n xs) (v:Value): (o.setCell (ar k 1) v).ownsRow h.heap.size 79 6 (.slice p n c3) n xs/\Vg (o.setCell (ar k 1) v) k #[QZ cap,v,QZ r,QZ pk] 75/\Keep (λi=>i=k) h (o.setCell (ar k 1) v):=by
 refine ⟨ownsRow_setCell_other u (λe=>by have:=(u.lt _ e).1;simp at this;omega) v,?_,Vk k (Keep.below hB) (ar k 1) (.inr rfl) v⟩;exact QX o k 1 _ _ v ((hB.block k hk).trans y)
def Eu (V:R8) (cap r:Nat) (pk:Nat) (ms:List Msg) (w:R8) (e:Ending) (i:R8):Prop:=
 ∃h o P,P=(pk:Int)/\e=.returned (.tuple #[.agg #[QZ cap,.slice h ms.length o,QZ r,QZ P],QZ 0])/\(fX V i h ms/\ms.length<=o/\∀a,h=some a->w.heap.size<=a.block)/\aq w i
theorem zq {W:R8} {u B:N_} {ms:List Msg} {t0 t1 t2 i o:Int} {d:Nat} (p:rows.length=ms.length) (y:∀r∈rows,r.length=6) (x:∀j,j<ms.length->vq V (eR rows j) (aO ms j)) (hB:Rd V B (aA .i64 zs)) (hr:Rd W u (List.flatten rows++[QZ t0,QZ t1,QZ t2,QZ i,QZ o,.slice B zs.length d])):
  fX V W u (ms++[⟨⟨t0,t1,t2,i,o⟩,zs⟩]):=by
 refine ⟨rows++[[QZ t0,QZ t1,QZ t2,QZ i,QZ o,.slice B zs.length d]],?_,by simp [p],?_,?_⟩
 .rw [QE,List.flatten_cons,List.flatten_nil,List.append_nil];exact hr
 .intro r hr;rcases QI.1 hr with hr | hr
  .exact y r hr
  .rw [List.mem_singleton.1 hr];rfl
 .intro j v;rcases Qf j ms.length with h | h
  .rw [j4 _ _ _ ap,ko _ _ _ h];exact x j h
  .obtain rfl:j=ms.length:=by simp at v;omega
   rw [kp,<-p,j6];exact ⟨B,d,rfl,hB⟩
theorem Mx (V:R8) (cap:Nat) (A:N_) (ms:List Msg) (c r pk:Nat) (t:Tg) (B:N_) (zs:Q_) (d:Nat) (w:R8) (hr:r<=ms.length) (hn:ms.length<=100000000000) (be:ms.length<r+cap) (hA:fX V w A ms) (hB:Rd V B (aA .i64 zs)):Vj 135 #[.agg #[QZ cap,.slice A ms.length c,QZ r,QZ pk],.agg #[QZ t.a,QZ t.b,QZ t.c,QZ t.d,QZ t.e,.slice B zs.length d]] w (Eu V cap r (max pk (ms.length+1-r)) (ms++[⟨t,zs⟩]) w):=by
 obtain ⟨t0,t1,t2,t3,t4⟩:=t;obtain ⟨rows,h1,h2,h3,h4⟩:=hA;have aG:=sE h3;rw [h2] at aG;have ab:=Jh h2 h4;have a3:=λW=>rk cap A ms.length c r pk W ap ap;obtain ⟨bi,aP,a4,H2,H3,H4⟩:=ai a3 aG ab h2 h3 h4;clear a3 aG ab h2 h3 h4;go_enter func135,ntmps135;go_wp2
 go_region_held3 (λw'=>w'.cell? ⟨w.heap.size,0,none⟩=some (QZ (cap:Int))/\w'.cell? ⟨w.heap.size,1,none⟩=some (.slice A ms.length c)/\w'.cell? ⟨w.heap.size,2,none⟩=some (QZ (r:Int))/\w'.cell? ⟨w.heap.size,3,none⟩=some (QZ (pk:Int))) (simp [go_sem,World.cell?_alloc_past, *])
  ((go_at_call 166;refine (bi.o _).mono ?_;rintro e w' ⟨rfl,rfl⟩))
 go_wp2_with fail;generalize hw1:World.drew _=w1
 have hf:(Vg w1 w.heap.size #[QZ (cap:Int),.slice A ms.length c,QZ (r:Int),QZ (pk:Int)] 75)/\(Vg w1 (w.heap.size+1) #[QZ t0,QZ t1,QZ t2,QZ t3,QZ t4,.slice B zs.length d] 79)/\
   (Vg w1 (w.heap.size+1+1) #[QZ 0,Ra,QZ 0,QZ 0] 75)/\w.heap.size+4=w1.heap.size/\aq w w1:=by
  subst hw1;refine ⟨?_,?_,?_,by simp,?_⟩
  .show ((((w.heap.push _).push _).push _).push _)[_]?=_
   simp only [Array.getElem?_push,Array.size_push];rw [if_neg ap,if_neg ap,if_neg ap,if_pos trivial]
  .show ((((w.heap.push _).push _).push _).push _)[_]?=_
   simp only [Array.getElem?_push,Array.size_push];rw [if_neg ap,if_neg ap,if_pos trivial]
  .show ((((w.heap.push _).push _).push _).push _)[_]?=_
   simp only [Array.getElem?_push,Array.size_push];rw [if_neg ap,if_pos trivial]
  .exact am
 obtain ⟨a1,U,b4,aR,b5⟩:=hf;have b0:w1.cell? ⟨w.heap.size,0,none⟩=some (QZ (cap:Int)):=PX w1 _ 0 _ _ _ a1;have b1:w1.cell? ⟨w.heap.size,1,none⟩=some (.slice A ms.length c):=PX w1 _ 1 _ _ _ a1;have b2:w1.cell? ⟨w.heap.size,2,none⟩=some (QZ (r:Int)):=PX w1 _ 2 _ _ _ a1;have b3:w1.cell? ⟨w.heap.size,3,none⟩=some (QZ (pk:Int)):=PX w1 _ 3 _ _ _ a1;have bf:=λj=>P8 w1 _ j _ _ a1;have m0:w1.cell? ⟨w.heap.size+1,0,none⟩=some (QZ t0):=PX w1 _ 0 _ _ _ U;have m1:w1.cell? ⟨w.heap.size+1,1,none⟩=some (QZ t1):=PX w1 _ 1 _ _ _ U;have m2:w1.cell? ⟨w.heap.size+1,2,none⟩=some (QZ t2):=PX w1 _ 2 _ _ _ U;have m3:w1.cell? ⟨w.heap.size+1,3,none⟩=some (QZ t3):=PX w1 _ 3 _ _ _ U;have m4:w1.cell? ⟨w.heap.size+1,4,none⟩=some (QZ t4):=PX w1 _ 4 _ _ _ U;have m5:w1.cell? ⟨w.heap.size+1,5,none⟩=some (.slice B zs.length d):=PX w1 _ 5 _ _ _ U;have J:w.heap.size<w1.heap.size:=ap;have x:w.heap.size+1<w1.heap.size:=ap;have a8:w.heap.size+1+1<w1.heap.size:=ap;have a9:=h1.below b5;obtain ⟨bw,bz,bo,bG,bh⟩:=ah hw1 aR a1 U b4;clear hw1 aR a1 U b4 h1
 go_cut [] (λwx=>∃A' c',wx.ownsRow w1.heap.size 79 6 (.slice A' (ms.length+1) c') (ms.length+1) (List.flatten rows++[QZ t0,QZ t1,QZ t2,QZ t3,QZ t4,.slice B zs.length d])/\
   Vg wx w.heap.size #[QZ (cap:Int),.slice A' (ms.length+1) c',QZ (r:Int),QZ (pk:Int)] 75/\Keep (λk=>k=w.heap.size) w1 wx)
 case first=>
  go_region_law (first | (refine ji lA rfl (.tmp 12) (.tmp 14) rfl w1.heap.size (.slice (some ⟨w1.heap.size,0,none⟩) 0 0) 0 [] rfl ?_ A ms.length c (List.flatten rows) rfl ?_ ?_ ?_ ?_ ?_ ?_ ?_;(focus ((repeat' (first | (with_reducible refine World.ownsRow.drew ?_) | (refine pP _ _ _ _ _ ?_ ?_;(focus (try simp));omega) | (with_reducible refine World.ownsRow.alloc ?_ _)));done));(focus ((repeat' (first | (with_reducible exact a9) | (with_reducible refine Rd.drew ?_) | (with_reducible refine Rd.alloc ?_ _)));done));exact aP.o;exact a4.o;omega;(unfold maxLen;omega);(simp;try omega);intro A2 c2 Z i D u T;simp only [QP,List.nil_append] at i;refine dR (p:=aq w1 Z) ?_ ?_;(focus (refine Below.trans ?_ D;exact am;done));intro h;have a8:=h.size;have n0:=(h.cell (p:=⟨w.heap.size+1,0,none⟩) x).trans m0;have n1:=(h.cell (p:=⟨w.heap.size+1,1,none⟩) x).trans m1;have n2:=(h.cell (p:=⟨w.heap.size+1,2,none⟩) x).trans m2;have n3:=(h.cell (p:=⟨w.heap.size+1,3,none⟩) x).trans m3;have n4:=(h.cell (p:=⟨w.heap.size+1,4,none⟩) x).trans m4;have n5:=(h.cell (p:=⟨w.heap.size+1,5,none⟩) x).trans m5;refine dR (p:=Rd Z (some ⟨w1.heap.size+1,0,none⟩) [QZ t0,QZ t1,QZ t2,QZ t3,QZ t4,.slice B zs.length d]) ?_ ?_;(focus (refine Rd.grown (row:=some w1.heap.size) ?_ u ?_;(focus ((repeat' (first | (with_reducible refine Rd.drew ?_) | (refine dW _ _ _ _ ?_;simp;done) | (with_reducible refine Rd.alloc ?_ _)));done));(intro a ha;cases ha;simp)));intro L;refine dR (p:=w.heap.size<Z.heap.size/\w.heap.size+1<Z.heap.size) (P7 ?_ ?_) ?_;omega;omega;intro N;have ad:=N.1;have ao:=N.2;have p1:=(h.cell (p:=⟨w.heap.size,1,none⟩) J).trans b1;have b8:=(h.frozen (p:=⟨w.heap.size,1,none⟩) J).trans (bf 1);obtain ⟨a5,O,a2⟩:=af h i L;clear h i L D u T N) | (refine ji lA rfl (.tmp 12) (.tmp 14) rfl w1.heap.size (.slice (some ⟨w1.heap.size+1,0,none⟩) 0 0) 0 [] rfl ?_ A ms.length c (List.flatten rows) rfl ?_ ?_ ?_ ?_ ?_ ?_ ?_;(focus ((repeat' (first | (with_reducible refine World.ownsRow.drew ?_) | (refine pP _ _ _ _ _ ?_ ?_;(focus (try simp));omega) | (with_reducible refine World.ownsRow.alloc ?_ _)));done));(focus ((repeat' (first | (with_reducible exact a9) | (with_reducible refine Rd.drew ?_) | (with_reducible refine Rd.alloc ?_ _)));done));exact aP.o;exact a4.o;omega;(unfold maxLen;omega);(simp;try omega);intro A2 c2 Z i D u T;simp only [QP,List.nil_append] at i;refine dR (p:=aq w1 Z) ?_ ?_;(focus (refine Below.trans ?_ D;exact am;done));intro h;have a8:=h.size;have n0:=(h.cell (p:=⟨w.heap.size+1,0,none⟩) x).trans m0;have n1:=(h.cell (p:=⟨w.heap.size+1,1,none⟩) x).trans m1;have n2:=(h.cell (p:=⟨w.heap.size+1,2,none⟩) x).trans m2;have n3:=(h.cell (p:=⟨w.heap.size+1,3,none⟩) x).trans m3;have n4:=(h.cell (p:=⟨w.heap.size+1,4,none⟩) x).trans m4;have n5:=(h.cell (p:=⟨w.heap.size+1,5,none⟩) x).trans m5;refine dR (p:=Rd Z (some ⟨w1.heap.size,0,none⟩) [QZ t0,QZ t1,QZ t2,QZ t3,QZ t4,.slice B zs.length d]) ?_ ?_;(focus (refine Rd.grown (row:=some (w1.heap.size+1)) ?_ u ?_;(focus ((repeat' (first | (with_reducible refine Rd.drew ?_) | (refine dW _ _ _ _ ?_;simp;done) | (with_reducible refine Rd.alloc ?_ _)));done));(intro a ha;cases ha;simp)));intro L;refine dR (p:=w.heap.size<Z.heap.size/\w.heap.size+1<Z.heap.size) (P7 ?_ ?_) ?_;omega;omega;intro N;have ad:=N.1;have ao:=N.2;have p1:=(h.cell (p:=⟨w.heap.size,1,none⟩) J).trans b1;have b8:=(h.frozen (p:=⟨w.heap.size,1,none⟩) J).trans (bf 1);obtain ⟨a5,O,a2⟩:=af h i L;clear h i L D u T N) | (refine ji lA rfl (.tmp 12) (.tmp 14) rfl w1.heap.size (.slice (some ⟨w1.heap.size,0,none⟩) 0 0) 0 [] rfl ?_ A ms.length c (List.flatten rows) rfl ?_ ?_ ?_ ?_ ?_ ?_ ?_;(focus ((repeat' (first | (with_reducible refine World.ownsRow.drew ?_) | (refine pP _ _ _ _ _ ?_ ?_;(focus (try simp));omega) | (with_reducible refine World.ownsRow.alloc ?_ _)));done));(focus ((repeat' (first | (with_reducible exact a9) | (with_reducible refine Rd.drew ?_) | (with_reducible refine Rd.alloc ?_ _)));done));exact aP.o;exact a4.o;omega;(unfold maxLen;omega);(simp;try omega);intro A2 c2 Z i D u T;simp only [QP,List.nil_append] at i;refine dR (p:=aq w1 Z) ?_ ?_;(focus (refine Below.trans ?_ D;exact am;done));intro h;have a8:=h.size;have n0:=(h.cell (p:=⟨w.heap.size+1,0,none⟩) x).trans m0;have n1:=(h.cell (p:=⟨w.heap.size+1,1,none⟩) x).trans m1;have n2:=(h.cell (p:=⟨w.heap.size+1,2,none⟩) x).trans m2;have n3:=(h.cell (p:=⟨w.heap.size+1,3,none⟩) x).trans m3;have n4:=(h.cell (p:=⟨w.heap.size+1,4,none⟩) x).trans m4;have n5:=(h.cell (p:=⟨w.heap.size+1,5,none⟩) x).trans m5;have L:Rd Z (some ⟨Z.heap.size,0,none⟩) []:=Rd.nil _ _;refine dR (p:=w.heap.size<Z.heap.size/\w.heap.size+1<Z.heap.size) (P7 ?_ ?_) ?_;omega;omega;intro N;have ad:=N.1;have ao:=N.2;have p1:=(h.cell (p:=⟨w.heap.size,1,none⟩) J).trans b1;have b8:=(h.frozen (p:=⟨w.heap.size,1,none⟩) J).trans (bf 1);obtain ⟨a5,O,a2⟩:=af h i L;clear h i L D u T N) | (refine ji lA rfl (.tmp 15) (.tmp 17) rfl w1.heap.size (.slice A2 ms.length c2) ms.length (List.flatten rows) rfl ?_ (some ⟨Z.heap.size,0,none⟩) 1 1 [QZ t0,QZ t1,QZ t2,QZ t3,QZ t4,.slice B zs.length d] rfl ?_ rfl (qG _ _ _ _ _ _ rfl) ?_ ?_ ?_ ?_;(focus ((repeat' (first | (with_reducible exact O.o) | (with_reducible refine World.ownsRow.drew ?_) | (with_reducible refine World.ownsRow.alloc ?_ _)));done));(focus ((repeat' (first | (with_reducible refine Rd.drew ?_) | exact dW _ _ _ _ rfl));done));omega;(unfold maxLen;omega);(first | omega | (focus (simp;omega)) | simp);intro A3 c3 w3 y C I Y;refine dR (p:=aq w1 w3) ?_ ?_;(focus (refine a5.o.trans (Below.trans ?_ C);exact am;done));intro H;have q1:=(H.cell (p:=⟨w.heap.size,1,none⟩) J).trans b1;have bb:=(H.frozen (p:=⟨w.heap.size,1,none⟩) J).trans (bf 1);obtain ⟨aM,a0⟩:=ae H y;clear H y C I Y) | (refine ji lA rfl (.tmp 15) (.tmp 17) rfl w1.heap.size (.slice A2 ms.length c2) ms.length (List.flatten rows) rfl ?_ (some ⟨w1.heap.size+1,0,none⟩) 1 1 [QZ t0,QZ t1,QZ t2,QZ t3,QZ t4,.slice B zs.length d] rfl ?_ rfl (qG _ _ _ _ _ _ rfl) ?_ ?_ ?_ ?_;(focus ((repeat' (first | (with_reducible exact O.o) | (with_reducible refine World.ownsRow.drew ?_) | (with_reducible refine World.ownsRow.alloc ?_ _)));done));(focus ((repeat' (first | (with_reducible exact a2.o) | (with_reducible refine Rd.drew ?_)));done));omega;(unfold maxLen;omega);(first | omega | (focus (simp;omega)) | simp);intro A3 c3 w3 y C I Y;refine dR (p:=aq w1 w3) ?_ ?_;(focus (refine a5.o.trans (Below.trans ?_ C);exact am;done));intro H;have q1:=(H.cell (p:=⟨w.heap.size,1,none⟩) J).trans b1;have bb:=(H.frozen (p:=⟨w.heap.size,1,none⟩) J).trans (bf 1);obtain ⟨aM,a0⟩:=ae H y;clear H y C I Y) | (refine ji lA rfl (.tmp 15) (.tmp 17) rfl w1.heap.size (.slice A2 ms.length c2) ms.length (List.flatten rows) rfl ?_ (some ⟨w1.heap.size,0,none⟩) 1 1 [QZ t0,QZ t1,QZ t2,QZ t3,QZ t4,.slice B zs.length d] rfl ?_ rfl (qG _ _ _ _ _ _ rfl) ?_ ?_ ?_ ?_;(focus ((repeat' (first | (with_reducible exact O.o) | (with_reducible refine World.ownsRow.drew ?_) | (with_reducible refine World.ownsRow.alloc ?_ _)));done));(focus ((repeat' (first | (with_reducible exact a2.o) | (with_reducible refine Rd.drew ?_)));done));omega;(unfold maxLen;omega);(first | omega | (focus (simp;omega)) | simp);intro A3 c3 w3 y C I Y;refine dR (p:=aq w1 w3) ?_ ?_;(focus (refine a5.o.trans (Below.trans ?_ C);exact am;done));intro H;have q1:=(H.cell (p:=⟨w.heap.size,1,none⟩) J).trans b1;have bb:=(H.frozen (p:=⟨w.heap.size,1,none⟩) J).trans (bf 1);obtain ⟨aM,a0⟩:=ae H y;clear H y C I Y))
  all_goals go_wp2_with fail
  all_goals go_meet
  all_goals
   have hm:=yb J bo.o aM.o a0.o (.slice A3 (ms.length+1) c3)
   first | exact ⟨A3,c3,hm.1,hm.2.1,hm.2.2⟩ | exact ⟨A3,c3,hm.1,hm.2.1,Keep.drew hm.2.2⟩
 case rest=>
  obtain ⟨A',c',av,R,hK⟩:=hcut;have bs:=hK.size;have e0:wc.cell? ⟨w.heap.size,0,none⟩=some (QZ (cap:Int)):=PX wc _ 0 _ _ _ R;have e1:wc.cell? ⟨w.heap.size,1,none⟩=some (.slice A' (ms.length+1) c'):=PX wc _ 1 _ _ _ R;have e2:wc.cell? ⟨w.heap.size,2,none⟩=some (QZ (r:Int)):=PX wc _ 2 _ _ _ R;have e3:wc.cell? ⟨w.heap.size,3,none⟩=some (QZ (pk:Int)):=PX wc _ 3 _ _ _ R;have ef:=λj=>P8 wc _ j _ _ R;have Q:=(hK.block (w.heap.size+1+1) a8 ap).trans bh.o;have g0:wc.cell? ⟨w.heap.size+1+1,0,none⟩=some (QZ 0):=PX wc _ 0 _ _ _ Q;have g1:wc.cell? ⟨w.heap.size+1+1,1,none⟩=some (Ra):=PX wc _ 1 _ _ _ Q;have g2:wc.cell? ⟨w.heap.size+1+1,2,none⟩=some (QZ 0):=PX wc _ 2 _ _ _ Q;have g3:wc.cell? ⟨w.heap.size+1+1,3,none⟩=some (QZ 0):=PX wc _ 3 _ _ _ Q;have gf:=λj=>P8 wc _ j _ _ Q;have bv:w.heap.size<wc.heap.size:=ap;have b7:w.heap.size+1+1<wc.heap.size:=ap;have b6:=λW=>rk cap A' (ms.length+1) c' r pk W ap ap;obtain ⟨bd,HK,a7⟩:=af b6 hK av;clear b6 hK av Q R b0 b1 b2 b3 bf m0 m1 m2 m3 m4 m5 a9;go_wp2
  go_region_with ((go_at_call 166;refine (bd.o _).mono ?_;rintro e w' ⟨rfl,rfl⟩))
  all_goals go_wp2_with fail
  all_goals
   have bA:Keep (λk=>k<w1.heap.size) wc wc:=Keep.refl _ _;have bI:aq w wc:=b5.trans (HK.o.toBelow ap (λk hk=>ap));have bn:=Rd.own a7.o
   have b9:ms.length+1<=c':=by
    obtain ⟨A9,c9,e9,bl⟩:=aC a7.o;injection e9 with _ _ e9;rw [e9];exact bl
   have a6:∀a:Addr,A'=some a->¬a.block<w1.heap.size:=λa ha=>by
    have:=(a7.o.lt a.block (by rw [ha];rfl)).1;omega
   first
   | (have hP:(pk:Int)=((max pk (ms.length+1-r):Nat):Int):=ap;refine Qd (v:=.tuple #[.agg #[QZ cap,.slice A' (ms.length+1) c',QZ r,QZ (pk:Int)],QZ 0]) (by simp [results,results135,go_sem,g0,g1,g2,g3,b7]) rfl ⟨A',c',(pk:Int),hP,by rw [Qt,QC],⟨?_,by rw [Qt,QC];exact b9,λa ha=>by have:=a6 a ha;omega⟩,?_⟩)
   | (have hP:(ms.length:Int)+1-(r:Int)=((max pk (ms.length+1-r):Nat):Int):=ap;refine Qd (v:=.tuple #[.agg #[QZ cap,.slice A' (ms.length+1) c',QZ r,QZ ((ms.length:Int)+1-(r:Int))],QZ 0]) (by simp [results,results135,go_sem,g0,g1,g2,g3,b7]) rfl ⟨A',c',(ms.length:Int)+1-(r:Int),hP,by rw [Qt,QC],⟨?_,by rw [Qt,QC];exact b9,λa ha=>by have:=a6 a ha;omega⟩,?_⟩)
  all_goals first
   | (refine zq (B:=B) (d:=d) H2.o H3.o H4.o hB (Keep.rd (S:=λk=>k<w1.heap.size) (w:=wc) ?_ bn a6);(focus (repeat' (first | (with_reducible exact Keep.refl _ _) | (with_reducible assumption) | (with_reducible refine Keep.setCell ?_ _ ?_ _) | (with_reducible refine Keep.alloc ?_ _) | (with_reducible refine Keep.drewN ?_ _) | (with_reducible refine Keep.drew ?_) | (dsimp only;omega)))))
   | exact am
theorem bR:dg prog 75 4:=⟨⟨_,underlying75,rfl⟩,by kernel_rfl⟩
theorem BV:dg prog 24 12:=⟨⟨_,underlying24,rfl⟩,by kernel_rfl⟩
theorem lF:dg prog 103 2:=⟨⟨_,underlying103,rfl⟩,by kernel_rfl⟩
theorem gD:dg prog 187 2:=⟨⟨_,underlying187,rfl⟩,by kernel_rfl⟩
theorem zx (w:R8) (X Y Z p i o:R6) (t u:R9):∃W0,(((((w.alloc (.cells X t)).alloc (.cells Y u)).alloc (.cells Z u)).alloc (.cells p t)).alloc (.cells i u)).alloc (.cells o u)=W0/\
  Vg W0 (Ve w) X t/\Vg W0 (Ve w+1) Y u/\Vg W0 (Ve w+1+1) Z u/\Vg W0 (Ve w+1+1+1) p t/\Vg W0 (Ve w+1+1+1+1) i u/\
  Vg W0 (Ve w+1+1+1+1+1) o u/\aq w W0:=by
 refine ⟨_,rfl,?_⟩;have h:=eJ [.cells X t,.cells Y u,.cells Z u,.cells p t,.cells i u,.cells o u] w
 exact ⟨cu [.cells X t,.cells Y u,.cells Z u,.cells p t,.cells i u,.cells o u] w 0 rfl,cu [.cells X t,.cells Y u,.cells Z u,.cells p t,.cells i u,.cells o u] w 1 rfl,cu [.cells X t,.cells Y u,.cells Z u,.cells p t,.cells i u,.cells o u] w 2 rfl,
  cu [.cells X t,.cells Y u,.cells Z u,.cells p t,.cells i u,.cells o u] w 3 rfl,cu [.cells X t,.cells Y u,.cells Z u,.cells p t,.cells i u,.cells o u] w 4 rfl,cu [.cells X t,.cells Y u,.cells Z u,.cells p t,.cells i u,.cells o u] w 5 rfl,h⟩
def RL (w:R8) (v:R6) (s:LSt):Prop:=∃B c,v=#[QZ (s.cap:Nat),.slice B s.msgs.length c,QZ (s.recv:Nat),QZ (s.peak:Nat)]/\cY w B s.msgs/\s.msgs.length<=c
section
variable {u v:R8}
theorem bQ {A:N_} {l:Q_} {c:Nat} (h:cG u A l c) (i:Ext u v):cG v A l c:=⟨h.hc,h.hl,aW h.hr i,h.hw⟩
theorem fM {A:N_} {c:Nat} {D T R:N_} {ct:Nat} {i:Inp} (h:gM u A c D T ct R i) (o:Ext u v):gM v A c D T ct R i:=
 ⟨⟨h.c.hc,h.c.hm,h.c.hl,aW h.c.hr o⟩,fh cX h.d o,h.dl,bQ h.t o,h.tl,aW h.r o,h.rl,h.ru,h.ra,h.rm⟩
theorem jV {vs:R6} {i:Inp} {x:Nat} {m:Mst} (h:fO u vs i x m) (hb:Ext u v):fO v vs i x m:=by
 obtain ⟨A,c,D,cd,T,ct,R,cr,PA,pc,MA,mc,GA,gc,SA,sc,IA,ic,H,h1,p,I,y,C,o,B⟩:=h;exact ⟨A,c,D,cd,T,ct,R,cr,PA,pc,MA,mc,GA,gc,SA,sc,IA,ic,H,fM h1 hb,bQ p hb,bQ I hb,bQ y hb,fh cX C hb,aW o hb,B⟩
theorem du {A:N_} {ms:List Msg} (h:cY u A ms) (hb:Ext u v):cY v A ms:=by
 obtain ⟨rows,h1,o,y,p⟩:=h;exact ⟨rows,aW h1 hb,o,y,λj i=>by have ⟨B,x,e,hr⟩:=p j i;exact ⟨B,x,e,aW hr hb⟩⟩
theorem uo {V:R8} {A:N_} {ms:List Msg} (h:fX V u A ms) (hb:Ext u v):fX V v A ms:=by
 obtain ⟨rows,h1,i,p,o⟩:=h;exact ⟨rows,aW h1 hb,i,p,o⟩
theorem kw {x:R6} {s:LSt} (h:RL u x s) (hb:Ext u v):RL v x s:=by
 obtain ⟨B,c,h1,i,o⟩:=h;exact ⟨B,c,h1,du i hb,o⟩
end
theorem GL (S:Nat->Prop) (w:R8):Keep S w (aH S w):=⟨rfl,rfl,rfl,Nat.le_of_eq (oH S w).symm,λ_ _ hs=>jq hs⟩
theorem jm (h:w.ownsRow base e 1 (.slice A n c) n xs) (p:∀k,S k->k<base):Rd (aH S w) A xs:=by
 refine mL (Rd.own h) λy i hs=>?_;rcases h.2 with ⟨o,_⟩ | ⟨g,_,_,o,hb,_⟩
 .injection o with e1;rw [e1] at i;cases i
 .injection o with e1;rw [e1] at i;cases i;have u:g<base:=p _ hs;omega
theorem fG {x y z q:Tmp} {Q o i:R9} (h:f.results=#[.cell x Q,.cell y o,.cell z i,.tmp q]) {tmps:R6} {A b3:Nat} {xs ys zs:R6} {t t2 t3:R9} {fr H B:Nat×Nat} (hx:tmps.getD x undef=(au b)) (hy:tmps.getD y undef=(au A)) (hz:tmps.getD z undef=(au b3)) (hb:w.heap[b]?=some (.cells xs t fr)) (R:w.heap[A]?=some (.cells ys t2 H)) (V:w.heap[b3]?=some (.cells zs t3 B)) (hr:dg P Q xs.size) (D:dg P o ys.size) (T:dg P i zs.size):(results f tmps).run P w=.ok (.tuple #[.agg xs,.agg ys,.agg zs,tmps.getD q undef]) w:=by
 obtain ⟨⟨d,h1,h2⟩,h3⟩:=hr;obtain ⟨⟨d',L,I⟩,O⟩:=D;obtain ⟨⟨J,p,u⟩,v⟩:=T;have Z:=run_loadVar_mid (P:=P) w b 0 Q xs.toList d (eF hb 0 (by rw [Qs,QF])) h1 h2 (by simpa using h3);have Y:=run_loadVar_mid (P:=P) w A 0 o ys.toList d' (eF R 0 (by rw [Qs,QF])) L I (by simpa using O);have e3:=run_loadVar_mid (P:=P) w b3 0 i zs.toList J (eF V 0 (by rw [Qs,QF])) p u (by simpa using v);rw [Array.toArray_toList] at Z Y e3;have C:tmps[x]?.getD undef=(au b):=by simpa using hx
 have N:tmps[y]?.getD undef=(au A):=by simpa using hy
 have U:tmps[z]?.getD undef=(au b3):=by simpa using hz
 simp [results,h,C,N,U,asAddr,Z,Y,e3]
def pE (S:Nat->Prop) (i:Inp) (x:Nat) (m:Mst) (s t:LSt) (C:Int) (w:R8) (e:Ending) (h:R8):Prop:=∃vs u v,e=.returned (.tuple #[.agg vs,.agg u,.agg v,QZ C])/\vs.size=22/\(vs.toList.all (·.oneCell')=true)/\fO (aH S h) vs i x m/\RL (aH S h) u s/\RL (aH S h) v t/\aq w h
structure RdF (S:Nat->Prop) (w W0:R8) (i:Inp) (x:Nat) (m:Mst) (s t:LSt) (y:Itm) (A:N_) (c:Nat) (D:N_) (cd:Nat) (T:N_) (ct:Nat) (R:N_) (cr:Nat) (PA:N_) (pc:Nat) (MA:N_) (mc:Nat) (GA:N_) (gc:Nat) (SA:N_) (sc bI oI ic:Nat) (B1:N_) (c1:Nat) (B2:N_) (c2 dn il:Nat):Prop where
 eW:(((((w.alloc (.cells #[.slice A i.cfg.sizes.length c,QZ i.cfg.shift,QZ i.cfg.rate,QZ i.cfg.mom,QZ i.cfg.workers,QZ i.cfg.batch,QZ i.cfg.micros,QZ i.cfg.steps,QZ i.cfg.bucket,QZ i.cfg.chunk,QZ i.cfg.window,QZ i.cfg.cap,.slice D i.data.length cd,.slice T i.start.length ct,.slice R i.draws.length cr,QZ (x:Nat),.slice PA i.start.length pc,.slice MA i.start.length mc,.slice GA i.start.length gc,.slice SA m.rc.length sc,.slice (some (ar bI oI)) il ic,QZ (dn:Nat)] 106)).alloc (.cells #[QZ (s.cap:Nat),.slice B1 s.msgs.length c1,QZ (s.recv:Nat),QZ (s.peak:Nat)] 75)).alloc (.cells #[QZ (t.cap:Nat),.slice B2 t.msgs.length c2,QZ (t.recv:Nat),QZ (t.peak:Nat)] 75)).alloc (.cells Re 106)).alloc (.cells #[QZ 0,Ra,QZ 0,QZ 0] 75)).alloc (.cells #[QZ 0,Ra,QZ 0,QZ 0] 75)=W0
 bx:∀w',aq W0 w'->w'.heap[w.heap.size]?=some (.cells #[.slice A i.cfg.sizes.length c,QZ i.cfg.shift,QZ i.cfg.rate,QZ i.cfg.mom,QZ i.cfg.workers,QZ i.cfg.batch,QZ i.cfg.micros,QZ i.cfg.steps,QZ i.cfg.bucket,QZ i.cfg.chunk,QZ i.cfg.window,QZ i.cfg.cap,.slice D i.data.length cd,.slice T i.start.length ct,.slice R i.draws.length cr,QZ (x:Nat),.slice PA i.start.length pc,.slice MA i.start.length mc,.slice GA i.start.length gc,.slice SA m.rc.length sc,.slice (some (ar bI oI)) il ic,QZ (dn:Nat)] 106 (0,0))/\w'.heap[w.heap.size+1]?=some (.cells #[QZ (s.cap:Nat),.slice B1 s.msgs.length c1,QZ (s.recv:Nat),QZ (s.peak:Nat)] 75 (0,0))/\w'.heap[w.heap.size+1+1]?=some (.cells #[QZ (t.cap:Nat),.slice B2 t.msgs.length c2,QZ (t.recv:Nat),QZ (t.peak:Nat)] 75 (0,0))/\w'.heap[w.heap.size+1+1+1]?=some (.cells Re 106 (0,0))/\w'.heap[w.heap.size+1+1+1+1]?=some (.cells #[QZ 0,Ra,QZ 0,QZ 0] 75 (0,0))/\w'.heap[w.heap.size+1+1+1+1+1]?=some (.cells #[QZ 0,Ra,QZ 0,QZ 0] 75 (0,0))
 K:aq w W0
 I0:gM (aH S w) A c D T ct R i
 P0:cG (aH S w) PA m.P pc
 M0:cG (aH S w) MA m.M mc
 G0:cG (aH S w) GA m.G gc
 R0:dx rEx 2 (aH S w) SA m.rc
 It0:Rd (aH S w) (some (ar bI oI)) (cE (dA i x))
 Pl:m.P.length=i.start.length
 Ml:m.M.length=i.start.length
 Gl:m.G.length=i.start.length
 s0:cY (aH S w) B1 s.msgs
 t0:cY (aH S w) B2 t.msgs
 s2:s.msgs.length<=c1
 t2:t.msgs.length<=c2
 il':(dA i x).length=il
 dn':bq i x m=dn
 s':bK i
 rw':W0.rangeAt bI (oI+dn*12) (bj y)
 S':∀k,S k->k<w.heap.size
 wd:IntKind.i64.wrap ((dn:Int)+1)=((dn:Int)+1)
 loc:(∀w',aq W0 w'->w'.cell? (ar w.heap.size 20)=some (.slice (some (ar bI oI)) il ic))/\(∀w',aq W0 w'->w'.cell? (ar w.heap.size 21)=some (QZ (dn:Nat)))/\(∀w',aq W0 w'->w.heap.size<w'.heap.size)/\(dn:Int)<il/\¬(il:Int)<=dn/\¬(dn:Int)<0/\¬il<=dn
section
variable {S:Nat->Prop} {w W0:R8} {i:Inp} {x:Nat} {m:Mst} {s t:LSt} {y:Itm} {A:N_} {c:Nat} {D:N_} {cd:Nat} {T:N_} {ct:Nat} {R:N_} {cr:Nat} {PA:N_} {pc:Nat} {MA:N_} {mc:Nat} {GA:N_} {gc:Nat} {SA:N_} {sc bI oI ic:Nat} {B1:N_} {c1:Nat} {B2:N_} {c2 dn il:Nat}
variable (h':RdF S w W0 i x m s t y A c D cd T ct R cr PA pc MA mc GA gc SA sc bI oI ic B1 c1 B2 c2 dn il)
include h'
theorem RdF.hI:gM w A c D T ct R i:=fM h'.I0 (dO S w)
theorem RdF.hP:cG w PA m.P pc:=bQ h'.P0 (dO S w)
theorem RdF.hM:cG w MA m.M mc:=bQ h'.M0 (dO S w)
theorem RdF.hG:cG w GA m.G gc:=bQ h'.G0 (dO S w)
end
theorem lj {v:R6} {s t:LSt} (hS:∀k,S k->k<w.heap.size) (h:fO (aH S w) vs i x m) (hu:RL (aH S w) u s) (hv:RL (aH S w) v t) (hs:bK i) (hy:(dA i x)[bq i x m]?=some y):
  ∃A c D cd T ct R cr PA pc MA mc GA gc SA sc bI oI ic B1 c1 B2 c2 dn il W0,vs=(Vm A c D cd T ct R cr i (Vd x) (.slice PA (Vn i) pc) (.slice MA (Vn i) mc) (.slice GA (Vn i) gc) (.slice SA m.rc.length sc) (Vf bI oI il ic) (Vd dn))/\u=#[Vd s.cap,.slice B1 s.msgs.length c1,Vd s.recv,Vd s.peak]/\v=#[Vd t.cap,.slice B2 t.msgs.length c2,Vd t.recv,Vd t.peak]/\RdF S w W0 i x m s t y A c D cd T ct R cr PA pc MA mc GA gc SA sc bI oI ic B1 c1 B2 c2 dn il:=by
 obtain ⟨A,c,D,cd,T,ct,R,cr,PA,pc,MA,mc,GA,gc,SA,sc,IA,ic,rfl,Y,U,a0,O,Z,p,V,a3,L⟩:=h;obtain ⟨B1,c1,rfl,N,a1⟩:=hu;obtain ⟨B2,c2,rfl,a5,a2⟩:=hv;have a4:(dA i x).length<=48000000:=ta hs x (PV _);obtain ⟨bI,oI,rfl,B⟩:=AC (aW p (dO S w)) hy;have I:=(Qu.1 hy).1;have ⟨dn,C⟩:=Vb (bq i x m);have ⟨il,H⟩:=Vb ((dA i x).length);rw [C] at B I;rw [H] at a4 I;have ⟨W0,Q,J,g1,g2,g3,g4,g5,k0⟩:=zx w (Vm A c D cd T ct R cr i (Vd x) (.slice PA (Vn i) pc) (.slice MA (Vn i) mc) (.slice GA (Vn i) gc) (.slice SA m.rc.length sc) (Vf bI oI il ic) (Vd dn)) #[Vd s.cap,.slice B1 s.msgs.length c1,Vd s.recv,Vd s.peak] #[Vd t.cap,.slice B2 t.msgs.length c2,Vd t.recv,Vd t.peak] Re #[QZ 0,Ra,QZ 0,QZ 0] #[QZ 0,Ra,QZ 0,QZ 0] 106 75
 exact ⟨A,c,D,cd,T,ct,R,cr,PA,pc,MA,mc,GA,gc,SA,sc,bI,oI,ic,B1,c1,B2,c2,dn,il,W0,by rw [C,H],rfl,rfl,Q,λo q=>⟨sb J o q,sb g1 o q,sb g2 o q,sb g3 o q,sb g4 o q,sb g5 o q⟩,k0,Y,U,a0,O,Z,p,V,a3,L,N,a5,a1,a2,H,C,hs,λk u hu=>aw k0 (B k u hu),hS,by rw [P3 _ ap],
  λo q=>PX o (Ve w) 20 _ _ _ (sb J o q),λo q=>PX o (Ve w) 21 _ _ _ (sb J o q),sl J,ap,ap,ap,ap⟩
theorem wY {B A i y o:Obj} (k:Keep (λk=>k=X) V h) (h1:V.heap[X+1]?=some B) (p:V.heap[X+1+1]?=some A) (x:V.heap[X+1+1+1]?=some i) (u:V.heap[X+1+1+1+1]?=some y) (v:V.heap[X+1+1+1+1+1]?=some o):
  h.heap[X+1]?=some B/\h.heap[X+1+1]?=some A/\h.heap[X+1+1+1]?=some i/\h.heap[X+1+1+1+1]?=some y/\h.heap[X+1+1+1+1+1]?=some o:=
 ⟨(k.block _ (PU h1) ap).trans h1,(k.block _ (PU p) ap).trans p,(k.block _ (PU x) ap).trans x,(k.block _ (PU u) ap).trans u,(k.block _ (PU v) ap).trans v⟩
abbrev KB3 (X:Nat) (V w:R8):Prop:=Keep (λk=>k=X+1+1+1\/k=X+1+1+1+1\/k=X+1+1+1+1+1) V w
section
variable {P:Program} {ops:Rn} {Q:Exit->Ro->R8->Prop} {X:Nat} {V:R8}
theorem HA.ld3 {L:List Nat} {a:Ro} {w:R8} {vs u v:R6} {t1 t2 T:R9} {i o p:Oper} {D R H:R9} {A O N:Operand} (I:Vg V X vs t1) (B:Vg V (X+1) u t2) (J:Vg V (X+1+1) v T) (Y:dg P D vs.size) (U:dg P R u.size) (Z:dg P H v.size) (y:KB3 X V w) (k:HA P ops Q (KB3 X V) (2::1::0::L) (((a.put i.dst (.agg vs)).put o.dst (.agg u)).put p.dst (.agg v)) w) (x:ops[0]?=some i:=by (simp only [Qn,Qo,Qp];rfl)) (ho1:ops[1]?=some o:=by (simp only [Qn,Qo,Qp];rfl)) (ho2:ops[2]?=some p:=by (simp only [Qn,Qo,Qp];rfl)) (hp0:i.op=.load D A:=by rfl) (hp1:o.op=.load R O:=by rfl) (hp2:p.op=.load H N:=by rfl) (hx0:a.eval A=(au X):=by rfl) (hx1:(a.put i.dst (.agg vs)).eval O=(au (X+1)):=by rfl) (hx2:((a.put i.dst (.agg vs)).put o.dst (.agg u)).eval N=(au (X+1+1)):=by rfl) (g0:Region.wanted i (yielded ops a.tmps)=true:=by rfl) (g1:Region.wanted o (yielded ops (a.put i.dst (.agg vs)).tmps)=true:=by rfl) (g2:Region.wanted p (yielded ops ((a.put i.dst (.agg vs)).put o.dst (.agg u)).tmps)=true:=by rfl) (hs:Region.noSelect ops=true:=by decide +kernel) (hQ:∀c a w d v,Q (.panic c) (Act.put a d v) w->Q (.panic c) a w:=by (intro _ _ _ d _ h;cases d<;>exact h)) (c0:my ops L [0]=true:=by decide +kernel) (c1:my ops (0::L) [1]=true:=by decide +kernel) (c2:my ops (1::0::L) [2]=true:=by decide +kernel):HA P ops Q (KB3 X V) L a w:=
 HA.ld 0 vs (λC q=>(q.block _ (PU I) ap).trans I) Y y (HA.ld 1 u (λC q=>(q.block _ (PU B) ap).trans B) U y (HA.ld 2 v (λC q=>(q.block _ (PU J) ap).trans J) Z y k ho2 hp2 hx2 (by rw [Qs,QF]) g2 hs hQ c2) ho1 hp1 hx1 (by rw [Qs,QF]) g1 hs hQ c1) x hp0 hx0 (by rw [Qs,QF]) g0 hs hQ c0
theorem HA.st3 {L:List Nat} {a:Ro} {w:R8} {vs u v z1 T z3:R6} {t1 t2 I:R9} {h o y:Oper} {R y2 Z:R9} {H x1 x2 v0 v1 v2:Operand} {n1 n2 O:Nat} (i j l:Nat) (b3:Vg V (X+1+1+1) z1 t1) (b4:Vg V (X+1+1+1+1) T t2) (b5:Vg V (X+1+1+1+1+1) z3 I) (r0:dg P R n1) (r1:dg P y2 n2) (r2:dg P Z O) (hw:aq V w) (k:∀p,Vg p (X+1+1+1) vs t1->Vg p (X+1+1+1+1) u t2->Vg p (X+1+1+1+1+1) v I->KB3 X V p->HA P ops Q (KB3 X V) (l::j::i::L) (((a.put h.dst undef).put o.dst undef).put y.dst undef) p) (A:ops[i]?=some h:=by (simp only [Qn,Qo,Qp];rfl)) (ho1:ops[j]?=some o:=by (simp only [Qn,Qo,Qp];rfl)) (ho2:ops[l]?=some y:=by (simp only [Qn,Qo,Qp];rfl)) (hp0:h.op=.store R H v0:=by rfl) (hp1:o.op=.store y2 x1 v1:=by rfl) (hp2:y.op=.store Z x2 v2:=by rfl) (hx0:a.eval H=(au (X+1+1+1)):=by rfl) (hx1:(a.put h.dst undef).eval x1=(au (X+1+1+1+1)):=by rfl) (hx2:((a.put h.dst undef).put o.dst undef).eval x2=(au (X+1+1+1+1+1)):=by rfl) (hv0:a.eval v0=.agg vs:=by rfl) (hv1:(a.put h.dst undef).eval v1=.agg u:=by rfl) (hv2:((a.put h.dst undef).put o.dst undef).eval v2=.agg v:=by rfl) (e0:vs.size=n1:=by rfl) (e1:u.size=n2:=by rfl) (e2:v.size=O:=by rfl) (f0:z1.size=vs.size:=by rfl) (f1:T.size=u.size:=by rfl) (f2:z3.size=v.size:=by rfl) (l0:vs.toList.all (·.oneCell')=true:=by rfl) (l1:u.toList.all (·.oneCell')=true:=by rfl) (l2:v.toList.all (·.oneCell')=true:=by rfl) (d0:dz ops L=[i]:=by decide +kernel) (d1:dz ops (i::L)=[j]:=by decide +kernel) (d2:dz ops (j::i::L)=[l]:=by decide +kernel) (g0:Region.wanted h (yielded ops a.tmps)=true:=by rfl) (g1:Region.wanted o (yielded ops (a.put h.dst undef).tmps)=true:=by rfl) (g2:Region.wanted y (yielded ops ((a.put h.dst undef).put o.dst undef).tmps)=true:=by rfl):HA P ops Q (KB3 X V) L a w:=by
 have q:KB3 X V w:=Keep.below hw;refine HA.st i (sb b3 w hw) r0 (λw6 Y D=>?_) A hp0 hx0 hv0 e0 f0 l0 d0 g0;have U:KB3 X V w6:=q.trans (D.mono λk _ e=>.inl e);refine ⟨U,HA.st j ((D.block _ (PU (sb b4 w hw)) ap).trans (sb b4 w hw)) r1 (λw7 N C=>?_) ho1 hp1 hx1 hv1 e1 f1 l1 d1 g1⟩;have J:KB3 X V w7:=U.trans (C.mono λk _ e=>.inr (.inl e));have x:=(D.block _ (PU (sb b5 w hw)) ap).trans (sb b5 w hw);refine ⟨J,HA.st l ((C.block _ (PU x) ap).trans x) r2 (λw8 e8 B=>?_) ho2 hp2 hx2 hv2 e2 f2 l2 d2 g2⟩;have q8:KB3 X V w8:=J.trans (B.mono λk _ e=>.inr (.inr e));have c3:=(C.block _ (PU Y) ap).trans Y;exact ⟨q8,k w8 ((B.block _ (PU c3) ap).trans c3) ((B.block _ (PU N) ap).trans N) e8 q8⟩
end
theorem lh {o i:R8} (p:Keep (λk=>k=w.heap.size) V o) (v:KB3 w.heap.size o i) (h:aq w V):Keep (λk=>w.heap.size<=k/\k<w.heap.size+6) V i/\aq w i:=
 have k:Keep (λk=>w.heap.size<=k/\k<w.heap.size+6) V i:=(p.mono λk _ e=>ap).trans (v.mono λk _ e=>by rcases e with e | e | e<;>omega)
 ⟨k,h.trans (k.toBelow h.size (λj u=>u.1))⟩
theorem Ct {s t:LSt} {v:R6} (hS:∀k,S k->k<w.heap.size) (h:fO (aH S w) vs i x m) (hu:RL (aH S w) u s) (hv:RL (aH S w) v t) (hs:bK i) (hy:(dA i x)[bq i x m]?=some y) (k1 k2:Int) (b0 b1:Bool) (i0 i1 i2 i3 i4 i5 i6:Int) (a3:bj y=[QZ 2,QZ k1,QZ k2,.bool b0,.bool b1,QZ i0,QZ i1,QZ i2,QZ i3,QZ i4,QZ i5,QZ i6]) (m1:Mst) (h1:m1.P=m.P/\m1.M=m.M/\m1.G=m.G/\m1.rc=m.rc) (L:bq i x m1=bq i x m+1):Vj 89 #[.agg vs,.agg u,.agg v] w (λe w'=>pE S i x m1 (s) (t) 0 w e w'):=by
 obtain ⟨A,c,D,cd,T,ct,R,cr,PA,pc,MA,mc,GA,gc,SA,sc,bI,oI,ic,B1,c1,B2,c2,dn,il,W0,rfl,rfl,rfl,H⟩:=lj hS h hu hv hs hy;have J:=H.rw';rw [a3] at J;rw [H.dn'] at L;have ⟨ao,H1,a7⟩:=af J h1 L;obtain ⟨b9,b8,tl,aR,a8,b7,ab⟩:=H.loc;have q0:=br W0;clear h hu hv hs hy a3 hS h1 L J;go_enter func89,ntmps89;go_upto_region 1 with (fail);rw [H.eW];go_upto_region 4 with (first | (refine fu ao.o jk rfl rfl rfl ?_) | (refine aI (PW _ _) jk rfl rfl rfl rfl rfl rfl rfl ?_;intro W3 e3 k3;have ⟨E3,K3⟩:=ae e3 (aN k3);clear e3 k3));clear b9 b8 tl q0 aR a8 b7 ab;go_upto_region 5 with (first | (refine aQ #[QZ i5,QZ i6] (b:=Ve W0) E3.o gD rfl rfl rfl rfl ?_) | (refine aI (PW _ _) gD rfl rfl rfl rfl rfl rfl rfl ?_;intro W4 e4 k4;have ⟨E4,K4⟩:=ae e4 (aN k4);clear e4 k4));have y0:Vh W4 (Ve W0) 0 (QZ 2):=PX W4 _ 0 _ _ _ (sb E3.o _ K4.o);have a4:=aa (bt K3.o K4.o);go_upto_region 28 with (fail);have ⟨p,I,Q,C,N,U⟩:=H.bx _ a4.o;have O:=H.K.trans (a4.o.mono H.K.size);have ⟨V,hV⟩:=Vb W4;rw [hV] at p I Q C N U O |-;clear hV y0;have aG:=PX V (Ve w) 21 _ _ _ p;have a6:=P8 V (Ve w) 21 _ _ p;have lM:=PU p;have aM:=H.wd;have e9:=ss (i:=21) (v:=QZ ((dn:Int)+1)) p rfl;have k9:Keep (λk=>k=Ve w) V (V.setCell (ar (Ve w) 21) (QZ ((dn:Int)+1))):=Vk (Ve w) (Keep.refl _ _) _ (.inr rfl) _;have ⟨E9,K9,ad,av,b6,aP,a9,bb⟩:=ak e9 k9 I Q C N U O;clear e9 k9 I Q C N U O p;go_upto_region 29 with (fail);have ⟨Y,a0⟩:=Vb (V.setCell (ar (Ve w) 21) (QZ ((dn:Int)+1)));rw [a0] at E9 K9 |-;clear a0 aG a6 lM aM;have ⟨b1,b2,b3,b4,b5⟩:=wY K9.o ad.o av.o b6.o aP.o a9.o;have hq:aq Y Y.drew:=(br Y).drew;refine HA.g (KB3 (Ve w) Y) ?_;refine HA.ld3 (vs:=(Vm A c D cd T ct R cr i (Vd x) (.slice PA (Vn i) pc) (.slice MA (Vn i) mc) (.slice GA (Vn i) gc) (.slice SA m.rc.length sc) (Vf bI oI il ic) (QZ (dn+1)))) E9.o b1 b2 et bR bR (Keep.below hq) ?_;refine HA.st3 3 4 5 b3 b4 b5 et bR bR hq (λw8 r3 r4 e8 q8=>?_);refine HA.t ?_ [6] q8 ?_;refine HA.d ?_;have ⟨R3,R4,R5⟩:=af r3 r4 e8;have F:=lh K9.o q8 bb.o;have ⟨bd,QW⟩:=ae F.1 F.2;clear b1 b2 b3 b4 b5 e8 q8 r3 r4 hq F;go_wp2_with fail;refine Qd (fG rfl rfl rfl rfl R3.o R4.o R5.o et bR bR) rfl ?_;have B:Ext (aH S w) (aH S w8):=bC (Keep.below QW.o) (λ_ _ h=>h);obtain ⟨Z,a2,a5,a1⟩:=H1.o;exact ⟨_,_,_,rfl,rfl,rfl,⟨A,c,D,cd,T,ct,R,cr,PA,pc,MA,mc,GA,gc,SA,sc,some (ar bI oI),ic,by rw [H.il',a7.o,a1];push_cast;rfl,fM H.I0 B,by rw [Z];exact bQ H.P0 B,by rw [a2];exact bQ H.M0 B,by rw [a5];exact bQ H.G0 B,by rw [a1];exact fh cX H.R0 B,aW H.It0 B,by rw [Z];exact H.Pl,by rw [a2];exact H.Ml,by rw [a5];exact H.Gl⟩,⟨B1,c1,rfl,du H.s0 B,H.s2⟩,⟨B2,c2,rfl,du H.t0 B,H.t2⟩,QW.o⟩
theorem DI:dg prog 128 4:=⟨⟨_,underlying128,rfl⟩,by kernel_rfl⟩
theorem tH (A:N_) (l:Q_) (c k i:Nat) (w:R8) (hA:Rd w A (aA .i64 l)) (hc:l.length<=c) (hl:l.length<=1048576) (hn:0<l.length) (hk:1<=k) (O:k<=1048576) (N:i<k):Vj 163 #[.slice A l.length c,QZ i,QZ k] w (Bk (cQ l k i) (cQ l k i).length w):=by
 have u:=wu l.length k w hk O hl;obtain ⟨b,o,rfl,_⟩:=hA.num hn;have x:=kh l hk N;have L:cQ l k i=(l.drop (bdN l.length k i)).take (bdN l.length k (i+1)-bdN l.length k i):=rfl;have h1:=kC l.length k (Nat.le_succ i);have Y:=fU l.length k (i+1) hk N;have hg:=eO (l:=fT l.length k) (j:=i) (by rw [gh];exact N)
 have hr:aK (fT l.length k) i=(bdN l.length k i,bdN l.length k (i+1)):=by
  rw [cZ _ _ (by rw [gh];exact N)];simp [fT]
 rw [hr] at hg;rw [x];have ⟨P,hP⟩:=Vb (cQ l k i);have ⟨lo,H⟩:=Vb (bdN l.length k i);have ⟨h,y⟩:=Vb (bdN l.length k (i+1));simp only [Nat.succ_eq_add_one] at h1;rw [hP] at L |-;rw [H,y] at L h1 hg |-;rw [y] at Y;have ⟨V,hV⟩:=Vb (aS (fT l.length k));rw [hV] at u hg;have ⟨n,D⟩:=Vb l.length;rw [D] at u hc hl hn Y |-;have a4:(i:Int)<k:=ap;have a3:¬(i:Int)<0:=ap;have ⟨R,Q,Z,HP⟩:=ag u hA hg L;clear u hA hg L hr x hP H y D hV;go_enter func163,ntmps163;go_wp2_with fail;refine R.o.mono ?_;rintro e C ⟨v,rfl,ov,U⟩;obtain ⟨g,cv,rfl,_⟩:=ov.form ap;have c0:=ov.cellAt (i*2) ap;have c1:=ov.cellAt (i*2+1) ap;rw [Z.o.1] at c0;rw [Z.o.2] at c1;have lg:=(ov.lt g rfl).2;have t0:∀p,aq C p->Vh p g (i*2) (Vd lo):=λp q=>aw q c0;have t1:∀p,aq C p->Vh p g (i*2+1) (Vd h):=λp q=>aw q c1;have J:=aa U;have B:=(br C).drew;have a5:(lo:Int)<=h:=ap;have a6:(h:Int)<=c:=ap;have a0:lo<=h:=ap;have a1:h<=c:=ap;have a2:¬(k:Int)<=i:=ap;clear ov U c0 c1;go_upto_region 4 with (fail);by_cases T:c=lo
 .subst T;obtain rfl:h=c:=ap;refine HA.g (λp:R8=>aq C p) ?_;refine HA.t ?_ [0,1,2,3,4,5,6,7,8,9,10,11,12] B ?_;refine HA.d ?_;have I:=aa (J.o.trans (B.mono J.o.size));clear B t0 t1;go_wp2;go_ret;refine ⟨some (ar b o),0,by rw [Nat.sub_self];rfl,ap,?_,I.o⟩;rw [HP.o,Nat.sub_self,List.take_zero];exact Rd.nil _ _
 .refine HA.g (λp:R8=>aq C p) ?_;refine HA.t ?_ [0,1,2,3,4,5,6,7,8,9,10,11,12] B ?_;refine HA.d ?_;have I:=aa (J.o.trans (B.mono J.o.size));clear B t0 t1;go_wp2;go_ret;refine ⟨_,_,rfl,ap,?_,I.o⟩;have:=((Q.o.below I.o).drop lo).take (h-lo)
  rwa [dK,dH,<-HP.o] at this
theorem B7 (n b steps t W x E c:Nat) (A:N_) (l:Q_) (w:R8) (hA:dx zD 1 w A (jb l n E)) (Y:E=epN n b steps) (hb:1<=b) (C:b<=n) (hn:n<=1048576) (J:steps<=1048576) (ht:t<steps) (hW:1<=W) (a0:W<=b) (hx:x<W):Vj 164 #[.agg #[QZ n,QZ b,QZ steps,.slice A E c],QZ t,QZ x,QZ W] w (Bk (cQ (cN l n b t) W x) (cQ (cN l n b t) W x).length w):=by
 have i:=fV l (t:=t) (Nat.div_pos C hb);have p:=λv (q:aq w v)=>ua n b steps t E c A l v (hA.below vV q) hb C hn J ht Y;have ⟨B,hB⟩:=Vb (cN l n b t);rw [hB] at i p |-;have h:=λA c v (hA:Rd v A (aA .i64 B)) (hc:B.length<=c)=>tH A B c W x v hA hc ap ap hW ap hx;have ⟨Q,T⟩:=Vb (cQ B W x);rw [T] at h |-;rw [i] at h;have ⟨H,u⟩:=Vb Q.length;rw [u] at h |-;have U:=PW w (.cells #[QZ n,QZ b,QZ steps,.slice A E c] 128);have L:=(br w).alloc (PV _) (.cells #[QZ n,QZ b,QZ steps,.slice A E c] 128);have ⟨N,I,G0,V⟩:=ag (p _ L) h U L;clear p h U L hA u T hB i Y;go_enter func164,ntmps164;go_wp2_with (refine aQ #[QZ n,QZ b,QZ steps,.slice A E c] (b:=Ve w) G0.o DI rfl rfl rfl rfl ?_);refine N.o.mono ?_;rintro e w1 ⟨A1,c1,rfl,D,R,O⟩;have ⟨H1,K1⟩:=ae (I.o A1 c1 w1 R D) (V.o.trans (O.mono V.o.size));clear D R O;go_wp2_with fail;refine H1.o.mono ?_;rintro e w2 ⟨A2,c2,rfl,y,Z,k2⟩;have HF:=aa (⟨A2,c2,rfl,y,Z,bt K1.o k2⟩:Bk Q H w (.returned (.slice A2 H c2)) w2);clear y Z k2;go_wp2;go_ret;exact HF.o
theorem Ch (n b steps t W x mi a E c:Nat) (A:N_) (l:Q_) (w:R8) (hA:dx zD 1 w A (jb l n E)) (hE:E=epN n b steps) (hb:1<=b) (I:b<=n) (hn:n<=1048576) (R:steps<=1048576) (ht:t<steps) (T:1<=W) (a0:W<=b) (hx:x<W) (hm:1<=mi) (V:mi<=1048576) (ha:a<mi):Vj 133 #[.agg #[QZ n,QZ b,QZ steps,.slice A E c],QZ t,QZ x,QZ W,QZ a,QZ mi] w (Bk (iT (cN l n b t) W x mi a) (iT (cN l n b t) W x mi a).length w):=by
 have a1:1<=n/b:=Nat.div_pos I hb;have u:=fV l (t:=t) a1;have i:=λv (q:aq w v)=>B7 n b steps t W x E c A l v (hA.below vV q) hE hb I hn R ht T a0 hx;have ⟨B,hB⟩:=Vb (cN l n b t);rw [hB] at u i |-;have hP:=kh B T hx
 have N:bdN B.length W x+1<=bdN B.length W (x+1):=by
  rw [qN];have:1<=B.length/W:=Nat.div_pos ap ap;unfold szE;omega
 have ⟨Q,O⟩:=Vb (cQ B W x);have C:iT B W x mi a=cQ Q mi a:=by unfold iT;rw [O]
 rw [O] at hP i;have y:Q.length<=1048576:=by have:=fU B.length W (x+1) T hx;omega
 have h:=λA c v (hA:Rd v A (aA .i64 Q)) (hc:Q.length<=c)=>tH A Q c mi a v hA hc y ap hm V ha;rw [C];have ⟨M,hM⟩:=Vb (cQ Q mi a);rw [hM] at h |-;have ⟨qn,p⟩:=Vb Q.length;rw [p] at i h;have ⟨L,H⟩:=Vb M.length;rw [H] at h |-;have g0:=PW w (.cells #[QZ n,QZ b,QZ steps,.slice A E c] 128);have U:=(br w).alloc (PV _) (.cells #[QZ n,QZ b,QZ steps,.slice A E c] 128);have ⟨Z,Y,G0,B0⟩:=ag (i _ U) h g0 U;clear h i g0 U hA hE H p hM C O hB y N hP u;go_enter func133,ntmps133;go_wp2_with (refine aQ #[QZ n,QZ b,QZ steps,.slice A E c] (b:=Ve w) G0.o DI rfl rfl rfl rfl ?_);refine Z.o.mono ?_;rintro e w1 ⟨A1,c1,rfl,J,r1,k1⟩;have ⟨H1,K1⟩:=ae (Y.o A1 c1 w1 r1 J) (B0.o.trans (k1.mono B0.o.size));clear J r1 k1;go_wp2_with fail;refine H1.o.mono ?_;rintro e w2 ⟨A2,c2,rfl,D,r2,k2⟩;have HF:=aa (⟨A2,c2,rfl,D,r2,bt K1.o k2⟩:Bk M L w (.returned (.slice A2 L c2)) w2);clear D r2 k2;go_wp2;go_ret;exact HF.o
theorem zA (A B:N_) (G v:Q_) (n m cg cv lo:Nat) (add:Bool) (w:R8) (hA:Rd w A (aA .i64 G)) (hB:Rd w B (aA .i64 v)) (hn:G.length=n) (hm:v.length=m) (hb:n<=1048576) (a6:lo+m<=n):Vj 134 #[.slice A n cg,Vd lo,.slice B m cv,.bool add] w λe C=>∃A' Z,Vi e (.slice A' n Z)/\C.ownsRow w.heap.size 2 1 (.slice A' n Z) n (aA .i64 (iK G lo v add))/\aq w C:=by
 have u:=pL A G cg w hA ap;rw [hn] at u;unfold iK;rw [hm];obtain ⟨N,HB,Hn,Hm⟩:=ag u hB hn hm;clear u hA hB hn hm;go_enter func134,ntmps134;go_wp2_with fail;refine N.o.mono ?_;rintro e w1 ⟨A1,c1,rfl,o1,J⟩;obtain ⟨T,Y,K1⟩:=af (HB.o.below J) o1 J;clear o1 J;go_wp2
 go_loopw [10] (λz wr=>∃k:Nat,k<=m/\z=QZ k/\wr.ownsRow w.heap.size 2 1 (.slice A1 n c1) n (aA .i64 (vF G lo v add k))/\Keep (λj=>(Value.slice A1 n c1).ownBlock=some j) w1 wr) (λz _=>m-(intOf z).toNat)
 .exact ⟨0,PZ _,rfl,by rw [xp];exact Y.o,Keep.refl _ _⟩
 case round=>
  obtain ⟨k,hk,rfl,o,y⟩:=hrel;by_cases x:k<m
  .obtain ⟨g,d,hv,hg,a7⟩:=o.form ap;simp only [QH] at hv;obtain ⟨rfl,O,rfl⟩:=hv;clear O;have i:lo+k<G.length:=by rw [Hn.o];omega
   have Q:=cS o (show lo+k<n by omega);rw [nI _ _ _ _ i,if_neg ap] at Q;have f1:=o.frozenAt (lo+k);have H:=T.o;obtain ⟨R,o2,rfl,p0⟩:=H.num (show k<v.length by rw [Hm.o];exact x)
   have U:R≠g:=λe=>by
    have h1:w.heap.size<=g:=(Y.o.lt g rfl).1;obtain ⟨b3,o3,e3,p3⟩:=HB.o.num (show k<v.length by rw [Hm.o];exact x);have h3:b3<w.heap.size:=aB p3
    cases e3
    omega
   have p2:Vh wr R (o2+k) (QZ (nth v k)):=y.cell p0 (by simp [Value.ownBlock];exact λe=>U e.symm);have p:=Bc G lo v add i;have L:(k:Int)<m:=ap;obtain ⟨j,V⟩:=Vb (lo+k);rw [V] at Q f1 p i;have a1:(lo:Int)+k=(j:Int):=ap;have a2:j<n:=ap;have a0:(j:Int)<n:=ap;have a5:¬(j:Int)<0:=ap;have a4:IntKind.i64.wrap (j:Int)=j:=P3 _ ap;have a3:IntKind.i64.wrap ((k:Int)+1)=((k+1:Nat):Int):=by rw [P3 _ ap];push_cast;rfl
   obtain ⟨I,D,h⟩:=af y o p;clear y o p i p0 H
   cases add with
   | true=>
    rw [if_pos rfl] at h;go_upto_region 6 with (fail);refine XA.g 16 (λC:R8=>Vh C g j (QZ (nth G j))/\Vh C R (o2+k) (QZ (nth v k))) ?_;refine XA.t ?_ [0,1,2,3,4,5,6,7,8,9,10,11,12,13,14,15] ⟨Q,p2⟩ ?_;refine XA.e ?_;simp only [Qq,Qs];go_wp2;go_roundw
    case rel=>
     refine ⟨k+1,ap,Vc,?_,?_⟩
     .rw [<-h.o];exact eC (bZ D.o 1) j _
     .exact Keep.setCell (I.o.drewN 1) (ar g j) (.inr rfl) _
    case measure=>exact Va
   | false=>
    rw [if_neg V0] at h;go_wp2;go_roundw
    case rel=>
     refine ⟨k+1,ap,Vc,?_,?_⟩
     .rw [<-h.o];exact eC D.o j _
     .exact Keep.setCell I.o (ar g j) (.inr rfl) _
    case measure=>exact Va
  .obtain rfl:k=m:=ap;have L:¬(k:Int)<k:=ap;obtain ⟨HO,I⟩:=ae o (K1.o.trans (y.toBelow K1.o.size (λj V=>(Y.o.lt j V).1)));clear o y;go_wp2;go_ret;exact ⟨_,_,rfl,HO.o,I.o⟩
theorem Dm {a b c:Q_} (h:b.length=a.length):eT (eT a b) c=eT a (eT b c):=by
 have e:(eT a b).length=a.length:=gK _ _;unfold eT at e |-;rw [e];refine fv λk hk=>?_;rw [bJ _ hk,bJ _ ap];unfold wrap64;omega
theorem Dl {a:Q_} (h:W64 a) (n:Nat):eT a (List.replicate n 0)=a:=by
 refine (fN rfl λk hk=>?_).symm
 have e:nth (List.replicate n (0:Int)) k=0:=by
  simp only [nth,List.getD_eq_getElem?_getD,List.getElem?_replicate]
  split<;>rfl
 have:=h k hk;rw [e,Int.add_zero];unfold wrap64;omega
theorem MS (hg:iX i) (x st a:Nat):(oY i x st a).length<=1048576:=by
 have o:=fV i.draws (n:=i.data.length) (b:=i.cfg.batch.toNat) (t:=st) (Nat.div_pos (by have:=hg.b.1;omega) (by have:=hg.c.ba;have:=hg.c.w;omega));have h1:∀(l:Q_) (k j:Nat),(cQ l k j).length<=l.length:=λl k j=>by simp only [cQ,Qy,QB];omega
 have h:=h1 (cQ (cN i.draws i.data.length i.cfg.batch.toNat st) i.cfg.workers.toNat x) i.cfg.micros.toNat a;have p:=h1 (cN i.draws i.data.length i.cfg.batch.toNat st) i.cfg.workers.toNat x;have:=hg.c.ba;unfold oY iT;omega
theorem CY {P G:Q_} (o:W64 G) (hl:G.length=cnt i) (l:Rl):dh i P G l=eT G (dE i P l):=by
 have h:∀(l:Rl) (A:Q_),A.length=G.length->dh i P (eT G A) l=eT G (l.foldl (λa x=>eT a (fR i.cfg.sizes P i.cfg.shift x.1 x.2)) A):=by
  intro l
  induction l with
  | nil=>intro A _;rfl
  | cons x l ih=>
   intro A hA
   show dh i P (eT (eT G A) _) l=_
   rw [Dm hA,List.foldl_cons];exact ih _ (by rw [gK];exact hA)
 have:=h l (List.replicate (cnt i) 0) (by rw [QA,hl]);rw [Dl o] at this;exact this
theorem FZ {h:Int} {ms g:Q_} (hk:k<n) (i:lo+n<=ps.length) (hm:lo+n<=ms.length):nth (nu ra h q ((ps.drop lo).take n) ((ms.drop lo).take n) g) k=kU ra q (nth ps (lo+k)) (eE h q (nth ms (lo+k)) (nth g k)):=by
 unfold nu;rw [bJ _ (by simp only [Qy,QB];omega),eH hk,eH hk,eI,eI]
theorem wQ {h:Int} {ms g:Q_} (hk:k<n) (hm:lo+n<=ms.length):nth (nv h q ((ms.drop lo).take n) g) k=eE h q (nth ms (lo+k)) (nth g k):=by
 unfold nv;rw [bJ _ (by simp only [Qy,QB];omega),eH hk,eI]
theorem JA {s t:LSt} {v:R6} (hS:∀k,S k->k<w.heap.size) (h:fO (aH S w) vs i x m) (hu:RL (aH S w) u s) (hv:RL (aH S w) v t) (hs:bK i) (hy:(dA i x)[bq i x m]?=some y) (k1 k2:Int) (b0 b1:Bool) (i0 i1 i2 i3 i4 i5 i6:Int) (bo:bj y=[QZ 1,QZ k1,QZ k2,.bool b0,.bool b1,QZ i0,QZ i1,QZ i2,QZ i3,QZ i4,QZ i5,QZ i6]) (st a:Nat) (bv:k1=(st:Nat)) (b8:k2=(a:Nat)) (cO:st<i.cfg.steps.toNat) (ha:a<i.cfg.micros.toNat) (dp:x<i.cfg.workers.toNat) (m1:Mst) (h1:m1.P=m.P/\m1.M=m.M/\m1.G=dh i m.P m.G (cI i.data (oY i x st a))/\m1.rc=m.rc) (aG:bq i x m1=bq i x m+1):Vj 89 #[.agg vs,.agg u,.agg v] w (λe p=>pE S i x m1 (s) (t) 0 w e p):=by
 obtain ⟨d9,dT⟩:=ae bv b8;clear bv b8;obtain ⟨A,c,D,cd,T,ct,R,cr,PA,pc,MA,mc,GA,gc,SA,sc,bI,oI,ic,B1,c1,B2,c2,dn,il,L,rfl,rfl,rfl,H⟩:=lj hS h hu hv hs hy;have ad:=H.rw';rw [bo] at ad;rw [H.dn'] at aG;obtain ⟨cM,H1,cb⟩:=af ad h1 aG;obtain ⟨dv,dr,tl,d3,cj,dc,cs⟩:=H.loc;have q0:=br L;clear h hu hv hs hy bo hS h1 aG ad;go_enter func89,ntmps89;go_upto_region 1 with (fail);rw [H.eW];go_upto_region 4 with (first | (refine fu cM.o jk rfl rfl rfl ?_) | (refine aI (PW _ _) jk rfl rfl rfl rfl rfl rfl rfl ?_;intro W3 e3 k3;obtain ⟨E3,K3⟩:=ae e3 (aN k3);clear e3 k3));clear dv dr tl q0 d3 cj dc cs;go_upto_region 5 with (first | (refine aQ #[QZ i5,QZ i6] (b:=L.heap.size) E3.o gD rfl rfl rfl rfl ?_) | (refine aI (PW _ _) gD rfl rfl rfl rfl rfl rfl rfl ?_;intro W4 e4 k4;obtain ⟨E4,K4⟩:=ae e4 (aN k4);clear e4 k4));have y0:W4.cell? (ar L.heap.size 0)=some (QZ 1):=PX W4 _ 0 _ _ _ (sb E3.o _ K4.o);have bs:=aa (bt K3.o K4.o);have bf:=aa (H.bx _ bs.o).1;have dk:=aa (sb E3.o _ K4.o);go_upto_region 8 with (first | (refine aQ #[.slice A i.cfg.sizes.length c,QZ i.cfg.shift,QZ i.cfg.rate,QZ i.cfg.mom,QZ i.cfg.workers,QZ i.cfg.batch,QZ i.cfg.micros,QZ i.cfg.steps,QZ i.cfg.bucket,QZ i.cfg.chunk,QZ i.cfg.window,QZ i.cfg.cap] (b:=w.heap.size) bf.o BV rfl rfl rfl rfl ?_) | (refine aI (PW _ _) BV rfl rfl rfl rfl rfl rfl rfl ?_;intro O e5 k5;obtain ⟨E5,K5⟩:=ae e5 (aN k5);clear e5 k5));have a9:=aa (bt bs.o K5.o);have a2:=H.K.trans (a9.o.mono H.K.size);have q5:=(br O).drew;have kM:=λp (q:aq O p)=>sb (sb bf.o _ K5.o) p q;have kX:=λp (q:aq O p)=>sb (sb dk.o _ K5.o) p q;have cy:∀p,aq O p->p.cell? (ar w.heap.size 15)=some (Vd x):=λp q=>PX p _ 15 _ _ _ (kM p q);have x1:∀p,aq O p->p.cell? (ar L.heap.size 1)=some (Vd st):=λp q=>by unfold Vd;rw [<-d9.o];exact PX p _ 1 _ _ _ (kX p q)
 have x2:∀p,aq O p->p.cell? (ar L.heap.size 2)=some (Vd a):=λp q=>by unfold Vd;rw [<-dT.o];exact PX p _ 2 _ _ _ (kX p q)
 have c4:∀p,aq O p->p.cell? (ar W4.heap.size 4)=some (QZ i.cfg.workers):=λp q=>PX p _ 4 _ _ _ (sb E5.o p q);have c6:∀p,aq O p->p.cell? (ar W4.heap.size 6)=some (QZ i.cfg.micros):=λp q=>PX p _ 6 _ _ _ (sb E5.o p q);have hg:=H.s'.g;have ef:1<=i.cfg.batch:=by have:=hg.c.w;have:=hg.c.ba;omega
 have eW:((i.cfg.workers.toNat:Nat):Int)=i.cfg.workers:=by have:=hg.c.w;omega
 have eM:((i.cfg.micros.toNat:Nat):Int)=i.cfg.micros:=by have:=hg.c.mi;omega
 have eB:((i.cfg.batch.toNat:Nat):Int)=i.cfg.batch:=ap;have eS:((i.cfg.steps.toNat:Nat):Int)=i.cfg.steps:=by have:=hg.c.st;omega
 have U:=λp (q:aq O p)=>H.hI.below (a2.trans (q.mono a2.size));have bn:=λp (q:aq O p)=>se A c D cd T ct R cr i p hg (U p q).r (U p q).rl (U p q).ru;have Z:=λp A' c' (hA:dx zD 1 p A' (jb i.draws i.data.length (epI i)))=>Ch i.data.length i.cfg.batch.toNat i.cfg.steps.toNat st i.cfg.workers.toNat x i.cfg.micros.toNat a (epI i) c' A' i.draws p hA rfl ap (by have:=hg.b;omega) hg.b.2 (by have:=hg.c.st;omega) cO (by have:=hg.c.w;omega) (by have:=hg.c.ba;omega) dp (by have:=hg.c.mi;omega) (by have:=hg.c.mi;omega) ha;rw [eW,eM,eB,eS] at Z;have C:=Ah hg x st a;have a5:iT (cN i.draws i.data.length i.cfg.batch.toNat st) i.cfg.workers.toNat x i.cfg.micros.toNat a=oY i x st a:=rfl;rw [a5] at Z;have Q:=MS hg x st a;obtain ⟨B,I⟩:=Vb (oY i x st a);rw [I] at Z C Q;obtain ⟨e0,cw,av,bh,ds,aR,KM,N⟩:=ak bn Z C I U Q kM a2;clear bn Z C I a5 U Q kM kX eW eM eB eS a2 y0;refine HA.g (λp:R8=>aq O p) ?_;refine HA.t ?_ [0,3,4,5,6,7,8,9,10,11,12] q5 ?_;refine HA.ld 1 (aL A c D cd T ct R cr i) (λp q=>KM.o p q) gu q5 ?_;refine HA.c 2 (e0.o _ q5) ?_;rintro e w6 ⟨A6,cn,rfl,⟨ee,o6⟩,k6⟩;have q6:=q5.trans (k6.mono q5.size);refine ⟨_,rfl,q6,λ_=>?_⟩;refine HA.c 13 (cw.o w6 A6 cn (o6.rd hg.b.2)) ?_;rintro e w7 ⟨A7,c7,rfl, -,r7,k7⟩;have q7:=q6.trans (k7.mono q6.size);refine ⟨_,rfl,q7,λ_=>?_⟩;refine HA.t ?_ [14] q7 ?_;refine HA.d ?_;have q8:aq O w7.drew:=q7.drew;have a1:=ds.o w7 q7;have a4:=N.o.trans (q7.mono N.o.size);have ao:=H.hP.below a4;have bN:=su A c D cd T ct R cr i PA A7 m.P B i.start.length pc c7 w7 a1.c.hr (by have:=a1.c;exact this.hc) a1.d hg ao.hr H.Pl hg.s.symm ao.hw r7 (by have:=aR.o;omega);have a3:=KM.o w7 q7;have d6:=PX w7 w.heap.size 16 _ _ _ a3;have e7:=PU a3;obtain ⟨cv,bM,Q7⟩:=af bN a3 q7;clear q5 q6 q7 q8 k6 k7 o6 r7 cy x1 x2 c4 c6 bN a3 a1 ao a4;go_wp2_with (refine aQ (aL A c D cd T ct R cr i) (b:=w.heap.size) bM.o gu rfl rfl rfl rfl ?_);refine cv.o.mono ?_;rintro e w8 ⟨k8,⟨-,v8,rfl,o8⟩ | ⟨cA, -⟩⟩;rotate_left
 .exact absurd av.o cA
 obtain ⟨A8,c8,rfl, -⟩:=aC o8;have a0:=sb bM.o _ k8;have cx:=PX w8 w.heap.size 18 _ _ _ a0;have bl:=P8 w8 w.heap.size 18 _ _ a0;have d5:=PU a0;have q8:=Q7.o.trans (k8.mono Q7.o.size);have a7:=N.o.trans (q8.mono N.o.size);have ab:(dE i m.P (cI i.data B)).length=i.start.length:=by rw [ik,hg.s]
 rw [<-hg.s] at o8 |-;have aM:=zA GA A8 m.G (dE i m.P (cI i.data B)) i.start.length i.start.length gc c8 0 true w8 (H.hG.below a7).hr (Rd.own o8) H.Gl ab (by have:=H.s'.n;omega) ap;unfold Vd at aM;rw [show ((0:Nat):Int)=0 from rfl] at aM;obtain ⟨da,d8,Q8,e2⟩:=ag aM a0 q8 ab;clear aM a0 o8 k8 q8 a7 d6 e7 ab;go_wp2_with fail;refine da.o.mono ?_;rintro e w9 ⟨A9,c9,rfl,o9,k9⟩;have Y:=sb d8.o _ k9;have cf:=PX w9 w.heap.size 18 _ _ _ Y;have bl:=P8 w9 w.heap.size 18 _ _ Y;have e1:=PU Y;have aP:=Q8.o.trans (k9.mono Q8.o.size);have a6:=N.o.trans (aP.mono N.o.size);have bO:=a6;have eG:iK m.G 0 (dE i m.P (cI i.data B)) true=dh i m.P m.G (cI i.data B):=by rw [Ls (by rw [e2.o,H.Gl]),CY H.hG.hw (by rw [H.Gl,hg.s])]
 rw [eG] at o9;obtain ⟨O9,d4,bb,e6,ea⟩:=ah o9 Y bO aP eG;clear o9 Y bO a6 cx d5 k9 aP eG;go_upto_region 28 with (fail);have J:=ss (i:=18) (v:=.slice A9 i.start.length c9) d4.o rfl;have kk:Keep (λk=>k=w.heap.size) w9 (w9.setCell (ar w.heap.size 18) (.slice A9 i.start.length c9)):=Vk w.heap.size (Keep.refl _ _) _ (.inr rfl) _;obtain ⟨V,hV⟩:=Vb (w9.setCell (ar w.heap.size 18) (.slice A9 i.start.length c9));rw [hV] at J kk |-;have a8:=bt a9.o e6.o;have hb:=λ{b:Nat} {o:Obj} (h:L.heap[b]?=some o) (hne:b≠w.heap.size)=>(kk.block b (PU (sb h _ a8)) hne).trans (sb h _ a8);have bd:=hb (H.bx _ (br L)).2.1 ap;have bG:=hb (H.bx _ (br L)).2.2.1 ap;have b9:=hb (H.bx _ (br L)).2.2.2.1 ap;have bz:=hb (H.bx _ (br L)).2.2.2.2.1 ap;have bV:=hb (H.bx _ (br L)).2.2.2.2.2 ap;have bA:=bb.o.trans (kk.toBelow bb.o.size (λj hj=>by rw [hj];exact PV _));have cc:=aa kk;have eb:w.heap.size+6<=L.heap.size:=by have:=PU (H.bx _ (br L)).2.2.2.2.2;omega
 have HO:=aa (aF O9.o (show w.heap.size+6<=w8.heap.size by have:=a9.o.size;have:=Q8.o.size;omega));clear hV cf bl e1 kk hb a8;have d0:=PX V w.heap.size 21 _ _ _ J;have bX:=P8 V w.heap.size 21 _ _ J;have lM:=PU J;have d1:=H.wd;have e9:=ss (i:=21) (v:=QZ ((dn:Int)+1)) J rfl;have k9:Keep (λk=>k=w.heap.size) V (V.setCell (ar w.heap.size 21) (QZ ((dn:Int)+1))):=Vk w.heap.size (Keep.refl _ _) _ (.inr rfl) _;obtain ⟨E9,K9,cL,cP,d7,d2,cl,dw⟩:=ak e9 k9 bd bG b9 bz bV bA;clear e9 k9 bd bG b9 bz bV bA J;go_upto_region 29 with (fail);obtain ⟨V9,b7⟩:=Vb (V.setCell (ar w.heap.size 21) (QZ ((dn:Int)+1)));rw [b7] at E9 K9 |-;clear b7 d0 bX lM d1;obtain ⟨b1,b2,b3,b4,b5⟩:=wY K9.o cL.o cP.o d7.o d2.o cl.o;have hq:aq V9 V9.drew:=(br V9).drew;refine HA.g (KB3 w.heap.size V9) ?_;refine HA.ld3 (vs:=#[.slice A i.cfg.sizes.length c,QZ i.cfg.shift,QZ i.cfg.rate,QZ i.cfg.mom,QZ i.cfg.workers,QZ i.cfg.batch,QZ i.cfg.micros,QZ i.cfg.steps,QZ i.cfg.bucket,QZ i.cfg.chunk,QZ i.cfg.window,QZ i.cfg.cap,.slice D i.data.length cd,.slice T i.start.length ct,.slice R i.draws.length cr,Vd x,.slice PA i.start.length pc,.slice MA i.start.length mc,.slice A9 i.start.length c9,.slice SA m.rc.length sc,.slice (some (ar bI oI)) il ic,QZ (dn+1)]) E9.o b1 b2 et bR bR (Keep.below hq) ?_;refine HA.st3 3 4 5 b3 b4 b5 et bR bR hq (λw8 r3 r4 e8 q8=>?_);refine HA.t ?_ [6] q8 ?_;refine HA.d ?_;obtain ⟨R3,R4,R5⟩:=af r3 r4 e8;have F:=lh K9.o q8 dw.o;obtain ⟨co,QW⟩:=ae F.1 F.2;clear b1 b2 b3 b4 b5 e8 q8 r3 r4 hq F;go_wp2_with fail;refine Qd (fG rfl rfl rfl rfl R3.o R4.o R5.o et bR bR) rfl ?_;have oF:=co.o.own (cc.o.own HO.o (λj hj e=>by have:=(HO.o.lt j hj).1;omega)) (λj hj e=>by have:=(HO.o.lt j hj).1;omega);have ci:=aC oF
 have dG:cG (aH S w8) A9 (dh i m.P m.G (cI i.data B)) c9:=by
  obtain ⟨A',c',e',ec⟩:=ci;simp only [QH] at e';have hl:=mX (i:=i) (P:=m.P) (n:=i.start.length) (cI i.data B) m.G H.Gl;have:=H.s'.n;exact ⟨ap,ap,jm oF (λk hk=>by have:=H.S' k hk;omega),uF _ _ _ H.hG.hw _⟩
 have hX:Ext (aH S w) (aH S w8):=bC (Keep.below QW.o) (λ_ _ h=>h);obtain ⟨b6,bi,bw,be⟩:=H1.o;exact ⟨_,_,_,rfl,rfl,rfl,⟨A,c,D,cd,T,ct,R,cr,PA,pc,MA,mc,A9,c9,SA,sc,some (ar bI oI),ic,by rw [H.il',cb.o,be];push_cast;rfl,fM H.I0 hX,by rw [b6];exact bQ H.P0 hX,by rw [bi];exact bQ H.M0 hX,by rw [bw];exact bh.o▸dG,by rw [be];exact fh cX H.R0 hX,aW H.It0 hX,by rw [b6];exact H.Pl,by rw [bi];exact H.Ml,by rw [bw];exact (mX (i:=i) (P:=m.P) (n:=i.start.length) _ m.G H.Gl)⟩,⟨B1,c1,rfl,du H.s0 hX,H.s2⟩,⟨B2,c2,rfl,du H.t0 hX,H.t2⟩,QW.o⟩
end Go.Proofs.YtgmajkppbhiopaaGreat
