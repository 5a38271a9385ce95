/- No condition. -/
import Derived.Test.YtgmajkppbhiopaaGreatC12
set_option linter.unusedSimpArgs false
set_option linter.unusedVariables false
set_option maxRecDepth 100000
set_option maxHeartbeats 4000000
namespace Go.Proofs.YtgmajkppbhiopaaGreat
open Go.RowKit
open Tryz
theorem I5:cW prog 136 3:=⟨⟨_,underlying136,rfl⟩,by kernel_rfl⟩
theorem Iz (w:World) (X Y Z U:Array Value) (t u v:TypeId):∃h,(((w.alloc (.cells X t)).alloc (.cells Y u)).alloc (.cells Z v)).alloc (.cells U u)=h/\
  h.heap[w.heap.size]?=some (.cells X t (0,0))/\h.heap[w.heap.size+1]?=some (.cells Y u (0,0))/\h.heap[w.heap.size+1+1]?=some (.cells Z v (0,0))/\h.heap[w.heap.size+1+1+1]?=some (.cells U u (0,0))/\aq w h:=
 ⟨_,rfl,bZ [.cells X t,.cells Y u,.cells Z v,.cells U u] w 0 rfl,bZ [.cells X t,.cells Y u,.cells Z v,.cells U u] w 1 rfl,bZ [.cells X t,.cells Y u,.cells Z v,.cells U u] w 2 rfl,bZ [.cells X t,.cells Y u,.cells Z v,.cells U u] w 3 rfl,eJ [.cells X t,.cells Y u,.cells Z v,.cells U u] w⟩
def LB (x v:List Int) (n:Nat) (w:World) (e:Ending) (h:World):Prop:=∃u o p i,e=.returned (.tuple #[.agg #[.slice u n o,.slice p n i],.bool true])/\n<=o/\n<=i/\h.ownsRow w.heap.size 2 1 (.slice u n o) n (aB .i64 x)/\h.ownsRow w.heap.size 2 1 (.slice p n i) n (aB .i64 v)/\aq w h
theorem zA (ra I q:Int) (A B G:Option Addr) (P M g:List Int) (n ca cb cg lo D L:Nat) (w:World) (hA:Rd w A (aB .i64 P)) (hB:Rd w B (aB .i64 M)) (hG:Rd w G (aB .i64 g)) (hP:P.length=n) (hM:M.length=n) (hg:g.length=L) (hL:D=lo+L) (bs:0<L) (hn:n<=1048576) (bv:D<=n) (d2:n<=ca) (dr:n<=cb) (wM:W64 M)
  (bN: -9223372036854775808<=ra/\ra<=9223372036854775807) (bz: -9223372036854775808<=I/\I<=9223372036854775807):
  Calls prog 137 #[.agg #[M8 ra,M8 I,M8 q],.agg #[.slice A n ca,.slice B n cb],.agg #[M8 (lo:Nat),M8 (D:Nat)],.slice G L cg] w (LB (apP ra I q P M g lo L) (apM I q M g lo L) n w):=by
 obtain ⟨y,bM,g0,g1,u,g3,k0⟩:=Iz w #[M8 ra,M8 I,M8 q] #[.slice A n ca,.slice B n cb] #[M8 (lo:Nat),M8 (D:Nat)] #[M9,M9] 136 103 187
 obtain ⟨ab,ao,rfl, -⟩:=hA.num (show 0<P.length by omega)
 obtain ⟨bb,bo,rfl, -⟩:=hB.num (show 0<M.length by omega)
 have d0:IntKind.i64.wrap ((D:Int)-(lo:Int))=(L:Int):=by rw [Mg _ ap];omega
 have h1:¬(lo:Int)<0:=ap
 have h2:¬(D:Int)<lo:=ap
 have h3:¬(n:Int)<D:=ap
 have h4:¬D<lo:=ap
 have h5:¬n<D:=ap
 have s0:∀h,aq y h->h.cell? (ar (w.heap.size+1) 0)=some (.slice (some (ar ab ao)) n ca):=fun h q=>Md h _ 0 _ _ _ (sb g1 h q)
 have s1:∀h,aq y h->h.cell? (ar (w.heap.size+1) 1)=some (.slice (some (ar bb bo)) n cb):=fun h q=>Md h _ 1 _ _ _ (sb g1 h q)
 have r0:∀h,aq y h->h.cell? (ar (w.heap.size+1+1) 0)=some (M8 (lo:Nat)):=fun h q=>Md h _ 0 _ _ _ (sb u h q)
 have r1:∀h,aq y h->h.cell? (ar (w.heap.size+1+1) 1)=some (M8 (D:Nat)):=fun h q=>Md h _ 1 _ _ _ (sb u h q)
 have tl:=sl u
 have cy:=sl g1
 have q0:=br y
 have dv:(lo:Int)<=D:=ap
 have cM:lo<=D:=ap
 have dw:(D:Int)<=ca:=ap
 have dk:(D:Int)<=cb:=ap
 have dn:D<=ca:=ap
 have dc:D<=cb:=ap
 have d3:¬ca=lo:=ap
 have ds:¬cb=lo:=ap
 have cv:D-lo=L:=ap
 have bn:((P.drop lo).take L).length=L:=by rw [MJ,MM];omega
 have bl:((M.drop lo).take L).length=L:=by rw [MJ,MM];omega
 have rA:Rd w (some (ar ab (ao+lo))) (aB .i64 ((P.drop lo).take L)):=by have:=(hA.drop lo).take L;rwa [di,dd] at this
 have rB:Rd w (some (ar bb (bo+lo))) (aB .i64 ((M.drop lo).take L)):=by have:=(hB.drop lo).take L;rwa [di,dd] at this
 have bA:W64 ((M.drop lo).take L):=fun k hk=>by rw [bl] at hk;rw [eT hk,eU];exact wM _ ap
 have bw:=fun h (q':aq y h)=>wI ra I q (some (ar ab (ao+lo))) (some (ar bb (bo+lo))) G ((P.drop lo).take L) ((M.drop lo).take L) g L (ca-lo) (cb-lo) cg h (rA.below (k0.trans (q'.mono k0.size))) (rB.below (k0.trans (q'.mono k0.size))) (hG.below (k0.trans (q'.mono k0.size))) bn bl hg ap bA bN bz
 have a6:=fun h (q':aq y h)=>nz (some (ar ab ao)) P ca h (hA.below (k0.trans (q'.mono k0.size))) ap
 have av:=fun h (q':aq y h)=>nz (some (ar bb bo)) M cb h (hB.below (k0.trans (q'.mono k0.size))) ap
 rw [hP] at a6
 rw [hM] at av
 obtain ⟨cA,G0,G1,G2,G3,K0,c9,b7⟩:=ak bM g0 g1 u g3 k0 bw a6;obtain ⟨ad,HP,HM,Hg,HL,a9,d8,Hn⟩:=ak av hP hM hg hL bv cv hn;clear bM g0 g1 u g3 k0 bw a6 av hP hM hg hL bv hA hB hG bn bl rA rB bA wM bN bz hn
 go_enter func137,ntmps137
 go_upto_region 1 with (fail)
 rw [cA.o]
 go_upto_region 3 with (fail)
 go_cut [10,11] (fun v cc wx=>∃bX A0 x0 B0 y0,v=(au bX)/\cc=.bool true/\wx.heap[bX]?=some (.cells #[.slice A0 L x0,.slice B0 L y0] 103 (0,0))/\wx.ownsRow y.heap.size 2 1 (.slice A0 L x0) L (aB .i64 (rT ra I q ((P.drop lo).take L) ((M.drop lo).take L) g))/\wx.ownsRow y.heap.size 2 1 (.slice B0 L y0) L (aB .i64 (rU I q ((M.drop lo).take L) g))/\aq y wx)
 case first=>
  have q3:=q0.drew
  refine HA.g (fun h:World=>aq y h) ?_
  refine HA.ld 0 #[M8 ra,M8 I,M8 q] (fun h q=>sb G0.o h q) I5 q3 ?_
  refine HA.t ?_ [1,2,3,4,5,6,7,8,9,10,11,12,13,14,15,16] q3 ?_
  refine HA.two 17 21 ?_ ?_
  ·refine HAS.c (c9.o _ q3) ?_
   rintro e w4 ⟨A0,x0,B0,y0,rfl,oP,oM,k4⟩
   have q4:=q3.trans (k4.mono q3.size)
   refine ⟨_,rfl,q4,fun _=>?_⟩
   refine HA.t ?_ [18,19,20] q4 ?_
   refine HA.v 21 (w4.alloc (.cells #[M9,M9] 103)) ((au w4.heap.size)) (q4.alloc q4.size _) ?_
   refine HA.st 22 (Mc w4 _) j3 (fun p e5 k5=>?_)
   have b5:=aK k5
   have C:=q4.trans (b5.mono q4.size)
   refine ⟨C,?_⟩
   refine HA.t ?_ [23] C ?_
   refine HA.d ?_
   have HF:=aa (Mj e5 (Mj (aE (ay oP b5) q3.size) (Mj (aE (ay oM b5) q3.size) C)));clear e5 oP oM b5 k5 k4 q3 q4 C
   go_wp2_with fail
   go_meet
   exact ⟨_,A0,x0,B0,y0,rfl,rfl,HF.o⟩
  ·refine HAS.v (y.drew.alloc (.cells #[M9,M9] 103)) ((au y.drew.heap.size)) (q3.alloc (Mb _) _) ?_
   have gA:=Mc y.drew (.cells #[M9,M9] 103)
   have Q:=q3.alloc (Mb y.heap.size) (.cells #[M9,M9] 103)
   obtain ⟨wa,H⟩:∃wa,y.drew.alloc (.cells #[M9,M9] 103)=wa:=⟨_,rfl⟩
   rw [H] at gA Q ⊢
   clear H
   refine HA.c 17 (c9.o _ Q) ?_
   rintro e w4 ⟨A0,x0,B0,y0,rfl,oP,oM,k4⟩
   have q4:=Q.trans (k4.mono Q.size)
   refine ⟨_,rfl,q4,fun _=>?_⟩
   refine HA.t ?_ [18,19,20] q4 ?_
   have b2:=sb gA _ k4
   refine HA.st 22 b2 j3 (fun p e5 k5=>?_)
   have C:=q4.trans (k5.toBelow q4.size (fun j i=>Nat.le_of_eq (Eq.symm i)))
   refine ⟨C,?_⟩
   refine HA.t ?_ [23] C ?_
   refine HA.d ?_
   have HF:=aa (Mj e5 (Mj (aE (k5.own oP (fun j i e=>ax b2 (by decide) oP (by rw [i,e]))) Q.size) (Mj (aE (k5.own oM (fun j i e=>ax b2 (by decide) oM (by rw [i,e]))) Q.size) C)))
   clear e5 oP oM k5 k4 q3 Q q4 C gA b2
   go_wp2_with fail
   go_meet
   exact ⟨_,A0,x0,B0,y0,rfl,rfl,HF.o⟩
 case rest=>
 obtain ⟨bX,A0,x0,B0,y0,rfl,rfl,e5,oP,oM,C⟩:=hcut
 obtain ⟨p,rfl⟩:∃p,p=wc:=⟨_,rfl⟩
 obtain ⟨E5,OP,OM,Q5⟩:=ag e5 oP oM C;clear e5 oP oM
 go_upto_region 4 with (fail)
 go_cut [12] (fun v wx=>∃U A1 c1 B1 N,v=(au U)/\wx.heap[U]?=some (.cells #[.slice A1 n c1,.slice B1 n N] 103 (0,0))/\p.heap.size<=U/\wx.ownsRow p.heap.size 2 1 (.slice A1 n c1) n (aB .i64 P)/\wx.ownsRow p.heap.size 2 1 (.slice B1 n N) n (aB .i64 M)/\(∀j,(Value.slice A1 n c1).ownBlock=some j->(Value.slice B1 n N).ownBlock≠some j)/\aq p wx)
 case first=>
  have q6:aq y p.drew:=C.drew
  have r6:aq p p.drew:=(br p).drew
  refine HA.g (fun h:World=>aq y h) ?_
  refine HA.t ?_ [0,1,3,4] q6 ?_
  refine HA.two 2 7 ?_ ?_
  ·refine HAS.c (b7.o _ q6) ?_
   rintro e w6 ⟨A1,c1,rfl,o1,k6⟩
   have T:=q6.trans (k6.mono q6.size)
   refine ⟨_,rfl,T,fun _=>?_⟩
   refine HA.two 5 7 ?_ ?_
   ·refine HAS.c (ad.o _ T) ?_
    rintro e w7 ⟨B1,N,rfl,o2,x⟩
    have J:=T.trans (x.mono T.size)
    refine ⟨_,rfl,J,fun _=>?_⟩
    refine HA.t ?_ [6] J ?_
    refine HA.v 7 (w7.alloc (.cells #[M9,M9] 103)) ((au w7.heap.size)) (J.alloc J.size _) ?_
    refine HA.st 8 (Mc w7 _) j3 (fun w8 Z Y=>?_)
    have b8:=aK Y
    refine ⟨J.trans (b8.mono J.size),HA.d ?_⟩
    have s6:=k6.size
    have s7:=x.size
    rw [MQ] at s6
    have fa:=o1
    have fb:=ay (ay o1 x) b8
    have fc:=o2
    have fd:=ay o2 b8
    have fe:=bt (bt (r6.trans k6) x) b8
    have HF:=aa (Mj Z (Mj (show p.heap.size<=w7.heap.size by (try rw [MQ]);omega) (Mj (aE fb (show p.heap.size<=_ by (try rw [MQ]);omega)) (Mj (aE fd (show p.heap.size<=_ by (try rw [MQ]);omega)) (Mj (show ∀j,(Value.slice A1 n c1).ownBlock=some j->(Value.slice B1 n N).ownBlock≠some j from fun j h1 h2=>by have z1:=(fa.lt j h1).2;have z2:=(fc.lt j h2).1;omega) fe)))));clear Z Y o1 o2 k6 x r6 q6 fa fb fc fd fe;go_wp2_with fail;go_meet;exact ⟨_,A1,c1,B1,N,rfl,HF.o⟩
   ·refine HAS.v (w6.alloc (.cells #[M9,M9] 103)) ((au w6.heap.size)) (T.alloc T.size _) ?_
    have gA:=Mc w6 (.cells #[M9,M9] 103)
    have ba:=(br w6).alloc (Mb _) (.cells #[M9,M9] 103)
    have b3:=T.alloc T.size (.cells #[M9,M9] 103)
    have sA:(w6.alloc (.cells #[M9,M9] 103)).heap.size=w6.heap.size+1:=Mr _ _
    obtain ⟨wa,H⟩:∃wa,w6.alloc (.cells #[M9,M9] 103)=wa:=⟨_,rfl⟩
    rw [H] at gA b3 ba sA ⊢
    clear H
    refine HA.c 5 (ad.o _ b3) ?_
    rintro e w7 ⟨B1,N,rfl,o2,x⟩
    have J:=b3.trans (x.mono b3.size)
    refine ⟨_,rfl,J,fun _=>?_⟩
    refine HA.t ?_ [6] J ?_
    have R:=sb gA _ x
    refine HA.st 8 R j3 (fun w8 Z Y=>?_)
    have s6:=k6.size
    have s7:=x.size
    rw [MQ] at s6
    have a8:=ay (ay o1 ba) x
    have b8:aq p w8:=(bt (bt (r6.trans k6) ba) x).trans (Y.toBelow ap (fun j i=>by have O:j=w6.heap.size:=i;omega))
    refine ⟨J.trans (Y.toBelow J.size (fun j i=>by have O:j=w6.heap.size:=i;have:=T.size;omega)),HA.d ?_⟩
    have fa:=o1
    have fb:=Y.own a8 (fun j i e=>ax R (by decide) a8 (by rw [i,e]))
    have fc:=o2
    have fd:=Y.own o2 (fun j i e=>ax R (by decide) o2 (by rw [i,e]))
    have fe:=b8
    have HF:=aa (Mj Z (Mj (show p.heap.size<=w6.heap.size by (try rw [MQ]);omega) (Mj (aE fb (show p.heap.size<=_ by (try rw [MQ]);omega)) (Mj (aE fd (show p.heap.size<=_ by (try rw [MQ]);omega)) (Mj (show ∀j,(Value.slice A1 n c1).ownBlock=some j->(Value.slice B1 n N).ownBlock≠some j from fun j h1 h2=>by have z1:=(fa.lt j h1).2;have z2:=(fc.lt j h2).1;omega) fe)))));clear Z Y o1 o2 k6 x r6 q6 fa fb fc fd fe;go_wp2_with fail;go_meet;exact ⟨_,A1,c1,B1,N,rfl,HF.o⟩
  ·refine HAS.v (p.drew.alloc (.cells #[M9,M9] 103)) ((au p.drew.heap.size)) (q6.alloc q6.size _) ?_
   have gA:=Mc p.drew (.cells #[M9,M9] 103)
   have aM:=q6.alloc q6.size (.cells #[M9,M9] 103)
   have ba:=(br p.drew).alloc (Mb _) (.cells #[M9,M9] 103)
   have sA:(p.drew.alloc (.cells #[M9,M9] 103)).heap.size=p.drew.heap.size+1:=Mr _ _
   obtain ⟨wa,H⟩:∃wa,p.drew.alloc (.cells #[M9,M9] 103)=wa:=⟨_,rfl⟩
   rw [H] at gA aM ba sA ⊢
   clear H
   refine HA.c 2 (b7.o _ aM) ?_
   rintro e w6 ⟨A1,c1,rfl,o1,k6⟩
   have T:=aM.trans (k6.mono aM.size)
   refine ⟨_,rfl,T,fun _=>?_⟩
   refine HA.c 5 (ad.o _ T) ?_
   rintro e w7 ⟨B1,N,rfl,o2,x⟩
   have J:=T.trans (x.mono T.size)
   refine ⟨_,rfl,J,fun _=>?_⟩
   refine HA.t ?_ [6] J ?_
   have R:=sb (sb gA _ k6) _ x
   refine HA.st 8 R j3 (fun w8 Z Y=>?_)
   have s6:=k6.size
   have s7:=x.size
   rw [MQ] at sA
   have a8:=ay o1 x
   have b8:aq p w8:=(bt (bt (r6.trans ba) k6) x).trans (Y.toBelow ap (fun j i=>by have O:j=p.drew.heap.size:=i;rw [MQ] at O;omega))
   refine ⟨J.trans (Y.toBelow J.size (fun j i=>by have O:j=p.drew.heap.size:=i;rw [MQ] at O;have:=C.size;omega)),HA.d ?_⟩
   have fa:=o1
   have fb:=Y.own a8 (fun j i e=>ax R (by decide) a8 (by rw [i,e]))
   have fc:=o2
   have fd:=Y.own o2 (fun j i e=>ax R (by decide) o2 (by rw [i,e]))
   have fe:=b8
   have HF:=aa (Mj Z (Mj (show p.heap.size<=p.drew.heap.size by (try rw [MQ]);omega) (Mj (aE fb (show p.heap.size<=_ by (try rw [MQ]);omega)) (Mj (aE fd (show p.heap.size<=_ by (try rw [MQ]);omega)) (Mj (show ∀j,(Value.slice A1 n c1).ownBlock=some j->(Value.slice B1 n N).ownBlock≠some j from fun j h1 h2=>by have z1:=(fa.lt j h1).2;have z2:=(fc.lt j h2).1;omega) fe)))));clear Z Y o1 o2 k6 x r6 q6 fa fb fc fd fe;go_wp2_with fail;go_meet;exact ⟨_,A1,c1,B1,N,rfl,HF.o⟩
 case rest=>
 obtain ⟨U,A1,c1,B1,N,rfl,Z,nO,a3,a2,b6,a4⟩:=hcut
 obtain ⟨w8,rfl⟩:∃w8,w8=wc:=⟨_,rfl⟩
 have q9:=C.trans (a4.mono C.size)
 have bI:=sb E5.o _ a4
 have be:=ay OP.o a4
 have bh:=ay OM.o a4
 obtain ⟨g1,_,cl,_⟩:=a3.form ap
 obtain ⟨u,_,bV,_⟩:=a2.form ap
 obtain ⟨p1,_,c7,_⟩:=be.form bs
 obtain ⟨p2,_,cd,_⟩:=bh.form bs
 simp only [MR] at cl bV c7 cd
 obtain ⟨rfl,_,rfl⟩:=cl
 obtain ⟨rfl,_,rfl⟩:=bV
 obtain ⟨rfl,_,rfl⟩:=c7
 obtain ⟨rfl,_,rfl⟩:=cd
 have n1:p1<p.heap.size:=(OP.o.lt p1 rfl).2
 have n2:p2<p.heap.size:=(OM.o.lt p2 rfl).2
 have n3:p.heap.size<=g1:=(a3.lt g1 rfl).1
 have n4:p.heap.size<=u:=(a2.lt u rfl).1
 have n5:bX<p.heap.size:=Ma E5.o
 have n6:g1≠u:=fun e=>b6 g1 rfl (by rw [e];rfl)
 have n7:=C.size
 have n8:U≠g1:=fun e=>ax Z (by decide) a3 (by rw [e];rfl)
 have d5:U≠u:=fun e=>ax Z (by decide) a2 (by rw [e];rfl)
 have n9:=Ma G3.o
 have l8:=Ma Z
 obtain ⟨O1,O2,E8,aP,cx,bG,Q9,C1⟩:=ak (aE a3 (show w.heap.size<=p.heap.size by have:=K0.o.size;omega)) (aE a2 (show w.heap.size<=p.heap.size by have:=K0.o.size;omega)) Z bI be bh q9 (aC a3);have C2:=aa (aC a2);clear Z a3 a2 bI be bh q9 C a4 b6 s0 s1 r0 r1 tl cy q0
 go_wp2_with fail
 go_loopw [13] (fun z wr=>∃k:Nat,k<=L/\z=M8 k/\wr.ownsRow w.heap.size 2 1 (.slice (some (ar g1 0)) n c1) n (aB .i64 (apP ra I q P M g lo k))/\wr.ownsRow w.heap.size 2 1 (.slice (some (ar u 0)) n N) n (aB .i64 (apM I q M g lo k))/\Keep (fun j=>j=g1\/j=u) w8 wr) (fun z _=>L-(intOf z).toNat)
 case atStart=>exact ⟨0,Mf _,rfl,by rw [yw];exact O1.o,by rw [yx];exact O2.o,Keep.refl _ _⟩
 case round=>
  obtain ⟨k,hk,rfl,r1,r2,kk⟩:=hrel
  have bo:=(kk.block U l8 ap).trans E8.o
  by_cases a0:k<L
  ·have bx:=(kk.block bX (Ma aP.o) ap).trans aP.o
   have a7:=(kk.block (w.heap.size+1+1) (Ma (sb G2.o _ Q9.o)) ap).trans (sb G2.o _ Q9.o)
   have y1:=cF (kk.own cx.o (fun j i e=>by cases i;rcases e with e | e;(have O:p1=g1:=e;omega);(have O:p1=u:=e;omega))) a0
   have y2:=cF (kk.own bG.o (fun j i e=>by cases i;rcases e with e | e;(have O:p2=g1:=e;omega);(have O:p2=u:=e;omega))) a0
   rw [Dn a0 (by rw [HP.o];have:=HL.o;have:=a9.o;omega) (by rw [HM.o];have:=HL.o;have:=a9.o;omega)] at y1
   rw [uo a0 (by rw [HM.o];have:=HL.o;have:=a9.o;omega)] at y2
   have a1:lo+k<n:=by have:=HL.o;have:=a9.o;omega
   have p3:=cF r1 a1
   have p4:=cF r2 a1
   have f3:=r1.frozenAt (lo+k)
   have f4:=r2.frozenAt (lo+k)
   have b0:=BV ra I q P M g lo k (by rw [HP.o];exact a1)
   have b1:=BZ I q M g lo k (by rw [HM.o];exact a1)
   obtain ⟨vP,cf⟩:∃v,lL ra q (nth P (lo+k)) (eO I q (nth M (lo+k)) (nth g k))=v:=⟨_,rfl⟩
   obtain ⟨vM,bi⟩:∃v,eO I q (nth M (lo+k)) (nth g k)=v:=⟨_,rfl⟩
   rw [cf] at y1 b0
   rw [bi] at y2 b1
   have cr:(k:Int)<L:=ap
   have d9:¬(k:Int)<0:=ap
   have cs:=Hn.o
   have d4:IntKind.i64.wrap ((k:Int)+1)=((k+1:Nat):Int):=by rw [Mg _ ap];push_cast;rfl
   obtain ⟨j,i⟩:∃j,lo+k=j:=⟨_,rfl⟩
   rw [i] at p3 p4 f3 f4 b0 b1 a1
   have da:(lo:Int)+k=(j:Int):=ap
   have dp:(j:Int)<n:=ap
   have d7:¬(j:Int)<0:=ap
   have d6:IntKind.i64.wrap (j:Int)=j:=Mg _ ap
   have c6:=Md wr U 0 _ _ _ bo
   have bd:=Md wr U 1 _ _ _ bo
   have aG:=Md wr (w.heap.size+1+1) 0 _ _ _ a7
   have cj:=Md wr bX 0 _ _ _ bx
   have bf:=Md wr bX 1 _ _ _ bx
   obtain ⟨c8,cw,cL,R1,R2,b4⟩:=ai bi b0 b1 r1 r2 kk
   clear b0 b1 r1 r2 kk bo bx a7 cf bi cs;rw [i] at c8;have Hj:=aa i;clear i
   go_upto_region 8 with (fail)
   refine XA.g 12 (fun h:World=>h.cell? (ar U 0)=some (.slice (some (ar g1 0)) n c1)/\h.cell? (ar (w.heap.size+1+1) 0)=some (M8 (lo:Nat))/\h.cell? (ar bX 0)=some (.slice (some (ar p1 0)) L x0)/\h.cell? (ar p1 k)=some (M8 vP)) ?_
   refine XA.t ?_ [0,1,2,3,4,5,6,7,8,9,10,11] ⟨c6,aG,cj,y1⟩ ?_
   refine XA.e ?_
   simp only [MC,MD]
   go_upto_region 9 with (fail)
   have aR:=(dQ R1.o j vP).drew
   rw [cw.o] at aR
   have kq:Keep (fun j=>j=g1\/j=u) w8 (wr.setCell (ar g1 j) (M8 vP)).drew:=(Keep.setCell (S:=fun j=>j=g1\/j=u) b4.o (ar g1 j) (.inr (.inl rfl)) _).drew
   have a5:=((Keep.setCell (S:=fun j=>j=g1) (Keep.refl _ wr) (ar g1 j) (.inr rfl) (M8 vP)).drew).own R2.o (fun j i e=>by cases i;have O:u=g1:=e;omega)
   obtain ⟨wq,ci⟩:∃wq,(wr.setCell (ar g1 j) (M8 vP)).drew=wq:=⟨_,rfl⟩
   rw [ci] at aR kq a5 ⊢
   clear ci c6 bd aG cj bf p3 p4 f3 f4 y1 y2
   have bo:=(kq.block U l8 ap).trans E8.o
   have bx:=(kq.block bX (Ma aP.o) ap).trans aP.o
   have a7:=(kq.block (w.heap.size+1+1) (Ma (sb G2.o _ Q9.o)) ap).trans (sb G2.o _ Q9.o)
   have y2:=cF (kq.own bG.o (fun j i e=>by cases i;rcases e with e | e;(have O:p2=g1:=e;omega);(have O:p2=u:=e;omega))) a0
   rw [uo a0 (by rw [HM.o];have:=HL.o;have:=a9.o;omega)] at y2
   have b9:=c8.o
   rw [Hj.o,b9] at y2
   have bd:=Md wq U 1 _ _ _ bo
   have aG:=Md wq (w.heap.size+1+1) 0 _ _ _ a7
   have bf:=Md wq bX 1 _ _ _ bx
   have p4:=cF a5 a1
   have f4:=a5.frozenAt j
   obtain ⟨cn,co,Kq⟩:=af aR a5 kq;clear aR a5 kq bo bx a7 b9
   refine XA.g 12 (fun h:World=>h.cell? (ar U 1)=some (.slice (some (ar u 0)) n N)/\h.cell? (ar (w.heap.size+1+1) 0)=some (M8 (lo:Nat))/\h.cell? (ar bX 1)=some (.slice (some (ar p2 0)) L y0)/\h.cell? (ar p2 k)=some (M8 vM)) ?_
   refine XA.t ?_ [0,1,2,3,4,5,6,7,8,9,10,11] ⟨bd,aG,bf,y2⟩ ?_
   refine XA.e ?_
   simp only [MC,MD]
   go_wp2_with fail
   go_roundw
   case rel=>
    refine ⟨k+1,by omega,by go_num,?_,?_,?_⟩
    ·exact ((Keep.setCell (S:=fun j=>j=u) (Keep.refl _ wq) (ar u j) (.inr rfl) (M8 vM)).drew).own cn.o (fun j i e=>by cases i;have O:g1=u:=e;omega)
    ·rw [<-cL.o];exact (dQ co.o j vM).drew
    ·exact (Keep.setCell (S:=fun j=>j=g1\/j=u) Kq.o (ar u j) (.inr (.inr rfl)) _).drew
   case measure=>simp [intOf];omega
  ·obtain rfl:k=L:=ap
   have cr:¬(k:Int)<k:=ap
   have gR:=(kk.block (w.heap.size+1+1+1) (Ma (sb G3.o _ Q9.o)) ap).trans (sb G3.o _ Q9.o)
   obtain ⟨R1,R2,b4,BO,GR⟩:=ah r1 r2 kk bo gR;clear r1 r2 kk bo gR
   obtain ⟨V,rfl⟩:∃V:World,V=wr:=⟨_,rfl⟩
   go_wp2_with (first | (refine aT #[.slice (some (ar g1 0)) n c1,.slice (some (ar u 0)) n N] (b:=U) BO.o j3 rfl rfl rfl rfl ?_) | (refine aI GR.o j3 rfl rfl rfl rfl rfl rfl rfl ?_;intro W9 e9 k9;obtain ⟨E9,K9⟩:=ae e9 k9;clear e9 k9))
   refine Mp (dC rfl rfl E9.o j3) rfl ?_
   obtain ⟨_,_,z1,z2⟩:=C1.o
   obtain ⟨_,_,z3,z4⟩:=C2.o
   simp only [MR] at z1 z3
   have ct:=K0.o.trans (Q9.o.mono K0.o.size)
   have s8:=Q9.o.size
   have s0:=K0.o.size
   have sV:=b4.o.size
   exact ⟨_,_,_,_,rfl,by omega,by omega,K9.o.own R1.o (fun j i e=>by cases i;have O:g1=w.heap.size+1+1+1:=e;omega),K9.o.own R2.o (fun j i e=>by cases i;have O:u=w.heap.size+1+1+1:=e;omega),(ct.trans (b4.o.toBelow ap (fun j i=>by rcases i with e | e<;>omega))).trans (K9.o.toBelow ap (fun j i=>by have O:j=w.heap.size+1+1+1:=i;omega))⟩
theorem zu {w:World} {vs:Array Value} {i:Inp} {x:Nat} {m:Mst} {s t:LSt} {u v:Array Value} {S:Nat->Prop} (hS:∀k,S k->k<w.heap.size) (h:fZ (aF S w) vs i x m) (hu:RL (aF S w) u s) (hv:RL (aF S w) v t) (hs:cz i) {y:Itm} (hy:(db i x)[bD i x m]?=some y) (k1 k2:Int) (b0 b1:Bool) (i0 i1 i2 i3 i4 i5 i6:Int) (cf:aZ y=[M8 5,M8 k1,M8 k2,.bool b0,.bool b1,M8 i0,M8 i1,M8 i2,M8 i3,M8 i4,M8 i5,M8 i6]) (bn lo B:Nat) (bv:k2=(bn:Nat)) (cw:bn<(az i).buks.length) (co:aL (az i).buks bn=(lo,B)) (bo:lo<B) (bG:B<=i.start.length)
  (m1:Mst) (h1:m1.P=apP i.cfg.rate i.cfg.mom i.cfg.shift m.P m.M ((m.G.drop lo).take (B-lo)) lo (B-lo)/\m1.M=apM i.cfg.mom i.cfg.shift m.M ((m.G.drop lo).take (B-lo)) lo (B-lo)/\m1.G=m.G/\m1.rc=m.rc) (bh:bD i x m1=bD i x m+1):
  Calls prog 89 #[.agg vs,.agg u,.agg v] w (fun e p=>no S i x m1 (s) (t) 0 w e p):=by
 have es:=aa bv;clear bv
 obtain ⟨A,c,D,cd,T,ct,R,cr,PA,pc,MA,mc,GA,gc,SA,sc,bI,oI,ic,B1,c1,B2,c2,dn,il,W0,rfl,rfl,rfl,H⟩:=jR hS h hu hv hs hy
 have bf:=H.rw'
 rw [cf] at bf
 rw [H.dn'] at bh
 obtain ⟨dp,H1,d0⟩:=af bf h1 bh
 obtain ⟨em,ek,tl,e0,d2,ei,d7⟩:=H.loc
 have q0:=br W0
 clear h hu hv hs hy cf hS h1 bh bf
 go_enter func89,ntmps89
 go_upto_region 1 with (fail)
 rw [H.eW]
 go_upto_region 4 with (first | (refine jH dp.o iS rfl rfl rfl ?_) | (refine aI (Mc _ _) iS rfl rfl rfl rfl rfl rfl rfl ?_;intro W3 e3 k3;obtain ⟨E3,K3⟩:=ae e3 (aK k3);clear e3 k3))
 clear em ek tl q0 e0 d2 ei d7
 go_upto_region 5 with (first | (refine aT #[M8 i5,M8 i6] (b:=W0.heap.size) E3.o fO rfl rfl rfl rfl ?_) | (refine aI (Mc _ _) fO rfl rfl rfl rfl rfl rfl rfl ?_;intro Z e4 k4;obtain ⟨E4,K4⟩:=ae e4 (aK k4);clear e4 k4))
 have y0:Z.cell? (ar W0.heap.size 0)=some (M8 5):=Md Z _ 0 _ _ _ (sb E3.o _ K4.o)
 have aP:=aa (bt K3.o K4.o)
 go_upto_region 23 with (fail)
 have bV:=aa (H.bx _ aP.o).1;have ej:=aa (sb E3.o _ K4.o)
 have bN:=H.K.trans (aP.o.mono H.K.size)
 have q4:=(br Z).drew
 have x2:∀p,aq Z p->p.cell? (ar W0.heap.size 2)=some (M8 (bn:Nat)):=fun p q=>by rw [<-es.o];exact Md p _ 2 _ _ _ (sb ej.o p q)
 have hc:=H.s'.g.c
 have ew:(((az i).W:Nat):Int)=i.cfg.workers:=by have:=hc.w;simp only [az];omega
 have eu:(((az i).bu:Nat):Int)=i.cfg.bucket:=by have:=hc.bu;simp only [az];omega
 have ec:(((az i).ck:Nat):Int)=i.cfg.chunk:=by have:=hc.ch;simp only [az];omega
 have en:(az i).n=i.start.length:=rfl
 have a6:=fun p=>lW A i.cfg.sizes.length c i.cfg.shift i.cfg.rate i.cfg.mom i.cfg.workers i.cfg.batch i.cfg.micros i.cfg.steps i.cfg.bucket i.cfg.chunk i.cfg.window i.cfg.cap D i.data.length cd T i.start.length ct R i.draws.length cr p
 have a0:=fun p=>rK (az i) (.slice A i.cfg.sizes.length c) (M8 i.cfg.shift) (M8 i.cfg.rate) (M8 i.cfg.mom) (M8 i.cfg.batch) (M8 i.cfg.micros) (M8 i.cfg.steps) (M8 i.cfg.window) (M8 i.cfg.cap) p H.s'.ok (by have:=hc.bu;simp only [az];omega)
 simp only [ew,eu,ec,en] at a0
 have bb:=dV cw
 rw [co] at bb
 have dG:=H.s'.ok.buks
 obtain ⟨nb,b9⟩:∃nb,(az i).buks.length=nb:=⟨_,rfl⟩
 rw [b9] at a0 cw dG
 have av:(bn:Int)<nb:=ap
 have a9:¬(bn:Int)<0:=ap
 have ab:¬nb<=bn:=ap
 obtain ⟨ad,a8,bX,a4,c6,aM⟩:=ai a6 a0 bN bb bo bG;clear a6 a0 bN bb co b9 ew eu ec en y0 bo bG
 go_cut [21] (fun v wx=>∃J,v=(au J)/\wx.heap[J]?=some (.cells #[M8 (lo:Nat),M8 (B:Nat)] 187 (0,0))/\aq Z wx)
 case first=>
  refine HA.g (fun p:World=>aq Z p) ?_
  refine HA.t ?_ [0,4,5] q4 ?_
  refine HA.ld 1 (aQ A c D cd T ct R cr i) (fun p q=>sb bV.o p q) ie q4 ?_
  refine HA.two 2 8 ?_ ?_
  ·skip
   refine HAS.c (ad.o _) ?_
   rintro e w5 ⟨rfl,k5⟩
   have O:=q4.trans (k5.mono q4.size)
   refine ⟨_,rfl,O,fun _=>?_⟩
   refine HA.two 3 8 ?_ ?_
   ·skip
    refine HAS.c (a8.o _) ?_
    rintro e Q ⟨v6,rfl,L,k6⟩
    have C:=O.trans (k6.mono O.size)
    obtain ⟨g6,cv,rfl,_⟩:=L.form ap
    have a3:=L.1
    have c0:=L.cellAt (bn*2) ap
    have I:=L.cellAt (bn*2+1) ap
    rw [a4.o.1] at c0
    rw [a4.o.2] at I
    refine ⟨_,rfl,C,fun _=>?_⟩
    refine HA.t ?_ [6] C ?_
    have a2:=(L.lt g6 rfl).2
    refine HA.two 7 8 ?_ ?_
    rotate_left
    ·refine HAS.v (Q.alloc (.cells #[M8 0,M8 0] 187)) ((au Q.heap.size)) (C.alloc C.size _) ?_
     have c0:=aw ((br Q).alloc (Mb _) (.cells #[M8 0,M8 0] 187)) c0
     have I:=aw ((br Q).alloc (Mb _) (.cells #[M8 0,M8 0] 187)) I
     have e5:g6<(Q.alloc (.cells #[M8 0,M8 0] 187)).heap.size:=by rw [Mr];omega
     refine HA.v 7 (Q.alloc (.cells #[M8 0,M8 0] 187)) (.agg #[M8 (lo:Nat),M8 (B:Nat)]) (C.alloc C.size _) ?_
     refine HA.st 9 (Mc Q _) fO (fun w7 Y k7=>?_)
     have N:=C.trans ((aK k7).mono C.size)
     refine ⟨N,HA.d ?_⟩
     have HF:=aa (Mj Y N);clear Y k7 N C O q4 k5 k6 L c0 I a2 e5 a3 x2 av a9 ab
     go_wp2_with fail
     go_meet
     exact ⟨_,rfl,HF.o⟩
    refine HAS.v Q (.agg #[M8 (lo:Nat),M8 (B:Nat)]) C ?_
    refine HA.v 8 (Q.alloc (.cells #[M8 0,M8 0] 187)) ((au Q.heap.size)) (C.alloc C.size _) ?_
    refine HA.st 9 (Mc Q _) fO (fun w7 Y k7=>?_)
    have N:=C.trans ((aK k7).mono C.size)
    refine ⟨N,HA.d ?_⟩
    have HF:=aa (Mj Y N);clear Y k7 N C O q4 k5 k6 L c0 I a2 a3 x2 av a9 ab
    go_wp2_with fail
    go_meet
    exact ⟨_,rfl,HF.o⟩
   ·skip
    refine HAS.v (w5.alloc (.cells #[M8 0,M8 0] 187)) ((au w5.heap.size)) (O.alloc O.size _) ?_
    have gA:=Mc w5 (.cells #[M8 0,M8 0] 187)
    have qa:=O.alloc O.size (.cells #[M8 0,M8 0] 187)
    have jA:Z.heap.size<=w5.heap.size:=O.size
    obtain ⟨jj,a7⟩:∃jj,w5.heap.size=jj:=⟨_,rfl⟩
    obtain ⟨wa,ao⟩:∃wa,w5.alloc (.cells #[M8 0,M8 0] 187)=wa:=⟨_,rfl⟩
    rw [ao] at gA qa ⊢
    rw [a7] at gA jA ⊢
    clear ao a7
    refine HA.c 3 (a8.o _) ?_
    rintro e Q ⟨v6,rfl,L,k6⟩
    have C:=qa.trans (k6.mono qa.size)
    obtain ⟨g6,cv,rfl,_⟩:=L.form ap
    have a3:=L.1
    have c0:=L.cellAt (bn*2) ap
    have I:=L.cellAt (bn*2+1) ap
    rw [a4.o.1] at c0
    rw [a4.o.2] at I
    refine ⟨_,rfl,C,fun _=>?_⟩
    refine HA.t ?_ [6] C ?_
    have a2:=(L.lt g6 rfl).2
    refine HA.v 7 Q (.agg #[M8 (lo:Nat),M8 (B:Nat)]) C ?_
    refine HA.st 9 (sb gA _ k6) fO (fun w7 Y k7=>?_)
    have N:=C.trans (k7.toBelow C.size (fun j hj=>by have e':j=jj:=hj;omega))
    refine ⟨N,HA.d ?_⟩
    have HF:=aa (Mj Y N);clear Y k7 N C O q4 qa gA jA k5 k6 L c0 I a2 a3 x2 av a9 ab
    go_wp2_with fail
    go_meet
    exact ⟨_,rfl,HF.o⟩
  ·skip
   refine HAS.v (Z.drew.alloc (.cells #[M8 0,M8 0] 187)) ((au Z.drew.heap.size)) (q4.alloc q4.size _) ?_
   have gA:=Mc Z.drew (.cells #[M8 0,M8 0] 187)
   have qa:=q4.alloc q4.size (.cells #[M8 0,M8 0] 187)
   have jA:Z.heap.size<=Z.drew.heap.size:=q4.size
   obtain ⟨jj,a7⟩:∃jj,Z.drew.heap.size=jj:=⟨_,rfl⟩
   obtain ⟨wa,ao⟩:∃wa,Z.drew.alloc (.cells #[M8 0,M8 0] 187)=wa:=⟨_,rfl⟩
   rw [ao] at gA qa ⊢
   rw [a7] at gA jA ⊢
   clear ao a7
   refine HA.c 2 (ad.o _) ?_
   rintro e w5 ⟨rfl,k5⟩
   have O:=qa.trans (k5.mono qa.size)
   refine ⟨_,rfl,O,fun _=>?_⟩
   refine HA.c 3 (a8.o _) ?_
   rintro e Q ⟨v6,rfl,L,k6⟩
   have C:=O.trans (k6.mono O.size)
   obtain ⟨g6,cv,rfl,_⟩:=L.form ap
   have a3:=L.1
   have c0:=L.cellAt (bn*2) ap
   have I:=L.cellAt (bn*2+1) ap
   rw [a4.o.1] at c0
   rw [a4.o.2] at I
   refine ⟨_,rfl,C,fun _=>?_⟩
   refine HA.t ?_ [6] C ?_
   have a2:=(L.lt g6 rfl).2
   refine HA.v 7 Q (.agg #[M8 (lo:Nat),M8 (B:Nat)]) C ?_
   refine HA.st 9 (sb (sb gA _ k5) _ k6) fO (fun w7 Y k7=>?_)
   have N:=C.trans (k7.toBelow C.size (fun j hj=>by have e':j=jj:=hj;omega))
   refine ⟨N,HA.d ?_⟩
   have HF:=aa (Mj Y N);clear Y k7 N C O q4 qa gA jA k5 k6 L c0 I a2 a3 x2 av a9 ab
   go_wp2_with fail
   go_meet
   exact ⟨_,rfl,HF.o⟩
 case rest=>
 obtain ⟨J,rfl,Y,N⟩:=hcut
 obtain ⟨w7,rfl⟩:∃w7,w7=wc:=⟨_,rfl⟩
 obtain ⟨E7,Q7⟩:=ae Y N;clear Y N q4 x2 av a9 ab
 go_upto_region 24 with (fail)
 have b6:=aa (sb bV.o _ Q7.o)
 have q8:=(br w7).drew
 have eS:B<=gc:=by have:=H.hG.hc;have:=H.Gl;have:=aM.o;omega
 obtain ⟨gb,go,rfl, -⟩:=H.hG.hr.num (show 0<m.G.length by have:=H.Gl;have:=c6.o;have:=aM.o;omega)
 have e6:∀p,aq w7 p->p.cell? (ar w.heap.size 18)=some (.slice (some (ar gb go)) i.start.length gc):=fun p q=>Md p _ 18 _ _ _ (sb b6.o p q)
 have y0:∀p,aq w7 p->p.cell? (ar J 0)=some (M8 (lo:Nat)):=fun p q=>Md p _ 0 _ _ _ (sb E7.o p q)
 have y1:∀p,aq w7 p->p.cell? (ar J 1)=some (M8 (B:Nat)):=fun p q=>Md p _ 1 _ _ _ (sb E7.o p q)
 have cA:=c6.o
 have eY:(lo:Int)<=B:=ap
 have eX:(B:Int)<=gc:=ap
 have eG:lo<=B:=ap
 have eL:¬gc=lo:=ap
 have aR:aq w w7:=bX.o.trans (Q7.o.mono bX.o.size)
 have b7:((m.G.drop lo).take (B-lo)).length=B-lo:=by have:=H.Gl;have:=aM.o;rw [MJ,MM];omega
 have c7:=fun p (q:aq w7 p)=>by
  have be:aq w p:=aR.trans (q.mono aR.size)
  have dc:Rd p (some (ar gb (go+lo))) (aB .i64 ((m.G.drop lo).take (B-lo))):=by
   have:=((H.hG.hr.below be).drop lo).take (B-lo)
   rwa [di,dd] at this
  exact zA i.cfg.rate i.cfg.mom i.cfg.shift PA MA (some (ar gb (go+lo))) m.P m.M ((m.G.drop lo).take (B-lo)) i.start.length pc mc (gc-lo) lo B (B-lo) p (H.hP.hr.below be) (H.hM.hr.below be) dc H.Pl H.Ml b7 ap ap (by have:=H.s'.n;omega) aM.o (by have:=H.hP.hc;have:=H.Pl;omega) (by have:=H.hM.hc;have:=H.Ml;omega) H.hM.hw H.hI.ra H.hI.rm
 have cc:=fun p=>ER A c i.cfg p
 obtain ⟨e2,dk,eM⟩:=af c7 cc aR;clear c7 b7 aR cA cc
 refine XA.g 19 (fun p:World=>aq w7 p) ?_
 refine XA.t ?_ [0,1,4,7,8,9,10,11,12,13] q8 ?_
 refine XA.ld 2 #[.slice A i.cfg.sizes.length c,M8 i.cfg.shift,M8 i.cfg.rate,M8 i.cfg.mom,M8 i.cfg.workers,M8 i.cfg.batch,M8 i.cfg.micros,M8 i.cfg.steps,M8 i.cfg.bucket,M8 i.cfg.chunk,M8 i.cfg.window,M8 i.cfg.cap] (fun p q=>sb b6.o p q) yW q8 ?_
 refine XA.ld 5 #[.slice PA i.start.length pc,.slice MA i.start.length mc] (fun p q=>sb b6.o p q) j3 q8 ?_
 refine XA.ld 6 #[M8 (lo:Nat),M8 (B:Nat)] (fun p q=>sb E7.o p q) fO q8 ?_
 refine XA.c 3 (dk.o _) ?_
 rintro e w8 ⟨rfl,k8⟩
 have q9:=q8.trans (k8.mono q8.size)
 refine ⟨_,rfl,q9,fun _=>?_⟩
 refine XA.c 14 (e2.o w8 q9) ?_
 rintro e w9 ⟨A9,c9,B9,d9,rfl,bM,cy,o9,p9,k9⟩
 have a5:=q9.trans (k9.mono q9.size)
 refine ⟨_,rfl,a5,fun _=>?_⟩
 refine XA.t0 ?_ [15,16,17] a5 ?_
 refine XA.t ?_ [18] a5 ?_
 refine XA.e ?_
 simp only [MC,MD]
 have U:=sb b6.o _ a5
 have d8:=Md w9 w.heap.size 16 _ _ _ U
 have e1:=Md w9 w.heap.size 17 _ _ _ U
 have d3:=Mk w9 w.heap.size 16 _ _ U
 have d6:=Mk w9 w.heap.size 17 _ _ U
 have ev:=Ma U
 obtain ⟨ee,cM,O9,P9,d4,el,L8⟩:=aj U a5 o9 p9 bM cy q9.size;clear U a5 q9 q8 o9 p9 k9 k8 bM cy e6 y0 y1
 go_upto_region 28 with (fail)
 have a1:=ss2 (i:=16) (j:=17) (v:=.slice A9 i.start.length c9) (u:=.slice B9 i.start.length d9) ee.o rfl
 have kk:Keep (fun k=>k=w.heap.size) w9 ((w9.setCell (ar w.heap.size 16) (.slice A9 i.start.length c9)).setCell (ar w.heap.size 17) (.slice B9 i.start.length d9)):=Keep.setCell (S:=fun k=>k=w.heap.size) (Keep.setCell (S:=fun k=>k=w.heap.size) (Keep.refl _ _) _ (.inr rfl) _) _ (.inr rfl) _
 obtain ⟨V,hV⟩:∃V,(w9.setCell (ar w.heap.size 16) (.slice A9 i.start.length c9)).setCell (ar w.heap.size 17) (.slice B9 i.start.length d9)=V:=⟨_,rfl⟩
 rw [hV] at a1 kk ⊢
 have aG:=bt aP.o (bt Q7.o cM.o)
 have hb:=fun {b:Nat} {o:Obj} (h:W0.heap[b]?=some o) (h1:b≠w.heap.size)=>(kk.block b (Ma (sb h _ aG)) h1).trans (sb h _ aG)
 have bA:=hb (H.bx _ (br W0)).2.1 ap
 have cs:=hb (H.bx _ (br W0)).2.2.1 ap
 have bw:=hb (H.bx _ (br W0)).2.2.2.1 ap
 have cl:=hb (H.bx _ (br W0)).2.2.2.2.1 ap
 have cx:=hb (H.bx _ (br W0)).2.2.2.2.2 ap
 have bd:=H.K.trans (aG.mono H.K.size)
 have cn:=bd.trans (kk.toBelow bd.size (fun j hj=>Nat.le_of_eq (Eq.symm hj)))
 have eV:=Ma (H.bx _ (br W0)).2.2.2.2.2
 have l8:w.heap.size+6<=w8.heap.size:=by have:=L8.o;have:=Q7.o.size;have:=aP.o.size;omega
 obtain ⟨ci,cb⟩:=ae (kk.own (aE O9.o l8) (fun j hj e=>by have h1:=(O9.o.lt j hj).1;have h2:j=w.heap.size:=e;omega)) (kk.own (aE P9.o l8) (fun j hj e=>by have h1:=(P9.o.lt j hj).1;have h2:j=w.heap.size:=e;omega));clear hV d8 e1 d3 d6 ev kk hb bd aG l8
 have ds:=Md V w.heap.size 21 _ _ _ a1
 have cL:=Mk V w.heap.size 21 _ _ a1
 have lM:=Ma a1
 have dw:=H.wd
 have e9:=ss (i:=21) (v:=M8 ((dn:Int)+1)) a1 rfl
 have k9:Keep (fun k=>k=w.heap.size) V (V.setCell (ar w.heap.size 21) (M8 ((dn:Int)+1))):=Keep.setCell (S:=fun k=>k=w.heap.size) (Keep.refl _ _) _ (.inr rfl) _
 obtain ⟨E9,K9,da,dr,ef,dT,d5,eo⟩:=ak e9 k9 bA cs bw cl cx cn;clear e9 k9 bA cs bw cl cx cn a1
 go_upto_region 29 with (fail)
 obtain ⟨V9,bs⟩:∃V9,V.setCell (ar w.heap.size 21) (M8 ((dn:Int)+1))=V9:=⟨_,rfl⟩
 rw [bs] at E9 K9 ⊢
 clear bs ds cL lM dw
 obtain ⟨b1,b2,b3,b4,b5⟩:=uv K9.o da.o dr.o ef.o dT.o d5.o
 have hq:aq V9 V9.drew:=(br V9).drew
 refine HA.g (KB3 w.heap.size V9) ?_
 refine HA.ld3 (vs:=#[.slice A i.cfg.sizes.length c,M8 i.cfg.shift,M8 i.cfg.rate,M8 i.cfg.mom,M8 i.cfg.workers,M8 i.cfg.batch,M8 i.cfg.micros,M8 i.cfg.steps,M8 i.cfg.bucket,M8 i.cfg.chunk,M8 i.cfg.window,M8 i.cfg.cap,.slice D i.data.length cd,.slice T i.start.length ct,.slice R i.draws.length cr,M8 (x:Nat),.slice A9 i.start.length c9,.slice B9 i.start.length d9,.slice (some (ar gb go)) i.start.length gc,.slice SA m.rc.length sc,.slice (some (ar bI oI)) il ic,M8 (dn+1)]) E9.o b1 b2 dM bP bP (Keep.below hq) ?_
 refine HA.st3 3 4 5 b3 b4 b5 dM bP bP hq (fun w8 r3 r4 e8 q8=>?_)
 refine HA.t ?_ [6] q8 ?_
 refine HA.d ?_
 obtain ⟨R3,R4,R5⟩:=af r3 r4 e8
 have F:=jQ K9.o q8 eo.o
 obtain ⟨bi,QW⟩:=ae F.1 F.2;clear b1 b2 b3 b4 b5 e8 q8 r3 r4 hq F
 go_wp2_with fail
 refine Mp (fg rfl rfl rfl rfl R3.o R4.o R5.o dM bP bP) rfl ?_
 have b8:∀j,w.heap.size+6<=j->¬(w.heap.size<=j/\j<w.heap.size+6):=fun j h1 h2=>ap
 have eb:=bi.o.own ci.o (fun j hj=>b8 j (ci.o.lt j hj).1)
 have ea:=bi.o.own cb.o (fun j hj=>b8 j (cb.o.lt j hj).1)
 have bz:∀k,S k->k<w.heap.size+6:=fun k hk=>by have:=H.S' k hk;omega
 have eB:=H.s'.n
 have lP:=mZ i.cfg.rate i.cfg.mom i.cfg.shift m.P m.M ((m.G.drop lo).take (B-lo)) lo (B-lo)
 have lM:=m6 i.cfg.mom i.cfg.shift m.M ((m.G.drop lo).take (B-lo)) lo (B-lo)
 have d1:cJ (aF S w8) A9 (apP i.cfg.rate i.cfg.mom i.cfg.shift m.P m.M ((m.G.drop lo).take (B-lo)) lo (B-lo)) c9:=⟨by have:=d4.o;have:=H.Pl;omega,by have:=H.Pl;omega,iD eb bz,BY H.hP.hw⟩
 have dv:cJ (aF S w8) B9 (apM i.cfg.mom i.cfg.shift m.M ((m.G.drop lo).take (B-lo)) lo (B-lo)) d9:=⟨by have:=el.o;have:=H.Ml;omega,by have:=H.Ml;omega,iD ea bz,vV H.hM.hw⟩
 have hX:Ext (aF S w) (aF S w8):=bE (Keep.below QW.o) (fun _ _ h=>h)
 obtain ⟨bl,c8,cj,bO⟩:=H1.o
 exact ⟨_,_,_,rfl,rfl,rfl,⟨A,c,D,cd,T,ct,R,cr,A9,c9,B9,d9,some (ar gb go),gc,SA,sc,some (ar bI oI),ic,by rw [H.il',d0.o,bO];push_cast;rfl,fp H.I0 hX,by rw [bl];exact d1,by rw [c8];exact dv,by rw [cj];exact bH H.G0 hX,by rw [bO];exact er cN H.R0 hX,aW H.It0 hX,by rw [bl];exact (lP.trans H.Pl),by rw [c8];exact (lM.trans H.Ml),by rw [cj];exact H.Gl⟩,⟨B1,c1,rfl,cV H.s0 hX,H.s2⟩,⟨B2,c2,rfl,cV H.t0 hX,H.t2⟩,QW.o⟩
section
variable {P:Program} {ops:Array Oper} {Q:Exit->Act->World->Prop} {S:World->Prop} {n:Nat}
structure XAS (P:Program) (ops:Array Oper) (Q:Exit->Act->World->Prop) (S:World->Prop) (n i:Nat) (L:List Nat) (a:Act) (w:World):Prop where
 out:∃o,ops[i]?=some o/\∀K':Act->World->Prop,Shut (∀a w,S w->(S w->XA P ops Q S n (i::L) a w)->K' a w)->if Region.wanted o (yielded ops a.tmps)=true then Oper.wp P o a w K' Q else K' (a.put o.dst undef) w
theorem XAS.v {L:List Nat} {a:Act} {w:World} {i:Nat} {o:Oper} (h:World) (v:Value) (u:S h) (k:XA P ops Q S n (i::L) (a.put o.dst v) h) (p:ops[i]?=some o:=by (simp only [My,Mz,MB];rfl))
  (hw:Region.wanted o (yielded ops a.tmps)=true:=by rfl) (he:(execOp a.eval o).run P w=.ok (.value v) h:=by go_simp):XAS P ops Q S n i L a w:=by
 refine ⟨o,p,fun y x=>?_⟩
 rw [if_pos hw]
 unfold Oper.wp
 rw [he]
 exact x.out _ _ u fun _=>k
theorem XAS.o {L:List Nat} {a:Act} {w:World} {o:Oper} {i:Nat}
  (h:∀p:Act->World->Prop,Shut (∀a w,S w->(S w->XA P ops Q S n (i::L) a w)->p a w)->if Region.wanted o (yielded ops a.tmps)=true then Oper.wp P o a w p Q else p (a.put o.dst undef) w)
  (u:ops[i]?=some o:=by (simp only [My,Mz,MB];rfl)):XAS P ops Q S n i L a w:=⟨o,u,h⟩
theorem XA.two {L:List Nat} {a:Act} {w:World} (i j:Nat) (y:XAS P ops Q S n i L a w) (p:XAS P ops Q S n j L a w) (hr:cY ops L=[i,j]:=by decide +kernel):XA P ops Q S n L a w:=by
 obtain ⟨H,x,y⟩:=y
 obtain ⟨I,o,p⟩:=p
 have B:unl (bF ops.size L)=unl (bF ops.size (i::L))+1:=cK (by rw [hr];simp)
 have D:unl (bF ops.size L)=unl (bF ops.size (j::L))+1:=cK (by rw [hr];simp)
 have C:unl (bF ops.size (j::L))=unl (bF ops.size (i::L)):=ap
 refine ⟨?_⟩
 rw [B]
 refine cB (by rw [dL];exact hr) (by simp) (aS.cons x (fun A v=>y A fun a w u hw=>v.out a w u fun h=>(hw h).out) (aS.cons o (fun A v=>p A fun a w u hw=>v.out a w u fun h=>?_) aS.nil))
 have:=(hw h).out
 rw [C] at this
 exact this
end
theorem KL {w:World} {A:Option Addr} {l:List Ex} (h:dA rEx 2 w A l):∃rows:List (List Value),Rd w A (List.flatten rows)/\rows.length=l.length/\(∀r∈rows,r.length=2)/\(∀j x,l[j]?=some x->rEx w (cq rows j) x)/\(List.flatten rows).length=l.length*2/\∀u∈List.flatten rows,u.oneCell'=true:=by
 obtain ⟨rows,h1,o,v,p⟩:=h
 refine ⟨rows,h1,o,v,p,by rw [qD v,o],fun u i=>?_⟩
 obtain ⟨r,hr,i⟩:=List.mem_flatten.1 i
 obtain ⟨j,B,e⟩:=List.getElem_of_mem hr
 have C:=MG (show j<l.length by omega)
 obtain ⟨J,H,D,I,y,_⟩:=p j _ C
 rw [pO B,e] at y
 subst y
 simp only [List.mem_cons,List.not_mem_nil,or_false] at i
 rcases i with rfl | rfl<;>rfl
theorem gt {S:Nat->Prop} {w:World} {base:Nat} {e:TypeId} {size n c:Nat} {A:Option Addr} {xs:List Value} (h:w.ownsRow base e size (.slice A n c) n xs) (p:∀k,S k->k<base):Rd (aF S w) A xs:=by
 refine kZ (Rd.own h) fun y i hs=>?_
 rcases h.2 with ⟨o,_⟩ | ⟨g,_,_,o,hb,_⟩
 ·injection o with e1;rw [e1] at i;cases i
 ·injection o with e1;rw [e1] at i;cases i;have u:g<base:=p _ hs;omega
theorem zv {w:World} {vs:Array Value} {i:Inp} {x:Nat} {m:Mst} {s t:LSt} {u v:Array Value} {S:Nat->Prop} (hS:∀k,S k->k<w.heap.size) (h:fZ (aF S w) vs i x m) (hu:RL (aF S w) u s) (hv:RL (aF S w) v t) (hs:cz i) {y:Itm} (hy:(db i x)[bD i x m]?=some y) (k1 k2:Int) (b0 b1:Bool) (i0 i1 i2 i3 i4 i5 i6:Int) (bv:aZ y=[M8 6,M8 k1,M8 k2,.bool b0,.bool b1,M8 i0,M8 i1,M8 i2,M8 i3,M8 i4,M8 i5,M8 i6]) (aG:m.rc.length<=1000)
  (m1:Mst) (h1:m1.P=m.P/\m1.M=m.M/\m1.G=List.replicate i.start.length 0/\m1.rc=m.rc++[(m.P,m.M)]) (aM:bD i x m1=bD i x m+1):
  Calls prog 89 #[.agg vs,.agg u,.agg v] w (fun e w'=>no S i x m1 (s) (t) 0 w e w'):=by
 obtain ⟨A,c,D,cd,T,ct,R,cr,C,J,B,I,GA,gc,SA,sc,bI,oI,ic,B1,c1,B2,c2,dn,il,W0,rfl,rfl,rfl,H⟩:=jR hS h hu hv hs hy
 have ao:=H.rw'
 rw [bv] at ao
 rw [H.dn'] at aM
 obtain ⟨cl,H1,c6⟩:=af ao h1 aM
 obtain ⟨d3,d2,tl,cx,cb,d1,cf⟩:=H.loc
 have q0:=br W0
 clear h hu hv hs hy bv hS h1 aM ao
 go_enter func89,ntmps89
 go_upto_region 1 with (fail)
 rw [H.eW]
 go_upto_region 4 with (first | (refine jH cl.o iS rfl rfl rfl ?_) | (refine aI (Mc _ _) iS rfl rfl rfl rfl rfl rfl rfl ?_;intro W3 e3 k3;obtain ⟨E3,K3⟩:=ae e3 (aK k3);clear e3 k3))
 clear d3 d2 tl q0 cx cb d1 cf
 go_upto_region 5 with (first | (refine aT #[M8 i5,M8 i6] (b:=W0.heap.size) E3.o fO rfl rfl rfl rfl ?_) | (refine aI (Mc _ _) fO rfl rfl rfl rfl rfl rfl rfl ?_;intro p e4 k4;obtain ⟨E4,K4⟩:=ae e4 (aK k4);clear e4 k4))
 have y0:p.cell? (ar W0.heap.size 0)=some (M8 6):=Md p _ 0 _ _ _ (sb E3.o _ K4.o)
 have a1:=aa (bt K3.o K4.o)
 go_upto_region 26 with (fail)
 have N:=aa (H.bx _ a1.o).1
 have a8:=H.K.trans (a1.o.mono H.K.size)
 obtain ⟨rows,z1,z2,z3,z4,z5,z6⟩:=KL H.R0
 have zr:=fun w' (q:aq p w')=>aW z1 (gF (Keep.below (a8.trans (q.mono a8.size))))
 obtain ⟨rl,hrl⟩:∃rl,m.rc.length=rl:=⟨_,rfl⟩
 obtain ⟨bh,Z2,Z3,Z4,Zr,d7⟩:=ai a8 z2 z3 z4 zr hrl
 rw [hrl] at z5 aG
 obtain ⟨Z5,Z6,L⟩:=af z5 z6 aG
 rw [hrl] at N ⊢
 clear y0 a8 z1 z2 z3 z4 z5 z6 zr hrl aG
 go_cut [3] (fun v wx=>v=(au w.heap.size)/\∃Q c7,wx.heap[w.heap.size]?=some (.cells #[.slice A i.cfg.sizes.length c,M8 i.cfg.shift,M8 i.cfg.rate,M8 i.cfg.mom,M8 i.cfg.workers,M8 i.cfg.batch,M8 i.cfg.micros,M8 i.cfg.steps,M8 i.cfg.bucket,M8 i.cfg.chunk,M8 i.cfg.window,M8 i.cfg.cap,.slice D i.data.length cd,.slice T i.start.length ct,.slice R i.draws.length cr,M8 (x:Nat),.slice C i.start.length J,.slice B i.start.length I,.slice GA i.start.length gc,.slice Q (rl+1) c7,.slice (some (ar bI oI)) il ic,M8 (dn:Nat)] 106 (0,0))/\wx.ownsRow p.heap.size 103 2 (.slice Q (rl+1) c7) (rl+1) (List.flatten rows++[.slice C i.start.length J,.slice B i.start.length I])/\Keep (fun k=>k=w.heap.size) p wx)
 case first=>
  have q4:=(br p).drew
  have d9:∀w',aq p w'->w'.cell? (ar w.heap.size 19)=some (.slice SA rl sc):=fun w' q=>Md w' _ 19 _ _ _ (sb N.o w' q)
  have tl:=fun w' (q:aq p w')=>Mi (Ma N.o) q.size
  refine XA.g 9 (fun w':World=>aq p w') ?_
  refine XA.t ?_ [1,2,4] q4 ?_
  refine XA.ld 5 #[.slice C i.start.length J,.slice B i.start.length I] (fun w' q=>sb N.o w' q) j3 q4 ?_
  refine XA.two 0 6 ?_ ?_
  ·refine XAS.v (p.drew.alloc (.cells #[] 103)) (.slice (some (ar p.drew.heap.size 0)) 0 0) (q4.alloc (Mb _) _) ?_
   have O:(p.drew.alloc (.cells #[] 103)).ownsRow p.heap.size 103 2 (.slice (some (ar p.drew.heap.size 0)) 0 0) 0 []:=ep p.drew 103 2
   have q1:=q4.alloc (Mb p.heap.size) (.cells #[] 103)
   have s1:(p.drew.alloc (.cells #[] 103)).heap.size=p.drew.heap.size+1:=Mr _ _
   obtain ⟨u1,a4⟩:∃u1,p.drew.alloc (.cells #[] 103)=u1:=⟨_,rfl⟩
   rw [a4] at O q1 s1 ⊢
   clear a4
   refine XA.two 3 6 ?_ ?_
   ·refine XAS.o (fun K' hK=>?_)
    refine bR mW (.tmp 161) (.tmp 163) rfl rfl p.heap.size _ 0 [] rfl O SA rl sc (List.flatten rows) rfl (Zr.o _ q1) Z5.o Z6.o (by have:=L.o;omega) (by unfold maxLen;have:=L.o;omega) q1.size ?_;intro A3 c3 u3 o3 a6 ab be;rw [MW,List.nil_append] at o3;have q3:=q1.trans a6;rw [MW];refine hK.out _ _ q3 fun _=>?_;clear hK K'
    refine XA.v 6 (u3.alloc (.cells #[.slice C i.start.length J,.slice B i.start.length I] 103)) (.slice (some (ar u3.heap.size 0)) 1 1) (q3.alloc q3.size _) ?_;have g6:=Mc u3 (.cells #[.slice C i.start.length J,.slice B i.start.length I] 103);have b6:=(br u3).alloc (Mb _) (.cells #[.slice C i.start.length J,.slice B i.start.length I] 103);have q6:=q3.alloc q3.size (.cells #[.slice C i.start.length J,.slice B i.start.length I] 103);have s6:(u3.alloc (.cells #[.slice C i.start.length J,.slice B i.start.length I] 103)).heap.size=u3.heap.size+1:=Mr _ _;obtain ⟨u6,a0⟩:∃v,u3.alloc (.cells #[.slice C i.start.length J,.slice B i.start.length I] 103)=v:=⟨_,rfl⟩;rw [a0] at g6 b6 q6 s6 ⊢;clear a0;have o6:=ay o3 b6
    refine XA.o 7 (fun K' hK=>?_);refine bR mW (.tmp 164) (.tmp 167) rfl rfl p.heap.size _ rl (List.flatten rows) rfl o6 (some (ar _ 0)) 1 1 [.slice C i.start.length J,.slice B i.start.length I] rfl (rJ g6) rfl (by simp [Value.oneCell']) (by have:=L.o;omega) (by unfold maxLen;have:=L.o;omega) q6.size ?_;intro Q c7 u7 o7 b7 a7 a5;have Z:=q6.trans b7;refine hK.out _ _ Z fun _=>?_;clear hK K';refine XA.t ?_ [8] Z ?_;refine XA.e ?_;simp only [MC,MD];have U:=sb N.o _ Z;have bo:=Md u7 w.heap.size 19 _ _ _ U;have bw:=Mk u7 w.heap.size 19 _ _ U;have l7:=Ma U;have e8:=ss (i:=19) (v:=.slice Q (rl+1) c7) U rfl;have k8:Keep (fun k=>k=w.heap.size) u7 (u7.setCell (ar w.heap.size 19) (.slice Q (rl+1) c7)):=Keep.setCell (S:=fun k=>k=w.heap.size) (Keep.refl _ _) _ (.inr rfl) _;have o8:=k8.own o7 (fun j Y e=>by have h1:=(o7.lt j Y).1;have h2:=Ma N.o;omega);have HF:=aa (⟨e8,o8,(Keep.below Z).trans k8⟩:_/\_/\Keep (fun k=>k=w.heap.size) p _);clear e8 k8 o8 o7 b7 a7 a5 Z U;go_wp2_with fail;go_meet;exact ⟨rfl,Q,c7,HF.o⟩
   ·refine XAS.v (u1.alloc (.cells #[.slice C i.start.length J,.slice B i.start.length I] 103)) (.slice (some (ar u1.heap.size 0)) 1 1) (q1.alloc q1.size _) ?_;have g6:=Mc u1 (.cells #[.slice C i.start.length J,.slice B i.start.length I] 103);have b6:=(br u1).alloc (Mb _) (.cells #[.slice C i.start.length J,.slice B i.start.length I] 103);have q6:=q1.alloc q1.size (.cells #[.slice C i.start.length J,.slice B i.start.length I] 103);have s6:(u1.alloc (.cells #[.slice C i.start.length J,.slice B i.start.length I] 103)).heap.size=u1.heap.size+1:=Mr _ _;obtain ⟨u6,a0⟩:∃v,u1.alloc (.cells #[.slice C i.start.length J,.slice B i.start.length I] 103)=v:=⟨_,rfl⟩;rw [a0] at g6 b6 q6 s6 ⊢;clear a0
    have bV:=ay O b6
    refine XA.o 3 (fun K' hK=>?_);refine bR mW (.tmp 161) (.tmp 163) rfl rfl p.heap.size _ 0 [] rfl bV SA rl sc (List.flatten rows) rfl (Zr.o _ q6) Z5.o Z6.o (by have:=L.o;omega) (by unfold maxLen;have:=L.o;omega) q6.size ?_;intro A3 c3 u3 o3 a6 ab be;rw [MW,List.nil_append] at o3;have q3:=q6.trans a6;rw [MW];refine hK.out _ _ q3 fun _=>?_;clear hK K'
    have av:=(ab.block _ (Ma g6) (fun e=>by have e':u1.heap.size=p.drew.heap.size:=Option.some.inj e;omega)).trans g6
    refine XA.o 7 (fun K' hK=>?_);refine bR mW (.tmp 164) (.tmp 167) rfl rfl p.heap.size _ rl (List.flatten rows) rfl o3 (some (ar _ 0)) 1 1 [.slice C i.start.length J,.slice B i.start.length I] rfl (rJ av) rfl (by simp [Value.oneCell']) (by have:=L.o;omega) (by unfold maxLen;have:=L.o;omega) q3.size ?_;intro Q c7 u7 o7 b7 a7 a5;have Z:=q3.trans b7;refine hK.out _ _ Z fun _=>?_;clear hK K';refine XA.t ?_ [8] Z ?_;refine XA.e ?_;simp only [MC,MD];have U:=sb N.o _ Z;have bo:=Md u7 w.heap.size 19 _ _ _ U;have bw:=Mk u7 w.heap.size 19 _ _ U;have l7:=Ma U;have e8:=ss (i:=19) (v:=.slice Q (rl+1) c7) U rfl;have k8:Keep (fun k=>k=w.heap.size) u7 (u7.setCell (ar w.heap.size 19) (.slice Q (rl+1) c7)):=Keep.setCell (S:=fun k=>k=w.heap.size) (Keep.refl _ _) _ (.inr rfl) _;have o8:=k8.own o7 (fun j Y e=>by have h1:=(o7.lt j Y).1;have h2:=Ma N.o;omega);have HF:=aa (⟨e8,o8,(Keep.below Z).trans k8⟩:_/\_/\Keep (fun k=>k=w.heap.size) p _);clear e8 k8 o8 o7 b7 a7 a5 Z U;go_wp2_with fail;go_meet;exact ⟨rfl,Q,c7,HF.o⟩
  ·refine XAS.v (p.drew.alloc (.cells #[.slice C i.start.length J,.slice B i.start.length I] 103)) (.slice (some (ar p.drew.heap.size 0)) 1 1) (q4.alloc q4.size _) ?_;have g6:=Mc p.drew (.cells #[.slice C i.start.length J,.slice B i.start.length I] 103);have b6:=(br p.drew).alloc (Mb _) (.cells #[.slice C i.start.length J,.slice B i.start.length I] 103);have q6:=q4.alloc q4.size (.cells #[.slice C i.start.length J,.slice B i.start.length I] 103);have s6:(p.drew.alloc (.cells #[.slice C i.start.length J,.slice B i.start.length I] 103)).heap.size=p.drew.heap.size+1:=Mr _ _;obtain ⟨u6,a0⟩:∃v,p.drew.alloc (.cells #[.slice C i.start.length J,.slice B i.start.length I] 103)=v:=⟨_,rfl⟩;rw [a0] at g6 b6 q6 s6 ⊢;clear a0
   refine XA.v 0 (u6.alloc (.cells #[] 103)) (.slice (some (ar u6.heap.size 0)) 0 0) (q6.alloc q6.size _) ?_
   have O:(u6.alloc (.cells #[] 103)).ownsRow p.heap.size 103 2 (.slice (some (ar u6.heap.size 0)) 0 0) 0 []:=aE (ep u6 103 2) q6.size
   have q1:=q6.alloc q6.size (.cells #[] 103)
   have g6:=sb g6 _ ((br u6).alloc (Mb _) (.cells #[] 103))
   have l6:p.drew.heap.size<u6.heap.size:=by rw [s6];omega
   obtain ⟨u1,a4⟩:∃u1,u6.alloc (.cells #[] 103)=u1:=⟨_,rfl⟩
   rw [a4] at O q1 g6 ⊢
   clear a4
   refine XA.o 3 (fun K' hK=>?_);refine bR mW (.tmp 161) (.tmp 163) rfl rfl p.heap.size _ 0 [] rfl O SA rl sc (List.flatten rows) rfl (Zr.o _ q1) Z5.o Z6.o (by have:=L.o;omega) (by unfold maxLen;have:=L.o;omega) q1.size ?_;intro A3 c3 u3 o3 a6 ab be;rw [MW,List.nil_append] at o3;have q3:=q1.trans a6;rw [MW];refine hK.out _ _ q3 fun _=>?_;clear hK K'
   have av:=(ab.block _ (Ma g6) (fun e=>by have e':p.drew.heap.size=u6.heap.size:=Option.some.inj e;omega)).trans g6
   refine XA.o 7 (fun K' hK=>?_);refine bR mW (.tmp 164) (.tmp 167) rfl rfl p.heap.size _ rl (List.flatten rows) rfl o3 (some (ar _ 0)) 1 1 [.slice C i.start.length J,.slice B i.start.length I] rfl (rJ av) rfl (by simp [Value.oneCell']) (by have:=L.o;omega) (by unfold maxLen;have:=L.o;omega) q3.size ?_;intro Q c7 u7 o7 b7 a7 a5;have Z:=q3.trans b7;refine hK.out _ _ Z fun _=>?_;clear hK K';refine XA.t ?_ [8] Z ?_;refine XA.e ?_;simp only [MC,MD];have U:=sb N.o _ Z;have bo:=Md u7 w.heap.size 19 _ _ _ U;have bw:=Mk u7 w.heap.size 19 _ _ U;have l7:=Ma U;have e8:=ss (i:=19) (v:=.slice Q (rl+1) c7) U rfl;have k8:Keep (fun k=>k=w.heap.size) u7 (u7.setCell (ar w.heap.size 19) (.slice Q (rl+1) c7)):=Keep.setCell (S:=fun k=>k=w.heap.size) (Keep.refl _ _) _ (.inr rfl) _;have o8:=k8.own o7 (fun j Y e=>by have h1:=(o7.lt j Y).1;have h2:=Ma N.o;omega);have HF:=aa (⟨e8,o8,(Keep.below Z).trans k8⟩:_/\_/\Keep (fun k=>k=w.heap.size) p _);clear e8 k8 o8 o7 b7 a7 a5 Z U;go_wp2_with fail;go_meet;exact ⟨rfl,Q,c7,HF.o⟩
 case rest=>
  obtain ⟨rfl,Q,c7,a9,o7,kc⟩:=hcut
  obtain ⟨Wm,bn,oM,bM⟩:=lU jB wc rfl i.start.length (by have:=H.s'.n;omega) (by unfold maxLen;have:=H.s'.n;omega)
  rw [eR] at oM
  have ci:=Md wc w.heap.size 18 _ _ _ a9
  have a3:=sb a9 _ bM
  have c8:=Md Wm w.heap.size 18 _ _ _ a3
  have cM:=Mk Wm w.heap.size 18 _ _ a3
  have lc:=Ma a9
  have lm:=Ma a3
  have cv:¬(i.start.length:Int)<0:=ap
  obtain ⟨d0,O7,KC,OM,BM⟩:=ah a3 o7 kc oM bM;clear a3 o7 kc oM bM a9
  go_upto_region 28 with (fail)
  have a2:=ss (i:=18) (v:=.slice (some (ar wc.heap.size 0)) i.start.length i.start.length) d0.o rfl
  have kk:Keep (fun k=>k=w.heap.size) Wm (Wm.setCell (ar w.heap.size 18) (.slice (some (ar wc.heap.size 0)) i.start.length i.start.length)):=Keep.setCell (S:=fun k=>k=w.heap.size) (Keep.refl _ _) _ (.inr rfl) _
  obtain ⟨V,hV⟩:∃V,Wm.setCell (ar w.heap.size 18) (.slice (some (ar wc.heap.size 0)) i.start.length i.start.length)=V:=⟨_,rfl⟩
  rw [hV] at a2 kk ⊢
  have kV:Keep (fun k=>k=w.heap.size) p V:=(KC.o.trans (Keep.below BM.o)).trans kk
  have hb:=fun {b:Nat} {o:Obj} (h:W0.heap[b]?=some o) (h1:b≠w.heap.size)=>(kV.block b (Ma (sb h _ a1.o)) h1).trans (sb h _ a1.o)
  have bd:=hb (H.bx _ (br W0)).2.1 ap
  have bN:=hb (H.bx _ (br W0)).2.2.1 ap
  have b9:=hb (H.bx _ (br W0)).2.2.2.1 ap
  have bA:=hb (H.bx _ (br W0)).2.2.2.2.1 ap
  have bO:=hb (H.bx _ (br W0)).2.2.2.2.2 ap
  have bG:=bh.o.trans (kV.toBelow bh.o.size (fun j Y=>Nat.le_of_eq (Eq.symm Y)))
  have d8:=Ma (H.bx _ (br W0)).2.2.2.2.2
  obtain ⟨bl,bs⟩:=ae (kk.own (aE OM.o (show w.heap.size+6<=wc.heap.size by have:=KC.o.size;have:=a1.o.size;omega)) (fun j Y e=>by have h1:=(OM.o.lt j Y).1;have h2:j=w.heap.size:=e;have:=lc;omega)) (kk.own (ay (aE O7.o (show w.heap.size+6<=p.heap.size by have:=a1.o.size;omega)) BM.o) (fun j Y e=>by have h1:=(O7.o.lt j Y).1;have h2:j=w.heap.size:=e;have:=a1.o.size;omega));clear hV ci c8 cM lc lm cv kk kV hb bn
  have co:=Md V w.heap.size 21 _ _ _ a2
  have bX:=Mk V w.heap.size 21 _ _ a2
  have lM:=Ma a2
  have cs:=H.wd
  have e9:=ss (i:=21) (v:=M8 ((dn:Int)+1)) a2 rfl
  have k9:Keep (fun k=>k=w.heap.size) V (V.setCell (ar w.heap.size 21) (M8 ((dn:Int)+1))):=Keep.setCell (S:=fun k=>k=w.heap.size) (Keep.refl _ _) _ (.inr rfl) _
  obtain ⟨E9,K9,cj,cn,cy,cw,cc,d4⟩:=ak e9 k9 bd bN b9 bA bO bG;clear e9 k9 bd bN b9 bA bO bG a2
  go_upto_region 29 with (fail)
  obtain ⟨V9,b8⟩:∃V9,V.setCell (ar w.heap.size 21) (M8 ((dn:Int)+1))=V9:=⟨_,rfl⟩
  rw [b8] at E9 K9 ⊢
  clear b8 co bX lM cs
  obtain ⟨b1,b2,b3,b4,b5⟩:=uv K9.o cj.o cn.o cy.o cw.o cc.o
  have hq:aq V9 V9.drew:=(br V9).drew
  refine HA.g (KB3 w.heap.size V9) ?_
  refine HA.ld3 (vs:=#[.slice A i.cfg.sizes.length c,M8 i.cfg.shift,M8 i.cfg.rate,M8 i.cfg.mom,M8 i.cfg.workers,M8 i.cfg.batch,M8 i.cfg.micros,M8 i.cfg.steps,M8 i.cfg.bucket,M8 i.cfg.chunk,M8 i.cfg.window,M8 i.cfg.cap,.slice D i.data.length cd,.slice T i.start.length ct,.slice R i.draws.length cr,M8 (x:Nat),.slice C i.start.length J,.slice B i.start.length I,.slice (some (ar wc.heap.size 0)) i.start.length i.start.length,.slice Q (rl+1) c7,.slice (some (ar bI oI)) il ic,M8 (dn+1)]) E9.o b1 b2 dM bP bP (Keep.below hq) ?_
  refine HA.st3 3 4 5 b3 b4 b5 dM bP bP hq (fun w8 r3 r4 e8 q8=>?_)
  refine HA.t ?_ [6] q8 ?_
  refine HA.d ?_
  obtain ⟨R3,R4,R5⟩:=af r3 r4 e8
  have F:=jQ K9.o q8 d4.o
  obtain ⟨aP,QW⟩:=ae F.1 F.2;clear b1 b2 b3 b4 b5 e8 q8 r3 r4 hq F
  go_wp2_with fail
  refine Mp (fg rfl rfl rfl rfl R3.o R4.o R5.o dM bP bP) rfl ?_
  have ad:∀j,w.heap.size+6<=j->¬(w.heap.size<=j/\j<w.heap.size+6):=fun j h1 h2=>ap
  have d6:=aP.o.own bl.o (fun j Y=>ad j (bl.o.lt j Y).1)
  have c9:=aP.o.own bs.o (fun j Y=>ad j (bs.o.lt j Y).1)
  have bb:∀k,S k->k<w.heap.size+6:=fun k hk=>by have:=H.S' k hk;omega
  have d5:cJ (aF S w8) (some (ar wc.heap.size 0)) (List.replicate i.start.length 0) i.start.length:=⟨by simp,by simp;have:=H.s'.n;omega,iD d6 bb,qM _⟩
  have hX:Ext (aF S w) (aF S w8):=bE (Keep.below QW.o) (fun _ _ h=>h)
  have cL:dA rEx 2 (aF S w8) Q (m.rc++[(m.P,m.M)]):=by
   refine ⟨rows++[[.slice C i.start.length J,.slice B i.start.length I]],?_,by simp [Z2.o],?_,?_⟩
   ·rw [MO,List.flatten_cons,List.flatten_nil,List.append_nil];exact gt c9 bb
   ·intro r hr
    rcases MS.1 hr with hr | hr
    ·exact Z3.o r hr
    ·rw [List.mem_singleton.1 hr];rfl
   ·intro j y hy
    have cA:=Z2.o
    rcases Mq j m.rc.length with h | h
    ·rw [MH h] at hy
     have e:cq (rows++[[Value.slice C i.start.length J,.slice B i.start.length I]]) j=cq rows j:=by simp [cq,MH (show j<rows.length by omega)]
     rw [e];exact cN (Z4.o j y hy) hX
    ·have Y:j=m.rc.length:=by have:=(MF.1 hy).1;simp at this;omega
     subst Y
     simp at hy
     subst hy
     have e:cq (rows++[[Value.slice C i.start.length J,.slice B i.start.length I]]) m.rc.length=[.slice C i.start.length J,.slice B i.start.length I]:=by rw [<-cA];simp [cq]
     rw [e];exact ⟨C,J,B,I,by rw [H.Pl,H.Ml],bH H.P0 hX,bH H.M0 hX⟩
  have hX:Ext (aF S w) (aF S w8):=bE (Keep.below QW.o) (fun _ _ h=>h)
  obtain ⟨aR,bi,bz,bf⟩:=H1.o
  exact ⟨_,_,_,rfl,rfl,rfl,⟨A,c,D,cd,T,ct,R,cr,C,J,B,I,some (ar wc.heap.size 0),i.start.length,Q,c7,some (ar bI oI),ic,by rw [H.il',c6.o,bf,ME,MN,d7.o];push_cast;rfl,fp H.I0 hX,by rw [aR];exact bH H.P0 hX,by rw [bi];exact bH H.M0 hX,by rw [bz];exact d5,by rw [bf];exact cL,aW H.It0 hX,by rw [aR];exact H.Pl,by rw [bi];exact H.Ml,by rw [bz];exact (by simp)⟩,⟨B1,c1,rfl,cV H.s0 hX,H.s2⟩,⟨B2,c2,rfl,cV H.t0 hX,H.t2⟩,QW.o⟩
theorem Jc {w:World} {vs:Array Value} {i:Inp} {x:Nat} {m:Mst} {s t:LSt} {u v:Array Value} {S:Nat->Prop} (hS:∀k,S k->k<w.heap.size) (h:fZ (aF S w) vs i x m) (hu:RL (aF S w) u s) (hv:RL (aF S w) v t) (hs:cz i) (hy:(db i x).length<=bD i x m):
  Calls prog 89 #[.agg vs,.agg u,.agg v] w (fun e p=>no S i x m s t 13 w e p):=by
 obtain ⟨A,c,D,cd,T,ct,R,cr,PA,pc,MA,mc,GA,gc,SA,sc,IA,ic,rfl,U,O,Y,Z,a4,y,a8,av,a7⟩:=h
 obtain ⟨B1,c1,rfl,L,ab⟩:=hu
 obtain ⟨B2,c2,rfl,a0,aR⟩:=hv
 have B:=et S w
 have hI:=fp U B
 have hP:=bH O B
 have hM:=bH Y B
 have hG:=bH Z B
 have hR:dA rEx 2 w SA m.rc:=er cN a4 B
 have a9:=aW y B
 have aM:=cV L B
 have aP:=cV a0 B
 have ad:(db i x).length<=48000000:=vW hs x (Mb _)
 obtain ⟨dn,J⟩:∃dn,bD i x m=dn:=⟨_,rfl⟩
 obtain ⟨il,a5⟩:∃il,(db i x).length=il:=⟨_,rfl⟩
 rw [J] at hy ⊢
 rw [a5] at ad hy ⊢
 obtain ⟨W0,aG,g0,g1,g2,g3,g4,g5,k0⟩:=wW w #[.slice A i.cfg.sizes.length c,M8 i.cfg.shift,M8 i.cfg.rate,M8 i.cfg.mom,M8 i.cfg.workers,M8 i.cfg.batch,M8 i.cfg.micros,M8 i.cfg.steps,M8 i.cfg.bucket,M8 i.cfg.chunk,M8 i.cfg.window,M8 i.cfg.cap,.slice D i.data.length cd,.slice T i.start.length ct,.slice R i.draws.length cr,M8 (x:Nat),.slice PA i.start.length pc,.slice MA i.start.length mc,.slice GA i.start.length gc,.slice SA m.rc.length sc,.slice IA il ic,M8 (dn:Nat)] #[M8 (s.cap:Nat),.slice B1 s.msgs.length c1,M8 (s.recv:Nat),M8 (s.peak:Nat)] #[M8 (t.cap:Nat),.slice B2 t.msgs.length c2,M8 (t.recv:Nat),M8 (t.peak:Nat)] Nb #[M8 0,M9,M8 0,M8 0] #[M8 0,M9,M8 0,M8 0] 106 75
 have bA:∀p,aq W0 p->p.cell? (ar w.heap.size 20)=some (.slice IA il ic):=fun p q=>Md p w.heap.size 20 _ _ _ (sb g0 p q)
 have bw:∀p,aq W0 p->p.cell? (ar w.heap.size 21)=some (M8 (dn:Nat)):=fun p q=>Md p w.heap.size 21 _ _ _ (sb g0 p q)
 have tl:=sl g0
 have bl:(il:Int)<=dn:=ap
 have b8:¬(dn:Int)<il:=ap
 have q0:=br W0
 obtain ⟨bv,G0,G1,G2,G3,G4,G5,K0⟩:=ak aG g0 g1 g2 g3 g4 g5 k0;obtain ⟨HI,HP,HM,HG,HR,bO,bi,bf⟩:=ak hI hP hM hG hR a9 a8 av;obtain ⟨bz,bN,be,bI,bh,bn,Hs,bG⟩:=ak a7 aM ab aP aR a5 hs U;obtain ⟨bb,bo,bs,b6,ao,b7,bd,HS⟩:=ak O Y Z a4 y L a0 hS;have b9:=aa J;clear U O Y Z a4 y L a0 hS B aG g0 g1 g2 g3 g4 g5 k0 hI hP hM hG hR a9 a8 av a7 aM ab aP aR J a5 hs hy ad
 go_enter func89,ntmps89
 go_upto_region 1 with (fail)
 rw [bv.o]
 go_upto_region 2 with (fail)
 clear bA bw tl q0 bl b8
 have H:=G0.o
 have Q:=G1.o
 have a3:=G2.o
 have N:=G3.o
 have a1:=G4.o
 have a6:=G5.o
 have a2:=K0.o
 obtain ⟨V,hV⟩:∃V,W0=V:=⟨_,rfl⟩
 rw [hV] at H Q a3 N a1 a6 a2 ⊢
 clear hV
 obtain ⟨E9,b0,K9⟩:=af H a2 (Keep.refl (fun k=>k=w.heap.size) V);clear H a2
 have b1:=Q
 have b2:=a3
 have b3:=N
 have b4:=a1
 have b5:=a6
 clear Q a3 N a1 a6
 have q9:Keep (fun k=>k=w.heap.size+1+1+1\/k=w.heap.size+1+1+1+1\/k=w.heap.size+1+1+1+1+1) V V.drew:=(Keep.refl _ _).drew
 refine HA.g (fun p:World=>Keep (fun k=>k=w.heap.size+1+1+1\/k=w.heap.size+1+1+1+1\/k=w.heap.size+1+1+1+1+1) V p) ?_
 refine HA.ld 0 #[.slice A i.cfg.sizes.length c,M8 i.cfg.shift,M8 i.cfg.rate,M8 i.cfg.mom,M8 i.cfg.workers,M8 i.cfg.batch,M8 i.cfg.micros,M8 i.cfg.steps,M8 i.cfg.bucket,M8 i.cfg.chunk,M8 i.cfg.window,M8 i.cfg.cap,.slice D i.data.length cd,.slice T i.start.length ct,.slice R i.draws.length cr,M8 (x:Nat),.slice PA i.start.length pc,.slice MA i.start.length mc,.slice GA i.start.length gc,.slice SA m.rc.length sc,.slice IA il ic,M8 (dn:Nat)] (fun p q=>(q.block _ (Ma E9.o) ap).trans E9.o) dM q9 ?_
 refine HA.ld 1 #[M8 (s.cap:Nat),.slice B1 s.msgs.length c1,M8 (s.recv:Nat),M8 (s.peak:Nat)] (fun p q=>(q.block _ (Ma b1) ap).trans b1) bP q9 ?_
 refine HA.ld 2 #[M8 (t.cap:Nat),.slice B2 t.msgs.length c2,M8 (t.recv:Nat),M8 (t.peak:Nat)] (fun p q=>(q.block _ (Ma b2) ap).trans b2) bP q9 ?_
 refine HA.st 3 b3 dM (fun w6 e6 k6=>?_)
 have q6:Keep (fun k=>k=w.heap.size+1+1+1\/k=w.heap.size+1+1+1+1\/k=w.heap.size+1+1+1+1+1) V w6:=q9.trans (k6.mono fun k _ e=>.inl e)
 refine ⟨q6,?_⟩
 have d4:=(k6.block _ (Ma b4) ap).trans b4
 have d5:=(k6.block _ (Ma b5) ap).trans b5
 refine HA.st 4 d4 bP (fun w7 e7 k7=>?_)
 have q7:Keep (fun k=>k=w.heap.size+1+1+1\/k=w.heap.size+1+1+1+1\/k=w.heap.size+1+1+1+1+1) V w7:=q6.trans (k7.mono fun k _ e=>.inr (.inl e))
 refine ⟨q7,?_⟩
 have f5:=(k7.block _ (Ma d5) ap).trans d5
 have f3:=(k7.block _ (Ma e6) ap).trans e6
 refine HA.st 5 f5 bP (fun w8 e8 k8=>?_)
 have q8:Keep (fun k=>k=w.heap.size+1+1+1\/k=w.heap.size+1+1+1+1\/k=w.heap.size+1+1+1+1+1) V w8:=q7.trans (k8.mono fun k _ e=>.inr (.inr e))
 refine ⟨q8,?_⟩
 have r3:=(k8.block _ (Ma f3) ap).trans f3
 have r4:=(k8.block _ (Ma e7) ap).trans e7
 refine HA.t ?_ [6] q8 ?_
 refine HA.d ?_
 obtain ⟨R3,R4,R5⟩:=af r3 r4 e8
 have I:Keep (fun k=>w.heap.size<=k/\k<w.heap.size+6) V w8:=(K9.o.mono fun k _ e=>ap).trans (q8.mono fun k _ e=>by rcases e with e | e | e<;>omega)
 obtain ⟨bM,QW⟩:=ae I (b0.o.trans (I.toBelow b0.o.size (fun j hj=>hj.1)));clear b1 b2 b3 b4 b5 e6 k6 q6 d4 d5 e7 k7 q7 f5 f3 e8 k8 q8 r3 r4 q9 I
 go_wp2_with fail
 refine Mp (fg rfl rfl rfl rfl R3.o R4.o R5.o dM bP bP) rfl ?_
 have C:Ext (aF S w) (aF S w8):=bE (Keep.below QW.o) (fun _ _ h=>h)
 exact ⟨_,_,_,rfl,rfl,rfl,⟨A,c,D,cd,T,ct,R,cr,PA,pc,MA,mc,GA,gc,SA,sc,IA,ic,by rw [bn.o,b9.o],fp bG.o C,bH bb.o C,bH bo.o C,bH bs.o C,er cN b6.o C,aW ao.o C,bi.o,bf.o,bz.o⟩,⟨B1,c1,rfl,cV b7.o C,be.o⟩,⟨B2,c2,rfl,cV bd.o C,bh.o⟩,QW.o⟩
theorem oY (i:Inp) (x:Nat) (m:Mst) (y:Itm):(jG i x m y).st=m.st/\(jG i x m y).nx=m.nx:=by
 unfold jG
 split
 ·exact ⟨rfl,rfl⟩
 ·split
  ·exact ⟨rfl,rfl⟩
  ·split<;>exact ⟨rfl,rfl⟩
theorem qg (i:Inp) (x:Nat) (m:Mst):(adv i x m).P=m.P/\(adv i x m).M=m.M/\(adv i x m).G=m.G/\(adv i x m).rc=m.rc:=by
 unfold adv
 split<;>exact ⟨rfl,rfl,rfl,rfl⟩
theorem kz {i:Inp} (hs:cz i) {x:Nat} {m m1:Mst} {y:Itm} (o:(cI i x m.st)[m.nx]?=some y) (h1:m1.st=m.st) (h:m1.nx=m.nx):bD i x (adv i x m1)=bD i x m+1:=by
 have hl:=(MF.1 o).1
 have e:bD i x m1=bD i x m:=by unfold bD;rw [h1,h]
 unfold adv
 by_cases hc:m1.nx+1<(cI i x m1.st).length
 ·rw [if_pos hc,<-e];exact sP i x m1
 ·rw [if_neg hc,<-e];exact sO hs (by rw [h1,h] at *;omega)
theorem kv {y:Itm} {a:Acn} {k:Nat} (h:y.a=some a) (hk:y.kind=k):aZ y=[M8 (k:Nat),M8 (y.st:Nat),M8 (y.n:Nat),.bool a.send,.bool a.add,M8 (a.st:Nat),M8 (a.bk:Nat),M8 (a.ph:Nat),M8 (a.rd:Nat),M8 (a.ch:Nat),M8 (a.at'.1:Nat),M8 (a.at'.2:Nat)]:=by
 unfold aZ
 rw [h,hk]
 rfl
theorem mX {y:Itm} {k:Nat} (h:y.a=none) (hk:y.kind=k):aZ y=[M8 (k:Nat),M8 (y.st:Nat),M8 (y.n:Nat),.bool false,.bool false,M8 0,M8 0,M8 0,M8 0,M8 0,M8 0,M8 0]:=by
 unfold aZ
 rw [h,hk]
 rfl
theorem Jb {w:World} {vs:Array Value} {i:Inp} {x:Nat} {m m1:Mst} {s t s1 t1:LSt} {u v:Array Value} {S:Nat->Prop} {C:Nat} (H:∀k,S k->k<w.heap.size) (h:fZ (aF S w) vs i x m) (D:RL (aF S w) u s) (I:RL (aF S w) v t) (hs:cz i) (hm:MOk i x m) (a0:IN i x s) (Q:t.recv<=t.msgs.length)
  (N:s.msgs.length<=100000000000) (V:t.msgs.length<=100000000000) (a1:x<i.cfg.workers.toNat) (hr:iT i x m s t m1 s1 t1 C):
  Calls prog 89 #[.agg vs,.agg u,.agg v] w (fun e O=>no S i x m1 s1 t1 (C:Nat) w e O):=by
 have B:∀{y:Itm} {ac:Acn},(cI i x m.st)[m.nx]?=some y->y.a=some ac->ac.at'.1<ac.at'.2/\ac.at'.2<=i.start.length:=fun o A=>AK hs.ok (dt o).2 A
 have p:=hm.cur hs
 cases hr with
 | fin hf=>
  rw [List.getElem?_eq_none hf] at p
  exact Jc H h D I hs (List.getElem?_eq_none_iff.1 p.symm)
 | own y o A=>
  have Y:=hm.okAt hs o A
  obtain ⟨c1,c2⟩:=dt o
  have a2:=vQ o
  have J:=p.symm.trans o
  obtain ⟨aP,aM,aG,aR⟩:=qg i x (jG i x m y)
  have Z:bD i x (adv i x (jG i x m y))=bD i x m+1:=kz hs o (oY i x m y).1 (oY i x m y).2
  rcases Y.1 with k | k | k | k
  ·refine Fx H h D I hs J _ _ _ _ _ _ _ _ _ _ _ (mX A k) y.st y.n rfl rfl (by rw [a2];exact c1) (sx c2 k) a1 _ ?_ Z
   rw [aP,aM,aG,aR];unfold jG;rw [if_pos k];exact ⟨rfl,rfl,rfl,rfl⟩
  ·refine zw H h D I hs J _ _ _ _ _ _ _ _ _ _ _ (mX A k) _ ?_ Z
   rw [aP,aM,aG,aR];unfold jG;rw [if_neg ap,if_pos k];exact ⟨rfl,rfl,rfl,rfl⟩
  ·obtain ⟨g,hg,g1,g2⟩:=uy c2 (.inr k)
   obtain ⟨j,hj,rfl⟩:=List.getElem_of_mem hg
   have a3:=hs.ok.grp hj
   rw [cP _ _ hj] at a3
   have T:y.n<(az i).buks.length:=ap
   have L:=T
   rw [Pln.buks,kw] at L
   obtain ⟨b1,b2,b3⟩:=Io hs.ok.bu L
   have R:aL (az i).buks y.n=(bB (az i).n (az i).bu (y.n+1),bB (az i).n (az i).bu y.n):=b1
   refine zu H h D I hs J _ _ _ _ _ _ _ _ _ _ _ (mX A k) y.n _ _ rfl T R b2 b3 _ ?_ Z
   rw [aP,aM,aG,aR];unfold jG;rw [if_neg ap,if_neg ap,if_pos k,R];exact ⟨rfl,rfl,rfl,rfl⟩
  ·refine zv H h D I hs J _ _ _ _ _ _ _ _ _ _ _ (mX A k) (Y.2.2.2 k) _ ?_ Z
   rw [aP,aM,aG,aR];unfold jG;rw [if_neg ap,if_neg ap,if_neg ap];exact ⟨rfl,rfl,rfl,rfl⟩
 | send y ac o A hk hroom=>
  exact Fu H h D I hs (p.symm.trans o) _ _ _ _ _ _ _ _ _ _ _ (kv A hk) _ _ rfl rfl (B o A).1 (B o A).2 Q V hroom _ (qg i x m) (kz hs o rfl rfl)
 | full y ac o A hk hf=>
  exact Fw H h D I hs (p.symm.trans o) _ _ _ _ _ _ _ _ _ _ _ (kv A hk) _ _ rfl rfl (B o A).1 (B o A).2 Q V ap _ ⟨rfl,rfl,rfl,rfl⟩ rfl
 | recv y ac o A hk hlt heq=>
  have U:=a0.len hs (dt o).1 (dt o).2 A (pW (dt o).2 A hk) hlt heq
  exact Fv H h D I hs (p.symm.trans o) _ _ _ _ _ _ _ _ _ _ _ (kv A hk) _ _ rfl (Nat.le_of_lt (B o A).1) (B o A).2 N hlt heq U.1 U.2 _ (qg i x _) (kz hs o rfl rfl)
 | none y ac o A hk h0=>
  refine rI H h D I hs (p.symm.trans o) _ _ _ _ _ _ _ _ _ _ _ (kv A hk) 12 (by decide) (fun B1 c1 O hB=>?_) _ ⟨rfl,rfl,rfl,rfl⟩ rfl
  have:=tj s.cap B1 s.msgs.length c1 s.peak ac.tg O N
  rw [h0]
  exact this
 | other y ac o A hk hlt hne=>
  exact rI H h D I hs (p.symm.trans o) _ _ _ _ _ _ _ _ _ _ _ (kv A hk) 10 (by decide) (fun B1 c1 O hB=>wT s.cap B1 s.msgs c1 s.recv s.peak ac.tg O hB hlt N hne) _ ⟨rfl,rfl,rfl,rfl⟩ rfl
def Cor.tg (c:Cor):Tg:=⟨c.st,c.bk,c.ph,c.rd,c.ch⟩
theorem Ie (a:Acn):a.cor.tg=a.tg:=rfl
structure WSt where
 m:Nat->Mst
 s:Nat->LSt
def bj {α:Type} (f:Nat->α) (k:Nat) (v:α) (y:Nat):α:=if y=k then v else f y
theorem bJ {α:Type} (f:Nat->α) (k:Nat) (v:α):bj f k v k=v:=if_pos rfl
theorem bC {α:Type} (f:Nat->α) {k y:Nat} (v:α) (h:y≠k):bj f k v y=f y:=if_neg h
theorem jb {α:Type} (f:Nat->α) (k:Nat):bj f k (f k)=f:=by
 funext y
 unfold bj
 split
 ·next h=>rw [h]
 ·rfl
def WSt.pos (i:Inp) (M:WSt) (x:Nat):Nat:=bD i x (M.m x)
structure WOk (i:Inp) (M:WSt):Prop where
 mok:∀x,x<(az i).W->MOk i x (M.m x)
 lok:∀x,x<(az i).W->(M.s x).cap=i.cfg.cap.toNat/\(M.s x).recv<=(M.s x).msgs.length/\(M.s x).msgs.length<=(M.s x).recv+i.cfg.cap.toNat/\(M.s x).peak<=i.cfg.cap.toNat
 sn:∀x,x<(az i).W->(M.s x).msgs.length=sN i x (M.pos i x)
 rn:∀x,x<(az i).W->(M.s x).recv=rN i (nxW (az i).W x) (M.pos i (nxW (az i).W x))
 tg:∀x,x<(az i).W->∀j,j<(M.s x).msgs.length->∃c,(fF (db i x))[j]?=some c/\(aO (M.s x).msgs j).tag=c.tg/\(aO (M.s x).msgs j).vals.length=c.at'.2-c.at'.1/\W64 (aO (M.s x).msgs j).vals
def Pk (i:Inp) (M:WSt) (x:Nat) (M1:WSt) (C:Nat):Prop:=
 ∃m1 s1 t1,iT i x (M.m x) (M.s (pvW (az i).W x)) (M.s x) m1 s1 t1 C/\M1=⟨bj M.m x m1,bj (bj M.s (pvW (az i).W x) s1) x t1⟩
theorem tE {l:List Itm} {p:Nat} {y:Itm} (h:l[p]?=some y):l.take (p+1)=l.take p++[y]:=by
 rw [List.take_add_one,h];rfl
theorem vk {i:Inp} {x p:Nat} {y:Itm} (h:(db i x)[p]?=some y):sN i x (p+1)=sN i x p+(if y.kind=3 then 1 else 0):=by
 unfold sN
 rw [tE h,mG,ME]
 congr 1
 rcases my (List.mem_of_getElem? h) with ⟨u,v,_⟩ | ⟨a,o,hk⟩
 ·rw [if_neg v];unfold fF eA;simp [u]
 ·cases hs:a.send<;>rw [hs] at hk<;>rw [hk]<;>unfold fF eA<;>simp [o,hs]
theorem vu {i:Inp} {x p:Nat} {y:Itm} (h:(db i x)[p]?=some y):rN i x (p+1)=rN i x p+(if y.kind=4 then 1 else 0):=by
 unfold rN
 rw [tE h,pT,ME]
 congr 1
 rcases my (List.mem_of_getElem? h) with ⟨u,_,v⟩ | ⟨a,o,hk⟩
 ·rw [if_neg v];unfold fV eA;simp [u]
 ·cases hs:a.send<;>rw [hs] at hk<;>rw [hk]<;>unfold fV eA<;>simp [o,hs]
theorem Lp {W x:Nat} (h:x<W):pvW W (nxW W x)=x:=by
 unfold nxW pvW
 rcases Mq (x+1) W with h1 | h1
 ·rw [Nat.mod_eq_of_lt h1,show x+1+W-1=x+W by omega,Nat.add_mod_right,Nat.mod_eq_of_lt h]
 ·have e:x+1=W:=ap
  rw [e,Nat.mod_self,show 0+W-1=x by omega,Nat.mod_eq_of_lt h]
theorem Fz {W x:Nat} (h:x<W) (i:2<=W):pvW W x≠x:=by
 unfold pvW
 rcases Nat.eq_zero_or_pos x with e | e
 ·subst e
  rw [show 0+W-1=W-1 by omega,Nat.mod_eq_of_lt ap]
  omega
 ·rw [show x+W-1=(x-1)+W by omega,Nat.add_mod_right,Nat.mod_eq_of_lt ap]
  omega
theorem Cb {p:Pln} {x st:Nat} {a:Acn} (h:a∈eA (aJ p x st)):2<=p.W:=by
 rw [uT] at h
 simp only [pE,pF,List.mem_flatMap,List.mem_range] at h
 obtain ⟨_,_,_,_,r,hr,_⟩:=h
 omega
theorem ta {l:List Itm} {y:Itm} {a:Acn} (h:y∈l) (i:y.a=some a):a∈eA l:=by
 unfold eA
 exact List.mem_filterMap.2 ⟨y,h,i⟩
theorem JR {i:Inp} {x:Nat} {a:Acn} (h:a∈eA (db i x)):∃st,st<i.cfg.steps.toNat/\a∈eA (aJ (az i) x st):=by
 unfold eA at h
 obtain ⟨y,p,u⟩:=List.mem_filterMap.1 h
 obtain ⟨st,o,p⟩:=List.mem_flatMap.1 p
 exact ⟨st,List.mem_range.1 o,ta p u⟩
section
variable {i:Inp} {M M1:WSt} {x C:Nat}
theorem WOk.msgI (h:WOk i M) (H:x<(az i).W):IN i x (M.s (pvW (az i).W x)):=fun j v=>by
 have u:pvW (az i).W x<(az i).W:=le ap
 obtain ⟨c,h1,A,D,B⟩:=h.tg _ u j v
 refine ⟨B,.inr ?_⟩
 have e:=oT i (pvW (az i).W x) i.cfg.steps.toNat
 rw [show (pvW (az i).W x+1)%(az i).W=x from xt H] at e
 rw [show fF (db i (pvW (az i).W x))=fV (db i x) from e] at h1
 obtain ⟨a,o,hs,hc⟩:=tY h1
 obtain ⟨st,_,o⟩:=JR o
 unfold eA at o
 obtain ⟨y,C,p⟩:=List.mem_filterMap.1 o
 rw [D,A,<-hc,Ie,<-IG C p hs]
 rfl
theorem WOk.cur (h:WOk i M) (hs:cz i) (o:x<(az i).W):(cI i x (M.m x).st)[(M.m x).nx]?=(db i x)[M.pos i x]?:=(h.mok x o).cur hs
theorem WOk.pick (h:WOk i M) (hs:cz i) (o:x<(az i).W):∃M1 C,Pk i M x M1 C:=by
 have p:pvW (az i).W x<(az i).W:=le ap
 obtain ⟨m1,s1,t1,C,u⟩:=Cj i x (M.m x) (M.s (pvW (az i).W x)) (M.s x) (h.lok _ p).2.1 (by rw [(h.lok x o).1];exact (h.lok x o).2.2.1)
 exact ⟨_,C,m1,s1,t1,u,rfl⟩
theorem oE (i:Inp) (M:WSt) (x:Nat) (m1:Mst) (S:Nat->LSt) (z:Nat):(⟨bj M.m x m1,S⟩:WSt).pos i z=if z=x then bD i x m1 else M.pos i z:=by
 unfold WSt.pos
 show bD i z (bj M.m x m1 z)=_
 by_cases e:z=x
 ·subst e;rw [if_pos rfl,bJ]
 ·rw [if_neg e,bC _ _ e]
theorem EI (M:WSt) (x p:Nat):(⟨bj M.m x (M.m x),bj (bj M.s p (M.s p)) x (M.s x)⟩:WSt)=M:=by
 rw [jb,jb,jb]
theorem WOk.own (h:WOk i M) (C:x<(az i).W) {m1:Mst} {y:Itm} (u:(db i x)[M.pos i x]?=some y) (hm:MOk i x m1) (v:bD i x m1=M.pos i x+1) (B:y.kind≠3) (A:y.kind≠4):WOk i ⟨bj M.m x m1,M.s⟩:=by
 have o:∀z,(⟨bj M.m x m1,M.s⟩:WSt).pos i z=if z=x then M.pos i x+1 else M.pos i z:=fun z=>by rw [oE,v]
 refine ⟨fun z p=>?_,h.lok,fun z p=>?_,fun z p=>?_,h.tg⟩
 ·by_cases e:z=x
  ·subst e;show MOk i z (bj M.m z m1 z);rw [bJ];exact hm
  ·show MOk i z (bj M.m x m1 z);rw [bC _ _ e];exact h.mok z p
 ·rw [o z]
  by_cases e:z=x
  ·subst e;rw [if_pos rfl,vk u,if_neg B];exact h.sn z p
  ·rw [if_neg e];exact h.sn z p
 ·rw [o]
  by_cases e:nxW (az i).W z=x
  ·rw [if_pos e,e,vu u,if_neg A];have:=h.rn z p;rw [e] at this;exact this
  ·rw [if_neg e];exact h.rn z p
theorem Pk.ok (hp:Pk i M x M1 C) (h:WOk i M) (hs:cz i) (L:x<(az i).W) (hw:W64 (M.m x).G):
  WOk i M1/\(C=0->M1.pos i x=M.pos i x+1/\(∀z,z≠x->M1.m z=M.m z)/\M.pos i x<(db i x).length)/\(C≠0->M1=M)/\(C=0↔can i i.cfg.cap.toNat (M.pos i) x):=by
 obtain ⟨m1,s1,t1,ht,rfl⟩:=hp
 have N:pvW (az i).W x<(az i).W:=le ap
 have a9:nxW (az i).W x<(az i).W:=FS ap
 have u:=h.cur hs L
 have B:=ht.ok hs (h.mok x L)
 have O:=h.sn x L
 have I:=h.rn _ N
 rw [xt L] at I
 have a1:=h.rn x L
 have a0:=h.sn _ N
 have a7:=(h.lok x L).1
 have A:∀{C:Nat},C≠0->¬can i i.cfg.cap.toNat (M.pos i) x->WOk i ⟨bj M.m x (M.m x),bj (bj M.s (pvW (az i).W x) (M.s (pvW (az i).W x))) x (M.s x)⟩/\(C=0->(⟨bj M.m x (M.m x),bj (bj M.s (pvW (az i).W x) (M.s (pvW (az i).W x))) x (M.s x)⟩:WSt).pos i x=M.pos i x+1/\(∀z,z≠x->(⟨bj M.m x (M.m x),bj (bj M.s (pvW (az i).W x) (M.s (pvW (az i).W x))) x (M.s x)⟩:WSt).m z=M.m z)/\M.pos i x<(db i x).length)/\(C≠0->(⟨bj M.m x (M.m x),bj (bj M.s (pvW (az i).W x) (M.s (pvW (az i).W x))) x (M.s x)⟩:WSt)=M)/\(C=0↔can i i.cfg.cap.toNat (M.pos i) x):=fun hC hn=>by
  rw [EI]
  exact ⟨h,fun e=>absurd e hC,fun _=>rfl,⟨fun e=>absurd e hC,fun e=>absurd e hn⟩⟩
 have go:∀{y:Itm} {M1:WSt},(db i x)[M.pos i x]?=some y->WOk i M1->M1.m=bj M.m x m1->bD i x m1=M.pos i x+1->can i i.cfg.cap.toNat (M.pos i) x->WOk i M1/\((0:Nat)=0->M1.pos i x=M.pos i x+1/\(∀z,z≠x->M1.m z=M.m z)/\M.pos i x<(db i x).length)/\((0:Nat)≠0->M1=M)/\((0:Nat)=0↔can i i.cfg.cap.toNat (M.pos i) x):=fun o a6 hm H hc=>
  ⟨a6,fun _=>⟨by unfold WSt.pos;rw [hm,bJ];exact H,fun z p=>by rw [hm,bC _ _ p],(MF.1 o).1⟩,fun e=>absurd rfl e,⟨fun _=>hc,fun _=>rfl⟩⟩
 cases ht with
 | fin hf=>
  refine A (by decide) ?_
  rintro ⟨y,o,_⟩
  rw [<-u,List.getElem?_eq_none hf] at o
  cases o
 | own y o ha=>
  have hk:=jV (dt o).2 ha
  have H:bD i x (adv i x (jG i x (M.m x) y))=M.pos i x+1:=kz hs o (oY i x (M.m x) y).1 (oY i x (M.m x) y).2
  rw [u] at o
  rw [jb,jb]
  exact go o (h.own L o B H ap ap) rfl H ⟨y,o,fun e=>absurd e ap,fun e=>absurd e ap⟩
 | send y a o ha hk hroom=>
  have D:=dt o
  have H:bD i x (adv i x (M.m x))=M.pos i x+1:=kz hs o rfl rfl
  have a8:=AK hs.ok D.2 ha
  rw [u] at o
  have a3:a.send=true:=by
   have:=(jl D.2 ha).1
   cases e:a.send with
   | true=>rfl
   | false=>rw [e,hk] at this;cases this
  rw [jb]
  obtain ⟨l1,l2,l3,l4⟩:=h.lok x L
  have J:(⟨bj M.m x (adv i x (M.m x)),M.s⟩:WSt).pos i x=M.pos i x+1:=by rw [oE,if_pos rfl];exact H
  have v:∀z (S:Nat->LSt),z≠x->(⟨bj M.m x (adv i x (M.m x)),S⟩:WSt).pos i z=M.pos i z:=fun z S e=>by rw [oE,if_neg e]
  refine go o ⟨fun z p=>?_,fun z p=>?_,fun z p=>?_,fun z p=>?_,fun z p j U=>?_⟩ rfl H ⟨y,o,fun _=>by rw [<-O,<-a1];omega,fun e=>ap⟩
  ·by_cases e:z=x
   ·subst e;show MOk i z (bj M.m z _ z);rw [bJ];exact B
   ·show MOk i z (bj M.m x _ z);rw [bC _ _ e];exact h.mok z p
  ·by_cases e:z=x
   ·subst e
    rw [show (⟨bj M.m z (adv i z (M.m z)),bj M.s z ((M.s z).send ⟨a.tg,((M.m z).G.drop a.at'.1).take (a.at'.2-a.at'.1)⟩)⟩:WSt).s z=(M.s z).send ⟨a.tg,((M.m z).G.drop a.at'.1).take (a.at'.2-a.at'.1)⟩ from bJ _ _ _]
    refine ⟨l1,?_,?_,?_⟩
    ·show (M.s z).recv<=((M.s z).msgs++[_]).length;rw [ME];omega
    ·show ((M.s z).msgs++[_]).length<=(M.s z).recv+_;rw [ME];simp only [MN];omega
    ·show max (M.s z).peak ((M.s z).msgs.length+1-(M.s z).recv)<=_;omega
   ·rw [show (⟨bj M.m x (adv i x (M.m x)),bj M.s x ((M.s x).send ⟨a.tg,((M.m x).G.drop a.at'.1).take (a.at'.2-a.at'.1)⟩)⟩:WSt).s z=M.s z from bC _ _ e];exact h.lok z p
  ·by_cases e:z=x
   ·subst e
    rw [show (⟨bj M.m z (adv i z (M.m z)),bj M.s z ((M.s z).send ⟨a.tg,((M.m z).G.drop a.at'.1).take (a.at'.2-a.at'.1)⟩)⟩:WSt).s z=(M.s z).send ⟨a.tg,((M.m z).G.drop a.at'.1).take (a.at'.2-a.at'.1)⟩ from bJ _ _ _]
    rw [show (⟨bj M.m z (adv i z (M.m z)),bj M.s z ((M.s z).send ⟨a.tg,((M.m z).G.drop a.at'.1).take (a.at'.2-a.at'.1)⟩)⟩:WSt).pos i z=M.pos i z+1 from J,vk o,if_pos hk,<-O]
    simp [LSt.send]
   ·rw [show (⟨bj M.m x (adv i x (M.m x)),bj M.s x ((M.s x).send ⟨a.tg,((M.m x).G.drop a.at'.1).take (a.at'.2-a.at'.1)⟩)⟩:WSt).s z=M.s z from bC _ _ e,v z _ e];exact h.sn z p
  ·have hr:((⟨bj M.m x (adv i x (M.m x)),bj M.s x ((M.s x).send ⟨a.tg,((M.m x).G.drop a.at'.1).take (a.at'.2-a.at'.1)⟩)⟩:WSt).s z).recv=(M.s z).recv:=by
    by_cases e:z=x
    ·subst e;show (bj M.s z _ z).recv=_;rw [bJ];rfl
    ·show (bj M.s x _ z).recv=_;rw [bC _ _ e]
   rw [hr,h.rn z p]
   by_cases e:nxW (az i).W z=x
   ·rw [e,show (⟨bj M.m x (adv i x (M.m x)),bj M.s x ((M.s x).send ⟨a.tg,((M.m x).G.drop a.at'.1).take (a.at'.2-a.at'.1)⟩)⟩:WSt).pos i x=M.pos i x+1 from J,vu o,if_neg ap];rfl
   ·rw [v _ _ e]
  ·by_cases e:z=x
   ·subst e
    have e1:((⟨bj M.m z (adv i z (M.m z)),bj M.s z ((M.s z).send ⟨a.tg,((M.m z).G.drop a.at'.1).take (a.at'.2-a.at'.1)⟩)⟩:WSt).s z).msgs=(M.s z).msgs++[⟨a.tg,((M.m z).G.drop a.at'.1).take (a.at'.2-a.at'.1)⟩]:=by
     show (bj M.s z _ z).msgs=_;rw [bJ];rfl
    rw [e1] at U ⊢
    rw [zJ]
    by_cases hl:j<(M.s z).msgs.length
    ·rw [if_pos hl];exact h.tg z p j hl
    ·rw [ME,MN] at U
     have Z:j=(M.s z).msgs.length:=ap
     rw [if_neg hl,if_pos Z]
     refine ⟨a.cor,?_,rfl,?_,fun k hk=>?_⟩
     ·rw [Z,O];exact EJ o ha a3
     ·show (((M.m z).G.drop a.at'.1).take (a.at'.2-a.at'.1)).length=a.at'.2-a.at'.1
      rw [MJ,MM,(h.mok z p).lG]
      have:(az i).n=i.start.length:=rfl
      omega
     ·have a4:k<a.at'.2-a.at'.1:=Mi hk (by show (((M.m z).G.drop a.at'.1).take (a.at'.2-a.at'.1)).length<=_;rw [MJ];omega)
      show _<=nth (((M.m z).G.drop a.at'.1).take (a.at'.2-a.at'.1)) k/\nth (((M.m z).G.drop a.at'.1).take (a.at'.2-a.at'.1)) k<=_
      rw [eT a4,eU]
      exact hw.nth _
   ·rw [show (⟨bj M.m x (adv i x (M.m x)),bj M.s x ((M.s x).send ⟨a.tg,((M.m x).G.drop a.at'.1).take (a.at'.2-a.at'.1)⟩)⟩:WSt).s z=M.s z from bC _ _ e] at U ⊢;exact h.tg z p j U
 | full y a o ha hk hf=>
  refine A (by decide) ?_
  rintro ⟨y',T,V,_⟩
  rw [u,T] at o
  injection o with o;subst o
  have:=V hk
  rw [<-O,<-a1] at this
  omega
 | recv y a o ha hk hlt heq=>
  have D:=dt o
  have H:bD i x (adv i x {M.m x with G:=j6 (M.m x).G a.at'.1 (aO (M.s (pvW (az i).W x)).msgs (M.s (pvW (az i).W x)).recv).vals a.add})=M.pos i x+1:=kz hs o rfl rfl
  have h2:2<=(az i).W:=Cb (ta D.2 ha)
  have a2:=Fz L h2
  rw [u] at o
  obtain ⟨m1,a5⟩:∃m1,adv i x {M.m x with G:=j6 (M.m x).G a.at'.1 (aO (M.s (pvW (az i).W x)).msgs (M.s (pvW (az i).W x)).recv).vals a.add}=m1:=⟨_,rfl⟩
  rw [a5] at H B go ⊢
  obtain ⟨S,hS⟩:∃S,bj (bj M.s (pvW (az i).W x) {M.s (pvW (az i).W x) with recv:=(M.s (pvW (az i).W x)).recv+1}) x (M.s x)=S:=⟨_,rfl⟩
  have R:S (pvW (az i).W x)={M.s (pvW (az i).W x) with recv:=(M.s (pvW (az i).W x)).recv+1}:=by rw [<-hS,bC _ _ a2,bJ]
  have Q:∀z,z≠pvW (az i).W x->S z=M.s z:=fun z e=>by
   rw [<-hS]
   by_cases e2:z=x
   ·subst e2;rw [bJ]
   ·rw [bC _ _ e2,bC _ _ e]
  have Y:∀z,(S z).msgs=(M.s z).msgs:=fun z=>by
   by_cases e:z=pvW (az i).W x
   ·rw [e,R]
   ·rw [Q z e]
  rw [hS]
  have J:(⟨bj M.m x m1,S⟩:WSt).pos i x=M.pos i x+1:=by rw [oE,if_pos rfl];exact H
  have v:∀z,z≠x->(⟨bj M.m x m1,S⟩:WSt).pos i z=M.pos i z:=fun z e=>by rw [oE,if_neg e]
  refine go o ⟨fun z p=>?_,fun z p=>?_,fun z p=>?_,fun z p=>?_,fun z p j U=>?_⟩ rfl H ⟨y,o,fun e=>ap,fun _=>by rw [<-I,<-a0];exact hlt⟩
  ·by_cases e:z=x
   ·subst e;show MOk i z (bj M.m z _ z);rw [bJ];exact B
   ·show MOk i z (bj M.m x _ z);rw [bC _ _ e];exact h.mok z p
  ·by_cases e:z=pvW (az i).W x
   ·obtain ⟨l1,l2,l3,l4⟩:=h.lok _ N
    rw [show (⟨bj M.m x m1,S⟩:WSt).s z=S z from rfl,e,R]
    exact ⟨l1,hlt,by show (M.s (pvW (az i).W x)).msgs.length<=(M.s (pvW (az i).W x)).recv+1+_;omega,l4⟩
   ·rw [show (⟨bj M.m x m1,S⟩:WSt).s z=S z from rfl,Q z e];exact h.lok z p
  ·show (S z).msgs.length=_
   rw [Y,h.sn z p]
   by_cases e:z=x
   ·subst e;rw [J,vk o,if_neg ap];rfl
   ·rw [v z e]
  ·show (S z).recv=_
   by_cases e:z=pvW (az i).W x
   ·rw [e,R,xt L,J,vu o,if_pos hk]
    show _+1=_
    rw [I]
   ·have e2:nxW (az i).W z≠x:=fun e3=>e (by rw [<-e3,Lp p])
    rw [Q z e,v _ e2];exact h.rn z p
  ·have e:(⟨bj M.m x m1,S⟩:WSt).s z=S z:=rfl
   rw [e,Y] at U ⊢
   exact h.tg z p j U
 | none y a o ha hk h0=>
  refine A (by decide) ?_
  rintro ⟨y',T,_,h4⟩
  rw [u,T] at o
  injection o with o;subst o
  have:=h4 hk
  rw [<-a0,<-I] at this
  omega
 | other y a o ha hk hlt hne=>
  exfalso
  have D:=dt o
  rw [u] at o
  obtain ⟨c,h1,h2,_⟩:=h.tg _ N _ hlt
  have e:=oT i (pvW (az i).W x) i.cfg.steps.toNat
  rw [show (pvW (az i).W x+1)%(az i).W=x from xt L] at e
  rw [show fF (db i (pvW (az i).W x))=fV (db i x) from e,I] at h1
  have V:=wU o ha (pW D.2 ha hk)
  rw [show (fV (List.take (M.pos i x) (db i x))).length=rN i x (M.pos i x) from rfl,h1] at V
  injection V with V
  rw [h2,V,Ie] at hne
  exact hne rfl
theorem WOk.live (h:WOk i M) (hs:cz i) (p:1<=i.cfg.cap.toNat) (hl:∃x,x<(az i).W/\M.pos i x<(db i x).length):∃z,z<(az i).W/\can i i.cfg.cap.toNat (M.pos i) z:=by
 obtain ⟨x,o,hl⟩:=hl
 exact L7 hs.ok p (M.pos i) o hl
end
def kF (i:Inp):WSt:=⟨fun _=>fy i,fun _=>LSt.new i.cfg.cap.toNat⟩
theorem WOk.zero (i:Inp):WOk i (kF i):=by
 refine ⟨fun x _=>MOk.zero x,fun x _=>⟨rfl,Mb _,Mf _,Mf _⟩,fun x _=>?_,fun x _=>?_,fun x _ j h=>by simp [kF,LSt.new] at h⟩
 ·show 0=sN i x (bD i x (fy i))
  rw [show bD i x (fy i)=0 by simp [bD,fy]]
  rfl
 ·show 0=rN i _ (bD i _ (fy i))
  rw [show bD i (nxW (az i).W x) (fy i)=0 by simp [bD,fy]]
  rfl
structure WAd where
 X:Nat
 b:Nat->Nat
 l:Nat->Nat
 a:Nat->MAd
 g:Nat->Option Nat
def WAd.mu (D:WAd) (x k:Nat):Prop:=Mut (D.b x) (D.a x) k
def WAd.li (D:WAd) (x k:Nat):Prop:=dJ (D.l x) (D.g x) k
def WAd.all (D:WAd) (n k:Nat):Prop:=k=D.X\/∃x,x<n/\(D.mu x k\/D.li x k)
def WAd.oth (D:WAd) (n:Nat) (E:Nat->Prop) (x k:Nat):Prop:=(D.all n k\/E k)/\¬D.mu x k
structure fS (E:Nat->Prop) (i:Inp) (w:World) (D:WAd) (B:Nat) (M:WSt):Prop where
 mach:∀x,x<(az i).W->aU (D.oth (az i).W E x) w (D.b x) i x (D.a x) (M.m x)
 lnk:∀x,x<(az i).W->aV w B (D.l x) (D.g x) (M.s x)
 mm:∀x y k,x<(az i).W->y<(az i).W->D.mu x k->D.mu y k->x=y
 ml:∀x y k,x<(az i).W->y<(az i).W->D.mu x k->¬D.li y k
 ll:∀x y k,x<(az i).W->y<(az i).W->D.li x k->D.li y k->x=y
 xm:∀x,x<(az i).W->¬D.mu x D.X/\¬D.li x D.X
 lo:∀x,x<(az i).W->D.b x<B/\(D.a x).bp<B/\(D.a x).bm<B/\(D.a x).bg<B
 hB:B<=w.heap.size
 xl:D.X<w.heap.size
 ne:∀k,E k->¬D.all (az i).W k
 ex:∀k,E k->k<w.heap.size
section
variable {E E':Nat->Prop} {i:Inp} {w w':World} {D:WAd} {B:Nat} {M:WSt} {x:Nat}
theorem fS.lt (h:fS E i w D B M):∀k,D.all (az i).W k->k<w.heap.size:=by
 rintro k (rfl | ⟨x,o,e | e⟩)
 ·exact h.xl
 ·exact (h.mach x o).mlt k e
 ·exact (h.lnk x o).lt k e
theorem fS.more (h:fS E i w D B M) (hb:aq w w') (he:∀k,E' k->k<w'.heap.size/\(E k\/w.heap.size<=k)):fS E' i w' D B M:=
 ⟨fun x o=>(h.mach x o).step (Keep.below hb) (fun k hk e=>⟨e.1.imp id fun e=>(he k e).2.elim id fun e=>absurd hk ap,e.2⟩) (fun k hm e=>e.2 hm),fun x o=>(h.lnk x o).below hb,h.mm,h.ml,h.ll,h.xm,h.lo,Mh h.hB hb.size,Mi h.xl hb.size,
  fun k e=>(he k e).2.elim (h.ne k) fun e p=>by have:=h.lt k p;omega,fun k e=>(he k e).1⟩
theorem fS.below (h:fS E i w D B M) (hb:aq w w'):fS E i w' D B M:=h.more hb fun k e=>⟨Mi (h.ex k e) hb.size,.inl e⟩
theorem fS.keepQ (h:fS E i w D B M) {Q:Nat->Prop} (hk:Keep Q w w') (p:∀k,Q k->k=D.X\/E k) (he:∀(j:Nat) (c:Array Value),w.heap[j]?=some (.cells c 2 (0,0))->B<=j->¬Q j):fS E i w' D B M:=
 ⟨fun x o=>(h.mach x o).step (hk.mono fun k _ e=>⟨(p k e).imp .inl id,fun hm=>(p k e).elim (fun e=>(h.xm x o).1 (e▸hm)) fun e=>h.ne k e (.inr ⟨x,o,.inl hm⟩)⟩) (fun k _ e=>e) (fun k hm e=>e.2 hm),
  fun x o=>(h.lnk x o).keep hk (fun e=>(p _ e).elim (fun e=>(h.xm x o).2 (e▸.inl rfl)) fun e=>h.ne _ e (.inr ⟨x,o,.inr (.inl rfl)⟩)) (fun j u e=>(p _ e).elim (fun e=>(h.xm x o).2 (e▸.inr u)) fun e=>h.ne _ e (.inr ⟨x,o,.inr (.inr u)⟩)) he,
  h.mm,h.ml,h.ll,h.xm,h.lo,Mh h.hB hk.size,Mi h.xl hk.size,h.ne,fun k e=>Mi (h.ex k e) hk.size⟩
def WAd.rest (D:WAd) (n:Nat) (E:Nat->Prop) (x k:Nat):Prop:=(D.all n k\/E k)/\¬D.mu x k/\¬D.li (pvW n x) k/\¬D.li x k
theorem fS.wld (h:fS E i w D B M) (o:x<(az i).W) (y:2<=(az i).W):Wld (D.rest (az i).W E x) B w (D.b x) (D.l (pvW (az i).W x)) (D.l x) i x (D.a x) (M.m x) (M.s (pvW (az i).W x)) (M.s x) (D.g (pvW (az i).W x)) (D.g x):=by
 have p:pvW (az i).W x<(az i).W:=le ap
 have v:=Fz o y
 refine ⟨(h.mach x o).step (Keep.refl _ _) ?_ ?_,?_,h.lnk _ p,h.lnk x o,fun k e u=>v (h.ll _ _ k p o e u),h.lo x o,h.hB,?_,?_⟩
 ·rintro k _ ((e | e) | e)
  ·exact ⟨.inl (.inr ⟨_,p,.inr e⟩),fun hm=>h.ml _ _ k o p hm e⟩
  ·exact ⟨.inl (.inr ⟨_,o,.inr e⟩),fun hm=>h.ml _ _ k o o hm e⟩
  ·exact ⟨e.1,e.2.1⟩
 ·rintro k hm ((e | e) | e)
  ·exact h.ml _ _ k o p hm e
  ·exact h.ml _ _ k o o hm e
  ·exact e.2.1 hm
 ·rintro k hm ((e | e) | e)
  ·exact h.ml _ _ k o p hm e
  ·exact h.ml _ _ k o o hm e
  ·exact e.2.1 hm
 ·rintro k (e | e) u
  ·exact u.2.2.1 e
  ·exact u.2.2.2 e
 ·rintro k ⟨e | e,_⟩
  ·exact h.lt k e
  ·exact h.ex k e
def WAd.upd (D:WAd) (x:Nat) (a1:MAd) (g1:Option Nat):WAd:=⟨D.X,D.b,D.l,bj D.a x a1,bj D.g x g1⟩
def AO (E:Nat->Prop) (i:Inp) (w:World) (D:WAd) (B:Nat) (x:Nat) (h:WSt) (w':World):Prop:=
 ∃a1 g1,fS E i w' (D.upd x a1 g1) B h/\Keep (fun k=>D.all (az i).W k/\k≠D.X) w w'/\∀k,(D.upd x a1 g1).all (az i).W k->D.all (az i).W k\/w.heap.size<=k
theorem fS.did (h:fS E i w D B M) (V:x<(az i).W) {p:Nat} (hp:p<(az i).W) {C:Nat->Prop} (hC:∀k,C k->D.mu x k\/D.li p k\/D.li x k) {a1:MAd} {g1:Option Nat} {m1:Mst} {s1 t1:LSt} {H:Nat->Prop}
  (hm:aU H w' (D.b x) i x a1 m1) (hH:∀k,(D.upd x a1 g1).oth (az i).W E x k->H k) (hk:Keep C w w') (a5:p≠x->aV w' B (D.l p) (D.g p) s1) (a8:aV w' B (D.l x) g1 t1) (ao:p=x->t1=s1)
  (U:∀k,Mut (D.b x) a1 k->C k\/w.heap.size<=k) (Y:∀k,dJ (D.l x) g1 k->C k\/w.heap.size<=k) (a2:∀k,Mut (D.b x) a1 k->¬dJ (D.l x) g1 k/\¬D.li p k/\¬E k) (ab:p≠x->∀k,dJ (D.l x) g1 k->¬D.li p k) (a7:∀k,dJ (D.l x) g1 k->¬E k)
  (a9:a1.bp<B/\a1.bm<B/\a1.bg<B):AO E i w D B x ⟨bj M.m x m1,bj (bj M.s p s1) x t1⟩ w':=by
 have T:∀k,C k->D.all (az i).W k/\k≠D.X:=fun k e=>by
  rcases hC k e with e | e | e
  ·exact ⟨.inr ⟨x,V,.inl e⟩,fun h2=>(h.xm x V).1 (h2▸e)⟩
  ·exact ⟨.inr ⟨p,hp,.inr e⟩,fun h2=>(h.xm p hp).2 (h2▸e)⟩
  ·exact ⟨.inr ⟨x,V,.inr e⟩,fun h2=>(h.xm x V).2 (h2▸e)⟩
 have L:∀k,(D.upd x a1 g1).mu x k->Mut (D.b x) a1 k:=fun k e=>by
  have:(bj D.a x a1 x)=a1:=bJ _ _ _
  unfold WAd.mu WAd.upd at e
  simp only [this] at e
  exact e
 have J:∀y k,y≠x->(D.upd x a1 g1).mu y k->D.mu y k:=fun y k A e=>by
  have:(bj D.a x a1 y)=D.a y:=bC _ _ A
  unfold WAd.mu WAd.upd at e
  simp only [this] at e
  exact e
 have R:∀k,(D.upd x a1 g1).li x k->dJ (D.l x) g1 k:=fun k e=>by
  have:(bj D.g x g1 x)=g1:=bJ _ _ _
  unfold WAd.li WAd.upd at e
  simp only [this] at e
  exact e
 have I:∀y k,y≠x->(D.upd x a1 g1).li y k->D.li y k:=fun y k A e=>by
  have:(bj D.g x g1 y)=D.g y:=bC _ _ A
  unfold WAd.li WAd.upd at e
  simp only [this] at e
  exact e
 have a3:∀k,(D.upd x a1 g1).all (az i).W k->D.all (az i).W k\/w.heap.size<=k:=by
  rintro k (e | ⟨y,A,e⟩)
  ·exact .inl (.inl e)
  ·by_cases o:y=x
   ·subst o
    rcases e with e | e
    ·exact (U k (L k e)).imp (fun e=>(T k e).1) id
    ·exact (Y k (R k e)).imp (fun e=>(T k e).1) id
   ·exact .inl (.inr ⟨y,A,e.imp (J y k o) (I y k o)⟩)
 -- what is changed or new is none of another worker's
 have N:∀y k,y<(az i).W->y≠x->(C k\/w.heap.size<=k)->¬D.mu y k/\(y≠p->¬D.li y k):=fun y k A o e=>by
  rcases e with e | e
  ·rcases hC k e with e | e | e
   ·exact ⟨fun u=>o (h.mm y x k A V u e),fun _ u=>h.ml x y k V A e u⟩
   ·exact ⟨fun u=>h.ml y p k A hp u e,fun hn u=>hn (h.ll y p k A hp u e)⟩
   ·exact ⟨fun u=>h.ml y x k A V u e,fun _ u=>o (h.ll y x k A V u e)⟩
  ·exact ⟨fun u=>by have:=h.lt k (.inr ⟨y,A,.inl u⟩);omega,fun _ u=>by have:=h.lt k (.inr ⟨y,A,.inr u⟩);omega⟩
 have a0:∀y k,y<(az i).W->y≠x->dJ (D.l x) g1 k->¬D.mu y k/\¬D.li y k:=fun y k A o e=>by
  refine ⟨(N y k A o (Y k e)).1,?_⟩
  by_cases Q:y=p
  ·subst Q;exact ab o k e
  ·exact (N y k A o (Y k e)).2 Q
 have a6:∀(j:Nat) (c:Array Value),w.heap[j]?=some (.cells c 2 (0,0))->B<=j->¬C j:=fun j c hj hb e=>by
  have ad:=h.lo x V
  rcases hC j e with e | e | e
  ·rcases (h.mach x V).i64 hj e with e | e | e<;>omega
  ·exact (h.lnk p hp).noI64 hj e
  ·exact (h.lnk x V).noI64 hj e
 refine ⟨a1,g1,⟨fun y A=>?_,fun y A=>?_,fun y z k A Z O u=>?_,fun y z k A Z O u=>?_,fun y z k A Z O u=>?_,fun y A=>?_,fun y A=>?_,Mh h.hB hk.size,Mi h.xl hk.size,fun k e u=>?_,fun k e=>Mi (h.ex k e) hk.size⟩,hk.mono fun k _ e=>T k e,a3⟩
 ·by_cases o:y=x
  ·subst o
   show aU _ w' (D.b y) i y (bj D.a y a1 y) (bj M.m y m1 y)
   rw [bJ,bJ]
   exact hm.step (Keep.refl _ _) (fun k _ e=>hH k e) (fun k O u=>u.2 (by unfold WAd.mu WAd.upd;simp only [bJ];exact O))
  ·show aU _ w' (D.b y) i y (bj D.a x a1 y) (bj M.m x m1 y)
   rw [bC _ _ o,bC _ _ o]
   refine (h.mach y A).step (hk.mono fun k _ e=>⟨.inl (T k e).1,(N y k A o (.inl e)).1⟩) (fun k hl e=>⟨e.1.imp (fun e=>(a3 k e).elim id fun e=>absurd hl ap) id,fun u=>e.2 ?_⟩) (fun k O u=>u.2 ?_)
   ·unfold WAd.mu WAd.upd;simp only [bC _ _ o];exact u
   ·unfold WAd.mu WAd.upd;simp only [bC _ _ o];exact O
 ·by_cases o:y=x
  ·subst o
   show aV w' B (D.l y) (bj D.g y g1 y) (bj (bj M.s p s1) y t1 y)
   rw [bJ,bJ]
   exact a8
  ·show aV w' B (D.l y) (bj D.g x g1 y) (bj (bj M.s p s1) x t1 y)
   rw [bC _ _ o,bC _ _ o]
   by_cases Q:y=p
   ·subst Q
    rw [bJ]
    exact a5 o
   ·rw [bC _ _ Q]
    exact (h.lnk y A).keep hk (fun e=>(N y _ A o (.inl e)).2 Q (.inl rfl)) (fun j hj e=>(N y _ A o (.inl e)).2 Q (.inr hj)) a6
 ·by_cases o:y=x
  ·by_cases v:z=x
   ·rw [o,v]
   ·subst o
    exact absurd (J z k v u) (N z k Z v (U k (L k O))).1
  ·by_cases v:z=x
   ·subst v
    exact absurd (J y k o O) (N y k A o (U k (L k u))).1
   ·exact h.mm y z k A Z (J y k o O) (J z k v u)
 ·by_cases o:y=x
  ·subst o
   by_cases v:z=y
   ·subst v
    exact (a2 k (L k O)).1 (R k u)
   ·by_cases a4:z=p
    ·subst a4
     exact (a2 k (L k O)).2.1 (I z k v u)
    ·exact (N z k Z v (U k (L k O))).2 a4 (I z k v u)
  ·by_cases v:z=x
   ·subst v
    exact (a0 y k A o (R k u)).1 (J y k o O)
   ·exact h.ml y z k A Z (J y k o O) (I z k v u)
 ·by_cases o:y=x
  ·by_cases v:z=x
   ·rw [o,v]
   ·subst o
    exact absurd (I z k v u) (a0 z k Z v (R k O)).2
  ·by_cases v:z=x
   ·subst v
    exact absurd (I y k o O) (a0 y k A o (R k u)).2
   ·exact h.ll y z k A Z (I y k o O) (I z k v u)
 ·by_cases o:y=x
  ·subst o
   refine ⟨fun e=>?_,fun e=>?_⟩
   ·rcases U _ (L _ e) with e | e
    ·exact (T _ e).2 rfl
    ·have:=h.xl;exact absurd this (Nat.not_lt.2 e)
   ·rcases Y _ (R _ e) with e | e
    ·exact (T _ e).2 rfl
    ·have:=h.xl;exact absurd this (Nat.not_lt.2 e)
  ·exact ⟨fun e=>(h.xm y A).1 (J y _ o e),fun e=>(h.xm y A).2 (I y _ o e)⟩
 ·by_cases o:y=x
  ·subst o
   show D.b y<B/\(bj D.a y a1 y).bp<B/\(bj D.a y a1 y).bm<B/\(bj D.a y a1 y).bg<B
   rw [bJ]
   exact ⟨(h.lo y A).1,a9⟩
  ·show D.b y<B/\(bj D.a x a1 y).bp<B/\(bj D.a x a1 y).bm<B/\(bj D.a x a1 y).bg<B
   rw [bC _ _ o]
   exact h.lo y A
 ·rcases u with u | ⟨y,A,u⟩
  ·exact h.ne k e (.inl u)
  ·by_cases o:y=x
   ·subst o
    rcases u with u | u
    ·exact (a2 k (L k u)).2.2 e
    ·exact a7 k (R k u) e
   ·exact h.ne k e (.inr ⟨y,A,u.imp (J y k o) (I y k o)⟩)
end
structure gY (i:Inp) (w:World) (lo:Nat) (b l:Nat->Nat) (a:Nat->MAd) (s t:Nat->Nat) (k:Nat):Prop where
 mach:∀y,y<k->aU (fun j=>j<s y\/t y<=j) w (b y) i y (a y) (fy i)
 win:∀y,y<k->∀j,Mut (b y) (a y) j->s y<=j/\j<t y
 chain:∀y,y<k->lo<=s y/\s y<=t y/\t y<=l y/\l y<w.heap.size
 next:∀y z,y<z->z<k->l y<s z
 lnk:∀y,y<k->∀B,aV w B (l y) none (LSt.new i.cfg.cap.toNat)
section
variable {i:Inp} {w w':World} {lo k:Nat} {b l:Nat->Nat} {a:Nat->MAd} {s t:Nat->Nat}
theorem gY.zero:gY i w lo b l a s t 0:=⟨fun _ h=>absurd h (Nat.not_lt_zero _),fun _ h=>absurd h (Nat.not_lt_zero _),fun _ h=>absurd h (Nat.not_lt_zero _),fun _ _ _ h=>absurd h (Nat.not_lt_zero _),fun _ h=>absurd h (Nat.not_lt_zero _)⟩
theorem jT {l j:Nat} (e:dJ l none j):j=l:=e.elim id fun e=>by cases e
theorem gY.keep (h:gY i w lo b l a s t k) {Q:Nat->Prop} (hk:Keep Q w w') (u:∀j,j<w.heap.size->Q j->(∀y,y<k->(j<s y\/t y<=j)/\j≠l y)/\∀c,w.heap[j]?≠some (.cells c 2 (0,0))):gY i w' lo b l a s t k:=by
 refine ⟨fun y o=>(h.mach y o).step (hk.mono fun j p e=>((u j p e).1 y o).1) (fun j _ e=>e) (fun j hm e=>?_),h.win,fun y o=>?_,h.next,fun y o B=>(h.lnk y o B).keep (hk.mono fun j p e=>((⟨p,e⟩:j<w.heap.size/\Q j))) (fun e=>((u _ e.1 e.2).1 y o).2 rfl) (fun j e=>by cases e) fun j c p _ e=>(u j e.1 e.2).2 c p⟩
 ·have:=h.win y o j hm
  omega
 ·have:=h.chain y o
  have:=hk.size
  omega
theorem gY.below (h:gY i w lo b l a s t k) (hb:aq w w'):gY i w' lo b l a s t k:=h.keep (Q:=fun _=>False) (Keep.below hb) fun _ _ e=>e.elim
theorem gY.more (h:gY i w lo b l a s t k) {A:Nat} {a1:MAd} {l1:Nat} {u:World} (L:lo<=w.heap.size) (x:∀j,Mut A a1 j->w.heap.size<=j)
  (hm:∀(H:Nat->Prop) w'',Keep (fun k=>k<w.heap.size) u w''->(∀k,H k->k<w.heap.size)->aU H w'' A i k a1 (fy i)) (h1:gY i u lo b l a s t k) (C:gY i w' lo b l a s t k) (hs:w.heap.size<=u.heap.size) (hk:Keep (fun j=>j<w.heap.size\/u.heap.size<=j) u w') (hl:u.heap.size<=l1) (J:l1<w'.heap.size) (R:∀B,aV w' B l1 none (LSt.new i.cfg.cap.toNat)):
  gY i w' lo (bj b k A) (bj l k l1) (bj a k a1) (bj s k w.heap.size) (bj t k u.heap.size) (k+1):=by
 have D:=hm (fun j=>j<w.heap.size) u (Keep.refl _ _) (fun _ e=>e)
 have v:=fun j (e:Mut A a1 j)=>D.mlt j e
 have Q:aU (fun j=>j<w.heap.size\/u.heap.size<=j) w' A i k a1 (fy i):=
  (D.step (H':=fun j=>j<w.heap.size\/u.heap.size<=j) (Keep.refl _ _) (fun j Y e=>e.elim id fun e=>absurd Y ap) (fun j e T=>by have:=x j e;have:=v j e;omega)).step hk (fun _ _ e=>e) (fun j e T=>by have:=x j e;have:=v j e;omega)
 have o:∀y,y<k+1->y=k\/(y≠k/\y<k):=fun y I=>ap
 refine ⟨fun y I=>?_,fun y I=>?_,fun y I=>?_,fun y z N U=>?_,fun y I=>?_⟩<;>rcases o y ap with rfl | ⟨e,p⟩
 ·simp only [bJ];exact Q
 ·simp only [bC _ _ e];exact C.mach y p
 ·simp only [bJ];exact fun j e=>⟨x j e,v j e⟩
 ·simp only [bC _ _ e];exact C.win y p
 ·simp only [bJ];exact ⟨L,hs,hl,J⟩
 ·simp only [bC _ _ e];exact C.chain y p
 ·omega
 ·rcases o z U with rfl | ⟨V,O⟩
  ·simp only [bJ,bC _ _ e]
   exact (h.chain y p).2.2.2
  ·simp only [bC _ _ e,bC _ _ V]
   exact C.next y z N O
 ·simp only [bJ];exact R
 ·simp only [bC _ _ e];exact C.lnk y p
theorem gY.mem (h:gY i w lo b l a s t (az i).W) {X:Nat} (hX:X<lo) (Q:X<w.heap.size) {E:Nat->Prop} (L:∀j,E j->j<lo/\j≠X) (Y:lo<=w.heap.size):
  fS E i w ⟨X,b,l,a,fun _=>none⟩ w.heap.size ⟨fun _=>fy i,fun _=>LSt.new i.cfg.cap.toNat⟩:=by
 have p:∀y z,y<z->z<(az i).W->t y<=s z/\l y<s z:=fun y z O o=>by
  have h1:=h.next y z O o
  have h2:=h.chain y ap
  omega
 have J:∀y z j,y<(az i).W->z<(az i).W->Mut (b y) (a y) j->Mut (b z) (a z) j->y=z:=fun y z j A o D u=>by
  have I:=h.win y A j D
  have w2:=h.win z o j u
  rcases Nat.lt_trichotomy y z with e | e | e
  ·have:=p y z e o;omega
  ·exact e
  ·have:=p z y e A;omega
 have B:∀y z,y<(az i).W->z<(az i).W->l z<s y\/t y<=l z:=fun y z A o=>by
  rcases Nat.lt_trichotomy y z with e | e | e
  ·have:=p y z e o;have:=h.chain z o;omega
  ·subst e;have:=h.chain y A;omega
  ·have:=p z y e A;omega
 refine ⟨fun x v=>(h.mach x v).step (Keep.refl _ _) ?_ (fun j e u=>u.2 e),fun x v=>h.lnk x v _,J,fun y z j A o D u=>?_,fun y z j A o D u=>?_,fun x v=>⟨fun e=>?_,fun e=>?_⟩,fun x v=>?_,Mb _,Q,fun j e u=>?_,fun j e=>by have:=L j e;omega⟩
 ·rintro j R ⟨(e | ⟨z,o,e | e⟩) | e,u⟩
  ·have U:j=X:=e
   have:=h.chain x v
   omega
  ·have N:z≠x:=fun H=>by subst H;exact u e
   have I:=h.win z o j e
   rcases Nat.lt_or_gt_of_ne N with H | H
   ·have:=p z x H v;omega
   ·have:=p x z H o;omega
  ·have C:j=l z:=jT e
   rw [C]
   exact B x z v o
  ·have:=h.chain x v
   have:=L j e
   omega
 ·have C:j=l z:=jT u
  have I:=h.win y A j D
  have:=B y z A o
  omega
 ·have Z:j=l y:=jT D
  have T:j=l z:=jT u
  rcases Nat.lt_trichotomy y z with e | e | e
  ·have:=p y z e o;have:=h.chain z o;omega
  ·exact e
  ·have:=p z y e A;have:=h.chain y A;omega
 ·have I:s x<=X/\X<t x:=h.win x v _ e
  have:=h.chain x v
  omega
 ·have V:X=l x:=jT e
  have:=h.chain x v
  omega
 ·have hl:=fun j (e:Mut (b x) (a x) j)=>(h.mach x v).mlt j e
  exact ⟨hl _ (.inl rfl),hl _ (.inr (.inl rfl)),hl _ (.inr (.inr (.inl rfl))),hl _ (.inr (.inr (.inr (.inl rfl))))⟩
 ·have R:=L j e
  rcases u with u | ⟨z,o,u | u⟩
  ·exact R.2 u
  ·have:=h.win z o j u
   have:=h.chain z o
   omega
  ·have V:j=l z:=jT u
   have:=h.chain z o
   omega
end
section
variable {E:Nat->Prop} {i:Inp} {w w':World} {D:WAd} {B:Nat} {M M1:WSt} {x C:Nat}
theorem fS.oth_lt (h:fS E i w D B M):∀k,w.heap.size<=k->¬D.oth (az i).W E x k:=by
 rintro k hk ⟨e | e,_⟩
 ·have:=h.lt k e;omega
 ·have:=h.ex k e;omega
theorem fS.restE (h:fS E i w D B M) {k:Nat} (p:x<(az i).W) (u:pvW (az i).W x<(az i).W) (e:E k):D.rest (az i).W E x k:=
 ⟨.inr e,fun o=>h.ne k e (.inr ⟨x,p,.inl o⟩),fun o=>h.ne k e (.inr ⟨_,u,.inr o⟩),fun o=>h.ne k e (.inr ⟨x,p,.inr o⟩)⟩
theorem fS.try (h:fS E i w D B M) (o:x<(az i).W) (N:2<=(az i).W) {m1:Mst} {s1 t1:LSt} (Q:jD (D.rest (az i).W E x) B w (D.b x) (D.l (pvW (az i).W x)) (D.l x) i x (D.a x) (D.g (pvW (az i).W x)) (D.g x) m1 s1 t1 w'):
  AO E i w D B x ⟨bj M.m x m1,bj (bj M.s (pvW (az i).W x) s1) x t1⟩ w':=by
 have J:pvW (az i).W x<(az i).W:=le ap
 have L:=Fz o N
 obtain ⟨a1,g1,hw,hk,hn⟩:=Q
 have V:=h.wld o N
 refine h.did o J (C:=JT (D.b x) (D.a x) (D.l (pvW (az i).W x)) (D.g (pvW (az i).W x)) (D.l x) (D.g x)) (fun k e=>e.imp id id) hw.mach ?_ hk (fun _=>hw.lf) hw.lt (fun e=>absurd e L) (fun k e=>hn k (.inl e)) (fun k e=>hn k (.inr (.inr e))) (fun k e=>⟨fun A=>hw.hn k e (.inl (.inr A)),fun A=>hw.hn k e (.inl (.inl A)),fun A=>hw.hn k e (.inr ?_)⟩)
  (fun _ k e A=>hw.dj k A e) (fun k e A=>?_) hw.lo.2
 ·rintro k ⟨e,T⟩
  by_cases O:dJ (D.l x) g1 k
  ·exact .inl (.inr O)
  by_cases I:D.li (pvW (az i).W x) k
  ·exact .inl (.inl I)
  refine .inr ?_
  rcases e with (e | ⟨y,H,e⟩) | e
  ·have U:k=D.X:=e
   subst U
   exact ⟨.inl (.inl rfl),(h.xm x o).1,I,(h.xm x o).2⟩
  ·by_cases v:y=x
   ·subst v
    rcases e with e | e
    ·exact absurd e T
    ·refine absurd ?_ O
     have R:bj D.g y g1 y=g1:=bJ _ _ _
     unfold WAd.li WAd.upd at e
     simp only [R] at e
     exact e
   ·have p:D.mu y k\/D.li y k:=by
     unfold WAd.mu WAd.li WAd.upd at e
     simp only [bC _ _ v] at e
     exact e
    refine ⟨.inl (.inr ⟨y,H,p⟩),fun u=>?_,I,fun u=>?_⟩
    ·rcases p with p | p
     ·exact v (h.mm y x k H o p u)
     ·exact h.ml x y k o H u p
    ·rcases p with p | p
     ·exact h.ml y x k H o p u
     ·exact v (h.ll y x k H o p u)
  ·exact ⟨.inr e,fun u=>h.ne k e (.inr ⟨x,o,.inl u⟩),I,fun u=>h.ne k e (.inr ⟨x,o,.inr u⟩)⟩
 ·exact h.restE o J A
 ·exact absurd (h.restE o J A) (hw.ne k (.inr e))
theorem fS.lone (h:fS E i w D B M) (o:x<(az i).W) {a1:MAd} {m1:Mst} (hm:aU (D.oth (az i).W E x) w' (D.b x) i x a1 m1) (hk:Keep (fun k=>D.mu x k) w w') (J:∀k,Mut (D.b x) a1 k->D.mu x k\/w.heap.size<=k) (U:Fxd (D.a x) a1):
  AO E i w D B x ⟨bj M.m x m1,bj (bj M.s x (M.s x)) x (M.s x)⟩ w':=by
 have L:=h.lo x o
 have out:∀k,Mut (D.b x) a1 k->¬D.li x k/\¬E k:=fun k e=>by
  rcases J k e with e | e
  ·exact ⟨h.ml x x k o o e,fun u=>h.ne k u (.inr ⟨x,o,.inl e⟩)⟩
  ·exact ⟨fun u=>by have:=h.lt k (.inr ⟨x,o,.inr u⟩);omega,fun u=>by have:=h.ex k u;omega⟩
 have T:aV w' B (D.l x) (D.g x) (M.s x):=(h.lnk x o).keep hk (fun e=>h.ml x x _ o o e (.inl rfl)) (fun j N e=>h.ml x x _ o o e (.inr N)) fun j c N hb e=>by
  rcases (h.mach x o).i64 N e with e | e | e<;>omega
 refine h.did o o (C:=fun k=>D.mu x k\/D.li x k) (H:=D.oth (az i).W E x) (a1:=a1) (g1:=D.g x) (m1:=m1) (s1:=M.s x) (t1:=M.s x) (fun k e=>e.imp id .inr) hm ?_ (hk.mono fun k _ e=>.inl e) (fun e=>absurd rfl e) T (fun _=>rfl) (fun k e=>(J k e).imp .inl id) (fun k e=>.inl (.inr e)) (fun k e=>⟨(out k e).1,(out k e).1,(out k e).2⟩) (fun e=>absurd rfl e)
  (fun k e u=>h.ne k u (.inr ⟨x,o,.inr e⟩)) (by obtain ⟨R,V,Z⟩:=U;rw [R,V,Z];exact L.2)
 rintro k ⟨e,Y⟩
 rcases e with (e | ⟨y,I,e⟩) | e
 ·have Q:k=D.X:=e
  subst Q
  exact ⟨.inl (.inl rfl),(h.xm x o).1⟩
 ·by_cases p:y=x
  ·subst p
   rcases e with e | e
   ·exact absurd e Y
   ·have O:bj D.g y (D.g y) y=D.g y:=bJ _ _ _
    unfold WAd.li WAd.upd at e
    simp only [O] at e
    exact ⟨.inl (.inr ⟨y,I,.inr e⟩),fun v=>h.ml y y k I I v e⟩
  ·have A:D.mu y k\/D.li y k:=by
    unfold WAd.mu WAd.li WAd.upd at e
    simp only [bC _ _ p] at e
    exact e
   refine ⟨.inl (.inr ⟨y,I,A⟩),fun v=>?_⟩
   rcases A with A | A
   ·exact p (h.mm y x k I o A v)
   ·exact h.ml x y k o I v A
 ·exact ⟨.inr e,fun v=>h.ne k e (.inr ⟨x,o,.inl v⟩)⟩
theorem FR (h:x<(az i).W) (h1:(az i).W<2):pvW (az i).W x=x:=by
 unfold pvW;rw [show (az i).W=1 by omega,Nat.mod_one];omega
theorem iM (h1:(az i).W<2) {m:Mst} {y:Itm} {h:Acn} (p:(cI i x m.st)[m.nx]?=some y) (o:y.a=some h):False:=by
 have:=Cb (ta (dt p).2 o)
 omega
theorem fS.pick (h:fS E i w D B M) (hs:cz i) (o:x<(az i).W) (hw:WOk i M) (p:(M.s x).msgs.length<100000000000) (v: -9223372036854775808<=i.cfg.rate/\i.cfg.rate<=9223372036854775807) (u: -9223372036854775808<=i.cfg.mom/\i.cfg.mom<=9223372036854775807) (I:Pk i M x M1 C):
  Calls prog 216 #[.pointer (some ⟨D.b x,0,none⟩),.pointer (some ⟨D.l (pvW (az i).W x),0,none⟩),.pointer (some ⟨D.l x,0,none⟩)] w fun e w'=>e=.returned (M8 (C:Nat))/\AO E i w D B x M1 w':=by
 obtain ⟨m1,s1,t1,hr,rfl⟩:=I
 rcases Mq (az i).W 2 with h1 | A
 ·rw [FR o h1] at hr ⊢
  cases hr with
  | fin hf=>
   refine (BD (h.mach x o) hf _ _).mono ?_
   rintro e w' ⟨he,k⟩
   exact ⟨he,h.lone o ((h.below k).mach x o) (Keep.below k) (fun k e=>.inl e) ⟨rfl,rfl,rfl⟩⟩
  | own y hy ha=>
   refine (xM (h.mach x o) (fun k e O=>O.2 e) h.oth_lt hs hy ((hw.mok x o).okAt hs hy ha) v u _ _).mono ?_
   rintro e w' ⟨he,R,Q,h1, -, -,L,N,J,rfl⟩
   exact ⟨he,h.lone o h1 (L.mono fun k _ e=>e.elim id False.elim) N J⟩
  | send y ac hy ha=>exact (iM h1 hy ha).elim
  | full y ac hy ha=>exact (iM h1 hy ha).elim
  | recv y ac hy ha=>exact (iM h1 hy ha).elim
  | none y ac hy ha=>exact (iM h1 hy ha).elim
  | other y ac hy ha=>exact (iM h1 hy ha).elim
 ·refine (Jt (h.wld o A) hs (hw.mok x o) (hw.msgI o) p v u hr).mono ?_
  rintro e w' ⟨he,H⟩
  exact ⟨he,h.try o A H⟩
theorem fS.enabled (h:fS E i w D B M) (hs:cz i) (p:x<(az i).W) (hw:WOk i M) (o:(M.s x).msgs.length<100000000000) (u:Pk i M x M1 C):
  Calls prog 217 #[.pointer (some ⟨D.b x,0,none⟩),.pointer (some ⟨D.l (pvW (az i).W x),0,none⟩),.pointer (some ⟨D.l x,0,none⟩)] w fun e w'=>e=.returned (.bool (decide (C=0)))/\aq w w':=by
 obtain ⟨m1,s1,t1,hr,rfl⟩:=u
 rcases Mq (az i).W 2 with h1 | v
 ·cases hr with
  | fin hf=>exact BC (h.mach x p) hf _ _
  | own y hy ha=>
   have hk:=jV (dt hy).2 ha
   exact Bz (h.mach x p) hy ap ap _ _
  | send y ac hy ha=>exact (iM h1 hy ha).elim
  | full y ac hy ha=>exact (iM h1 hy ha).elim
  | recv y ac hy ha=>exact (iM h1 hy ha).elim
  | none y ac hy ha=>exact (iM h1 hy ha).elim
  | other y ac hy ha=>exact (iM h1 hy ha).elim
 ·exact Jr (h.wld p v) hs (hw.mok x p) o hr
end
theorem Ct {X z b:Nat} {l D v0 v1:Value} {cnt C:Nat} {w:World} {R:World->Prop}
  (u:∀i,aq w i->Calls prog 47 #[(au X),M8 (z:Nat)] i fun e h=>e=.returned (.tuple #[.iface 97 ((au b)),l,D,.bool true])/\aq i h)
  (p:∀i,aq w i->Calls prog 216 #[(au b),l,D] i fun e h=>e=.returned (M8 (C:Nat))/\h.heap[X]?=some (.cells #[v0,v1,M8 (cnt:Nat)] 96 (0,0))/\R h) (hc:cnt<=1000000000) (J:C=0):
  Calls prog 15 #[(au X),M8 (z:Nat)] w fun e i=>e=.returned (.bool true)/\∃v,R v/\i=v.setCell (ar X 2) (M8 ((cnt+1:Nat):Int)):=by
 subst J
 obtain ⟨x,A⟩:=ae u p
 have hm:∀w:World,(method 496 97 ((au b)) "Do").run prog w=.ok (216,(au b)) w:=fun _=>by kernel_rfl
 have H:=br w
 clear u p
 go_enter func15,ntmps15
 go_wp2_with fail
 refine (x.o _ H).mono ?_
 rintro e v ⟨rfl,I⟩
 go_wp2_with fail
 refine (A.o _ I).mono ?_
 rintro e N ⟨rfl,y,B⟩
 have t:=bx3 y
 obtain ⟨L,Q⟩:=ae B y
 have O:IntKind.i64.wrap ((cnt:Int)+1)=(cnt:Int)+1:=Mg _ ap
 clear y B
 go_wp2_with fail
 go_ret
 exact ⟨rfl,_,L.o,by push_cast;rfl⟩
theorem EA {X z b:Nat} {l A:Value} {C:Nat} {w:World} {R:World->Prop}
  (u:∀h,aq w h->Calls prog 47 #[(au X),M8 (z:Nat)] h fun e i=>e=.returned (.tuple #[.iface 97 ((au b)),l,A,.bool true])/\aq h i)
  (p:∀h,aq w h->Calls prog 216 #[(au b),l,A] h fun e i=>e=.returned (M8 (C:Nat))/\R i) (L:C≠0):
  Calls prog 15 #[(au X),M8 (z:Nat)] w fun e h=>e=.returned (.bool false)/\R h:=by
 obtain ⟨v,x⟩:=ae u p
 have hm:∀w:World,(method 496 97 ((au b)) "Do").run prog w=.ok (216,(au b)) w:=fun _=>by kernel_rfl
 have B:=br w
 clear u p
 go_enter func15,ntmps15
 go_wp2_with fail
 refine (v.o _ B).mono ?_
 rintro e I ⟨rfl,D⟩
 go_wp2_with fail
 refine (x.o _ D).mono ?_
 rintro e N ⟨rfl,y⟩
 have H:=aa y;clear y
 have J:¬(C:Int)=0:=ap
 go_wp2_with fail
 go_ret
 exact ⟨rfl,H.o⟩
theorem Cu {X:Value} {z:Int} {w:World} (i:∀h,aq w h->Calls prog 47 #[X,M8 z] h fun e u=>e=.returned (.tuple #[.nilIface,.pointer none,.pointer none,.bool false])/\aq h u):
  Calls prog 15 #[X,M8 z] w fun e h=>e=.returned (.bool false)/\aq w h:=by
 have p:=aa i
 have x:=br w
 clear i
 go_enter func15,ntmps15
 go_wp2_with fail
 refine (p.o _ x).mono ?_
 rintro e A ⟨rfl,y⟩
 have v:=aa y
 go_wp2_with fail
 go_ret
 exact ⟨rfl,v.o⟩
def pK {σ:Type} (st:σ->Int->σ×Bool) (s:σ) (l:List Int):σ×Nat:=l.foldl (fun p z=>((st p.1 z).1,p.2+if (st p.1 z).2 then 1 else 0)) (s,0)
theorem tM {σ:Type} (st:σ->Int->σ×Bool) (s:σ) (l:List Int) (z:Int):pK st s (l++[z])=((st (pK st s l).1 z).1,(pK st s l).2+if (st (pK st s l).1 z).2 then 1 else 0):=by
 unfold pK
 rw [List.foldl_append]
 rfl
theorem Bb {σ:Type} (st:σ->Int->σ×Bool) (s:σ) (l:List Int):∀k,(pK st s (l.take k)).2<=k
 | 0=>by simp [pK]
 | k+1=>by
  have i:=Bb st s l k
  rw [List.take_add_one]
  cases h:l[k]? with
  | none=>simp;omega
  | some z=>
   rw [Option.toList_some,tM]
   dsimp only
   split<;>omega
structure gQ (i:Inp) (M:WSt):Prop where
 ok:WOk i M
 wG:∀x,x<(az i).W->W64 (M.m x).G
theorem Ae (i:Inp) (P:List Int):∀(l:List Ex) (G:List Int),W64 G->W64 (eq i P G l):=by
 intro l
 induction l with
 | nil=>intro G h;exact h
 | cons x l ih=>intro G h;exact ih _ (fu fun _ _=>fU _)
theorem tx (n:Nat):W64 (List.replicate n 0):=fun k hk=>by
 rw [ML] at hk
 simp [nth,hk]
theorem Gq {i:Inp} {x:Nat} {m:Mst} {y:Itm} (h:W64 m.G):W64 (jG i x m y).G:=by
 unfold jG
 split
 ·exact Ae i _ _ _ h
 ·split
  ·exact h
  ·split
   ·exact h
   ·exact tx _
theorem IB {i:Inp} {x:Nat} {m:Mst}:(adv i x m).G=m.G:=by unfold adv;split<;>rfl
theorem iT.w64 {i:Inp} {x:Nat} {m m1:Mst} {s t s1 t1:LSt} {C:Nat} (h:iT i x m s t m1 s1 t1 C) (hw:W64 m.G) (o:∀j,j<s.msgs.length->W64 (aO s.msgs j).vals):W64 m1.G:=by
 cases h with
 | fin=>exact hw
 | full=>exact hw
 | none=>exact hw
 | other=>exact hw
 | own=>rw [IB];exact Gq hw
 | send=>rw [IB];exact hw
 | recv y a _ _ _ hlt=>rw [IB];exact sS hw (o _ hlt)
theorem gQ.zero {i:Inp} (hs:cz i):gQ i (kF i):=⟨WOk.zero i,fun x _=>tx _⟩
theorem gQ.pick {i:Inp} {M v:WSt} {x C:Nat} (h:gQ i M) (hs:cz i) (u:x<(az i).W) (p:Pk i M x v C):gQ i v:=by
 have o:pvW (az i).W x<(az i).W:=le ap
 refine ⟨(p.ok h.ok hs u (h.wG x u)).1,fun z y=>?_⟩
 obtain ⟨m1,s1,t1,B,rfl⟩:=p
 show W64 (bj M.m x m1 z).G
 by_cases e:z=x
 ·subst e
  rw [bJ]
  exact B.w64 (h.wG z y) fun j A=>(h.ok.tg _ o j A).choose_spec.2.2.2
 ·rw [bC _ _ e];exact h.wG z y
noncomputable def pkF (i:Inp) (M:WSt) (x:Nat):WSt×Bool:=open Classical in
 if h:∃p:WSt×Nat,Pk i M x p.1 p.2 then ((Classical.choose h).1,decide ((Classical.choose h).2=0)) else (M,false)
theorem vx {i:Inp} {M:WSt} {x:Nat} (h:gQ i M) (hs:cz i) (v:x<(az i).W):∃C,Pk i M x (pkF i M x).1 C/\(pkF i M x).2=decide (C=0):=by
 obtain ⟨y,C,u⟩:=h.ok.pick hs v
 have o:∃p:WSt×Nat,Pk i M x p.1 p.2:=⟨(y,C),u⟩
 unfold pkF
 rw [dif_pos o]
 exact ⟨_,Classical.choose_spec o,rfl⟩
noncomputable def pkZ (i:Inp) (M:WSt) (z:Int):WSt×Bool:=if 0<=z/\z<((az i).W:Int) then pkF i M z.toNat else (M,false)
noncomputable def pL (i:Inp) (M:WSt) (l:List Int):WSt×Nat:=l.foldl (fun p z=>((pkZ i p.1 z).1,p.2+if (pkZ i p.1 z).2 then 1 else 0)) (M,0)
def WSt.sum (i:Inp) (M:WSt):Nat:=((List.range (az i).W).map fun x=>M.pos i x).sum
def IU (i:Inp):Nat:=((List.range (az i).W).map fun x=>(db i x).length).sum
def WSt.fin (i:Inp) (M:WSt):Prop:=∀x,x<(az i).W->M.pos i x=(db i x).length
theorem IX {f g:Nat->Nat} {W x:Nat} (p:x<W) (h1:g x=f x+1) (h:∀z,z≠x->g z=f z):((List.range W).map g).sum=((List.range W).map f).sum+1:=by
 induction W with
 | zero=>omega
 | succ W ih=>
  rw [MT,List.map_append,List.map_append,List.sum_append,List.sum_append]
  simp only [List.map_cons,List.map_nil,List.sum_cons,List.sum_nil,Nat.add_zero]
  by_cases e:x=W
  ·subst e
   rw [h1,List.map_congr_left (g:=f) (fun z o=>h z (by have:=List.mem_range.1 o;omega))]
   omega
  ·rw [ih ap,h W (fun i=>e i.symm)]
   omega
theorem Ki {f g:Nat->Nat}:∀{W:Nat},(∀x,x<W->f x<=g x)->((List.range W).map f).sum<=((List.range W).map g).sum
 | 0,_=>Mb _
 | W+1,h=>by
  rw [MT,List.map_append,List.map_append,List.sum_append,List.sum_append]
  simp only [List.map_cons,List.map_nil,List.sum_cons,List.sum_nil,Nat.add_zero]
  have:=Ki (W:=W) fun x o=>h x ap
  have:=h W ap
  omega
section
variable {i:Inp} {M:WSt}
theorem gQ.pos_le (h:gQ i M) (hs:cz i) {x:Nat} (o:x<(az i).W):M.pos i x<=(db i x).length:=(h.ok.mok x o).done hs
theorem gQ.sum_le (h:gQ i M) (hs:cz i):M.sum i<=IU i:=Ki fun _ o=>h.pos_le hs o
theorem vy (h:gQ i M) (hs:cz i) {x:Nat} (o:x<(az i).W):gQ i (pkF i M x).1/\((pkF i M x).2=true↔can i i.cfg.cap.toNat (M.pos i) x)/\((pkF i M x).2=true->(pkF i M x).1.pos i x=M.pos i x+1/\(∀z,z≠x->(pkF i M x).1.pos i z=M.pos i z)/\(pkF i M x).1.sum i=M.sum i+1)/\((pkF i M x).2=false->(pkF i M x).1=M):=by
 obtain ⟨C,p,hb⟩:=vx h hs o
 obtain ⟨_,B,H,D⟩:=p.ok h.ok hs o (h.wG x o)
 refine ⟨h.pick hs o p,by rw [hb,<-D];simp,fun A=>?_,fun u=>H (by rw [hb] at u;simpa using u)⟩
 obtain ⟨v,I,_⟩:=B (by rw [hb] at A;simpa using A)
 have y:∀z,z≠x->(pkF i M x).1.pos i z=M.pos i z:=fun z J=>by unfold WSt.pos;rw [I z J]
 exact ⟨v,y,IX o v y⟩
theorem CD (l:List Int) (z:Int):pL i M (l++[z])=((pkZ i (pL i M l).1 z).1,(pL i M l).2+if (pkZ i (pL i M l).1 z).2 then 1 else 0):=by
 unfold pL
 rw [List.foldl_append]
 rfl
end
section
variable {i:Inp} {M:WSt}
theorem gQ.some (h:gQ i M) (hs:cz i) (p:1<=i.cfg.cap.toNat) (hn:¬M.fin i):∃z,z<(az i).W/\can i i.cfg.cap.toNat (M.pos i) z:=by
 refine h.ok.live hs p ?_
 refine Classical.byContradiction fun hc=>hn fun x o=>?_
 have:=h.pos_le hs o
 refine Classical.byContradiction fun he=>hc ⟨x,o,by omega⟩
theorem gQ.fin_can (h:gQ i M) (hs:cz i) (u:1<=i.cfg.cap.toNat):M.fin i↔∀z,z<(az i).W->¬can i i.cfg.cap.toNat (M.pos i) z:=by
 constructor
 ·rintro p z o ⟨y,x,_⟩
  have:=(MF.1 x).1
  rw [p z o] at this
  omega
 ·intro hc
  refine Classical.byContradiction fun hn=>?_
  obtain ⟨z,o,v⟩:=h.some hs u hn
  exact hc z o v
end
theorem ve {p:Pln} (h:cO p):wh p<=810000:=by
 have h1:=AT h (Mb p.buks.length)
 have i:=h.W8;have v:=h.mi;have o:=h.buks
 have u:p.W*(p.mi+2*p.buks.length+1)<=8*141:=Nat.mul_le_mul i ap
 unfold wh
 omega
theorem vf {i:Inp} (o:cO (az i)):IU i=wh (az i)*i.cfg.steps.toNat:=by
 have h:IU i=bK (az i).W fun x=>bK i.cfg.steps.toNat fun st=>(aJ (az i) x st).length:=by
  unfold IU bK db
  congr 1
  refine List.map_congr_left fun x _=>?_
  show (gP i x i.cfg.steps.toNat).length=_
  unfold gP
  rw [List.length_flatMap]
 rw [h,ib,dF fun st _=>IT o st,eD,Nat.mul_comm]
end Go.Proofs.YtgmajkppbhiopaaGreat
