/- No condition. -/
import Derived.Test.YtgmajkppbhiopaaGreatE08
import Derived.Laws.CopyOwn
import Derived.WalkMore
import Derived.Deep.LoopGhost
set_option linter.unusedSimpArgs false
set_option linter.unusedVariables false
set_option maxRecDepth 100000
set_option maxHeartbeats 4000000
namespace Go.Proofs.YtgmajkppbhiopaaGreat
open Go.RowKit
open Tryz
def Lo (ra o q:Int) (P M g:List Int) (b B k:Nat) (p w:World):Prop:=∃A1 c1 h c2,w.heap[b]?=some (.cells #[.slice A1 k c1,.slice h k c2] 103 (0,0))/\
 w.ownsRow B 2 1 (.slice A1 k c1) k (aA .i64 (dB k fun j=>lO ra q (nth P j) (eT o q (nth M j) (nth g j))))/\
 w.ownsRow B 2 1 (.slice h k c2) k (aA .i64 (dB k fun j=>eT o q (nth M j) (nth g j)))/\
 (∀i,(Value.slice A1 k c1).ownBlock=some i->(Value.slice h k c2).ownBlock≠some i)/\Keep (fun j=>j=b) p w
theorem Lf {n k:Nat} (h:k<n):(k:Int)<n:=ap
theorem Lz {n k:Nat} (h:k<n):n-(k+1)<n-k:=ap
def DY (ra i q:Int) (P M g:List Int) (n:Nat) (w:World) (e:Ending) (h:World):Prop:=∃A1 c1 o c2,e=.returned (.tuple #[.agg #[.slice A1 n c1,.slice o n c2],.bool true])/\
 h.ownsRow w.heap.size 2 1 (.slice A1 n c1) n (aA .i64 (rJ ra i q P M g))/\h.ownsRow w.heap.size 2 1 (.slice o n c2) n (aA .i64 (rK i q M g))/\aq w h
theorem vZ (ra C q:Int) (A B G:Option Addr) (P M g:List Int) (n ca cb cg:Nat) (w:World) (hA:Rd w A (aA .i64 P)) (hB:Rd w B (aA .i64 M)) (hG:Rd w G (aA .i64 g)) (hP:P.length=n) (hM:M.length=n) (hg:g.length=n) (hn:n<=1048576) (wM:W64 M) (bM: -9223372036854775808<=ra/\ra<=9223372036854775807) (bG: -9223372036854775808<=C/\C<=9223372036854775807):
  Calls prog 63 #[.agg #[MO ra,MO C,MO q],.agg #[.slice A n ca,.slice B n cb],.slice G n cg] w (DY ra C q P M g n w):=by
 have cd:=fun k y=>rv C (nth M k) q y bG (wM.nth k)
 have a1:=fun x y (hx: -9223372036854775808<=x/\x<=9223372036854775807)=>rv ra x q y bM hx
 obtain ⟨cw,HB,HG,HP,HM,Hg,cl,cn⟩:=ak hA hB hG hP hM hg cd a1;clear hA hB hG hP hM hg wM bM bG cd a1
 go_enter func63,ntmps63
 go_wp2_with fail
 have s1:=iu (w:=w) rfl (.cells #[MO ra,MO C,MO q] 136)
 have r1:=lI w #[MO ra,MO C,MO q] 136 rfl
 have b1:aq w (w.alloc (.cells #[MO ra,MO C,MO q] 136)):=(LR _ w).alloc (LO _) _
 generalize w.alloc (.cells #[MO ra,MO C,MO q] 136)=W1 at s1 r1 b1 ⊢
 have s2:=iu s1 (.cells #[.slice A n ca,.slice B n cb] 103)
 have r2:=fG r1 (.cells #[.slice A n ca,.slice B n cb] 103)
 have t2:=lI W1 #[.slice A n ca,.slice B n cb] 103 s1
 have b2:=b1.alloc ap (.cells #[.slice A n ca,.slice B n cb] 103)
 generalize W1.alloc (.cells #[.slice A n ca,.slice B n cb] 103)=W2 at s2 r2 t2 b2 ⊢
 clear s1 r1 b1
 have s3:=iu s2 (.cells #[MP,MP] 103)
 have r3:=fG r2 (.cells #[MP,MP] 103)
 have t3:=fG t2 (.cells #[MP,MP] 103)
 have u3:=lI W2 #[MP,MP] 103 s2
 have b3:=b2.alloc ap (.cells #[MP,MP] 103)
 generalize W2.alloc (.cells #[MP,MP] 103)=W3 at s3 r3 t3 u3 b3 ⊢
 clear s2 r2 t2 b2
 have s4:=iu s3 (.cells #[MP,MP] 103)
 have r4:=fG r3 (.cells #[MP,MP] 103)
 have t4:=fG t3 (.cells #[MP,MP] 103)
 have u4:=fG u3 (.cells #[MP,MP] 103)
 have v4:=lI W3 #[MP,MP] 103 s3
 have b4:=b3.alloc ap (.cells #[MP,MP] 103)
 generalize W3.alloc (.cells #[MP,MP] 103)=W0 at s4 r4 t4 u4 v4 b4 ⊢
 clear s3 r3 t3 u3 b3
 obtain ⟨S4,R4,T4,U4,V4,B4⟩:=ai s4 r4 t4 u4 v4 b4;clear s4 r4 t4 u4 v4 b4
 go_loopw [9] (fun x wr=>∃k:Nat,k<=n/\x=MO k/\Lo ra C q P M g (w.heap.size+1+1+1) (w.heap.size+4) k W0 wr) (fun x _=>n-(intOf x).toNat)
 case atStart=>exact ⟨0,LS _,rfl,none,0,none,0,V4.o,LZ _ _ _ _,LZ _ _ _ _,fun i h=>by simp [Value.ownBlock] at h,Keep.refl _ _⟩
 case round=>
  obtain ⟨k,hk,rfl,A1,c1,A2,c2,hv,a6,a4,b7,H⟩:=hrel
  have bi:=H.size
  rw [S4.o] at bi
  by_cases R:k<n
  ·have cL:=Lf R
   have bl:=(H.block _ (by rw [S4.o];omega) ap).trans R4.o
   have b9:=(H.block _ (by rw [S4.o];omega) ap).trans T4.o
   obtain ⟨ba,oa,rfl,pa⟩:=cw.o.num (show k<P.length by rw [HP.o];exact R)
   obtain ⟨bm,om,rfl,pm⟩:=HB.o.num (show k<M.length by rw [HM.o];exact R)
   obtain ⟨bg,og,rfl,pg⟩:=HG.o.num (show k<g.length by rw [Hg.o];exact R)
   have la:ba<w.heap.size:=az pa
   have lm:bm<w.heap.size:=az pm
   have lg:bg<w.heap.size:=az pg
   have pa:=H.cell (B4.o.cell (p:=(ar ba (oa+k))) la |>.trans pa) (by dsimp only;omega)
   have pm:=H.cell (B4.o.cell (p:=(ar bm (om+k))) lm |>.trans pm) (by dsimp only;omega)
   have pg:=H.cell (B4.o.cell (p:=(ar bg (og+k))) lg |>.trans pg) (by dsimp only;omega)
   obtain ⟨⟨x0,x1,x2⟩,xf⟩:=bx3 bl
   obtain ⟨⟨y0,y1⟩,yf⟩:=bx2 b9
   obtain ⟨HV,bv,cs,bO,HK,bs,cx,co⟩:=ak hv a6 a4 b7 H bi bl b9;have cy:=aa pa;clear hv a6 a4 b7 H bl b9 bi pa
   go_wp2_with fail
   have u:(fun y:World=>y.cell? (ar w.heap.size 1)=some (MO C)/\y.cell? (ar w.heap.size 2)=some (MO q)/\y.cell? (ar (w.heap.size+1) 1)=some (.slice (some (ar bm om)) n cb)/\y.cell? (ar bm (om+k))=some (MO (nth M k))/\y.cell? (ar bg (og+k))=some (MO (nth g k))) wr.drew:=⟨x1,x2,y1,pm,pg⟩
   refine HA.g (fun y:World=>y.cell? (ar w.heap.size 1)=some (MO C)/\y.cell? (ar w.heap.size 2)=some (MO q)/\y.cell? (ar (w.heap.size+1) 1)=some (.slice (some (ar bm om)) n cb)/\y.cell? (ar bm (om+k))=some (MO (nth M k))/\y.cell? (ar bg (og+k))=some (MO (nth g k))) ?_
   refine HA.t ?_ [0,1,2,3,4,5,6,7,8,10,11,12,13] u ?_
   refine HA.o 9 (fun K H=>?_)
   go_simp
   refine (cl.o k _).mono ?_
   rintro e w9 ⟨rfl,rfl⟩
   dsimp only
   refine H.out _ _ u (fun u=>?_)
   clear H K
   refine HA.t ?_ [14,15] u ?_
   refine HA.d ?_
   clear u pm pg x0 x1 x2 xf y0 y1 yf
   have be: -9223372036854775808<=eT C q (nth M k) (nth g k)/\eT C q (nth M k) (nth g k)<=9223372036854775807:=fU _
   have bh:IntKind.i64.wrap (fm C (nth M k) q+nth g k)=eT C q (nth M k) (nth g k):=by rw [IntKind.wrap_i64];unfold eT wrap64;rfl
   obtain ⟨mv,a2⟩:∃mv,eT C q (nth M k) (nth g k)=mv:=⟨_,rfl⟩
   rw [a2] at be bh
   rw [bh]
   have a1:=cn.o mv
   obtain ⟨ct,b0,cv⟩:=af be a2 a1
   have hv:=HV.o
   obtain ⟨⟨z0,z1⟩,zf⟩:=bx2 hv
   have cA:=LN hv
   clear a1 be a2 hv bh
   have cO:=LU bs.o (LO _)
   go_wp2_with (at_builtin;refine dy jE _ rfl (.tmp 49) (.tmp 51) rfl (w.heap.size+4) (.slice A2 k c2) k _ rfl (cs.o.alloc _) (some (ar wr.heap.size 0)) 1 1 [MO mv] rfl (dD wr _ _ _ rfl) rfl (by simp [Value.oneCell']) ap (by unfold maxLen;omega) (by simp;omega) ?_)
   intro A7 c7 w7 a3 ci bI c6
   have a3:w7.ownsRow (w.heap.size+4) 2 1 (.slice A7 (k+1) c7) (k+1) (aA .i64 (dB (k+1) fun j=>eT C q (nth M j) (nth g j))):=by rw [gY,cQ,b0.o];exact a3
   have D:Below (w.heap.size+4) wr w7:=(((LR _ wr).alloc ap _).drew).trans ci
   have bd:w7.ownsRow (w.heap.size+4) 2 1 (.slice A1 k c1) k (aA .i64 (dB k fun j=>lO ra q (nth P j) (eT C q (nth M j) (nth g j)))):=by
    refine (bT (bv.o.alloc (.cells #[MO mv] 2)) 1).kept bI ?_
    cases hu:(Value.slice A1 k c1).ownBlock with
    | none=>exact .inl rfl
    | some i=>exact .inr fun e=>bO.o i hu e.symm
   have aM:∀i,(Value.slice A1 k c1).ownBlock=some i->(Value.slice A7 (k+1) c7).ownBlock≠some i:=fun i hi e=>by
    rcases c6 with h | h
    ·exact bO.o i hi (h.symm.trans e)
    ·have h1:=(bv.o.lt i hi).2
     rw [h] at e;injection e with e;omega
   have N:=(D.block _ ap).trans HV.o
   have a9:=(D.block _ ap).trans cx.o
   have bf:=(D.block _ ap).trans co.o
   have bV:=(D.cell (p:=(ar ba (oa+k))) (by dsimp only;omega)).trans cy.o
   have bN:=HK.o.below2 (D.mono (by rw [S4.o];omega))
   have T:=Keep.setCell (S:=fun j=>j=w.heap.size+1+1+1) bN (ar (w.heap.size+1+1+1) 1) (.inr rfl) (.slice A7 (k+1) c7)
   have V:Keep (fun j=>j=w.heap.size+1+1+1) w7 (w7.setCell (ar (w.heap.size+1+1+1) 1) (.slice A7 (k+1) c7)):=Keep.setCell (S:=fun j=>j=w.heap.size+1+1+1) (Keep.refl _ _) _ (.inr rfl) _
   have I:=MM w7 (w.heap.size+1+1+1) 1 _ _ (.slice A7 (k+1) c7) N
   have U:=(V.block _ (LN a9) ap).trans a9
   have Y:=(V.block _ (LN bf) ap).trans bf
   have a5:=V.cell bV (by dsimp only;omega)
   have Z:=V.own bd (fun j Q e=>by have:=(bd.lt j Q).1;omega)
   have O:=V.own a3 (fun j Q e=>by have:=(a3.lt j Q).1;omega)
   obtain ⟨⟨z0,z1⟩,zf⟩:=bx2 N
   have b6:=LN N
   obtain ⟨cr,b5,av,ad,cj,bz,bn,ab⟩:=ak D aM T I U Y a5 Z;have a0:=aa O;clear D bd aM N a9 bf bV bN T V I U Y a5 Z O a3 ci bI c6
   go_wp2_with fail
   have I:=ad.o;have U:=cj.o;have Y:=bz.o;have a5:=bn.o;have Z:=ab.o;have O:=a0.o;have T:=av.o
   have bw:w7.heap.size=(w7.setCell (ar (w.heap.size+1+1+1) 1) (.slice A7 (k+1) c7)).heap.size:=by simp
   clear z0 z1 zf ad cj bz bn ab a0 av
   have c8:=LU bs.o cr.o.size
   rw [bw] at b6 c8
   generalize w7.setCell (ar (w.heap.size+1+1+1) 1) (.slice A7 (k+1) c7)=w8 at I U Y a5 Z O T b6 c8 ⊢
   clear bw
   have I:w8.heap[w.heap.size+1+1+1]?=some (.cells #[.slice A1 k c1,.slice A7 (k+1) c7] 103 (0,0)):=by simpa using I
   obtain ⟨⟨x0,x1,x2⟩,xf⟩:=bx3 U
   obtain ⟨⟨y0,y1⟩,yf⟩:=bx2 Y
   obtain ⟨⟨z0,z1⟩,zf⟩:=bx2 I
   obtain ⟨ad,ab,a0,av⟩:=ag I Z O T;clear I U Y Z O T
   have u:(fun y:World=>y.cell? (ar w.heap.size 0)=some (MO ra)/\y.cell? (ar w.heap.size 2)=some (MO q)/\y.cell? (ar (w.heap.size+1) 0)=some (.slice (some (ar ba oa)) n ca)/\y.cell? (ar ba (oa+k))=some (MO (nth P k))/\y.cell? (ar (w.heap.size+1+1+1) 0)=some (.slice A1 k c1)) w8.drew:=⟨x0,x2,y0,a5,z0⟩
   refine XA.g 16 (fun y:World=>y.cell? (ar w.heap.size 0)=some (MO ra)/\y.cell? (ar w.heap.size 2)=some (MO q)/\y.cell? (ar (w.heap.size+1) 0)=some (.slice (some (ar ba oa)) n ca)/\y.cell? (ar ba (oa+k))=some (MO (nth P k))/\y.cell? (ar (w.heap.size+1+1+1) 0)=some (.slice A1 k c1)) ?_
   refine XA.t ?_ [0,1,2,3,4,5,6,7,8,9,10,11] u ?_
   refine XA.o 12 (fun K H=>?_)
   go_simp
   refine (cv.o w8.drew ct.o).mono ?_
   rintro e w9 ⟨rfl,rfl⟩
   dsimp only
   refine H.out _ _ u (fun u=>?_)
   clear H K
   refine XA.t ?_ [13] u ?_
   refine XA.o 14 (fun K H=>?_)
   go_simp
   refine H.out _ _ ⟨aH u.1 _,aH u.2.1 _,aH u.2.2.1 _,aH u.2.2.2.1 _,aH u.2.2.2.2 _⟩ (fun u=>?_)
   clear H K
   refine XA.o 15 (fun K H=>?_)
   refine bR jE (.tmp 55) (.tmp 68) rfl rfl (w.heap.size+4) (.slice A1 k c1) k _ rfl (bT (ab.o.alloc _) 1) (some (ar w8.heap.size 0)) 1 1 [MO (IntKind.i64.wrap (nth P k-fm ra mv q))] rfl (dD w8 _ _ _ rfl) rfl (by simp [Value.oneCell']) ap (by unfold maxLen;omega) (by simp;omega) ?_
   intro A9 c9 w9 a7 J cf cc
   have a8:Below (w.heap.size+4) w8 w9:=(((LR _ w8).alloc ap _).drew).trans J
   have bo:=LW ((J.cell (p:=(ar w.heap.size 0)) (by dsimp only;omega)).trans u.1) (LW ((J.cell (p:=(ar w.heap.size 2)) (by dsimp only;omega)).trans u.2.1) (LW ((J.cell (p:=(ar (w.heap.size+1) 0)) (by dsimp only;omega)).trans u.2.2.1) (LW ((J.cell (p:=(ar ba (oa+k))) (by dsimp only;omega)).trans u.2.2.2.1) ((J.cell (p:=(ar (w.heap.size+1+1+1) 0)) (by dsimp only;omega)).trans u.2.2.2.2))))
   have bX:IntKind.i64.wrap (nth P k-fm ra mv q)=lO ra q (nth P k) (eT C q (nth M k) (nth g k)):=by rw [IntKind.wrap_i64,b0.o];unfold lO wrap64;rfl
   have a7:w9.ownsRow (w.heap.size+4) 2 1 (.slice A9 (k+1) c9) (k+1) (aA .i64 (dB (k+1) fun j=>lO ra q (nth P j) (eT C q (nth M j) (nth g j)))):=by rw [gY,cQ,<-bX];exact a7
   have b8:w9.ownsRow (w.heap.size+4) 2 1 (.slice A7 (k+1) c7) (k+1) (aA .i64 (dB (k+1) fun j=>eT C q (nth M j) (nth g j))):=by
    refine (bT (a0.o.alloc (.cells #[MO (IntKind.i64.wrap (nth P k-fm ra mv q))] 2)) 1).kept cf ?_
    cases hu:(Value.slice A7 (k+1) c7).ownBlock with
    | none=>exact .inl rfl
    | some i=>exact .inr fun e=>b5.o i e.symm hu
   have aP:∀i,(Value.slice A9 (k+1) c9).ownBlock=some i->(Value.slice A7 (k+1) c7).ownBlock≠some i:=fun i hi e=>by
    rcases cc with h | h
    ·exact b5.o i (h.symm.trans hi) e
    ·have h1:=(a0.o.lt i e).2
     rw [h] at hi;injection hi with hi;simp at hi;omega
   have aG:=(a8.block _ ap).trans ad.o
   have bA:=av.o.below2 (a8.mono (by rw [S4.o];omega))
   have aR:=MM w9 (w.heap.size+1+1+1) 0 _ _ (.slice A9 (k+1) c9) aG
   have L:Keep (fun j=>j=w.heap.size+1+1+1) w9 (w9.setCell (ar (w.heap.size+1+1+1) 0) (.slice A9 (k+1) c9)):=Keep.setCell (S:=fun j=>j=w.heap.size+1+1+1) (Keep.refl _ _) _ (.inr rfl) _
   have hI:Lo ra C q P M g (w.heap.size+1+1+1) (w.heap.size+4) (k+1) W0 (w9.setCell (ar (w.heap.size+1+1+1) 0) (.slice A9 (k+1) c9)):=
    ⟨A9,c9,A7,c7,by simpa using aR,L.own a7 (fun j Q e=>by have:=(a7.lt j Q).1;omega),L.own b8 (fun j Q e=>by have:=(b8.lt j Q).1;omega),aP,bA.trans L⟩
   have HI:=aa hI;clear x0 x1 x2 xf y0 y1 yf z0 z1 zf
   obtain ⟨⟨z0,z1⟩,zf⟩:=bx2 aG
   have cP:=LN aG
   clear a7 J cf cc a8 bX b8 aP aG bA aR L hI u
   dsimp only
   refine H.out _ _ bo (fun u=>?_)
   clear H K bo u
   refine XA.e ?_
   simp only [Mm,Mn]
   go_wp2_with fail
   go_roundw
   case rel=>exact ⟨k+1,R,by go_num,HI.o⟩
   case measure=>exact Lz R
  ·obtain rfl:n=k:=ap
   have ao:=(H.block _ (by rw [S4.o];omega) ap).trans U4.o
   have bb:aq w wr:=B4.o.trans (H.toBelow (by rw [S4.o];omega) (fun j Q=>ap))
   obtain ⟨e2,k2⟩:=Em wr (w.heap.size+1+1) (.slice A1 n c1) (.slice A2 n c2) ao
   have h1:=aE (base':=w.heap.size) (k2.own a6 (fun j Q e=>by have:=(a6.lt j Q).1;omega)) ap
   have h2:=aE (base':=w.heap.size) (k2.own a4 (fun j Q e=>by have:=(a4.lt j Q).1;omega)) ap
   have h3:=bb.trans (k2.toBelow bb.size (fun j Q=>ap))
   obtain ⟨⟨y0,y1⟩,yf⟩:=bx2 hv
   obtain ⟨⟨z0,z1⟩,zf⟩:=bx2 ao
   obtain ⟨E2,F1,F2,F3⟩:=ag e2 h1 h2 h3
   have cA:=LN hv
   have cM:=LN ao
   clear e2 k2 h1 h2 h3 a6 a4 H hv ao bb b7
   go_wp2_with fail
   have e3:=E2.o;have h1:=F1.o;have h2:=F2.o;have h3:=F3.o
   generalize (wr.setCell (ar (w.heap.size+1+1) 0) (.slice A1 n c1)).setCell (ar (w.heap.size+1+1) 1) (.slice A2 n c2)=W9 at e3 h1 h2 h3 ⊢
   clear y0 y1 yf z0 z1 zf
   obtain ⟨⟨r0,r1⟩,rf⟩:=bx2 e3
   exact L7 (v:=.tuple #[.agg #[.slice A1 n c1,.slice A2 n c2],.bool true]) (by simp [results,results63,go_sem,r0,r1]) rfl ⟨_,_,_,_,rfl,by unfold rJ;rw [HP.o];exact h1,by unfold rK;rw [HM.o];exact h2,h3⟩
theorem zd (n b steps t E c:Nat) (A:Option Addr) (l:List Int) (w:World) (hA:dA zg 1 w A (iS l n E)) (hb:1<=b) (L:b<=n) (hn:n<=1048576) (V:steps<=1048576) (ht:t<steps) (hE:E=epN n b steps):
  Calls prog 62 #[.agg #[MO n,MO b,MO steps,.slice A E c],MO t] w fun e N=>∃A c,e=.returned (.slice A b c)/\b<=c/\Rd N A (aA .i64 (dx l n b t))/\aq w N:=by
 have b1:1<=n/b:=Nat.div_pos L hb
 have u:=fun N=>yX n b steps t c A E N ⟨hb,L⟩ hn V ht
 have B:t/(n/b)<E:=by rw [hE];exact xK ht
 have ad:E<=steps:=by rw [hE];exact fE _ _
 have H:dx l n b t=((fJ l n ((t/(n/b))*(n-1))).drop (t%(n/b)*b)).take b:=rfl
 have J:t%(n/b)*b+b<=n:=nU n b _ (Nat.mod_lt _ ap)
 rw [H]
 have Q:=rH l n B
 obtain ⟨pl,v⟩:∃pl,fJ l n ((t/(n/b))*(n-1))=pl:=⟨_,rfl⟩
 have a1:pl.length=n:=by rw [<-v];exact jd _ _ _
 rw [v] at Q ⊢
 obtain ⟨U,C⟩:∃U,t/(n/b)=U:=⟨_,rfl⟩
 obtain ⟨T,I⟩:∃T,t%(n/b)=T:=⟨_,rfl⟩
 rw [C] at u B Q
 rw [I] at u J ⊢
 obtain ⟨lo,y⟩:∃lo,T*b=lo:=⟨_,rfl⟩
 rw [y] at J ⊢
 obtain ⟨R,oo,A1,c1,rfl,b0,q2,Y,a0,h9⟩:=CR hA Q
 rw [a1] at h9 a0 q2
 obtain ⟨bg,og,rfl,q3⟩:=Y.num (show 0<pl.length by omega)
 have aG:(U:Int)<E:=ap
 have a2:(lo:Int)<=((lo+b:Nat):Int):=ap
 have ao:lo+b<=c1:=ap
 have a4:(T:Int)*b=(lo:Int):=by rw [<-y];push_cast;rfl
 obtain ⟨Z,K3⟩:=ae u Y;clear u Y hE C I y v hA H q3 Q
 have O:=LP w (.cells #[MO n,MO b,MO steps,.slice (some (ar R oo)) E c] 128)
 have p:aq w (w.alloc (.cells #[MO n,MO b,MO steps,.slice (some (ar R oo)) E c] 128)):=(LR _ w).alloc (LO _) _
 go_enter func62,ntmps62
 obtain ⟨W0,D⟩:∃W0,W0=w.alloc (.cells #[MO n,MO b,MO steps,.slice (some (ar R oo)) E c] 128):=⟨_,rfl⟩
 go_wp2_with fail
 rw [<-D] at O p ⊢
 clear D
 refine (Z.o _).mono ?_
 rintro e w1 ⟨rfl,h⟩
 have x:=(h.block _ (LN O)).trans O
 have i:=p.trans (h.mono p.size)
 have aR:=aw i q2
 have a7:R<w1.heap.size:=by have:=i.size;omega
 have ab:=LN x
 obtain ⟨⟨y0,y1,y2,y3⟩,yf⟩:=bx4 x
 have HB:=aa i;clear q2 O p h x i a2
 go_upto_region 4 with (fail)
 have a5:IntKind.i64.wrap ((lo:Int)+b)=(lo:Int)+b:=LT _ ap
 have a3:IntKind.i64.wrap (lo:Int)=(lo:Int):=LT _ ap
 have av:(lo:Int)+b<=c1:=ap
 have aP:((lo:Int)+b).toNat=lo+b:=ap
 have a9:(0:Int)<=(lo:Int)+b:=ap
 have aM:(lo:Int)<=(lo:Int)+b:=ap
 have a8:lo+b-lo=b:=ap
 have a6:¬(lo+b=lo):=ap
 go_quiet (fail)
 go_wp2_with fail
 go_ret
 refine ⟨_,_,rfl,?_,?_,LY HB.o _⟩
 ·omega
 ·have:=(((K3.o.below HB.o).drewN nq).drop lo).take b
  rwa [dm,de] at this
theorem mT:dt prog 54 103 (.agg #[MP,MP]) 2 48:=⟨underlying54,info_parts (by kernel_rfl),rfl,by decide⟩
def sL (w:World):List Obj->World
 | []=>w
 | o::l=>sL (w.alloc o) l
theorem eP:∀(l:List Obj) (w:World),aq w (sL w l)
 | [],w=>br w
 | o::l,w=>bt ((br w).alloc (LO _) o) (eP l _)
theorem bZ:∀(l:List Obj) (w:World) (k:Nat) {o:Obj},l[k]?=some o->(sL w l).heap[w.heap.size+k]?=some o
 | [],_,_,_,h=>by simp at h
 | o::l,w,0,_,h=>by
  simp only [Mk,Option.some.injEq] at h
  subst h
  exact sb (LP w o) _ (eP l _)
 | o::l,w,k+1,_,h=>by
  have:=bZ l (w.alloc o) k (by simpa using h)
  rwa [show (w.alloc o).heap.size+k=w.heap.size+(k+1) by rw [Mb];omega] at this
theorem Jl (y:Itm):∃(C h p:Int) (v u:Bool) (o i D x B A H:Int),bq y=[MO C,MO h,MO p,.bool v,.bool u,MO o,MO i,MO D,MO x,MO B,MO A,MO H]:=by
 obtain ⟨k,s,n,a⟩:=y
 cases a with
 | none=>exact ⟨_,_,_,_,_,_,_,_,_,_,_,_,rfl⟩
 | some a=>exact ⟨_,_,_,_,_,_,_,_,_,_,_,_,rfl⟩
theorem AN:cW prog 152 12:=⟨⟨_,underlying152,rfl⟩,by kernel_rfl⟩
theorem Bi {H:Nat->Prop} {w:World} {b x:Nat} {i:Inp} {a:MAd} {m:Mst} (h:aT H w b i x a m) (hn:(cR i x m.st).length<=m.nx) (u v:Value):
  Calls prog 216 #[(au b),u,v] w fun e B=>e=.returned (MO 13)/\aq w B:=by
 have A:=aa (Bg h hn);clear h hn
 go_enter func216,ntmps216
 go_wp2_with fail
 refine A.o.mono ?_
 rintro e C ⟨rfl,p⟩
 have y:=aa (p.alloc p.size (.cells MT 152));clear p
 go_wp2_with fail
 go_ret
 exact ⟨rfl,y.o⟩
theorem wB {w:World} {b:Nat} {xs:List Value} {e:TypeId} (h:w.heap[b]?=some (.cells xs.toArray e (0,0))):Rd w (some (ar b 0)) xs:=fun k u i=>⟨b,0,rfl,by
 rw [MH,LQ w b k _ _ _ h];simpa using i⟩
theorem uO {l:List Int} (h:∀z∈l,0<=z/\z<=1048576):W64 l:=fun k hk=>by
 have:=h _ (vl hk);omega
theorem sK {w:World} {b:Nat} {u x y:Value} {t:TypeId} (i p o:Value) (h:w.heap[b]?=some (.cells #[u,x,y] t (0,0))):
  (((w.setCell (ar b 0) i).setCell (ar b 1) p).setCell (ar b 2) o).heap[b]?=some (.cells #[i,p,o] t (0,0)):=by
 have h1:=MM w b 0 _ _ i h
 have v:=MM _ b 1 _ _ p h1
 exact MM _ b 2 _ _ o v
theorem pT {w:World} {b:Nat} (h o p:Value):Keep (fun i=>i=b) w (((w.setCell (ar b 0) h).setCell (ar b 1) o).setCell (ar b 2) p):=
 Keep.setCell (S:=fun i=>i=b) (Keep.setCell (S:=fun i=>i=b) (Keep.setCell (S:=fun i=>i=b) (Keep.refl _ w) (ar b 0) (.inr rfl) h) (ar b 1) (.inr rfl) o) (ar b 2) (.inr rfl) p
theorem FT (r c:Nat) (w:World) (hr:1<=r/\r<=1048576) (hc:1<=c/\c<=1048576) (hm:r*c<=1048576):
  Calls prog 258 #[MO r,MO c] w fun e y=>∃A,e=.returned (.agg #[MO r,MO c,.slice A (r*c) (r*c)])/\y.ownsRow w.heap.size 2 1 (.slice A (r*c) (r*c)) (r*c) (aA .i64 (List.replicate (r*c) 0))/\aq w y:=by
 have e1:(r:Int)*(c:Int)=((r*c:Nat):Int):=(Int.natCast_mul r c).symm
 have hs:=fun y=>tv r c y ⟨by omega,by omega⟩ ⟨by omega,by omega⟩
 obtain ⟨p,J⟩:∃p,r*c=p:=⟨_,rfl⟩
 rw [J] at e1 hm ⊢
 clear J
 have x:(8:Nat)*p<=281474976710656:=ap
 obtain ⟨D,Q⟩:=ae x hs;clear x hs
 go_enter func258,ntmps258
 go_wp2_with fail
 refine (Q.o _).mono ?_
 rintro e w1 ⟨rfl,C⟩
 subst C
 go_wp2_with (at_make;refine ti lE _ rfl (.tmp 20) (.tmp 20) rfl rfl p rfl rfl D.o (by unfold maxLen;omega) ?_)
 intro H i hb
 rw [eZ] at i
 have h:=(hb.block w.heap.size (by simp)).trans (LP w _)
 obtain ⟨⟨T,O,r2⟩,V⟩:=bx3 h
 have Z:w.heap.size<H.heap.size:=LN h
 obtain ⟨HO,R,Y⟩:=af i hb h;clear i hb h
 go_wp2_with fail
 have L:=sK (MO r) (MO c) (.slice (some (ar (w.heap.size+1) 0)) p p) Y.o
 have B:=pT (w:=H) (b:=w.heap.size) (MO r) (MO c) (.slice (some (ar (w.heap.size+1) 0)) p p)
 obtain ⟨I,u⟩:∃I,I=(((H.setCell (ar w.heap.size 0) (MO r)).setCell (ar w.heap.size 1) (MO c)).setCell (ar w.heap.size 2) (.slice (some (ar (w.heap.size+1) 0)) p p)):=⟨_,rfl⟩
 rw [<-u] at L B ⊢
 clear u T O r2 V
 obtain ⟨⟨N,U,q2⟩,qf⟩:=bx3 L
 refine L7 (v:=.agg #[MO r,MO c,.slice (some (ar (w.heap.size+1) 0)) p p]) (by simp [results,results258,go_sem,N,U,q2]) rfl ⟨_,rfl,?_,?_⟩
 ·refine aE (base:=w.heap.size+1) (B.own HO.o (fun k hk e=>?_)) ap
  simp [Value.ownBlock] at hk
  omega
 ·exact (Below.trans ((LR _ w).alloc (LO _) _) (R.o.mono (by simp))).trans (B.toBelow ap (fun k hk=>ap))
end Go.Proofs.YtgmajkppbhiopaaGreat
namespace Go.Proofs.YtgmajkppbhiopaaGreat
open Go.RowKit Go.Shelf
open Tryz
attribute [local go_sem] Oper.semAt_some
def KL (r c:Nat) (ys xs:List Int) (A B:Option Addr) (h d e:Nat) (q:Int) (w:World) (G N M:Nat) (i:List (Fin r)) (W:World):Prop:=
 (W.ownsRow w.heap.size 2 1 (.slice (some (ar G 0)) h h) h (aA .i64 (mZ r c ys xs q (i.map (·.1)) 0 0))/\Boxed W w.heap.size 139 (.slice A r d)/\Boxed W (w.heap.size+1) 139 (.slice B c e)/\Boxed W (w.heap.size+1+1) 3 (MO q)/\
  W.heap[w.heap.size+1+1+1]?=some (.cells #[MO 0,MO 0,MP] 354 (0,0))/\W.heap[N]?=some (.cells #[MO r,MO c,.slice (some (ar G 0)) h h] 354 (0,0))/\
  W.heap[M]?=some (.cells #[MO r,MO c,.slice (some (ar G 0)) h h] 354 (0,0)))/\aq w W
theorem FA (r c:Nat) (ys xs:List Int) (A B:Option Addr) (C d e:Nat) (q:Int) (w:World) (G N M K:Nat) (v:w.heap.size<=K):OwnFrom K (KL r c ys xs A B C d e q w G N M):=by
 intro s W H row hs hg hr
 obtain ⟨⟨h1,o,D,p,x,u,i⟩,h⟩:=hs
 have y:=ownFrom_below (β:=Unit) (LO _) v () W H row h hg hr
 exact ⟨⟨wN h1 hg hr,ed rfl o hg hr,ed rfl D hg hr,ed rfl p hg hr,ed rfl x hg hr,ed rfl u hg hr,ed rfl i hg hr⟩,y⟩
theorem C5 (r c:Nat) (A B:Option Addr) (ys xs:List Int) (d e:Nat) (q:Int) (w:World) (hr:1<=r/\r<=1048576) (hc:1<=c/\c<=1048576) (hm:r*c<=1048576)
  (hA:Rd w A (aA .i64 ys)) (wy:W64 ys) (cb:ys.length=r) (hB:Rd w B (aA .i64 xs)) (bz:xs.length=c) (wx:W64 xs):
  Calls prog 250 #[.slice A r d,.slice B c e,MO q] w fun e J=>∃A',e=.returned (.agg #[MO r,MO c,.slice A' (r*c) (r*c)])/\J.ownsRow w.heap.size 2 1 (.slice A' (r*c) (r*c)) (r*c) (aA .i64 (lp r c ys xs q))/\aq w J:=by
 obtain ⟨C,a8⟩:∃C,r*c=C:=⟨_,rfl⟩
 have cO:1<=C:=by rw [<-a8];exact Nat.mul_pos hr.1 hc.1
 have b4:=fun J=>FT r c J hr hc hm
 have bw:=fun A' J=>mD r c A' C C J hr hc a8.symm ap
 have c6:=fun cs J=>ro cs J
 rw [a8] at b4 hm ⊢
 obtain ⟨cn,ct,cw,a9,co,cx,HA,HB⟩:=ak b4 bw c6 a8 bz cb hA hB;obtain ⟨WX,WY⟩:=ae wx wy;clear b4 bw c6 a8 bz cb hA hB wx wy
 refine (callsIn_wide (n:=3)).1 ?_
 refine callsIn_of_wp_marks func250 rfl trivial ?_ rfl
 simp only [ntmps250,List.size_toArray,List.length_cons,List.length_nil,Nat.reduceAdd,Nat.reduceSub,Array.replicate_succ,Array.replicate_zero,List.push_toArray,List.append_toArray,List.nil_append,List.cons_append]
 gi_wp2_with fail
 refine ⟨trivial,?_⟩
 refine (callsIn_wide.2 (cn.o _)).mono ?_
 rintro e w1 ⟨A',rfl,L,a0⟩
 have aP:aq w w1:=Below.trans (((((LR _ w).alloc (LO _) _).alloc (by simp) _).alloc (by simp;omega) _).alloc (by simp;omega) _) (a0.mono (by first | (simp;done) | (simp;omega)))
 have h2:Boxed w1 w.heap.size 139 (.slice A r d):=by
  refine (a0.block w.heap.size (by first | (simp;done) | (simp;omega))).trans ?_
  refine (L0 _ _ _ (by first | (simp;done) | (simp;omega))).trans ((L0 _ _ _ (by first | (simp;done) | (simp;omega))).trans ((L0 _ _ _ (by simp)).trans (LP w _)))
 have h3:Boxed w1 (w.heap.size+1) 139 (.slice B c e):=by
  refine (a0.block (w.heap.size+1) (by first | (simp;done) | (simp;omega))).trans ?_
  refine (L0 _ _ _ (by first | (simp;done) | (simp;omega))).trans ((L0 _ _ _ (by simp)).trans ?_)
  have:=LP (w.alloc (.cells #[.slice A r d] 139)) (.cells #[.slice B c e] 139)
  simpa using this
 have h4:Boxed w1 (w.heap.size+1+1) 3 (MO q):=by
  refine (a0.block (w.heap.size+1+1) (by first | (simp;done) | (simp;omega))).trans ?_
  refine (L0 _ _ _ (by simp)).trans ?_
  have:=LP ((w.alloc (.cells #[.slice A r d] 139)).alloc (.cells #[.slice B c e] 139)) (.cells #[MO q] 3)
  simpa using this
 have h5:w1.heap[w.heap.size+1+1+1]?=some (.cells #[MO 0,MO 0,MP] 354 (0,0)):=by
  refine (a0.block (w.heap.size+1+1+1) (by simp)).trans ?_
  have:=LP (((w.alloc (.cells #[.slice A r d] 139)).alloc (.cells #[.slice B c e] 139)).alloc (.cells #[MO q] 3)) (.cells #[MO 0,MO 0,MP] 354)
  simpa using this
 obtain ⟨G,dG,bA,hG,bo⟩:=L.form ap
 simp only [MC] at bA
 obtain ⟨rfl,_,rfl⟩:=bA
 have c7:w.heap.size+1+1+1+1<=G:=by simpa using hG
 have L:=aE L (base':=w.heap.size) (by first | (simp;done) | (simp;omega))
 obtain ⟨bi,a6,H2,H3,H4,H5,bf,cd⟩:=ak L aP h2 h3 h4 h5 c7 bo;clear L aP h2 h3 h4 h5 c7 bo hG a0
 gi_wp2_with fail
 refine ⟨trivial,?_⟩
 refine (callsIn_wide.2 (ct.o _ _)).mono ?_
 rintro e w2 ⟨rfl,rfl⟩
 gi_wp2_with fail
 refine ⟨trivial,?_⟩
 refine (callsIn_wide.2 (cw.o _ _)).mono ?_
 rintro e w3 ⟨rfl,rfl⟩
 gi_wp2_with fail
 obtain ⟨U,V⟩:∃U,U=(w1.alloc (.cells #[MO r,MO c,.slice (some (ar G 0)) C C] 354)).alloc (.cells #[MO r,MO c,.slice (some (ar G 0)) C C] 354):=⟨_,rfl⟩
 rw [<-V]
 have ab:U.heap.size=w1.heap.size+1+1:=by rw [V];simp
 have bN:U.heap[w1.heap.size]?=some (.cells #[MO r,MO c,.slice (some (ar G 0)) C C] 354 (0,0)):=by
  rw [V];exact (L0 _ _ _ (by simp)).trans (LP w1 _)
 have bM:(U.alloc (.cells #[MO r,MO c,.slice (some (ar G 0)) C C] 354)).heap[U.heap.size]?=some (.cells #[MO r,MO c,.slice (some (ar G 0)) C C] 354 (0,0)):=LP U _
 have hl:∀b o,w1.heap[b]?=some o->(U.alloc (.cells #[MO r,MO c,.slice (some (ar G 0)) C C] 354)).heap[b]?=some o:=fun b o h=>by
  have hb:=LN h
  rw [V];exact (L0 _ _ _ (by simp;omega)).trans ((L0 _ _ _ (by simp;omega)).trans ((L0 _ _ _ hb).trans h))
 have R:aq w U:=by rw [V];exact (a6.o.alloc a6.o.size _).alloc (by have:=a6.o.size;simp;omega) _
 have r0:U.ownsRow w.heap.size 2 1 (.slice (some (ar G 0)) C C) C (aA .i64 (List.replicate C 0)):=by rw [V];exact (bi.o.alloc _).alloc _
 rw [<-a9.o,C6 r c ys xs q 0,a9.o] at r0
 obtain ⟨N,hN⟩:∃N,N=w1.heap.size:=⟨_,rfl⟩
 rw [<-hN] at bN ab ⊢
 rw [<-ab]
 have bO:KL r c ys xs A B C d e q w G N U.heap.size [] (U.alloc (.cells #[MO r,MO c,.slice (some (ar G 0)) C C] 354)):=⟨⟨r0.alloc _,hl _ _ H2.o,hl _ _ H3.o,hl _ _ H4.o,hl _ _ H5.o,(L0 U _ _ (LN bN)).trans bN,bM⟩,R.alloc R.size _⟩
 obtain ⟨bv,aM,cL,HN,cM⟩:=ah ab R bM hN bO;clear ab R bM bN r0 hN V hl bO
 refine' wpIn_rangeFunc_ownG (F:=Fence.wide) (n:=3) rfl ap (gf:=268) (lb:=#[(au U.heap.size)]) rfl trivial (enters_of func268 (by kernel_rfl) rfl)
  (nr _ U.heap.size w.heap.size G 0 r c C C hr.2 hc a9.o.symm (LO _) _ cL.o) kU (kY (by have:=aM.o.size;simp;omega) (by simp)) (LR _ _) (fun _=>rfl)
  (KL r c ys xs A B C d e q w G N U.heap.size)
  (fun _ _ _=>False)
  (FA r c ys xs A B C d e q w G N U.heap.size _ (by have:=aM.o.size;simp;omega))
  (fun _ _ _ _ _ hs _ _=>hs)
  cM.o
  _ ?assign ?body ?done ?stop
 case assign=>
  intro l x W K Q
  unfold pJ
  gi_wp2
  exact Q
 case body=>
  rintro l b9 x W ⟨⟨O,aR,b8,b3,a1,ad,b6⟩,a2⟩ a3
  have O:W.ownsRow w.heap.size 2 1 (.slice (some (ar G 0)) C C) C (aA .i64 (mZ r c ys xs q (b9.map (·.1)) x.1 0)):=by rw [zo x.1 0];exact O
  obtain ⟨av,H2,H3,H4,H5,cj,be,ao⟩:=ak O aR b8 b3 a1 ad b6 a2;have d0:=aa a3;clear O aR b8 b3 a1 ad b6 a2 a3
  gi_wp2_with fail
  gi_loopw [26] (fun i wr=>∃j:Nat,j<=c/\i=MO j/\wr.ownsRow w.heap.size 2 1 (.slice (some (ar G 0)) C C) C (aA .i64 (mZ r c ys xs q (b9.map (·.1)) x.1 j))/\Keep (fun i=>i=G) W wr) (fun i _=>c-(intOf i).toNat)
  case atStart=>exact ⟨0,LS _,rfl,av.o,Keep.refl _ _⟩
  case round=>
   obtain ⟨j,hj,rfl,a7,Q⟩:=hrel
   by_cases a3:j<c
   ·have b0:x.1<ys.length:=by rw [cx.o];exact x.2
    have bn:j<xs.length:=by rw [co.o];exact a3
    have cY:=bf.o
    obtain ⟨b1,o1,cA,bb⟩:=HA.o.num b0
    obtain ⟨b2,o2,cl,b7⟩:=HB.o.num bn
    have l1:b1<w.heap.size:=az bb
    have l2:b2<w.heap.size:=az b7
    subst cA;subst cl
    have hk:∀b v,b≠G->∀o,W.cell? (ar b o)=some v->wr.cell? (ar b o)=some v:=fun b v hb o h=>Q.cell h hb
    have H:(fun J:World=>J.cell? (ar w.heap.size 0)=some (.slice (some (ar b1 o1)) r d)/\J.cell? (ar (w.heap.size+1) 0)=some (.slice (some (ar b2 o2)) c e)/\J.cell? (ar (w.heap.size+1+1) 0)=some (MO q)/\J.cell? (ar b1 (o1+x.1))=some (MO (nth ys x.1))/\J.cell? (ar b2 (o2+j))=some (MO (nth xs j))) wr.drew:=⟨hk _ _ ap _ (Boxed.cell H2.o),hk _ _ ap _ (Boxed.cell H3.o),hk _ _ ap _ (Boxed.cell H4.o),hk _ _ ap _ ((ao.o.cell (p:=(ar b1 (o1+x.1))) l1).trans bb),hk _ _ ap _ ((ao.o.cell (p:=(ar b2 (o2+j))) l2).trans b7)⟩
    have cP:(x.1:Int)<r:=by have:=x.2;omega
    have a4:x.1*c+j<C:=by rw [<-a9.o];have:=pM (c:=c) x.2;omega
    have c9:=fun J=>se (nth ys x.1) (nth xs j) q J (WY.o _ b0) (WX.o _ bn)
    obtain ⟨cr,cf,HK,bl⟩:=ag c9 a7 Q a4;clear c9 a7 Q hk a4 b0 bn bb b7
    gi_wp2_with fail
    refine lY (fun J:World=>J.cell? (ar w.heap.size 0)=some (.slice (some (ar b1 o1)) r d)/\J.cell? (ar (w.heap.size+1) 0)=some (.slice (some (ar b2 o2)) c e)/\J.cell? (ar (w.heap.size+1+1) 0)=some (MO q)/\J.cell? (ar b1 (o1+x.1))=some (MO (nth ys x.1))/\J.cell? (ar b2 (o2+j))=some (MO (nth xs j))) (by kernel_rfl) (by kernel_rfl) (by rintro ⟨_,_,h⟩;exact h) ?_
    refine wpAnyH_take (i:=0) (v:=?_) rfl (by kernel_rfl) (by kernel_rfl) (by kernel_rfl) (fun _ _ _ h=>h) (Or.inl ⟨by rfl,?_⟩) H ?_
    rotate_left
    ·intro w9 y;(try dsimp only at y);obtain ⟨s1,s2,Z,Y,s5⟩:=y;go_simp;(try with_reducible rfl)
    simp only [Mc,Md,Me,Act.put,Mf,Mg,Mh]
    refine wpAnyH_take (i:=1) (v:=?_) rfl (by kernel_rfl) (by kernel_rfl) (by kernel_rfl) (fun _ _ _ h=>h) (Or.inl ⟨by rfl,?_⟩) H ?_
    rotate_left
    ·intro w9 y;(try dsimp only at y);obtain ⟨s1,s2,Z,Y,s5⟩:=y;go_simp;(try with_reducible rfl)
    simp only [Mc,Md,Me,Act.put,Mf,Mg,Mh]
    refine wpAnyH_take (i:=2) (v:=?_) rfl (by kernel_rfl) (by kernel_rfl) (by kernel_rfl) (fun _ _ _ h=>h) (Or.inl ⟨by rfl,?_⟩) H ?_
    rotate_left
    ·intro w9 y;(try dsimp only at y);obtain ⟨s1,s2,Z,Y,s5⟩:=y;go_simp;(try with_reducible rfl)
    simp only [Mc,Md,Me,Act.put,Mf,Mg,Mh]
    refine wpAnyH_take (i:=3) (v:=?_) rfl (by kernel_rfl) (by kernel_rfl) (by kernel_rfl) (fun _ _ _ h=>h) (Or.inl ⟨by rfl,?_⟩) H ?_
    rotate_left
    ·intro w9 y;(try dsimp only at y);obtain ⟨s1,s2,Z,Y,s5⟩:=y;go_simp;(try with_reducible rfl)
    simp only [Mc,Md,Me,Act.put,Mf,Mg,Mh]
    refine wpAnyH_take (i:=4) (v:=?_) rfl (by kernel_rfl) (by kernel_rfl) (by kernel_rfl) (fun _ _ _ h=>h) (Or.inl ⟨by rfl,?_⟩) H ?_
    rotate_left
    ·intro w9 y;(try dsimp only at y);obtain ⟨s1,s2,Z,Y,s5⟩:=y;go_simp;(try with_reducible rfl)
    simp only [Mc,Md,Me,Act.put,Mf,Mg,Mh]
    refine wpAnyH_take (i:=5) (v:=?_) rfl (by kernel_rfl) (by kernel_rfl) (by kernel_rfl) (fun _ _ _ h=>h) (Or.inl ⟨by rfl,?_⟩) H ?_
    rotate_left
    ·intro w9 y;(try dsimp only at y);obtain ⟨s1,s2,Z,Y,s5⟩:=y;go_simp;(try with_reducible rfl)
    simp only [Mc,Md,Me,Act.put,Mf,Mg,Mh]
    refine wpAnyH_take (i:=6) (v:=?_) rfl (by kernel_rfl) (by kernel_rfl) (by kernel_rfl) (fun _ _ _ h=>h) (Or.inl ⟨by rfl,?_⟩) H ?_
    rotate_left
    ·intro w9 y;(try dsimp only at y);obtain ⟨s1,s2,Z,Y,s5⟩:=y;go_simp;(try with_reducible rfl)
    simp only [Mc,Md,Me,Act.put,Mf,Mg,Mh]
    refine wpAnyH_take (i:=7) (v:=?_) rfl (by kernel_rfl) (by kernel_rfl) (by kernel_rfl) (fun _ _ _ h=>h) (Or.inl ⟨by rfl,?_⟩) H ?_
    rotate_left
    ·intro w9 y;(try dsimp only at y);obtain ⟨s1,s2,Z,Y,s5⟩:=y;go_simp;(try with_reducible rfl)
    simp only [Mc,Md,Me,Act.put,Mf,Mg,Mh]
    refine wpAnyH_take (i:=8) (v:=?_) rfl (by kernel_rfl) (by kernel_rfl) (by kernel_rfl) (fun _ _ _ h=>h) (Or.inl ⟨by rfl,?_⟩) H ?_
    rotate_left
    ·intro w9 y;(try dsimp only at y);obtain ⟨s1,s2,Z,Y,s5⟩:=y;go_simp;(try with_reducible rfl)
    simp only [Mc,Md,Me,Act.put,Mf,Mg,Mh]
    refine wpAnyH_take (i:=9) (v:=?_) rfl (by kernel_rfl) (by kernel_rfl) (by kernel_rfl) (fun _ _ _ h=>h) (Or.inl ⟨by rfl,?_⟩) H ?_
    rotate_left
    ·intro w9 y;(try dsimp only at y);obtain ⟨s1,s2,Z,Y,s5⟩:=y;go_simp;(try with_reducible rfl)
    simp only [Mc,Md,Me,Act.put,Mf,Mg,Mh]
    refine wpAnyH_take (i:=10) (v:=?_) rfl (by kernel_rfl) (by kernel_rfl) (by kernel_rfl) (fun _ _ _ h=>h) (Or.inl ⟨by rfl,?_⟩) H ?_
    rotate_left
    ·intro w9 y;(try dsimp only at y);obtain ⟨s1,s2,Z,Y,s5⟩:=y;go_simp;(try with_reducible rfl)
    simp only [Mc,Md,Me,Act.put,Mf,Mg,Mh]
    refine wpAnyH_ready (rs:=[11]) (by kernel_rfl) (by simp) ?_
    refine AllReadyH.cons rfl (fun K Q=>?_) AllReadyH.nil
    simp only [Mc,Md,Me]
    go_simp
    refine (cr.o _).mono ?_
    rintro e w3 ⟨rfl,T⟩
    dsimp only
    have b5:(fun J:World=>J.cell? (ar w.heap.size 0)=some (.slice (some (ar b1 o1)) r d)/\J.cell? (ar (w.heap.size+1) 0)=some (.slice (some (ar b2 o2)) c e)/\J.cell? (ar (w.heap.size+1+1) 0)=some (MO q)/\J.cell? (ar b1 (o1+x.1))=some (MO (nth ys x.1))/\J.cell? (ar b2 (o2+j))=some (MO (nth xs j))) w3:=⟨aw T H.1,aw T H.2.1,aw T H.2.2.1,aw T H.2.2.2.1,aw T H.2.2.2.2⟩
    refine Q.out _ _ b5 (fun _=>?_)
    clear Q K H
    have H:=b5
    clear b5
    have I:=ay (w:=wr.drew) cf.o T
    have cy:∃u,w3.cell? (ar G (x.1*c+j))=some u:=⟨_,cE I bl.o⟩
    obtain ⟨u3,p3⟩:=cy
    have f3:=I.frozenAt (x.1*c+j)
    obtain ⟨bd,cv⟩:=ae I T;clear I T
    refine wpAnyH_take (i:=12) (v:=?_) rfl (by kernel_rfl) (by kernel_rfl) (by kernel_rfl) (fun _ _ _ h=>h) (Or.inl ⟨by rfl,?_⟩) H ?_
    rotate_left
    ·intro w9 y;(try dsimp only at y);obtain ⟨s1,s2,Z,Y,s5⟩:=y;go_simp;(try with_reducible rfl)
    simp only [Mc,Md,Me,Act.put,Mf,Mg,Mh]
    refine wpAnyH_ready (rs:=[13]) (by kernel_rfl) (by simp) ?_
    refine AllReadyH.cons rfl (fun K Q=>?_) AllReadyH.nil
    simp only [Mc,Md,Me]
    go_simp
    refine Q.out _ _ ?_ (fun _=>?_)
    ·obtain ⟨s1,s2,Z,Y,s5⟩:=H
     exact ⟨(World.cell?_setCell_far _ _ _ _ (show G≠w.heap.size by omega)).trans s1,(World.cell?_setCell_far _ _ _ _ (show G≠w.heap.size+1 by omega)).trans s2,(World.cell?_setCell_far _ _ _ _ (show G≠w.heap.size+1+1 by omega)).trans Z,(World.cell?_setCell_far _ _ _ _ (show G≠b1 by omega)).trans Y,(World.cell?_setCell_far _ _ _ _ (show G≠b2 by omega)).trans s5⟩
    refine wpAnyH_done (by kernel_rfl) ?_ _
    clear H p3 f3 Q K
    gi_wp2_with fail
    refine ⟨⟨j+1,by omega,by go_num,?_,?_⟩,by simp [intOf];omega⟩
    ·rw [<-Fy x.2 a3]
     exact dS bd.o _ _
    ·exact Keep.setCell (HK.o.drew.trans (Keep.below cv.o)) (ar G _) (.inr rfl) _
   ·obtain rfl:j=c:=ap
    gi_wp2_with fail
    have ci:=bf.o
    have bX:=cd.o
    have bG:=bv.o
    have bV:=HN.o
    have cc:Below w.heap.size W wr:=Q.toBelow ao.o.size (fun k hk=>ap)
    have bs:=(Q.block _ (LN be.o) ap).trans be.o
    refine ⟨(ma Q fun k o hk ho=>?_).from _,⟨cc,fun _=>bs.trans be.o.symm⟩,⟨⟨?_,?_,?_,?_,?_,?_,bs⟩,ao.o.trans cc⟩⟩
    ·subst hk
     exact tV av.o ho
    ·rw [List.map_append,List.map_singleton,<-Fz hc.1];exact a7
    ·exact (Q.block _ (LN H2.o) ap).trans H2.o
    ·exact (Q.block _ (LN H3.o) ap).trans H3.o
    ·exact (Q.block _ (LN H4.o) ap).trans H4.o
    ·exact (Q.block _ (LN H5.o) ap).trans H5.o
    ·exact (Q.block _ (LN cj.o) ap).trans cj.o
 case done=>
  rintro D zs W hD rfl ⟨⟨O,aR,b8,b3,a1,ad,b6⟩,a2⟩ Q
  obtain ⟨⟨n0,n1,n2⟩,nf⟩:=bx3 ad
  obtain ⟨⟨m0,m1,m2⟩,mf⟩:=bx3 a1
  gi_wp2
  have aG:(List.finRange r).map (·.1)=List.range r:=List.ext_getElem (by simp) (by simp)
  rw [aG,C7 hc.1] at O
  have h3:=sK (MO r) (MO c) (.slice (some (ar G 0)) C C) a1
  have k3:=pT (w:=W) (b:=w.heap.size+1+1+1) (MO r) (MO c) (.slice (some (ar G 0)) C C)
  have ci:=bf.o
  have bX:=cd.o
  have bG:=bv.o
  have bV:=HN.o
  simp only [Mb] at hD
  obtain ⟨W3,c8⟩:∃W3,W3=(((W.setCell (ar (w.heap.size+1+1+1) 0) (MO r)).setCell (ar (w.heap.size+1+1+1) 1) (MO c)).setCell (ar (w.heap.size+1+1+1) 2) (.slice (some (ar G 0)) C C)):=⟨_,rfl⟩
  rw [<-c8] at h3 k3 ⊢
  clear c8
  have bh:W3.heap[D]?=some (.deferred (some [])):=(k3.block D (LN Q) ap).trans Q
  refine ⟨by simp,.inl ⟨_,_,rfl,run_takeDeferred bh,?_⟩⟩
  have h4:(W3.putObj D (.deferred none)).heap[w.heap.size+1+1+1]?=some (.cells #[MO r,MO c,.slice (some (ar G 0)) C C] 354 (0,0)):=(World.putObj_heap_other ap).trans h3
  have I:=ownsRow_putObj (k3.own O (fun k hk e=>by simp [Value.ownBlock] at hk;omega)) (.deferred none) bh rfl
  have a5:aq w (W3.putObj D (.deferred none)):=(a2.trans (k3.toBelow a2.size (fun k hk=>ap))).trans (belowK_b (w:=w) (LO _) W3 D _ _ ap bh rfl rfl)
  obtain ⟨W4,bI⟩:∃W4,W4=W3.putObj D (.deferred none):=⟨_,rfl⟩
  rw [<-bI] at h4 I a5 ⊢
  clear bI ci bX bG bV aG
  obtain ⟨⟨q0,q1,q2⟩,qf⟩:=bx3 h4
  refine ⟨.agg #[MO r,MO c,.slice (some (ar G 0)) C C],by simp [results,results250,go_sem,q0,q1,q2],_,rfl,I,a5⟩
 case stop=>
  rintro D c b9 W _ _ h _
  exact h.elim
end Go.Proofs.YtgmajkppbhiopaaGreat
namespace Go.Proofs.YtgmajkppbhiopaaGreat
open Go.RowKit
open Tryz
theorem nS {P:Program} {w:World} {ops:Array Oper} {rest:List Oper} {o:Oper} {a:Act} {Q:Exit->Act->World->Prop} (p:o.guard=none) (d s:Operand) (y C:TypeId)
  (D:o.op=.call {callee:=.builtin .copy,args:=#[d,s],argTypes:=#[y,C]}) (elem:TypeId) (hu:P.underlying y=some (.slice elem)) (hsz:(P.info? elem).map (·.size)=some 1)
  (dp sp:Option Addr) (n dCap sCap:Nat) (hd:a.eval d=.slice dp n dCap) (hs:a.eval s=.slice sp n sCap)
  (g off:Nat) (cur:List Value) (t:TypeId) (hg:w.heap[g]?=some (.cells cur.toArray t (0,0))) (cs:List Value) (hn:cs.length=n) (hdp:0<n->dp=some (ar g off)) (hr:Rd w sp cs)
  (hfit:off+cs.length<=cur.length) (h1:∀v∈cs,v.oneCell'=true)
  (h:∀B,an (B.heap[g]?=some (.cells (splice cur off cs).toArray t (0,0)))->Keep (fun i=>i=g) w B->wpList P ops Q rest (a.put o.dst (goInt cs.length)) B):
  wpList P ops Q (o::rest) a w:=by
 by_cases I:cs.length=0
 ·obtain rfl:cs=[]:=List.eq_nil_of_length_eq_zero I
  refine wpList_copy_nothing p d s y C D elem hu hsz dp sp n dCap n sCap hd hs (by simp at hn;subst hn;rfl) ?_
  exact h w (show _=_ by simpa [splice] using hg) (Keep.refl _ _)
 ·obtain rfl:=hdp ap
  have J:∃A,sp=some A/\∀j v,cs[j]?=some v->w.cell? (A.add j)=some v:=by
   obtain ⟨b,O,u,_⟩:=hr 0 cs[0] (Mq ap)
   refine ⟨_,u,fun j v H=>?_⟩
   obtain ⟨L,N,e,hc⟩:=hr j v H
   rw [u] at e
   injection e with e
   injection e with e1 e2 _
   subst e1;subst e2
   rw [Addr.add_lit]
   exact hc
  obtain ⟨A,rfl,x⟩:=J
  refine wpList_copy_own p d s y C D elem hu hsz g off n dCap A n sCap hd hs cur.toArray t hg cs (by rw [hn];exact (Nat.min_self n).symm) x (by simpa using hfit) h1 ?_
  exact h _ (show _=_ by simpa [splice] using setRow_heap w g _ _ t _ hg) ⟨rfl,rfl,rfl,by simp [World.setRow],fun k hk hn=>setRow_other w g k _ hn⟩
theorem yt {P:Program} {w:World} {ops:Array Oper} {I:Array Value} {o:Oper} {a:Act} {K:Act->World->Prop} {Q:Exit->Act->World->Prop} {E:Prop} (d s:Operand) (y D:TypeId) (B:o.guard=none)
  (H:o.op=.call {callee:=.builtin .copy,args:=#[d,s],argTypes:=#[y,D]}) (elem:TypeId) (hu:P.underlying y=some (.slice elem)) (hsz:(P.info? elem).map (·.size)=some 1)
  (dp sp:Option Addr) (n dCap sCap:Nat) (hd:a.eval d=.slice dp n dCap) (hs:a.eval s=.slice sp n sCap)
  (g off:Nat) (cur:List Value) (t:TypeId) (hg:w.heap[g]?=some (.cells cur.toArray t (0,0))) (cs:List Value) (hn:cs.length=n) (hdp:0<n->dp=some (ar g off)) (hr:Rd w sp cs)
  (hfit:off+cs.length<=cur.length) (h1:∀v∈cs,v.oneCell'=true)
  (h:∀C,an (C.heap[g]?=some (.cells (splice cur off cs).toArray t (0,0)))->Keep (fun i=>i=g) w C->K (a.put o.dst (goInt cs.length)) C):
  if Region.wanted o (yielded ops I)=true then Oper.wp P o a w K Q else E:=by
 rw [if_pos (by simp [Region.wanted,B])]
 by_cases L:cs.length=0
 ·obtain rfl:cs=[]:=List.eq_nil_of_length_eq_zero L
  have p:=run_copy_none (P:=P) w y D o.type elem dp sp n dCap n sCap hu hsz (by simp at hn;subst hn;rfl)
  unfold Oper.wp
  simp [execOp,H,resolve,invoke,builtin,hd,hs,p,Result.andThen]
  exact h w (show _=_ by simpa [splice] using hg) (Keep.refl _ _)
 ·obtain rfl:=hdp ap
  have N:∃A,sp=some A/\∀j v,cs[j]?=some v->w.cell? (A.add j)=some v:=by
   obtain ⟨b,T,u,_⟩:=hr 0 cs[0] (Mq ap)
   refine ⟨_,u,fun j v J=>?_⟩
   obtain ⟨O,R,e,hc⟩:=hr j v J
   rw [u] at e
   injection e with e
   injection e with e1 e2 _
   subst e1;subst e2
   rw [Addr.add_lit]
   exact hc
  obtain ⟨A,rfl,x⟩:=N
  have p:=run_copy_row (P:=P) w y D o.type elem g off n dCap A n sCap cur.toArray t cs hu hsz hg (by rw [hn];exact (Nat.min_self n).symm) x (by simpa using hfit) h1
  unfold Oper.wp
  simp [execOp,H,resolve,invoke,builtin,hd,hs,p,Result.andThen]
  exact h _ (show _=_ by simpa [splice] using setRow_heap w g _ _ t _ hg) ⟨rfl,rfl,rfl,by simp [World.setRow],fun k hk hn=>setRow_other w g k _ hn⟩
theorem Fx {w:World} {base:Nat} {e:TypeId} {g n:Nat} {xs:List Value} (h:w.ownsRow base e 1 (.slice (some (ar g 0)) n n) n xs):w.heap[g]?=some (.cells xs.toArray e (0,0)):=by
 rcases h.2 with ⟨u,_⟩ | ⟨v,cap,i,o,_,hg,_,_,hs,p⟩
 ·cases u
 ·simp only [MC,Option.some.injEq,Addr.mk.injEq,and_true,true_and] at o
  obtain ⟨rfl,rfl⟩:=o
  rw [Nat.mul_one] at hs p
  have:i=xs.toArray:=by
   rw [<-p,List.take_of_length_le (by simp [hs])]
  rw [<-this]
  exact hg
theorem mb (q:IntKind) (a b:List Int) (h:Nat):splice (aA q a) h (aA q b)=aA q (splice a h b):=by
 unfold splice
 rw [de,bU,dm,<-cQ,<-cQ]
theorem ry {w:World} {g:Nat} {e:TypeId} {xs:List Value} (h:w.heap[g]?=some (.cells xs.toArray e (0,0))):Rd w (some (ar g 0)) xs:=fun k u i=>by
 refine ⟨g,0,rfl,?_⟩
 rw [MH,LQ w g k xs.toArray e (0,0) h]
 simpa using i
theorem Gt {w:World} {base:Nat} {e:TypeId} {g:Nat} {xs:List Value} (h:w.heap[g]?=some (.cells xs.toArray e (0,0))) (hb:base<=g) (hm:xs.length<=maxLen):w.ownsRow base e 1 (.slice (some (ar g 0)) xs.length xs.length) xs.length xs:=
 ⟨by simp,.inr ⟨g,xs.length,xs.toArray,rfl,hb,h,LO _,hm,by simp,by simp⟩⟩
theorem uV {o W D:List Int} {lo:Nat} (h:lo+W.length+D.length<=o.length):(splice (splice o lo W) (lo+W.length) D).drop lo=W++(D++o.drop (lo+W.length+D.length)):=by
 have p:splice o lo W=(o.take lo++W)++o.drop (lo+W.length):=by unfold splice;rw [Mu]
 have l1:(o.take lo++W).length=lo+W.length:=by rw [Mo,Mt];omega
 have u:(splice o lo W).take (lo+W.length)=o.take lo++W:=by rw [p,<-l1,List.take_left]
 have x:(splice o lo W).drop (lo+W.length+D.length)=o.drop (lo+W.length+D.length):=by
  rw [p,List.drop_append,l1,List.drop_of_length_le (by rw [l1];omega),List.nil_append,List.drop_drop]
  congr 1
  omega
 have v:splice (splice o lo W) (lo+W.length) D=o.take lo++(W++(D++o.drop (lo+W.length+D.length))):=by
  show (splice o lo W).take (lo+W.length)++(D++(splice o lo W).drop (lo+W.length+D.length))=_
  rw [u,x,Mu]
 have i:(o.take lo).length=lo:=by rw [Mt];omega
 rw [v]
 conv=>lhs;rw [<-i]
 rw [i,List.drop_append_of_le_length (by rw [i];exact LO _),List.drop_of_length_le (by rw [i];exact LO _),List.nil_append]
def Lr (sz ps:List Int) (q:Int) (x y:List Int) (G:Nat) (k:Nat) (D:Value) (h i w:World):Prop:=
 ∃A c o,D=.slice A (szN sz (k+1)) c/\w.ownsRow h.heap.size 2 1 (.slice A (szN sz (k+1)) c) (szN sz (k+1)) (aA .i64 (fM sz ps q x y (sz.length-2-k)))/\
  w.heap[G]?=some (.cells (aA .i64 o).toArray 2 (0,0))/\o.length=bQ sz (sz.length-1)/\o.drop (bQ sz (k+1))=oZ sz ps q x y (sz.length-2-k)/\(∀a,A=some a->a.block≠G)/\aq i w
theorem EI:cW prog 148 2:=⟨⟨_,underlying148,rfl⟩,by kernel_rfl⟩
theorem Jn (b:Nat) (sz ps:List Int) (q:Int) (A B:Option Addr) (x y:List Int) (c d:Nat) (w:World) (h:kJ 212 352 w b sz ps q) (hg:dH sz) (wp:W64 ps) (hA:Rd w A (aA .i64 x)) (hx:x.length=szN sz 0) (wx:W64 x) (hB:Rd w B (aA .i64 y)) (hy:y.length=szN sz (sz.length-1)):
  Calls prog 233 #[(au b),.slice A x.length c,.slice B y.length d] w fun e u=>∃A' c',e=.returned (.tuple #[.slice A' (bQ sz (sz.length-1)) c',.bool true])/\u.ownsRow w.heap.size 2 1 (.slice A' (bQ sz (sz.length-1)) c') (bQ sz (sz.length-1)) (aA .i64 (gS sz ps q x y))/\aq w u:=by
 have hm:=Jc b sz ps q A B x y c d w h hg wp hA hx wx hB hy
 have e7:=h.lt
 obtain ⟨S,Ap,cp,Al,cl,rows,h0,h1,h2,h3,h4,h5,h6⟩:=h
 have cb:=fun u (k:aq w u)=>jU S sz u (h1.below k)
 have cy:=fun u (k:aq w u)=>jT S sz u (h1.below k)
 have d3:=fun j u (k:aq w u)=>m9 S sz j u (h1.below k) (by have:=hg.1.1.2;omega)
 have d0:=fun j u (k:aq w u)=>nY S sz j u (h1.below k) (by have:=hg.1.1.2;omega)
 have es:=hg.2
 have d7:gS sz ps q x y=oZ sz ps q x y (sz.length-1):=rfl
 obtain ⟨n,hn⟩:∃n,sz.length-1=n:=⟨_,rfl⟩
 obtain ⟨N,hN⟩:∃N,bQ sz n=N:=⟨_,rfl⟩
 have f8:nc (di sz ps q x n) y=fM sz ps q x y 0:=by show _=nc _ _;rw [hn]
 rw [hn] at h0 cy d3 d0 h4 h6 cb es d7 hm hy ⊢
 rw [hN] at cb es ⊢
 rw [f8] at hm
 have i5:1<=n/\n<=15:=by have:=hg.1.1;omega
 obtain ⟨Hm,he,go,gT,hs,H0,H3,H4⟩:=ak hm cb cy d3 d0 h0 h3 h4;obtain ⟨H5,H6,HG,WP,Hx,WX,Hy,Hn⟩:=ak h5 h6 hg wp hx wx hy hn;obtain ⟨HN,gv⟩:=ae hN d7;clear hm cb cy d3 d0 h0 h1 h2 h3 h4 h5 h6 hg wp hA hx wx hB hy hn hN d7 f8
 go_enter func233,ntmps233
 go_wp2_with fail
 go_step3
 go_wp2_with fail
 refine Hm.o.mono ?_
 rintro e R ⟨A',c',D,dc,vals,rfl,hr,eb,hc,ho,hb⟩
 have bM:=(hb.block b e7).trans H0.o
 obtain ⟨⟨r0,r1,r2,r3⟩,rf⟩:=bx4 bM
 have g7:b<R.heap.size:=LN bM
 have aP:=hb.size
 obtain ⟨Hr,gf,Hc,Ho,Hb,f5⟩:=ai hr eb hc ho hb bM;clear hr eb hc ho hb bM
 go_wp2_with fail
 refine (he.o _ Hb.o).mono ?_
 rintro e u ⟨rfl,rfl⟩
 have e6:(8:Nat)*N<=281474976710656:=ap
 have hM:=aa e6;clear e6
 go_wp2_with (at_make;refine ti lE _ rfl (.tmp 31) (.tmp 31) rfl rfl N rfl rfl hM.o (by unfold maxLen;omega) ?_)
 intro w2 g6 d6
 have c6:=Fx g6
 rw [eZ] at c6
 have bN:=(d6.block b g7).trans f5.o
 clear r0 r1 r2 r3 rf
 obtain ⟨⟨r0,r1,r2,r3⟩,rf⟩:=bx4 bN
 have hV:=LN bN
 have i8:=LN c6
 obtain ⟨da,hI,i4⟩:=af d6 c6 bN;clear g6 d6 c6 bN
 have ct:(n:Int)-1=((n-1:Nat):Int):=ap
 have fn:IntKind.i64.wrap ((n:Int)-1)=((n-1:Nat):Int):=by rw [LT _ ap];omega
 rw [ct] at fn
 go_wp2_with fail
 go_step3
 go_wp2_with fail
 refine (go.o _ (Hb.o.trans (da.o.mono aP))).mono ?_
 rintro e u ⟨rfl,rfl⟩
 go_wp2_with fail
 clear fn ct r0 r1 r2 r3 rf
 go_loopw [9,12] (fun v i wr=>∃k:Nat,k<=n-1/\i=MO k/\Lr sz ps q x y R.heap.size k v w R wr) (fun _ i _=>(intOf i).toNat)
 case atStart=>
  have ec:sz.length-2-(n-1)=0:=by have:=Hn.o;omega
  have dk:n-1+1=n:=ap
  refine ⟨n-1,LO _,rfl,D,dc,List.replicate N 0,?_,?_,hI.o,?_,?_,?_,da.o⟩
  ·rw [dk,<-Hy.o]
  ·rw [ec,dk,<-Hy.o];exact ay Ho.o da.o
  ·rw [Hn.o,HN.o];simp
  ·rw [ec,dk,HN.o];simp [oZ]
  ·intro a ha e
   have:=(Ho.o.lt a.block (by rw [ha];rfl)).2
   omega
 case round=>
  obtain ⟨k,hk,rfl,A9,c9,o,rfl,ho,dT,b6,f6,f0,hW⟩:=hrel
  have cf:=(hW.block b g7).trans f5.o
  obtain ⟨⟨r0,r1,r2,r3⟩,rf⟩:=bx4 cf
  have f7:aq w wr:=Hb.o.trans (hW.mono aP)
  have gz:b<wr.heap.size:=LN cf
  obtain ⟨cL,hp,bw,hJ,ga,ew,HW,bb⟩:=ak cf ho dT b6 f6 f0 hW f7;clear cf ho dT b6 f6 f0 hW f7
  have fi:=gT.o k
  have b3:=hs.o k
  obtain ⟨hD,hL⟩:=ae fi b3;clear fi b3
  go_wp2_with fail
  go_cut [13,14] (fun v1 v2 wx=>∃M1 M2,v1=(au M1)/\v2=(au M2)/\wx.heap[M1]?=some (.cells #[MO (bQ sz k:Int),MO (dq sz k:Int)] 148 (0,0))/\wx.heap[M2]?=some (.cells #[MO (dq sz k:Int),MO (bQ sz (k+1):Int)] 148 (0,0))/\wr.heap.size<=M1/\wr.heap.size<=M2/\aq wr wx)
  case first=>
   have t0:∀u,aq wr u->u.cell? (ar b 0)=some ((au S)):=fun u k=>LQ u b 0 _ _ _ (sb cL.o u k)
   have tl:=sl cL.o
   have q:aq wr wr.drew:=(br wr).drew
   clear r0 r1 r2 r3 rf
   refine HA.g (fun u:World=>aq wr u) ?_
   refine HA.t ?_ [0,1,2,3,4,6,7,8,9,10] q ?_
   obtain ⟨U,hU⟩:∃U,wr.drew=U:=⟨_,rfl⟩
   rw [hU] at q ⊢
   clear hU
   repeat' first
    | (refine HA.three 5 12 13 ?_ ?_ ?_)
    | (refine HA.three 11 12 13 ?_ ?_ ?_)
    | (refine HA.two 5 12 ?_ ?_)
    | (refine HA.two 5 13 ?_ ?_)
    | (refine HA.two 11 12 ?_ ?_)
    | (refine HA.two 11 13 ?_ ?_)
    | (refine HA.two 12 13 ?_ ?_)
    | (refine HA.sole 5 ?_)
    | (refine HA.sole 11 ?_)
    | (refine HA.sole 12 ?_)
    | (refine HA.sole 13 ?_)
    | (refine HAS.c (i:=5) (hD.o U (bb.o.trans (q.mono bb.o.size)) ap) ?_;rintro e V ⟨rfl,kV⟩;(try replace gA:=sb gA _ kV);(try replace gB:=sb gB _ kV);replace q:=q.trans (kV.mono q.size);refine ⟨_,rfl,q,fun _=>?_⟩;clear kV;obtain ⟨U,rfl⟩:∃U,U=V:=⟨_,rfl⟩)
    | (refine HAS.c (i:=11) (hL.o U (bb.o.trans (q.mono bb.o.size)) ap) ?_;rintro e V ⟨rfl,kV⟩;(try replace gA:=sb gA _ kV);(try replace gB:=sb gB _ kV);replace q:=q.trans (kV.mono q.size);refine ⟨_,rfl,q,fun _=>?_⟩;clear kV;obtain ⟨U,rfl⟩:∃U,U=V:=⟨_,rfl⟩)
    | (have hA:=q.size;have bV:=(br U).alloc (LO _) (.cells #[MO 0,MO 0] 148);have gA:=LP U (.cells #[MO 0,MO 0] 148);(try have nB:=LN gB);(try replace gB:=sb gB _ bV);replace q:=q.alloc q.size (.cells #[MO 0,MO 0] 148);refine HAS.v (i:=12) (U.alloc (.cells #[MO 0,MO 0] 148)) ((au U.heap.size)) q ?_;obtain ⟨V,hv⟩:∃V,U.alloc (.cells #[MO 0,MO 0] 148)=V:=⟨_,rfl⟩;rw [hv] at gA q ⊢;(try rw [hv] at gB);clear hv bV;obtain ⟨mm,hm⟩:∃mm,U.heap.size=mm:=⟨_,rfl⟩;rw [hm] at gA hA ⊢;(try rw [hm] at nB);clear hm;obtain ⟨U,rfl⟩:∃U,U=V:=⟨_,rfl⟩)
    | (have hB:=q.size;have bV:=(br U).alloc (LO _) (.cells #[MO 0,MO 0] 148);have gB:=LP U (.cells #[MO 0,MO 0] 148);(try have nA:=LN gA);(try replace gA:=sb gA _ bV);replace q:=q.alloc q.size (.cells #[MO 0,MO 0] 148);refine HAS.v (i:=13) (U.alloc (.cells #[MO 0,MO 0] 148)) ((au U.heap.size)) q ?_;obtain ⟨V,hv⟩:∃V,U.alloc (.cells #[MO 0,MO 0] 148)=V:=⟨_,rfl⟩;rw [hv] at gB q ⊢;(try rw [hv] at gA);clear hv bV;obtain ⟨mm,hm⟩:∃mm,U.heap.size=mm:=⟨_,rfl⟩;rw [hm] at gB hB ⊢;(try rw [hm] at nA);clear hm;obtain ⟨U,rfl⟩:∃U,U=V:=⟨_,rfl⟩)
    | (refine HA.st 14 gA EI (fun w8 e8 k8=>?_);refine ⟨Il q k8 q.size hA,?_⟩;refine HA.st 15 ((k8.block _ (LN gB) ap).trans gB) EI (fun w9 e9 k9=>?_);have F:=IY (w:=wr) ap hA hB q e8 k8 e9 k9;refine ⟨F.2.2.2.2.2,HA.d ?_⟩;have HF:=aa F;clear F e8 k8 e9 k9 t0 tl gA gB q;go_wp2_with fail;go_meet;exact ⟨_,_,rfl,rfl,HF.o.1,HF.o.2.1,HF.o.2.2.2⟩)
  case rest=>
   obtain ⟨M1,M2,rfl,rfl,ao,bi,j2,ih,hB⟩:=hcut
   have hR:=HG.o.1
   have fc:=Hn.o
   have fb:k+1<sz.length:=ap
   have z0:=hR.at (k:=k) ap
   have z1:=hR.at fb
   have cs:=HG.o.mul fb
   have e5:1<=szN sz (k+1)*szN sz k:=Nat.mul_pos z1.1 z0.1
   have a2:dq sz k=bQ sz k+szN sz (k+1)*szN sz k:=rfl
   have Z:=ft sz k
   have a0:=fF sz (show k+1<=n by omega)
   have fs:=HN.o
   have cY:sz.length-2-k=n-1-k:=ap
   have a8:=kz (sz:=sz) (ps:=ps) (q:=q) (x:=x) (y:=y) Hx.o (n-1-k)
   rw [show sz.length-1-(n-1-k)=k+1 by omega] at a8
   have bs:=sy sz ps q x y (n-1-k)
   have a7:=eR (sz:=sz) (ps:=ps) (q:=q) Hx.o k
   have ci:=nW (sz:=sz) (ps:=ps) (q:=q) WX.o k
   obtain ⟨Ak,ck,bO,gk,c7⟩:=gf.o.2 k ap
   rw [a7] at bO
   obtain ⟨bo,oo,rfl,pv⟩:=Hr.o _ _ bO
   have hC:bo<R.heap.size:=az pv
   have bz:aq R wc:=HW.o.trans (hB.mono HW.o.size)
   have cO:=(bz.cell (p:=(ar bo (oo+k))) hC).trans pv
   have bn:=(hB.block b gz).trans cL.o
   have d9:=(hB.block R.heap.size (LN bw.o)).trans bw.o
   have ab:=ay hp.o hB
   rw [cY] at ab
   have bf:=c7.below bz
   obtain ⟨lo,cA⟩:∃lo,bQ sz k=lo:=⟨_,rfl⟩
   obtain ⟨r,hr⟩:∃r,szN sz (k+1)=r:=⟨_,rfl⟩
   obtain ⟨c0,b0⟩:∃c0,szN sz k=c0:=⟨_,rfl⟩
   obtain ⟨H,Y⟩:∃H,r*c0=H:=⟨_,rfl⟩
   rw [<-Z,a2] at bi
   rw [a2] at ao
   rw [<-Z,a2] at a0
   rw [cA,hr,b0,Y] at ao bi a0
   rw [hr] at a8 z1 ab
   rw [b0] at a7 z0 cO
   rw [hr,b0,Y] at e5 cs
   rw [hr]
   obtain ⟨ev,dv⟩:∃ev,fM sz ps q x y (n-1-k)=ev:=⟨_,rfl⟩
   obtain ⟨vv,cP⟩:∃vv,di sz ps q x k=vv:=⟨_,rfl⟩
   rw [dv] at a8 bs ab
   rw [cP] at a7 ci bf c7
   have gR:=aa c7
   have bG:=fun W (h:aq wc W)=>C5 r c0 A9 Ak ev vv c9 ck q W ⟨z1.1,z1.2.1⟩ ⟨z0.1,z0.2.1⟩ (by rw [Y];exact cs) ((Rd.own ab).below h) bs a8 (bf.below h) a7 ci
   rw [Y] at bG
   have cM:(lp r c0 ev vv q).length=H:=by rw [zn,Y]
   obtain ⟨ow,d5⟩:∃ow,lp r c0 ev vv q=ow:=⟨_,rfl⟩
   rw [d5] at bG cM
   obtain ⟨⟨m0,m1⟩,mf⟩:=bx2 ao
   obtain ⟨⟨n0,n1,n2,n3⟩,nf⟩:=bx4 bn
   have io:=LN ao
   have hG:R.heap.size<wc.heap.size:=LN d9
   have i0:b<wc.heap.size:=LN bn
   have hS:bo<wc.heap.size:=ap
   have cr:M1≠R.heap.size:=by have:=HW.o.size;have:=LN bw.o;omega
   have fa:M2≠R.heap.size:=by have:=HW.o.size;have:=LN bw.o;omega
   have b6:o.length=N:=by rw [hJ.o,fc,fs]
   have gX:lo+H+r<=N:=ap
   have hX:k<sz.length:=ap
   have j5:¬(N=lo):=ap
   have jA:lo+H<=N:=ap
   have j0:(lo:Int)+H<=N:=ap
   have j1:((lo:Int)+H).toNat=lo+H:=ap
   have k2:(0:Int)<=(lo:Int)+H:=ap
   have j7:(lo:Int)<=(lo:Int)+H:=ap
   obtain ⟨k3,bh,k0,gg,hf,hE,av,gG⟩:=ak ao bi bn d9 ab bG cM d5;obtain ⟨em,eG,eS,a6,Q,bA,h9,HB⟩:=ak dv cP cA hr b0 Y bz hB;obtain ⟨O,i7,gx,WV,a5,gO,h8,hY⟩:=ak b6 bf a7 ci a8 bs cY bO;clear ao bi bn d9 ab bG cM d5 dv cP cA hr b0 Y bz hB b6 bf a7 ci a8 bs cY bO gk c7 pv a2 Z a0 fs fc n0 n1 n3 nf mf
   go_wp2_with fail
   have C:(fun u:World=>u.cell? (ar M1 0)=some (MO lo)/\u.cell? (ar M1 1)=some (MO ((lo:Int)+H))/\u.cell? (ar bo (oo+k))=some (.slice Ak c0 ck)/\u.cell? (ar b 2)=some (MO q)) wc.drew:=⟨m0,m1,cO,n2⟩
   refine HA.g (fun u:World=>u.cell? (ar M1 0)=some (MO lo)/\u.cell? (ar M1 1)=some (MO ((lo:Int)+H))/\u.cell? (ar bo (oo+k))=some (.slice Ak c0 ck)/\u.cell? (ar b 2)=some (MO q)) ?_
   refine HA.t ?_ [0,1,2,3,4,5,6,7,8,9,10,11,12,13,14] C ?_
   refine HA.o 15 (fun K hK=>?_)
   go_simp
   refine (hE.o _ ((LR wc.heap.size wc).drew)).mono ?_
   rintro e w5 ⟨A5,rfl,b9,a9⟩
   have eo:=LW (aw a9 C.1) (LW (aw a9 C.2.1) (LW (aw a9 C.2.2.1) (aw a9 C.2.2.2)))
   have aG:aq wc w5:=(LR wc.heap.size wc).drew.trans a9
   have f2:=(aG.block _ hG).trans gg.o
   have b9:=Rd.own b9
   obtain ⟨g9,gZ,ad⟩:=af f2 b9 aG;clear f2 b9 a9 aG C
   dsimp only
   refine hK.out _ _ eo (fun C=>?_)
   clear hK K eo
   refine HA.o 16 (fun K hK=>?_)
   go_simp
   refine hK.out _ _ C (fun C=>?_)
   clear hK K
   refine HA.o 17 (fun K hK=>?_)
   refine yt (.tmp 58) (.tmp 69) 139 139 rfl rfl 2 underlying139 (by kernel_rfl) (some (ar R.heap.size lo)) A5 H (N-lo) H rfl rfl R.heap.size lo (aA .i64 o) 2 g9.o (aA .i64 ow) (by rw [bU,av.o]) (fun _=>rfl) gZ.o (by rw [bU,bU,av.o,O.o];omega) (cG _ _) ?_
   intro w6 dw T
   rw [mb] at dw
   have eX:=LW (T.cell C.1 (by exact cr)) (LW (T.cell C.2.1 (by exact cr)) (LW (T.cell C.2.2.1 (show bo≠_ by omega)) (T.cell C.2.2.2 (show b≠_ by omega))))
   have a3:=(T.block M2 (LN ((ad.o.block _ (LN bh.o)).trans bh.o)) fa).trans ((ad.o.block _ (LN bh.o)).trans bh.o)
   obtain ⟨gN,d2⟩:=ae dw T;clear dw T C
   dsimp only
   refine hK.out _ _ eX (fun C=>?_)
   clear hK K eX
   refine HA.d ?_
   have eM:w6.ownsRow w.heap.size 2 1 (.slice A9 r c9) r (aA .i64 ev):=d2.o.own (ay hf.o ad.o) (fun i hi e=>by
    cases A9 with
    | none=>cases hi
    | some a=>simp [Value.ownBlock] at hi;exact ew.o a rfl (hi.trans e))
   have dG:=C.2.2.2
   have ef:=C.2.2.1
   obtain ⟨⟨hu,gb⟩,hF⟩:=bx2 a3
   have hT:=LN a3
   obtain ⟨fr,hQ⟩:=ae eM a3;clear eM a3 C m0 m1 cO n2
   have i6:¬(N=lo+H):=ap
   have i3:lo+H+r<=N:=ap
   have il:(lo:Int)+H+r<=N:=ap
   have ia:((lo:Int)+H+r).toNat=lo+H+r:=ap
   have k1:(0:Int)<=(lo:Int)+H+r:=ap
   have jj:(lo:Int)+H<=(lo:Int)+H+r:=ap
   have gp:=aa (show (aA .i64 ev).length=r by rw [bU,a5.o])
   obtain ⟨gc,gy⟩:=ae (show lo+H+(aA .i64 ev).length<=(aA .i64 (splice o lo ow)).length by rw [bU,bU,a5.o,length_splice _ _ _ (by rw [av.o,O.o];omega),O.o];omega) (show (prog.info? 2).map (·.size)=some 1 by kernel_rfl)
   go_wp2_with (refine nS rfl (.tmp 76) (.tmp 77) 139 139 rfl 2 underlying139 gy.o (some (ar R.heap.size (lo+H))) A9 r (N-(lo+H)) c9 rfl rfl R.heap.size (lo+H) (aA .i64 (splice o lo ow)) 2 gN.o (aA .i64 ev) gp.o (fun _=>rfl) (Rd.own fr.o) gc.o (cG _ _) ?_)
   intro w7 bI b8
   rw [mb] at bI
   obtain ⟨o7,bX⟩:∃o7,splice (splice o lo ow) (lo+H) ev=o7:=⟨_,rfl⟩
   have f9:o7.length=N:=by
    have h1:(splice o lo ow).length=N:=by rw [length_splice _ _ _ (by rw [av.o,O.o];omega),O.o]
    rw [<-bX,length_splice _ _ _ (by rw [h1,a5.o];omega),h1]
   have ej:o7.drop (bQ sz k)=oZ sz ps q x y (n-k):=by
    have e1:=Hn.o
    have e2:=uV (o:=o) (W:=ow) (D:=ev) (lo:=lo) (by rw [av.o,a5.o,O.o];exact gX)
    rw [av.o,a5.o,bX] at e2
    rw [eS.o,e2,show n-k=(n-1-k)+1 by omega]
    have e3:bQ sz (k+1)=lo+H+r:=by
     rw [<-ft sz k,show dq sz k=bQ sz k+szN sz (k+1)*szN sz k from rfl,eS.o,a6.o,Q.o,bA.o]
    have e4:=ga.o
    rw [e3,h8.o] at e4
    rw [oZ,show sz.length-1-(n-1-k)=k+1 by omega,show sz.length-2-(n-1-k)=k by omega,a6.o,Q.o,em.o,eG.o,gG.o,<-e4]
   have co:aq R w7:=h9.o.trans (((ad.o.mono ap).trans (d2.o.toBelow (by have:=ad.o.size;omega) (fun i hi=>ap))).trans (b8.toBelow (by have:=d2.o.size;have:=ad.o.size;omega) (fun i hi=>ap)))
   rw [bX] at bI
   have fe:=b8.own fr.o (fun i hi e=>by
    cases A9 with
    | none=>cases hi
    | some a=>simp [Value.ownBlock] at hi;exact ew.o a rfl (hi.trans e))
   have gU:=b8.cell dG (show b≠_ by omega)
   have f4:=b8.cell ef (show bo≠_ by omega)
   obtain ⟨cx,ds,eu,a1,gI⟩:=ah bI f9 ej co fe;clear bI f9 ej co fe bX b8 dG ef hu gb hF
   by_cases dp:k=0
   ·have cw:((k:Int)==0)=true:=by simp [dp]
    have cn:w7.ownsRow w.heap.size 2 1 (.slice (some (ar R.heap.size 0)) N N) N (aA .i64 (gS sz ps q x y)):=by
     have e1:=eu.o
     rw [dp] at e1
     have e2:o7=gS sz ps q x y:=by rw [gv.o,<-Nat.sub_zero n,<-e1];rfl
     have e3:=Gt (base:=w.heap.size) (xs:=aA .i64 o7) (by exact cx.o) aP (by rw [bU,ds.o];unfold maxLen;omega)
     rw [bU,ds.o] at e3
     rw [<-e2];exact e3
    have eV:=aa cn;clear cn dp
    have L:=Hb.o.trans (a1.o.mono aP)
    have eB:=aa L;clear L
    go_wp2_with fail
    try rw [Exit.noGoto_ret]
    go_ret2
    exact ⟨_,_,rfl,eV.o,eB.o⟩
   ·have cw:((k:Int)==0)=false:=by simp;omega
    obtain ⟨gl,ol,dl,Bl,el,hcs,hd,eL,hrb⟩:=H6.o k ap
    have b5:k<rows.length:=by rw [H4.o];omega
    have cd:∀t,t<4->(List.flatten rows)[k*4+t]?=(cq rows k)[t]?:=fun t ht=>mt H5.o k t b5 ht
    have e0:=cd 0 ap;have e1:=cd 1 ap;have e2:=cd 2 ap
    rw [hcs] at e0 e1 e2
    simp only [Nat.add_zero,Mk,Mj] at e0 e1 e2
    obtain ⟨bl,ob,gd,q0⟩:=H3.o _ _ e0
    obtain ⟨_,_,b2,q1⟩:=H3.o _ _ e1
    obtain ⟨_,_,b4,q2⟩:=H3.o _ _ e2
    subst gd
    injection b2 with b2;injection b2 with i1 i2 _;subst i1;subst i2
    injection b4 with b4;injection b4 with i1 i2 _;subst i1;subst i2
    have d1:bl<w.heap.size:=az q0
    have L:=Hb.o.trans (a1.o.mono aP)
    have dn:=(L.cell (p:=(ar bl (ob+k*4))) d1).trans q0
    have bd:=(L.cell (p:=⟨bl,ob+(k*4+1),none⟩) d1).trans q1
    have cc:=(L.cell (p:=⟨bl,ob+(k*4+2),none⟩) d1).trans q2
    rw [<-MG] at bd cc
    rw [a6.o] at dn
    rw [Q.o] at bd
    rw [a6.o,Q.o,bA.o] at cc hd
    have ee:=(L.block b e7).trans H0.o
    obtain ⟨⟨n0,n1,n2,n3⟩,nf⟩:=bx4 ee
    have aR:=yj sz ps k
    rw [a6.o,Q.o,bA.o] at aR
    have b3:=Dt r c0 gl ol H dl (wL sz ps k) A9 ev c9 q w7.drew ⟨z1.1,z1.2.1⟩ ⟨z0.1,z0.2.1⟩ bA.o.symm hd ap aR ((eL.below L).drewN 1) (D6 WP.o sz k) ((Rd.own gI.o).drewN 1) a5.o gO.o
    have i9:k<n:=ap
    obtain ⟨hz,eB⟩:=ae b3 L;clear b3 L ee aR eL hrb hcs e0 e1 e2 q0 q1 q2 cd b5 hd
    go_wp2_with fail
    go_region_held3 (fun u=>u.cell? (ar b 3)=some (.slice (some (ar bl ob)) n cl)/\u.cell? (ar bl (ob+k*4))=some (MO r)/\u.cell? (ar bl (ob+k*4+1))=some (MO c0)/\u.cell? (ar bl (ob+k*4+2))=some (.slice (some (ar gl ol)) H dl)/\u.cell? (ar b 2)=some (MO q)) (simp [go_sem, *])
     ((go_at_call 251;refine hz.o.mono ?_;rintro e w8 ⟨A8,c8,rfl,a4,J⟩;have g0:=aw J n3;have g1:=aw J dn;have g2:=aw J bd;have g3:=aw J cc;have g4:=aw J n2;have g5:=aw J f4;obtain ⟨hq,gV⟩:=ae a4 J;clear a4 J))
    go_wp2_with fail
    have aM:=pV (wL sz ps k) r c0 ev q
    obtain ⟨bk,b1⟩:∃bk,ng (wL sz ps k) r c0 ev q=bk:=⟨_,rfl⟩
    have a4:=aE (base':=w7.heap.size) hq.o (by simp)
    rw [b1] at aM a4
    obtain ⟨cv,fd,eY⟩:=af aM a4 b1
    have J:=(LR w7.heap.size w7).drew.trans gV.o
    have h7:=aa J;clear aM a4 b1 J g0 g1 g2 g3 g4 g5 n0 n1 n2 n3 nf f4 dn bd cc gU cw
    go_loopw [103] (fun i wx=>∃j:Nat,j<=c0/\i=MO j/\wx.ownsRow w7.heap.size 2 1 (.slice A8 c0 c8) c0 (aA .i64 (jZ bk j (fun i=>if 0<nth vv i then nth bk i else 0)))/\aq w7 wx) (fun i _=>c0-(intOf i).toNat)
    case atStart=>exact ⟨0,LS _,rfl,by rw [ii];exact fd.o,h7.o⟩
    case round=>
     obtain ⟨j,hj,rfl,I,b7⟩:=hrel
     by_cases d4:j<c0
     ·obtain ⟨g8,d8,ea,gJ,_⟩:=I.form ap
      simp only [MC] at ea
      obtain ⟨rfl,gm,rfl⟩:=ea
      clear gm
      have dr:j<bk.length:=by rw [cv.o];exact d4
      have p1:=cE I d4
      rw [fV _ dr,if_neg ap] at p1
      have f1:=I.frozenAt j
      have f3:=jf (l:=bk) (k:=j) (fun i=>if 0<nth vv i then nth bk i else 0) dr
      obtain ⟨bv,ov,rfl,id⟩:=((gR.o.below a1.o).below b7).num (show j<vv.length by rw [gx.o];exact d4)
      obtain ⟨HO,be,gs⟩:=af I b7 f3;clear I b7 f3 dr
      go_wp2_with fail
      refine (Gs _ _ _).mono ?_
      rintro e w9 ⟨rfl,rfl⟩
      go_wp2_with fail
      go_roundw
      case rel=>exact ⟨j+1,by omega,by go_num,by rw [<-gs.o];exact dS HO.o j _,be.o.setCell (p:=(ar g8 j)) gJ _⟩
      case measure=>simp [intOf];omega
     ·obtain rfl:j=c0:=ap
      obtain ⟨HO,be⟩:=ae I b7;clear I b7
      have ei:IntKind.i64.wrap ((k:Int)-1)=((k-1:Nat):Int):=by rw [LT _ ap];omega
      have cj:(k:Int)-1=((k-1:Nat):Int):=ap
      rw [cj] at ei
      go_wp2_with fail
      clear ei cj
      go_roundw
      case rel=>
       have ek:k-1+1=k:=ap
       have en:=Hn.o
       have hh:R.heap.size<w7.heap.size:=LN cx.o
       have hO:fM sz ps q x y (sz.length-2-(k-1))=jZ bk j (fun i=>if 0<nth vv i then nth bk i else 0):=by
        rw [show sz.length-2-(k-1)=(n-1-k)+1 by omega,fM,show sz.length-2-(n-1-k)=k by omega,show sz.length-1-(n-1-k)=k+1 by omega,em.o,eG.o,a6.o,Q.o,eY.o]
        rw [<-cv.o,jg]
        rfl
       refine ⟨k-1,by omega,rfl,A8,c8,o7,?_,?_,?_,?_,?_,?_,?_⟩
       ·rw [ek,Q.o]
       ·rw [ek,Q.o,hO];exact aE HO.o ap
       ·exact (be.o.block _ hh).trans cx.o
       ·rw [ds.o,en,HN.o]
       ·rw [ek,eu.o,show sz.length-2-(k-1)=n-k by omega]
       ·intro a ha e9
        have:=(HO.o.lt a.block (by rw [ha];rfl)).1
        omega
       ·exact a1.o.trans (be.o.mono ap)
      case measure=>simp [intOf];omega
theorem GK:dt prog 350 358 (.agg #[.int .i64 0,.int .i64 0,.slice none 0 0,.slice none 0 0]) 4 64:=⟨underlying350,info_parts (by kernel_rfl),rfl,by decide⟩
theorem wQ {w:World} {base n g c:Nat} {xs:List Int} {e:TypeId} (h:w.ownsRow base e 1 (.slice (some ⟨g,0,none⟩) n c) n (aA .i64 xs)) {k:Nat} (hk:k<n):w.cell? ⟨g,k,none⟩=some (.int .i64 (nth xs k)):=cE h hk
def LI (sz ps:List Int) (q:Int) (S h cp b o:Nat) (u:Option Addr) (v:Nat) (k:Nat) (x w:World):Prop:=
 ∃p i rows,w.heap[b]?=some (.cells #[.pointer (some ⟨S,0,none⟩),.slice (some ⟨h,0,none⟩) ps.length cp,.int .i64 q,.slice p k i] 352 (0,0))/\
  w.ownsRow b 358 4 (.slice p k i) k (List.flatten rows)/\rows.length=k/\(∀r∈rows,r.length=4)/\
  w.ownsRow o 2 1 (.slice (some ⟨h,0,none⟩) ps.length cp) ps.length (aA .i64 ps)/\
  (∀j,j<k->∃g d,cq rows j=[.int .i64 (szN sz (j+1):Int),.int .i64 (szN sz j:Int),.slice (some ⟨g,0,none⟩) (szN sz (j+1)*szN sz j) d,.slice (some ⟨h,dq sz j,none⟩) (szN sz (j+1)) (cp-dq sz j)]/\
   szN sz (j+1)*szN sz j<=d/\w.ownsRow o 2 1 (.slice (some ⟨g,0,none⟩) (szN sz (j+1)*szN sz j) d) (szN sz (j+1)*szN sz j) (aA .i64 (wL sz ps j)))/\
  w.ownsRow b 3 1 (.slice u sz.length v) sz.length (aA .i64 sz)/\Below b x w
def KO (w:World) (base b:Nat) (ps:List Int):Prop:=∃s h cp q l,w.heap[b]?=some (.cells #[s,.slice h ps.length cp,q,l] 352 (0,0))/\w.ownsRow base 2 1 (.slice h ps.length cp) ps.length (aA .i64 ps)/\base<=b
def sQ (w:World) (base b S:Nat) (sz ps:List Int) (q:Int):Prop:=∃g cp i h rows,
 w.heap[b]?=some (.cells #[.pointer (some ⟨S,0,none⟩),.slice (some ⟨g,0,none⟩) ps.length cp,.int .i64 q,.slice i (sz.length-1) h] 352 (0,0))/\base<=b/\
  w.ownsRow base 2 1 (.slice (some ⟨g,0,none⟩) ps.length cp) ps.length (aA .i64 ps)/\w.ownsRow base 358 4 (.slice i (sz.length-1) h) (sz.length-1) (List.flatten rows)/\rows.length=sz.length-1/\(∀r∈rows,r.length=4)/\
  ∀j,j<sz.length-1->∃o d,cq rows j=[.int .i64 (szN sz (j+1):Int),.int .i64 (szN sz j:Int),.slice (some ⟨o,0,none⟩) (szN sz (j+1)*szN sz j) d,.slice (some ⟨g,dq sz j,none⟩) (szN sz (j+1)) (cp-dq sz j)]/\
   szN sz (j+1)*szN sz j<=d/\w.ownsRow base 2 1 (.slice (some ⟨o,0,none⟩) (szN sz (j+1)*szN sz j) d) (szN sz (j+1)*szN sz j) (aA .i64 (wL sz ps j))
theorem sQ.keep {w u:World} {base b y:Nat} {sz ps:List Int} {q:Int} (h:sQ w base b y sz ps q) {S:Nat->Prop} (k:Keep S w u) (p:∀j,S j->j<base):sQ u base b y sz ps q:=by
 obtain ⟨g,cp,J,O,rows,A,h1,x,B,I,L,Q⟩:=h
 have D:∀{e' size n m:Nat} {v:Value} {xs:List Value},w.ownsRow base e' size v n xs->u.ownsRow base e' size v n xs:=fun hr=>k.own hr (fun i o hs=>by have:=p i hs;have:=(hr.lt i o).1;omega)
 exact ⟨g,cp,J,O,rows,(k.block b (LN A) (fun hs=>by have:=p b hs;omega)).trans A,h1,k.own x (fun i o hs=>by have:=p i hs;have:=(x.lt i o).1;omega),k.own B (fun i o hs=>by have:=p i hs;have:=(B.lt i o).1;omega),I,L,fun j T=>by
  obtain ⟨H,d,R,N,C⟩:=Q j T
  exact ⟨H,d,R,N,k.own C (fun i o hs=>by have:=p i hs;have:=(C.lt i o).1;omega)⟩⟩
theorem sQ.below {w i:World} {base b o:Nat} {sz ps:List Int} {q:Int} (h:sQ w base b o sz ps q) (hb:aq w i):sQ i base b o sz ps q:=h.keep (S:=fun _=>False) (Keep.below hb) (fun _ h=>h.elim)
theorem sQ.at {w:World} {base b S:Nat} {sz ps:List Int} {q:Int} (h:sQ w base b S sz ps q) (R:cF 212 w S sz) (hg:dH sz) (hl:ps.length=bQ sz (sz.length-1)):kJ 212 352 w b sz ps q:=by
 obtain ⟨g,cp,H,N,rows,C,h1,A,J,D,I,O⟩:=h
 refine ⟨S,some ⟨g,0,none⟩,cp,H,N,rows,C,R,Rd.own A,Rd.own J,D,I,fun j Q=>?_⟩
 obtain ⟨B,T,o,u,p⟩:=O j Q
 have v:=LU (fF sz (show j+1<=sz.length-1 by omega)) (Nat.le_of_eq hl.symm)
 have y:=ft sz j
 have x:bL sz ps j=(ps.drop (dq sz j)).take (szN sz (j+1)):=(fv (by rw [Mt,Mw];omega) fun i L=>by rw [ff L,fg]).symm
 refine ⟨B,0,T,some ⟨g,dq sz j,none⟩,cp-dq sz j,o,u,Rd.own p,?_⟩
 have:=((Rd.own A).drop (dq sz j)).take (szN sz (j+1))
 rwa [MH,dm,de,<-x] at this
theorem wY (S:Nat) (sz ps:List Int) (A:Option Addr) (c:Nat) (q:Int) (w:World) (hS:cF 212 w S sz) (hg:dH sz) (hq:0<=q/\q<=62) (hl:ps.length=bQ sz (sz.length-1)) (hA:Rd w A (aA .i64 ps)):
  Calls prog 230 #[.pointer (some ⟨S,0,none⟩),.slice A ps.length c,.int .i64 q] w fun e C=>∃b,e=.returned (.tuple #[.pointer (some ⟨b,0,none⟩),.bool true])/\kJ 212 352 C b sz ps q/\KO C w.heap.size b ps/\sQ C w.heap.size b S sz ps q/\aq w C:=by
 obtain ⟨q1,q2⟩:=hq
 have hc:=jU S sz w hS
 have cd:=fw A ps c w hA (by have:=hg.2;omega)
 have cr:=fun C (k:aq w C)=>lU S sz C (hS.below k) (by have:=hg.1.1.2;omega)
 have bs:=fun C (k:aq w C)=>jT S sz C (hS.below k)
 have c9:=fun j C (k:aq w C)=>m9 S sz j C (hS.below k) (by have:=hg.1.1.2;omega)
 have bl:=fun j C (k:aq w C)=>nY S sz j C (hS.below k) (by have:=hg.1.1.2;omega)
 rw [<-hl] at hc
 obtain ⟨n,hn⟩:∃n,sz.length-1=n:=⟨_,rfl⟩
 obtain ⟨N,hN⟩:∃N,ps.length=N:=⟨_,rfl⟩
 rw [hn] at bs c9 bl hl
 rw [hN] at hc cd hl ⊢
 have Z:1<=n/\n<=15:=by have:=hg.1.1;omega
 have fc:N<=1048576:=by have:=hg.2;rw [hn] at this;omega
 obtain ⟨Hc,eL,e8,eG,eb,eV,HG,Hn⟩:=ak hc cd cr bs c9 bl hg hn;obtain ⟨HN,HS,g8,Hl⟩:=ag hN hS hA hl;clear hc cd cr bs c9 bl hg hn hN hS hA hl
 go_enter func230,ntmps230
 go_wp2_with fail
 refine Hc.o.mono ?_
 rintro e C ⟨rfl,rfl⟩
 go_wp2_with fail
 refine eL.o.mono ?_
 rintro e I ⟨A',cp,rfl,cf,be,hb⟩
 obtain ⟨bh,Hb,eB⟩:=af be hb cf;clear be hb cf
 go_wp2_with fail
 refine (e8.o _ ?_).mono ?_
 ·have hb:=Hb.o
  have f4:=hb.size
  exact am
 rintro e w2 ⟨As,cs,rfl,d2,a1⟩
 obtain ⟨ek,dp⟩:=ae d2 a1;clear d2 a1
 go_wp2_with fail
 refine (eG.o _ ?_).mono ?_
 ·have hb:=Hb.o
  have a1:=dp.o
  exact hb.trans ((((LR _ I).alloc (LO _) _).trans (a1.mono (by simp))).mono hb.size)
 rintro e C ⟨rfl,rfl⟩
 go_wp2_with fail
 have ei:1<=N:=by
  have h0:=Hl.o
  have h1:=(HG.o.1.at (k:=1) (by have:=HG.o.1.1;omega)).1
  have h2:=fF sz (show 1<=n by omega)
  have h3:dq sz 0+szN sz 1=bQ sz 1:=ft sz 0
  omega
 obtain ⟨gp,g3,d3,fs,_⟩:=bh.o.form ap
 simp only [MC] at d3
 obtain ⟨rfl,ea,rfl⟩:=d3
 clear ea
 go_loopw [42] (fun i wr=>∃k:Nat,k<=n/\i=.int .i64 k/\LI sz ps q S gp cp I.heap.size w.heap.size As cs k I wr) (fun i _=>n-(intOf i).toNat)
 case atStart=>
  have a1:=dp.o
  have hk:aq I w2:=((LR _ I).alloc (LO _) _).trans (a1.mono (by simp))
  have el:=(a1.block I.heap.size (by simp)).trans (LP I _)
  refine ⟨0,LS _,rfl,none,0,[],?_,LZ _ _ _ _,rfl,by simp,?_,fun j hj=>ap,aE ek.o (by simp),hk⟩
  ·rw [HN.o];exact el
  ·rw [HN.o];exact ay bh.o hk
 case round=>
  obtain ⟨k,hk,rfl,Al,cl,rows,av,cA,ct,cj,c8,bd,cw,hW⟩:=hrel
  rw [HN.o] at av c8
  obtain ⟨⟨x0,x1,x2,x3⟩,xf⟩:=bx4 av
  have em:=LN av
  have da:aq w wr:=Hb.o.trans (hW.mono Hb.o.size)
  obtain ⟨ab,bN,aG,bn,a9,ao,b6,HW⟩:=ak av cA ct cj c8 bd cw hW;have ad:=aa da;clear av cA ct cj c8 bd cw hW da
  by_cases fa:k<n
  ·have hR:=HG.o.1
   have b5:k+1<sz.length:=by have:=Hn.o;have:=hR.1;omega
   have z0:=hR.at (k:=k) ap
   have z1:=hR.at b5
   have dk:=HG.o.mul b5
   have cL:1<=szN sz (k+1)*szN sz k:=Nat.mul_pos z1.1 z0.1
   have T:dq sz k=bQ sz k+szN sz (k+1)*szN sz k:=rfl
   have L:=ft sz k
   have a0:=LU (fF sz (show k+1<=n by omega)) (Nat.le_of_eq Hl.o.symm)
   have a5:=eb.o k
   have a6:=eV.o k
   have bV:wL sz ps k=(ps.drop (bQ sz k)).take (szN sz (k+1)*szN sz k):=(fv (by rw [Mt,Mw];have:=HN.o;omega) fun i hi=>by rw [ff hi,fg]).symm
   have a7:bL sz ps k=(ps.drop (dq sz k)).take (szN sz (k+1)):=(fv (by rw [Mt,Mw];have:=HN.o;omega) fun i hi=>by rw [ff hi,fg]).symm
   obtain ⟨g5,c5,cY,gd,_⟩:=b6.o.form ap
   simp only [MC] at cY
   obtain ⟨rfl,ec,rfl⟩:=cY
   clear ec
   have p0:=wQ b6.o (show k<sz.length by omega)
   have p1:=wQ b6.o b5
   rw [z0.2.2] at p0
   rw [z1.2.2] at p1
   rw [T,<-L,T] at a6
   rw [T] at a5 a7
   have b7:=Rd.own a9.o
   obtain ⟨lo,b2⟩:∃lo,bQ sz k=lo:=⟨_,rfl⟩
   obtain ⟨r,hr⟩:∃r,szN sz (k+1)=r:=⟨_,rfl⟩
   obtain ⟨c0,a2⟩:∃c0,szN sz k=c0:=⟨_,rfl⟩
   obtain ⟨B,Z⟩:∃B,r*c0=B:=⟨_,rfl⟩
   rw [<-L,T] at a0
   rw [b2,hr,a2,Z] at a6 a5 a0
   rw [hr,a2,Z] at cL dk
   rw [hr] at p1 z1
   rw [a2] at p0 z0
   rw [b2,hr,a2,Z] at bV a7
   have d7:Rd wr (some ⟨gp,lo,none⟩) (aA .i64 (wL sz ps k)):=by
    have:=(b7.drop lo).take B
    rwa [MH,dm,de,<-bV] at this
   have bX:(wL sz ps k).length=B:=by rw [yj,hr,a2,Z]
   have bO:=fun W (h:aq wr W)=>Kf r c0 (some ⟨gp,lo,none⟩) (wL sz ps k) (cp-lo) W ⟨z1.1,z1.2.1⟩ ⟨z0.1,z0.2.1⟩ (bX.trans Z.symm) ap (d7.below h)
   rw [bX] at bO
   obtain ⟨co,cP,dr,en,Hr,eu,e6,f6⟩:=ak a5 a6 bO b2 hr a2 Z a7
   have eX:=eB.o
   clear a5 a6 bO T L bV a7 b2 hr a2 Z b7 d7 bX
   go_wp2_with fail
   refine (co.o _ ad.o ap).mono ?_
   rintro e w3 ⟨rfl,d4⟩
   have b3:=aa d4;clear d4
   go_wp2_with fail
   refine (cP.o _ (ad.o.trans (b3.o.mono ad.o.size)) ap).mono ?_
   rintro e H ⟨rfl,e0⟩
   have J:=b3.o.trans (e0.mono b3.o.size)
   have ds:=(J.cell (p:=⟨I.heap.size,1,none⟩) em).trans x1
   have bo:=(J.cell (p:=⟨g5,k,none⟩) (az p0)).trans p0
   have dn:=(J.cell (p:=⟨g5,k+1,none⟩) (az p1)).trans p1
   have eY:I.heap.size<H.heap.size:=by have:=J.size;omega
   have f0:g5<H.heap.size:=az bo
   have Q:=aa J;clear J e0 b3 x0 x1 x2 x3 xf p0 p1
   have fb:(k:Int)+1<sz.length:=ap
   have fd:¬(cp=lo):=ap
   have fe:lo+B<=cp:=ap
   go_wp2_with fail
   go_cut [13,14] (fun v _ wx=>∃M A d,v=.pointer (some ⟨M,0,none⟩)/\wx.heap[M]?=some (.cells #[.int .i64 r,.int .i64 c0,.slice A B d] 354 (0,0))/\B<=d/\wx.ownsRow H.heap.size 2 1 (.slice A B d) B (aA .i64 (wL sz ps k))/\H.heap.size+2<=wx.heap.size/\
    Below (H.heap.size+2) ((H.alloc (.cells #[.int .i64 lo,.int .i64 ((lo:Int)+B)] 148)).alloc (.cells #[.int .i64 ((lo:Int)+B),.int .i64 ((lo:Int)+B+r)] 148)) wx)
   case first=>
    have y:(fun C:World=>C.cell? ⟨g5,k+1,none⟩=some (.int .i64 r)/\C.cell? ⟨g5,k,none⟩=some (.int .i64 c0)/\C.cell? ⟨I.heap.size,1,none⟩=some (.slice (some ⟨gp,0,none⟩) N cp)/\C.cell? ⟨H.heap.size,0,none⟩=some (.int .i64 lo)/\C.cell? ⟨H.heap.size,1,none⟩=some (.int .i64 ((lo:Int)+B))) ((H.alloc (.cells #[.int .i64 lo,.int .i64 ((lo:Int)+B)] 148)).alloc (.cells #[.int .i64 ((lo:Int)+B),.int .i64 ((lo:Int)+B+r)] 148)).drew:=
     ⟨aH (aH dn _) _,aH (aH bo _) _,aH (aH ds _) _,aH (LQ _ H.heap.size 0 _ _ _ (LP H _)) _,aH (LQ _ H.heap.size 1 _ _ _ (LP H _)) _⟩
    have cv:aq wr ((H.alloc (.cells #[.int .i64 lo,.int .i64 ((lo:Int)+B)] 148)).alloc (.cells #[.int .i64 ((lo:Int)+B),.int .i64 ((lo:Int)+B+r)] 148)).drew:=
     (((Q.o.alloc (by have:=Q.o.size;omega) _).alloc (by have:=Q.o.size;simp;omega) _)).drew
    have bG:=aa cv;clear cv
    have g6:k<sz.length:=ap
    have f7:IntKind.i64.wrap ((k:Int)+1)=(k:Int)+1:=LT _ ap
    have f3:(0:Int)<=(k:Int)+1:=ap
    have g2:((k:Int)+1).toNat=k+1:=ap
    have f2:((lo:Int)+B).toNat=lo+B:=ap
    have fr:(0:Int)<=(lo:Int)+B:=ap
    have f1:(lo:Int)+B<=cp:=ap
    have ga:(lo:Int)<=(lo:Int)+B:=ap
    refine jO 23 (fun C:World=>C.cell? ⟨g5,k+1,none⟩=some (.int .i64 r)/\C.cell? ⟨g5,k,none⟩=some (.int .i64 c0)/\C.cell? ⟨I.heap.size,1,none⟩=some (.slice (some ⟨gp,0,none⟩) N cp)/\C.cell? ⟨H.heap.size,0,none⟩=some (.int .i64 lo)/\C.cell? ⟨H.heap.size,1,none⟩=some (.int .i64 ((lo:Int)+B))) (by kernel_rfl) ?_
    refine wX 0 y ?_
    refine wX 1 y ?_
    refine wX 2 y ?_
    refine wX 3 y ?_
    refine wX 4 y ?_
    refine wX 5 y ?_
    refine wX 6 y ?_
    refine wX 7 y ?_
    refine wX 8 y ?_
    refine wX 9 y ?_
    refine wX 10 y ?_
    refine wX 11 y ?_
    refine wX 12 y ?_
    refine wX 13 y ?_
    refine wX 14 y ?_
    refine wX 15 y ?_
    refine wX 16 y ?_
    refine wX 17 y ?_
    simp only [Mc,Md,Me,Act.put,Mf,Mg,Mh]
    refine cz (rs:=[18,22]) (by kernel_rfl) (by simp) ?_
    refine aQ.cons rfl (fun K V=>?_) (aQ.cons rfl (fun K V=>?_) aQ.nil)
    ·simp only [Mc,Md,Me]
     go_simp
     refine (dr.o _ bG.o).mono ?_
     rintro e w6 ⟨A6,d6,rfl,R,U,D⟩
     have b1:=LW (aw D y.1) (LW (aw D y.2.1) (LW (aw D y.2.2.1) (LW (aw D y.2.2.2.1) (aw D y.2.2.2.2))))
     obtain ⟨aM,a4,aP⟩:=af R U D;clear R U D y
     dsimp only
     refine V.out _ _ b1 (fun y=>?_)
     clear V K b1
     refine wX 19 y ?_
     refine wX 20 y ?_
     simp only [Mc,Md,Me,Act.put,Mf,Mg,Mh]
     refine wX0 21 y ?_
     simp only [Mc,Md,Me,Act.put,Mf,Mg,Mh]
     refine cz (rs:=[22]) (by kernel_rfl) (by simp) ?_
     refine aQ.cons rfl (fun K V=>?_) aQ.nil
     simp only [Mc,Md,Me]
     go_simp
     refine V.out _ _ ⟨aH y.1 _,aH y.2.1 _,aH y.2.2.1 _,aH y.2.2.2.1 _,aH y.2.2.2.2 _⟩ (fun y=>?_)
     clear V K y
     refine eF (by rfl) (by kernel_rfl) ?_
     simp only [Mm,Mn]
     go_wp2_with fail
     go_meet
     have bz:=aP.o.size
     simp at bz
     refine ⟨w6.heap.size,A6,d6,rfl,LP w6 _,aM.o,aE (a4.o.alloc _) (by first | omega | (simp;done) | (simp;omega)),(by first | omega | (simp;done) | (simp;omega)),?_⟩
     exact (((LR _ _).drew).trans (aP.o.mono (by first | omega | (simp;done) | (simp;omega)))).alloc (by first | omega | (simp;done) | (simp;omega)) _
    ·simp only [Mc,Md,Me]
     go_simp
     refine V.out _ _ ⟨aH y.1 _,aH y.2.1 _,aH y.2.2.1 _,aH y.2.2.2.1 _,aH y.2.2.2.2 _⟩ (fun y=>?_)
     clear V K
     refine cz (rs:=[18]) (by kernel_rfl) (by simp) ?_
     refine aQ.cons rfl (fun K V=>?_) aQ.nil
     simp only [Mc,Md,Me]
     go_simp
     refine (dr.o _ (bG.o.alloc bG.o.size _)).mono ?_
     rintro e w6 ⟨A6,d6,rfl,R,U,D⟩
     have b1:=LW (aw D y.1) (LW (aw D y.2.1) (LW (aw D y.2.2.1) (LW (aw D y.2.2.2.1) (aw D y.2.2.2.2))))
     have b0:=(D.block _ (by simp)).trans (LP _ _)
     simp only [Mb,MB] at b0
     obtain ⟨⟨m0,m1,m2⟩,mf⟩:=bx3 b0
     have fi:=LN b0
     obtain ⟨aM,a4,aP,dc⟩:=ag R U D b0;clear R U D y b0
     dsimp only
     refine V.out _ _ b1 (fun y=>?_)
     clear V K b1
     refine wX 19 y ?_
     refine wX 20 y ?_
     simp only [Mc,Md,Me,Act.put,Mf,Mg,Mh]
     refine wX0 21 y ?_
     simp only [Mc,Md,Me,Act.put,Mf,Mg,Mh]
     clear y
     refine eF (by rfl) (by kernel_rfl) ?_
     simp only [Mm,Mn]
     go_wp2_with fail
     go_meet
     have bz:=aP.o.size
     simp at bz
     have k3:=pT (w:=w6) (b:=H.heap.size+1+1) (.int .i64 r) (.int .i64 c0) (.slice A6 B d6)
     have g1:=k3.size
     refine ⟨H.heap.size+1+1,A6,d6,rfl,sK _ _ _ dc.o,aM.o,aE (k3.own a4.o (fun i hi e=>ax dc.o (by decide) a4.o (by rw [hi,e]))) (by first | omega | (simp;done) | (simp;omega)),by first | omega | (simp;omega),?_⟩
     exact ((((LR _ _).drew).alloc (by first | omega | (simp;done) | (simp;omega)) _).trans (aP.o.mono (by first | omega | (simp;done) | (simp;omega)))).trans (k3.toBelow (by first | omega | (simp;done) | (simp;omega)) (fun i hi=>by first | omega | (simp;omega)))
   case rest=>
    obtain ⟨M,A6,d6,rfl,hM,R,U,f5,cb⟩:=hcut
    have d1:aq H ((H.alloc (.cells #[.int .i64 lo,.int .i64 ((lo:Int)+B)] 148)).alloc (.cells #[.int .i64 ((lo:Int)+B),.int .i64 ((lo:Int)+B+r)] 148)):=((LR _ _).alloc (LO _) _).alloc (by simp) _
    have bb:((H.alloc (.cells #[.int .i64 lo,.int .i64 ((lo:Int)+B)] 148)).alloc (.cells #[.int .i64 ((lo:Int)+B),.int .i64 ((lo:Int)+B+r)] 148)).heap[H.heap.size+1]?=some (.cells #[.int .i64 ((lo:Int)+B),.int .i64 ((lo:Int)+B+r)] 148 (0,0)):=by
     have:=LP (H.alloc (.cells #[.int .i64 lo,.int .i64 ((lo:Int)+B)] 148)) (.cells #[.int .i64 ((lo:Int)+B),.int .i64 ((lo:Int)+B+r)] 148)
     simpa using this
    have bM:=(cb.block (H.heap.size+1) ap).trans bb
    have ci:aq H wc:=d1.trans (cb.mono ap)
    have a8:=Q.o.trans (ci.mono Q.o.size)
    have cc:=(a8.block _ (LN ab.o)).trans ab.o
    have b8:=ay bN.o a8
    have b9:=ay a9.o a8
    have bf:=ay b6.o a8
    obtain ⟨⟨n0,n1,n2,n3⟩,nf⟩:=bx4 cc
    obtain ⟨⟨m0,m1,m2⟩,mf⟩:=bx3 hM
    obtain ⟨⟨t0,t1⟩,tf⟩:=bx2 bM
    obtain ⟨cy,cn,d8,Y,dv,cM,eS,a4⟩:=ak bM a8 cc b8 b9 bf hM U;have aM:=aa R;clear a8 cc b8 b9 bf hM U R ci d1 bb bM cb ds bo dn
    have fn:I.heap.size<wc.heap.size:=LN d8.o
    go_wp2_with fail
    have y:(fun C:World=>C.cell? ⟨I.heap.size,3,none⟩=some (.slice Al k cl)/\C.cell? ⟨M,0,none⟩=some (.int .i64 r)/\C.cell? ⟨M,1,none⟩=some (.int .i64 c0)/\C.cell? ⟨M,2,none⟩=some (.slice A6 B d6)/\C.cell? ⟨I.heap.size,1,none⟩=some (.slice (some ⟨gp,0,none⟩) N cp)/\C.cell? ⟨H.heap.size+1,0,none⟩=some (.int .i64 ((lo:Int)+B))/\C.cell? ⟨H.heap.size+1,1,none⟩=some (.int .i64 ((lo:Int)+B+r))) wc.drew:=⟨n3,m0,m1,m2,n1,t0,t1⟩
    have g4:¬(cp=lo+B):=ap
    have g0:(lo:Int)+B+r<=cp:=ap
    have f8:(lo:Int)+B<=(lo:Int)+B+r:=ap
    have f9:((lo:Int)+B+r).toNat=lo+B+r:=ap
    have gc:((lo:Int)+B).toNat=lo+B:=ap
    have gf:(0:Int)<=(lo:Int)+B:=ap
    have g7:(0:Int)<=(lo:Int)+B+r:=ap
    refine XA.g 18 (fun C:World=>C.cell? ⟨I.heap.size,3,none⟩=some (.slice Al k cl)/\C.cell? ⟨M,0,none⟩=some (.int .i64 r)/\C.cell? ⟨M,1,none⟩=some (.int .i64 c0)/\C.cell? ⟨M,2,none⟩=some (.slice A6 B d6)/\C.cell? ⟨I.heap.size,1,none⟩=some (.slice (some ⟨gp,0,none⟩) N cp)/\C.cell? ⟨H.heap.size+1,0,none⟩=some (.int .i64 ((lo:Int)+B))/\C.cell? ⟨H.heap.size+1,1,none⟩=some (.int .i64 ((lo:Int)+B+r))) ?_
    refine XA.t ?_ [0,1,2,3,4,5,6,7,8,9,10,11,12,13,14,15] y ?_
    refine XA.o 16 (fun K V=>?_)
    go_simp
    refine V.out _ _ ⟨aH y.1 _,aH y.2.1 _,aH y.2.2.1 _,aH y.2.2.2.1 _,aH y.2.2.2.2.1 _,aH y.2.2.2.2.2.1 _,aH y.2.2.2.2.2.2 _⟩ (fun y=>?_)
    clear V K
    refine XA.o 17 (fun K V=>?_)
    refine bR GK (.tmp 77) (.tmp 89) rfl rfl I.heap.size (.slice Al k cl) k (List.flatten rows) rfl (bT (Y.o.alloc _) 1) (some ⟨wc.heap.size,0,none⟩) 1 1 [.int .i64 r,.int .i64 c0,.slice A6 B d6,.slice (some ⟨gp,lo+B,none⟩) r (cp-(lo+B))] rfl (dD wc _ _ _ rfl) rfl (by simp [Value.oneCell']) ap (by unfold maxLen;omega) (by simp;omega) ?_
    intro A7 c7 w7 cO dG a3 ew
    have a3:=oY a3
    have aR:=dM (o:=.cells #[.int .i64 r,.int .i64 c0,.slice A6 B d6,.slice (some ⟨gp,lo+B,none⟩) r (cp-(lo+B))] 358 (0,0)) d8.o (by decide) Y.o a3
    have i0:=LQ w7 _ 3 _ _ _ aR
    have i1:=LQ w7 _ 1 _ _ _ aR
    have i3:=LX w7 _ 3 _ _ aR
    have b4:=dM (o:=.cells #[.int .i64 r,.int .i64 c0,.slice A6 B d6,.slice (some ⟨gp,lo+B,none⟩) r (cp-(lo+B))] 358 (0,0)) eS.o (by decide) Y.o a3
    have bA:=dM (o:=.cells #[.int .i64 r,.int .i64 c0,.slice A6 B d6,.slice (some ⟨gp,lo+B,none⟩) r (cp-(lo+B))] 358 (0,0)) cy.o (by decide) Y.o a3
    have i4:=LQ w7 _ 0 _ _ _ b4
    have i5:=LQ w7 _ 1 _ _ _ b4
    have i6:=LQ w7 _ 2 _ _ _ b4
    have i7:=LQ w7 _ 0 _ _ _ bA
    have i8:=LQ w7 _ 1 _ _ _ bA
    obtain ⟨d0,bI,e9,ee⟩:=ag cO aR a3 dG;clear cO aR a3 ew dG b4 bA
    dsimp only
    refine V.out _ _ ⟨i0,i4,i5,i6,i1,i7,i8⟩ (fun y=>?_)
    clear V K y
    refine XA.e ?_
    simp only [Mm,Mn]
    go_wp2_with fail
    have eo:=MM w7 I.heap.size 3 _ _ (.slice A7 (k+1) c7) bI.o
    have es:Keep (fun i=>i=I.heap.size) w7 (w7.setCell ⟨I.heap.size,3,none⟩ (.slice A7 (k+1) c7)):=Keep.setCell (S:=fun i=>i=I.heap.size) (Keep.refl _ _) ⟨I.heap.size,3,none⟩ (.inr rfl) _
    have e7:=es.own d0.o (fun i hi e=>ax bI.o (by decide) d0.o (by rw [hi,e]))
    have ev:aq I (w7.setCell ⟨I.heap.size,3,none⟩ (.slice A7 (k+1) c7)):=
     (((HW.o.trans (cn.o.mono HW.o.size)).alloc ap _).drew.trans ee.o).setCell (by simp) _
    have O:∀{b':Nat} {u:Value} {m:Nat} {ys:List Value} {e':TypeId},wc.ownsRow b' e' 1 u m ys->358≠e'->352≠e'->(w7.setCell ⟨I.heap.size,3,none⟩ (.slice A7 (k+1) c7)).ownsRow b' e' 1 u m ys:=fun h h1 h2=>wO h Y.o e9.o bI.o h1 h2
    go_roundw
    case rel=>
     refine ⟨k+1,by omega,by go_num,A7,c7,rows++[[.int .i64 r,.int .i64 c0,.slice A6 B d6,.slice (some ⟨gp,lo+B,none⟩) r (cp-(lo+B))]],?_,?_,by simp [aG.o],?_,?_,?_,O cM.o (by decide) (by decide),ev⟩
     ·rw [HN.o];exact eo
     ·rw [My,List.flatten_cons,List.flatten_nil,List.append_nil];exact e7
     ·intro x hx
      rcases MD.1 hx with hx | hx
      ·exact bn.o x hx
      ·rw [List.mem_singleton.1 hx];rfl
     ·rw [HN.o];exact O dv.o (by decide) (by decide)
     ·intro j hj
      rcases Ma j k with bw | bw
      ·obtain ⟨g9,d9,bv,bi,c6⟩:=ao.o j bw
       refine ⟨g9,d9,?_,bi,O (ay c6 cn.o) (by decide) (by decide)⟩
       rw [<-bv]
       simp [cq,Mr (show j<rows.length by rw [aG.o];exact bw)]
      ·obtain rfl:j=k:=ap
       obtain ⟨g9,d9,dw,gb,_⟩:=a4.o.form ap
       simp only [MC] at dw
       obtain ⟨rfl,_,rfl⟩:=dw
       have e1:=Hr.o;have e2:=eu.o;have e3:=en.o;have e4:=e6.o
       refine ⟨g9,d6,?_,?_,?_⟩
       ·have e5:dq sz j=lo+B:=by unfold dq;rw [e1,e2,e3,e4]
        rw [e5,e1,e2,e4]
        have:=aG.o
        simp [cq,<-this]
       ·rw [e1,e2,e4];exact aM.o
       ·rw [e1,e2,e4];exact aE (O a4.o (by decide) (by decide)) (by have:=Hb.o.size;omega)
    case measure=>simp [intOf];omega
  ·obtain rfl:k=n:=ap
   have dT:kJ 212 352 wr I.heap.size sz ps q:=by
    refine ⟨S,some ⟨gp,0,none⟩,cp,Al,cl,rows,?_,HS.o.below ad.o,Rd.own a9.o,Rd.own bN.o,?_,bn.o,?_⟩
    ·rw [HN.o,Hn.o];exact ab.o
    ·rw [Hn.o];exact aG.o
    ·intro j hj
     rw [Hn.o] at hj
     obtain ⟨g9,d9,bv,bi,c6⟩:=ao.o j hj
     have hR:=HG.o.1
     have b5:j+1<sz.length:=by have:=Hn.o;have:=hR.1;omega
     have a0:=LU (fF sz (show j+1<=k by omega)) (Nat.le_of_eq Hl.o.symm)
     have L:=ft sz j
     have a7:bL sz ps j=(ps.drop (dq sz j)).take (szN sz (j+1)):=(fv (by rw [Mt,Mw];have:=HN.o;omega) fun i hi=>by rw [ff hi,fg]).symm
     refine ⟨g9,0,d9,some ⟨gp,dq sz j,none⟩,cp-dq sz j,bv,bi,Rd.own c6,?_⟩
     have:=((Rd.own a9.o).drop (dq sz j)).take (szN sz (j+1))
     rwa [MH,dm,de,<-a7] at this
   have d5:KO wr w.heap.size I.heap.size ps:=by unfold KO;rw [HN.o];exact ⟨_,_,_,_,_,ab.o,a9.o,Hb.o.size⟩
   have cx:sQ wr w.heap.size I.heap.size S sz ps q:=by
    unfold sQ
    rw [HN.o,Hn.o]
    exact ⟨gp,cp,Al,cl,rows,ab.o,Hb.o.size,a9.o,aE bN.o Hb.o.size,aG.o,bn.o,ao.o⟩
   obtain ⟨ej,ef,eM⟩:=af dT d5 cx;clear dT d5 cx
   go_wp2_with fail
   go_ret2
   exact ⟨_,rfl,ej.o,ef.o,eM.o,ad.o⟩
theorem gH {S:Nat->Prop} {w i:World} (hk:Keep S w i):Ext (aF S w) i:=fun k hl=>by
 rw [mR] at hl
 by_cases h:S k
 ·exact .inl (vr h hl)
 ·exact .inr (by rw [gD h];exact hk.block k hl h)
def ez (i:Inp) (P G:List Int) (l:List Ex):List Int:=l.foldl (fun a x=>fj a (gS i.cfg.sizes P i.cfg.shift x.1 x.2)) G
theorem xy (i:Inp) (P G:List Int) (l:List Ex) (x:Ex):ez i P G (l++[x])=fj (ez i P G l) (gS i.cfg.sizes P i.cfg.shift x.1 x.2):=by simp [ez]
def oN (i:Inp) (x st a:Nat):List Int:=ij (dx i.draws i.data.length i.cfg.batch.toNat st) i.cfg.workers.toNat x i.cfg.micros.toNat a
theorem rF {i:Inp} {l:List Int} (h:iY i l) (k j:Nat):iY i (cU l k j):=fun n hn=>by
 have h1:(cU l k j).length<=l.length-bdN l.length k j:=by simp only [cU,Mt,Mw];omega
 have o:(cU l k j).length<=bdN l.length k (j+1)-bdN l.length k j:=by simp only [cU,Mt];omega
 unfold cU
 rw [ff ap,fg]
 exact h _ ap
theorem xj {i:Inp} (hg:lL i) (x st a:Nat):iY i (oN i x st a):=rF (rF (Af hg st) _ _) _ _
theorem CY {i:Inp} (hg:lL i) {l:List Int} (h:iY i l) {k:Nat} {e:Ex} (he:(dK i.data l)[k]?=some e):fh (inN i) (vg i) e:=by
 have hk:=(Mp.1 he).1
 rw [mJ] at hk
 rw [wJ _ _ hk] at he
 have o:=h k hk
 unfold jD at o
 simp only [Option.some.injEq] at he
 subst he
 have hl:(nth l k).toNat<i.data.length:=ap
 simp only [List.getD,Mq hl,Option.getD_some]
 exact hg.f _ (List.getElem_mem hl)
theorem Ds {H:Nat->Prop} {w:World} {b x:Nat} {i:Inp} {a:MAd} {m:Mst} (h:aT H w b i x a m) (hs:cK i) (y:Itm) (u v:Value) (hu:u.oneCell'=true) (hv:v.oneCell'=true) (b8:y.st<i.cfg.steps.toNat) (hn:y.n<i.cfg.micros.toNat):
  Calls prog 224 #[(au b),.agg (bq y).toArray,.agg #[u,v]] w fun e p=>e=.returned (MO 0)/\Keep (fun k=>k=a.bg) w p/\
   p.ownsRow 0 2 1 (.slice (some (ar a.bg 0)) i.start.length a.cg) i.start.length (aA .i64 (ez i m.P m.G (dK i.data (oN i x y.st y.n)))):=by
 have hg:=hs.g
 have hc:=hg.c
 have a5:bQ i.cfg.sizes (i.cfg.sizes.length-1)=i.start.length:=hg.s.symm
 have Y:=hc.z.bound (k:=i.cfg.sizes.length-1) (by have:=hc.z.1.1;omega)
 have hq:0<=i.cfg.shift/\i.cfg.shift<=62:=⟨by have:=hc.s;omega,by have:=hc.s;omega⟩
 have ci:b≠a.bg:=fun e=>ax h.blk (by decide) h.oG (by rw [e];rfl)
 have bs:=LN h.blk
 have a9:=(h.oG.lt a.bg rfl).2
 have R:=fun p (q:Keep (fun k=>k=a.bg) w p)=>(q.block b bs ci).trans h.blk
 have hx:=fun p (q:Keep (fun k=>k=a.bg) w p)=>gH (S:=fT H b a) (q.mono (fun k _ e=>.inl (.inr (.inr (.inr (.inl e))))))
 have av:=h.wP.1
 have a6:m.P.length=bQ i.cfg.sizes (i.cfg.sizes.length-1):=av.trans a5.symm
 have a2:=fun p (q:Keep (fun k=>k=a.bg) w p)=>wY a.F i.cfg.sizes m.P (some (ar a.bp 0)) a.cp i.cfg.shift p (fl h.sh (hx p q)) hc.z hq a6 (Rd.own (q.own h.oP (fun j hj e=>h.dj.2.1 (by cases hj;exact e))))
 rw [av] at a2
 have eW:((i.cfg.workers.toNat:Nat):Int)=i.cfg.workers:=by have:=hc.w;omega
 have eM:((i.cfg.micros.toNat:Nat):Int)=i.cfg.micros:=by have:=hc.mi;omega
 have D:=fun p (q:Keep (fun k=>k=a.bg) w p)=>Dq a.S i.data.length i.cfg.batch.toNat i.cfg.steps.toNat y.st i.cfg.workers.toNat x i.cfg.micros.toNat y.n i.draws p (gE h.sa (hx p q)) (by have:=hc.ba;have:=hc.w;omega) (by have:=hg.b.1;omega) hg.b.2 (by have:=hc.st;omega) b8 (by have:=hc.w;omega) (by have:=hc.ba;omega) h.xw (by have:=hc.mi;omega) (by have:=hc.mi;omega) hn
 rw [eW,eM] at D
 have A:=xj hg x y.st y.n
 obtain ⟨C,I⟩:∃C,oN i x y.st y.n=C:=⟨_,rfl⟩
 rw [I] at A
 have O:ij (dx i.draws i.data.length i.cfg.batch.toNat y.st) i.cfg.workers.toNat x i.cfg.micros.toNat y.n=C:=I
 rw [O] at D
 rw [I]
 have a1:C.length<=1048576:=by
  rw [<-I]
  have h0:=ip i.draws (n:=i.data.length) (b:=i.cfg.batch.toNat) (t:=y.st) (Nat.div_pos (by have:=hg.b.1;omega) (by have:=hc.ba;have:=hc.w;omega))
  have h1:∀(l:List Int) (k j:Nat),(cU l k j).length<=l.length:=fun l k j=>by simp only [cU,Mt,Mw];omega
  have h2:=h1 (cU (dx i.draws i.data.length i.cfg.batch.toNat y.st) i.cfg.workers.toNat x) i.cfg.micros.toNat y.n
  have h3:=h1 (dx i.draws i.data.length i.cfg.batch.toNat y.st) i.cfg.workers.toNat x
  have:=hc.ba
  unfold oN ij
  omega
 have Z:=fun p (q:Keep (fun k=>k=a.bg) w p) B d (hB:Rd p B (aA .i64 C))=>Fu a.ce d a.E B i.data C p (eA cJ h.ex (hx p q)) hg.b.2 hB a1
 have Q:=fun (k:Nat) (e:Ex) (he:(dK i.data C)[k]?=some e)=>CY hg A he
 have V:=mJ i.data C
 obtain ⟨pl,N⟩:∃pl,dK i.data C=pl:=⟨_,rfl⟩
 rw [N] at V Q
 simp only [N] at Z ⊢
 have a0:=fun aR A1 A2 (e:Ex) c1 c2 p (hN:kJ 212 352 p aR i.cfg.sizes m.P i.cfg.shift) (r1:cH p A1 e.1 c1) (r2:cH p A2 e.2 c2) (hf:fh (inN i) (vg i) e)=>Jn aR i.cfg.sizes m.P i.cfg.shift A1 A2 e.1 e.2 c1 c2 p hN hc.z h.wP.2 r1.hr hf.1 r1.hw r2.hr hf.2
 have U:=fun (e:Ex) (hf:fh (inN i) (vg i) e)=>ur (sz:=i.cfg.sizes) (ps:=m.P) (q:=i.cfg.shift) (x:=e.1) (y:=e.2) hf.1 (by have:=hc.z.1.1;omega)
 rw [a5] at a0 U Y
 have a4:=fun p (q:Keep (fun k=>k=a.bg) w p)=>fl h.sh (hx p q)
 obtain ⟨K,hK⟩:∃K,C.length=K:=⟨_,rfl⟩
 rw [hK] at D a1 Z V
 unfold iY at A
 rw [hK] at A
 have t0:∀p,Keep (fun k=>k=a.bg) w p->p.cell? (ar b 0)=some (MO (x:Nat)):=fun p q=>LQ p b 0 _ _ _ (R p q)
 have t1:∀p,Keep (fun k=>k=a.bg) w p->p.cell? (ar b 1)=some (MO i.cfg.workers):=fun p q=>LQ p b 1 _ _ _ (R p q)
 have t2:∀p,Keep (fun k=>k=a.bg) w p->p.cell? (ar b 2)=some (MO i.cfg.micros):=fun p q=>LQ p b 2 _ _ _ (R p q)
 have t3:∀p,Keep (fun k=>k=a.bg) w p->p.cell? (ar b 3)=some ((au a.F)):=fun p q=>LQ p b 3 _ _ _ (R p q)
 have t4:∀p,Keep (fun k=>k=a.bg) w p->p.cell? (ar b 4)=some (.slice a.E i.data.length a.ce):=fun p q=>LQ p b 4 _ _ _ (R p q)
 have t5:∀p,Keep (fun k=>k=a.bg) w p->p.cell? (ar b 5)=some ((au a.S)):=fun p q=>LQ p b 5 _ _ _ (R p q)
 have bV:∀p,Keep (fun k=>k=a.bg) w p->p.cell? (ar b 10)=some (MO i.cfg.shift):=fun p q=>LQ p b 10 _ _ _ (R p q)
 have b6:∀p,Keep (fun k=>k=a.bg) w p->p.cell? (ar b 11)=some (.slice (some (ar a.bp 0)) i.start.length a.cp):=fun p q=>LQ p b 11 _ _ _ (R p q)
 have bA:∀p,Keep (fun k=>k=a.bg) w p->p.cell? (ar b 13)=some (.slice (some (ar a.bg 0)) i.start.length a.cg):=fun p q=>LQ p b 13 _ _ _ (R p q)
 have tl:=fun p (q:Keep (fun k=>k=a.bg) w p)=>LV bs q.size
 obtain ⟨n,bd⟩:∃n,i.start.length=n:=⟨_,rfl⟩
 have oG:=h.oG
 rw [bd] at a2 a0 U Y b6 bA oG ⊢
 obtain ⟨W0,W1,bh,bf,g0,g1,aG, -⟩:=fQ w (bq y).toArray #[u,v] 152 333
 have q1:Keep (fun k=>k=a.bg) w W1:=Keep.below aG
 have s1:∀p,aq W1 p->p.cell? (ar w.heap.size 1)=some (MO (y.st:Nat)):=fun p q=>LQ p w.heap.size 1 _ _ _ (sb g0 p q)
 have s2:∀p,aq W1 p->p.cell? (ar w.heap.size 2)=some (MO (y.n:Nat)):=fun p q=>LQ p w.heap.size 2 _ _ _ (sb g0 p q)
 have ct:=sl g0
 obtain ⟨K1,co,cl,bv,b5,cj,be,bI⟩:=ak aG bh bf a2 D Z Q a0;obtain ⟨bz,HG,c8,OG,Hz,c9,a7,cM⟩:=ak U A a4 oG hc.z a6 V R;obtain ⟨bN,cf⟩:=ae Y a1;clear bh bf g0 g1 aG R hx av a6 a2 D Z Q a0 U A a4 oG V Y a1 eW eM I O N hK bd hc a5 hq b8 hn h hg hs
 go_enter func224,ntmps224
 go_wp2_with fail
 rw [co.o,cl.o]
 have b1:=(br W1).drew
 refine HA.g (fun p:World=>Keep (fun k=>k=a.bg) w p/\aq W1 p) ?_
 refine HA.t ?_ [0,1,2,3,4,5,6,7,8,9,10,11,12,13,14,15] ⟨q1.drew,b1⟩ ?_
 refine HA.c 16 (bv.o _ q1.drew) ?_
 rintro e w2 ⟨nb,rfl, -, -,bn,k2⟩
 have q2:=q1.drew.trans (Keep.below (S:=fun k=>k=a.bg) k2)
 have b2:=b1.trans (k2.mono b1.size)
 refine ⟨_,rfl,⟨q2,b2⟩,fun _=>?_⟩
 refine HA.t ?_ [17,18,19,20,21] ⟨q2,b2⟩ ?_
 refine HA.d ?_
 have NO:=aa bn;have bw:a.bg<w2.heap.size:=LV a9 q2.size
 have a8:w.heap.size<=W1.drew.heap.size:=q1.drew.size
 clear bn k2 q1 b1
 go_wp2_with fail
 refine HA.g (fun p:World=>Keep (fun k=>k=a.bg) w p/\aq W1 p) ?_
 refine HA.t ?_ [0,1,2,3,4,5,6,7,8,9,10,11,12,13,14,15,16,17,18,19,20,21,22,23,24,25,26,27,28] ⟨q2.drew,b2.drew⟩ ?_
 refine HA.c 29 (b5.o _ q2.drew) ?_
 rintro e w3 ⟨B,d,rfl,hd,rB,k3⟩
 have q3:=q2.drew.trans (Keep.below (S:=fun k=>k=a.bg) k3)
 have b3:=b2.drew.trans (k3.mono b2.drew.size)
 have ad:aq w2 w3:=(br w2).drew.trans k3
 refine ⟨_,rfl,⟨q3,b3⟩,fun _=>?_⟩
 refine HA.c 30 (cj.o w3 q3 B d rB) ?_
 rintro e w4 ⟨k4,bi⟩
 rcases bi with ⟨-,A',c',rfl,b0⟩ | ⟨bM, -⟩
 rotate_left
 ·exact absurd HG.o bM
 have q4:=q3.trans (Keep.below (S:=fun k=>k=a.bg) k4)
 have b4:=b3.trans (k4.mono b3.size)
 refine ⟨_,rfl,⟨q4,b4⟩,fun _=>?_⟩
 refine HA.t ?_ [31,32,33,34,35] ⟨q4,b4⟩ ?_
 refine HA.d ?_
 obtain ⟨c7,M4,Q4,bG⟩:=ag ((NO.o.below ad).below k4) b0 q4 (ay OG.o (K1.o.trans (b4.mono K1.o.size)))
 have c6:a.bg<w3.heap.size:=LV bw ad.size
 have cs:a.bg<W1.drew.heap.size:=LV a9 a8
 clear q2 q3 q4 b2 b3 b4 ad k3 k4 b0 rB hd s1 s2 ct t0 t1 t2 t3 t4 t5 bV b6
 go_wp2_with fail
 go_loopw [71] (fun z wr=>∃k:Nat,k<=K/\z=MO k/\wr.ownsRow 0 2 1 (.slice (some (ar a.bg 0)) n a.cg) n (aA .i64 (ez i m.P m.G (pl.take k)))/\Keep (fun k=>k=a.bg) w4 wr) (fun z _=>K-(intOf z).toNat)
 case atStart=>exact ⟨0,LS _,rfl,bG.o,Keep.refl _ _⟩
 case round=>
  obtain ⟨k,hk,rfl,og,qk⟩:=hrel
  have qw:=Q4.o.trans qk
  by_cases cy:k<K
  ·have bO:(k:Int)<K:=ap
   have cA:¬(k:Int)<0:=ap
   have cx:IntKind.i64.wrap ((k:Int)+1)=((k+1:Nat):Int):=by have:=cf.o;rw [LT _ ap];push_cast;rfl
   obtain ⟨e,he⟩:∃e,pl[k]?=some e:=⟨_,Mq (by have:=a7.o;omega)⟩
   have hf:=be.o k e he
   have b9:=(M4.o.keep qk (fun j hj=>by rw [hj];exact c6)).rd a7.o
   obtain ⟨eb,eo,A1,c1,A2,c2,rfl,cL,p1,p2,r1,r2⟩:=iH b9 he
   have bX:=(br wr).alloc (LO _) (.cells #[.slice A1 e.1.length c1,.slice A2 e.2.length c2] 91)
   have a3:=((c7.o.keep qk (fun j hj=>by rw [hj];exact cs)).at (c8.o wr qw) Hz.o c9.o).below bX
   have L:=bI.o nb A1 A2 e c1 c2 _ a3 (r1.below bX) (r2.below bX) hf
   have ao:=bz.o e hf
   have bl:pl.take (k+1)=pl.take k++[e]:=by rw [List.take_add_one,he];rfl
   obtain ⟨gv,J⟩:∃gv,gS i.cfg.sizes m.P i.cfg.shift e.1 e.2=gv:=⟨_,rfl⟩
   obtain ⟨n1,aM⟩:∃n1,e.1.length=n1:=⟨_,rfl⟩
   obtain ⟨n2,bo⟩:∃n2,e.2.length=n2:=⟨_,rfl⟩
   rw [J] at ao L
   rw [aM] at bX L p1
   rw [bo] at bX L p2
   obtain ⟨cc,BX,ab,cn,cd,bb,QK,QW⟩:=ak L bX og ao bl J qk qw;clear L bX og ao bl J qk a3 b9 r1 r2 hf he aM bo
   go_wp2_with fail
   refine cc.o.mono ?_
   rintro e' w6 ⟨A3,c3,rfl,o3,k6⟩
   have T:=BX.o.trans (k6.mono BX.o.size)
   have q6:=QW.o.trans (Keep.below (S:=fun k=>k=a.bg) T)
   have cv:a.bg<wr.heap.size:=LV a9 QW.o.size
   have b7:=vD 0 (some (ar a.bg 0)) A3 (ez i m.P m.G (pl.take k)) gv n a.cg c3 w6 (ay ab.o T) (Rd.own o3) cn.o (by have:=bN.o;omega) (fun z1 z2 e1 e2=>by
    cases e1
    have:=(o3.lt z2.block (by rw [e2];rfl)).1
    have h2:=BX.o.size
    dsimp only
    omega)
   obtain ⟨cb,cr⟩:=ae b7 T;clear b7 T o3 k6 p1 p2 qw
   go_wp2_with fail
   refine cb.o.mono ?_
   rintro cw w7 ⟨rfl,o7,k7⟩
   have aP:Keep (fun k=>k=a.bg) w4 w7:=(QK.o.trans (Keep.below cr.o)).trans (k7.mono fun j _ hj=>by cases hj;rfl)
   rw [<-bb.o,<-xy,<-cd.o] at o7
   obtain ⟨O7,K7⟩:=ae o7 aP;clear o7 k7 aP q6
   go_wp2_with fail
   go_roundw
   case rel=>exact ⟨k+1,by omega,by go_num,O7.o,K7.o⟩
   case measure=>simp [intOf];omega
  ·obtain rfl:k=K:=ap
   have bO:¬(k:Int)<k:=ap
   rw [List.take_of_length_le (by have:=a7.o;omega)] at og
   obtain ⟨ab,QW⟩:=ae og qw;clear og qk qw
   go_wp2_with fail
   go_ret
   exact ⟨rfl,QW.o,ab.o⟩
end Go.Proofs.YtgmajkppbhiopaaGreat
