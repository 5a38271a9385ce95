/- No condition. -/
import Derived.Test.YtindmkcnjlgomaaGreatQ05
import Derived.Deep.MidRow
set_option linter.unusedSimpArgs false
set_option linter.unusedVariables false
set_option maxRecDepth 100000
set_option maxHeartbeats 4000000
namespace Go.Proofs.YtindmkcnjlgomaaGreat
open Go.RowKit
open Tryz
theorem FX (lo i:Nat) (w:R8) (h:lo<=i) (x:i<=17592186043904):Calls prog 124 #[.agg #[RI lo,RI i]] w λe v=>e=.returned (RI ((i-lo:Nat):Int))/\aq w v:=by
 have h1:(0:Int)<=(i:Int)-lo:=ap;have p:max ((i:Int)-lo) 0=((i-lo:Nat):Int):=ap;have u:=aa p;clear p;go_enter func124,ntmps124;go_wp2
 all_goals
  go_ret;exact ⟨bj (by have:=u.o;omega),(QA _ w).alloc (Qx _) _⟩
theorem Ci (ra I q g:Int) (base n i y cp x cm:Nat) (ps ms:Q_) (w:R8) (hp:w.ownsRow base 2 1 (.slice (some (ar y 0)) n cp) n (aA .i64 ps)) (hm:w.ownsRow base 2 1 (.slice (some (ar x 0)) n cm) n (aA .i64 ms)) (b8:y≠x) (hi:i<n) (wr: -9223372036854775808<=ra/\ra<=9223372036854775807) (wo: -9223372036854775808<=I/\I<=9223372036854775807) (wm:W64 ms):Calls prog 240 #[.agg #[RI ra,RI I,RI q],.pointer (some (ar y i)),.pointer (some (ar x i)),RI g] w λe u=>e=.returned (.tuple #[])/\
   u.ownsRow base 2 1 (.slice (some (ar y 0)) n cp) n (aA .i64 (ps.set i (kU ra q (nth ps i) (eI I q (nth ms i) g))))/\u.ownsRow base 2 1 (.slice (some (ar x 0)) n cm) n (aA .i64 (ms.set i (eI I q (nth ms i) g)))/\Keep (λj=>j=y\/j=x) w u:=by
 have a8:=lw hm;have p1:=cG hp hi;have p2:=cG hm hi;have f1:=hp.frozenAt i;have f2:=hm.frozenAt i;have l1:=(hp.lt y rfl).2;have l2:=(hm.lt x rfl).2;have Z:=λu=>vq I (nth ms i) q u wo (wm i ap);have R:=λm' u (h: -9223372036854775808<=m'/\m'<=9223372036854775807)=>vq ra m' q u wr h;obtain ⟨m0,b1⟩:∃m0,nth ms i=m0:=⟨_,rfl⟩;obtain ⟨p0,aG⟩:∃p0,nth ps i=p0:=⟨_,rfl⟩;rw [b1] at p2 Z |-;rw [aG] at p1 |-;obtain ⟨m1,B⟩:∃m1,eI I q m0 g=m1:=⟨_,rfl⟩;have b5: -9223372036854775808<=m1/\m1<=9223372036854775807:=by rw [<-B];exact ig _
 obtain ⟨mu,N⟩:∃mu,fO I m0 q=mu:=⟨_,rfl⟩;have aR:ue [mu,g]=m1:=by rw [Jo,<-B,<-N];rfl
 rw [B];rw [N] at Z;have R:=λu=>R m1 u b5;obtain ⟨pu,L⟩:∃pu,fO ra m1 q=pu:=⟨_,rfl⟩;rw [L] at R;obtain ⟨p9,a9⟩:∃p9,kU ra q p0 m1=p9:=⟨_,rfl⟩;have a1:wrap64 (p0-pu)=p9:=by rw [<-a9,<-L];rfl
 rw [a9];have ab:=λu=>Ec p0 pu u;rw [a1] at ab;have a7:=λA u (hA:Rd u A (aA .i64 [mu,g])) ha=>LK A 2 2 [mu,g] u hA rfl ap ha;rw [aR] at a7;obtain ⟨bi,bn,bs,bl,HP,HM,bb,b2⟩:=ak Z R ab a7 hp hm aG b8;clear Z R ab a7 hp hm b1 aG B N aR L a9 a1 wr wo wm a8 b5;go_enter func240,ntmps240;go_wp2_with fail;have hz:=Qy w (.cells #[RI ra,RI I,RI q] 162);have D:aq w (w.alloc (.cells #[RI ra,RI I,RI q] 162)):=(QA _ w).alloc (Qx _) _;obtain ⟨W0,b3⟩:∃W0,W0=w.alloc (.cells #[RI ra,RI I,RI q] 162):=⟨_,rfl⟩;rw [<-b3] at hz D |-;clear b3;have q1:=aw D p1;have q2:=aw D p2;obtain ⟨⟨y0,y1,y2⟩,yf⟩:=bx3 hz;have a0:=az HP.o D;have a4:=az HM.o D;have b9:=Qw hz;obtain ⟨HZ,bv,be,bA⟩:=ag hz D a0 a4;clear hz D a0 a4 p1 p2 f1 f2;have p:(λu:R8=>u.cell? (ar w.heap.size 1)=some (RI I)/\u.cell? (ar w.heap.size 2)=some (RI q)/\u.cell? (ar x i)=some (RI m0)) W0.drew:=⟨y1,y2,q2⟩;refine XA.g 12 (λu:R8=>u.cell? (ar w.heap.size 1)=some (RI I)/\u.cell? (ar w.heap.size 2)=some (RI q)/\u.cell? (ar x i)=some (RI m0)) ?_;refine XA.t ?_ [0,1,2,3,4,5,6,7,9] p ?_;refine XA.o 8 (λK H=>?_);go_simp;refine (bi.o _).mono ?_;rintro e w1 ⟨rfl,v⟩;have b0:=QF (aw v p.1) (QF (aw v p.2.1) (aw v p.2.2));have ad:=aa ((QA W0.heap.size W0).drew.trans v);clear v p;dsimp only;refine H.out _ _ b0 (λp=>?_);clear H K b0;refine XA.o 10 (λK H=>?_);go_simp;refine H.out _ _ ⟨aJ p.1 _,aJ p.2.1 _,aJ p.2.2 _⟩ (λp=>?_);clear H K;refine XA.o 11 (λK H=>?_);go_simp;refine (bl.o _ _ ?_ ?_).mono ?_
 .exact dV _ [RI mu,RI g] 2 _ (by simp)
 .intro a ha;injection ha with ha;subst ha;simp
 rintro e w2 ⟨rfl,v⟩;have av:=QF (aw v p.1) (QF (aw v p.2.1) (aw v p.2.2));have C:aq W0 w2:=(ad.o.alloc ad.o.size _).trans (v.mono (by have:=ad.o.size;simp;omega));have ao:=az be.o C;have B:=az bA.o C;have bh:=aw C q1;have g1:=B.frozenAt i;have g2:=ao.frozenAt i;have b7:=(C.block _ b9).trans HZ.o;have c6:=C.size;obtain ⟨bM,bO,b4,bN⟩:=ag ao B C b7;clear ao B C v b7 p y0 y1 y2 yf q1 q2;dsimp only;refine H.out _ _ av (λp=>?_);clear H K;have q3:=av.2.2;refine XA.e ?_;clear p av;simp only [Re,Rf];go_wp2_with fail;have Q:Keep (λj=>j=x) w2 (w2.setCell (ar x i) (RI m1)):=Keep.setCell (S:=λj=>j=x) (Keep.refl _ _) (ar x i) (.inr rfl) _;have U:=dF bO.o i m1
 have a2:∀j,(Value.slice (some (ar y 0)) n cp).ownBlock=some j->¬j=x:=λj hj e=>by
  have h1:y=j:=by simpa [Value.ownBlock] using hj
  exact b2.o ap
 have a3:∀j,(Value.slice (some (ar x 0)) n cm).ownBlock=some j->¬j=y:=λj hj e=>by
  have h1:x=j:=by simpa [Value.ownBlock] using hj
  exact b2.o ap
 have Y:=Q.own bM.o a2;have aM:=aa a3;clear a2 a3;have O:=(Q.block _ (by have:=b4.o.size;omega) ap).trans bN.o;obtain ⟨V,hV⟩:∃V,V=w2.setCell (ar x i) (RI m1):=⟨_,rfl⟩;rw [<-hV] at Q U Y O |-;clear hV bh q3 g1 g2;have r1:=cG Y hi;have r2:=cG U hi;have a8:=lw HM.o;rw [je,if_pos ⟨rfl,by omega⟩] at r2;rw [bb.o] at r1;obtain ⟨⟨y0,y1,y2⟩,yf⟩:=bx3 O;have bV:=Qw O;obtain ⟨bz,bG,bf,bX⟩:=ag Q U Y O;clear Q U Y O a8;have p:(λu:R8=>u.cell? (ar w.heap.size 0)=some (RI ra)/\u.cell? (ar w.heap.size 2)=some (RI q)/\u.cell? (ar y i)=some (RI p0)/\u.cell? (ar x i)=some (RI m1)) V.drew:=⟨y0,y2,r1,r2⟩;refine XA.g 13 (λu:R8=>u.cell? (ar w.heap.size 0)=some (RI ra)/\u.cell? (ar w.heap.size 2)=some (RI q)/\u.cell? (ar y i)=some (RI p0)/\u.cell? (ar x i)=some (RI m1)) ?_;refine XA.t ?_ [0,1,2,3,4,5,6,7,8,9,10] p ?_;refine XA.o 11 (λK H=>?_);go_simp;refine (bn.o _).mono ?_;rintro e w3 ⟨rfl,J⟩;have a6:=QF (aw J p.1) (QF (aw J p.2.1) (QF (aw J p.2.2.1) (aw J p.2.2.2)));have T:aq V w3:=(QA V.heap.size V).drew.trans J;have a5:=az bf.o T;have b6:=az bG.o T;have g2:=a5.frozenAt i;have q3:=a6.2.2.1;obtain ⟨bw,bo,bI⟩:=af T a5 b6;clear J T a5 b6 p;dsimp only;refine H.out _ _ a6 (λp=>?_);clear H K a6;refine XA.o 12 (λK H=>?_);go_simp;refine (bs.o _).mono ?_;rintro e w4 ⟨rfl,rfl⟩;dsimp only;refine H.out _ _ p (λp=>?_);clear H K;refine XA.e ?_;clear p y0 y1 y2 yf r1 r2;simp only [Re,Rf];go_wp2_with fail
 go_end0
 have aP:Keep (λj=>j=y) w3 (w3.setCell (ar y i) (RI p9)):=Keep.setCell (S:=λj=>j=y) (Keep.refl _ _) (ar y i) (.inr rfl) _;refine ⟨rfl,dF bo.o i p9,aP.own bI.o aM.o,?_⟩;have k1:Keep (λj=>j=y\/j=x) w W0:=Keep.below bv.o;have k2:Keep (λj=>j=y\/j=x) W0 w2:=Keep.below b4.o;have k3:Keep (λj=>j=y\/j=x) w2 V:=bz.o.mono (λ_ _ h=>.inr h);have k4:Keep (λj=>j=y\/j=x) V w3:=Keep.below bw.o;exact (((k1.trans k2).trans k3).trans k4).trans (aP.mono (λ_ _ h=>.inl h))
theorem yg (ra p q:Int) (base n lo m c1 c2 cg:Nat) (A B G:N_) (ps ms g:Q_) (w:R8) (hp:w.ownsRow base 2 1 (.slice A n c1) n (aA .i64 ps)) (hm:w.ownsRow base 2 1 (.slice B n c2) n (aA .i64 ms)) (ad:∀i,(Value.slice A n c1).ownBlock=some i->(Value.slice B n c2).ownBlock≠some i) (hG:Rd w G (aA .i64 g)) (b1:g.length=m) (cs:lo+m<=n) (hn:n<=1048576) (ab:∀a,G=some a->(Value.slice A n c1).ownBlock≠some a.block) (b3:∀a,G=some a->(Value.slice B n c2).ownBlock≠some a.block) (wr: -9223372036854775808<=ra/\ra<=9223372036854775807) (wo: -9223372036854775808<=p/\p<=9223372036854775807) (wm:W64 ms):Calls prog 224 #[.agg #[RI ra,RI p,RI q],.agg #[.slice A n c1,.slice B n c2],.agg #[RI lo,RI ((lo+m:Nat):Int)],.slice G m cg] w λe v=>e=.returned (.bool true)/\
   v.ownsRow base 2 1 (.slice A n c1) n (aA .i64 (apP ra p q ps ms g lo m))/\v.ownsRow base 2 1 (.slice B n c2) n (aA .i64 (apM p q ms g lo m))/\Keep (λj=>(Value.slice A n c1).ownBlock=some j\/(Value.slice B n c2).ownBlock=some j) w v:=by
 have be:=lw hp;have b9:=lw hm;have Z:=λv=>FX lo (lo+m) v ap ap;rw [Nat.add_sub_cancel_left] at Z;obtain ⟨H,b5⟩:∃H,lo+m=H:=⟨_,rfl⟩;rw [b5] at Z |-;have co:lo<=H:=ap;have cL:H<=n:=ap;have cM:((n:Int) != (n:Int))=false:=by simp
 have cA:((m:Int) != (m:Int))=false:=by simp
 have cv:¬((n:Int)<(H:Int)):=ap;have cw:¬((H:Int)<lo):=ap;have a3:=hp.lt;have a5:=hm.lt;obtain ⟨av,HP,HM,bX,HG,bM,bh,ao⟩:=ak Z hp hm ad hG b1 ab b3;obtain ⟨aR,b6,Wr,Wo,Wm,a0,a1⟩:=aj be b9 wr wo wm a3 a5;clear Z hp hm ad hG b1 ab b3 be b9 wr wo wm a3 a5 b5;go_enter func224,ntmps224;go_wp2_with fail;have a6:(((w.alloc (.cells #[RI ra,RI p,RI q] 162)).alloc (.cells #[.slice A n c1,.slice B n c2] 91)).alloc (.cells #[RI lo,RI H] 69)).heap.size=w.heap.size+3:=by simp
 have a8:aq w (((w.alloc (.cells #[RI ra,RI p,RI q] 162)).alloc (.cells #[.slice A n c1,.slice B n c2] 91)).alloc (.cells #[RI lo,RI H] 69)):=(((QA _ w).alloc (Qx _) _).alloc (by simp) _).alloc (by simp;omega) _;have a7:=(QL ((w.alloc (.cells #[RI ra,RI p,RI q] 162)).alloc (.cells #[.slice A n c1,.slice B n c2] 91)) (.cells #[RI lo,RI H] 69) w.heap.size (by simp;omega)).trans ((QL (w.alloc (.cells #[RI ra,RI p,RI q] 162)) (.cells #[.slice A n c1,.slice B n c2] 91) w.heap.size (by simp)).trans (Qy w _));have D:=Qy (w.alloc (.cells #[RI ra,RI p,RI q] 162)) (.cells #[.slice A n c1,.slice B n c2] 91);rw [show (w.alloc (.cells #[RI ra,RI p,RI q] 162)).heap.size=w.heap.size+1 by simp] at D;have D:=(QL ((w.alloc (.cells #[RI ra,RI p,RI q] 162)).alloc (.cells #[.slice A n c1,.slice B n c2] 91)) (.cells #[RI lo,RI H] 69) (w.heap.size+1) (by simp)).trans D;have T:=Qy ((w.alloc (.cells #[RI ra,RI p,RI q] 162)).alloc (.cells #[.slice A n c1,.slice B n c2] 91)) (.cells #[RI lo,RI H] 69);rw [show ((w.alloc (.cells #[RI ra,RI p,RI q] 162)).alloc (.cells #[.slice A n c1,.slice B n c2] 91)).heap.size=w.heap.size+1+1 by simp] at T;obtain ⟨W0,bl⟩:∃W0,W0=((w.alloc (.cells #[RI ra,RI p,RI q] 162)).alloc (.cells #[.slice A n c1,.slice B n c2] 91)).alloc (.cells #[RI lo,RI H] 69):=⟨_,rfl⟩;rw [<-bl] at a6 a8 a7 D T |-;obtain ⟨cr,L,aG,b0,V⟩:=ah a6 a8 a7 D T;clear a6 a8 a7 D T bl;refine (av.o _).mono ?_;rintro e w1 ⟨rfl,k1⟩;have y:=(k1.block _ (Qw V.o)).trans V.o;have c8:=Qw y;obtain ⟨⟨x0,x1⟩,xf⟩:=bx2 y;have K1:=aa k1;clear k1 y;go_wp2_with fail;refine (av.o _).mono ?_;rintro e w2 ⟨rfl,k2⟩;have K2:=aa (K1.o.trans (k2.mono K1.o.size));clear k2 x0 x1 xf c8;have b8:=L.o.trans (K2.o.mono L.o.size);have bn:=az (az HP.o L.o) K2.o;have b4:=az (az HM.o L.o) K2.o;have bw:=(HG.o.below L.o).below K2.o;have I:=(K2.o.block _ (Qw aG.o)).trans aG.o;have Q:=(K2.o.block _ (Qw b0.o)).trans b0.o;have y:=(K2.o.block _ (Qw V.o)).trans V.o;obtain ⟨c6,bO,cd,c9,bi,bb,bv⟩:=aj b8 bn b4 bw I Q y;clear b8 bn b4 bw I Q y;go_wp2_with fail
 go_loopw [46] (λx wr=>∃k:Nat,k<=m/\x=RI k/\wr.ownsRow base 2 1 (.slice A n c1) n (aA .i64 (apP ra p q ps ms g lo k))/\wr.ownsRow base 2 1 (.slice B n c2) n (aA .i64 (apM p q ms g lo k))/\Keep (λj=>(Value.slice A n c1).ownBlock=some j\/(Value.slice B n c2).ownBlock=some j) w2 wr) (λx _=>m-(intOf x).toNat)
 .exact ⟨0,QB _,rfl,by rw [BZ];exact bO.o,by rw [B7];exact cd.o,Keep.refl _ _⟩
 case round=>
  obtain ⟨k,hk,rfl,R,J,N⟩:=hrel;by_cases bV:k<m
  .have hG:=N.rd c9.o (λa ha=>by
    rintro (h | h)
    .exact bh.o a ha h
    .exact ao.o a ha h)
   obtain ⟨bG,oG,rfl,pg⟩:=hG.num (show k<g.length by rw [bM.o];exact bV);obtain ⟨gk,O⟩:∃gk,nth g k=gk:=⟨_,rfl⟩;rw [O] at pg
   have U:∀j,w.heap.size<=j->¬((Value.slice A n c1).ownBlock=some j\/(Value.slice B n c2).ownBlock=some j):=λj hj=>by
    rintro (h | h)
    .have:=(a0.o j h).2;omega
    .have:=(a1.o j h).2;omega
   have I:=(N.block _ (Qw bi.o) (U _ (Qx _))).trans bi.o;have Q:=(N.block _ (Qw bb.o) (U _ ap)).trans bb.o;have y:=(N.block _ (Qw bv.o) (U _ ap)).trans bv.o;obtain ⟨Y,e1,b2,_,_⟩:=R.form ap;obtain ⟨gm,e2,bf,_,_⟩:=J.form ap;simp only [Rv] at b2 bf;obtain ⟨rfl,_,rfl⟩:=b2;obtain ⟨rfl,_,rfl⟩:=bf;have a4:Y≠gm:=λe=>bX.o Y rfl (by rw [e];rfl);have a9:=Ci ra p q gk base n (lo+k) Y c1 gm c2 (apP ra p q ps ms g lo k) (apM p q ms g lo k) wr.drew (bZ R 1) (bZ J 1) a4 ap Wr.o Wo.o (zn Wm.o);rw [Po ra p q ps ms g lo k (by have:=aR.o;omega),Pp p q ms g lo k (by have:=b6.o;omega),<-O,Fe ra p q ps ms g lo k (by have:=aR.o;omega),Fg p q ms g lo k (by have:=b6.o;omega),O] at a9;obtain ⟨⟨y0,y1,y2⟩,yf⟩:=bx3 I;obtain ⟨⟨z0,z1⟩,zf⟩:=bx2 Q;obtain ⟨⟨t0,t1⟩,tf⟩:=bx2 y;have cx:(k:Int)<m:=ap;have bN:IntKind.i64.wrap ((lo:Int)+(k:Int))=(lo:Int)+k:=QC _ ap;have cn:(0:Int)<=(lo:Int)+k:=ap;have cI:(lo:Int)+k<n:=ap;have bA:((lo:Int)+k).toNat=lo+k:=ap;obtain ⟨HK,cb,cy⟩:=af N a9 O;clear N a9 R J hG I Q y U O a4;go_wp2_with fail;have u:(λv:R8=>v.cell? (ar w.heap.size 0)=some (RI ra)/\v.cell? (ar w.heap.size 1)=some (RI p)/\v.cell? (ar w.heap.size 2)=some (RI q)/\v.cell? (ar (w.heap.size+1) 0)=some (.slice (some (ar Y 0)) n c1)/\v.cell? (ar (w.heap.size+1) 1)=some (.slice (some (ar gm 0)) n c2)/\v.cell? (ar (w.heap.size+1+1) 0)=some (RI lo)/\v.cell? (ar bG (oG+k))=some (RI gk)) wr.drew:=⟨y0,y1,y2,z0,z1,t0,pg⟩;have cj:Y<w.heap.size:=(a0.o Y rfl).2;have cl:gm<w.heap.size:=(a1.o gm rfl).2
   have a2:¬(bG=Y\/bG=gm):=by
    rintro (h | h)
    .exact bh.o _ rfl (by rw [h];rfl)
    .exact ao.o _ rfl (by rw [h];rfl)
   refine HA.g (λv:R8=>v.cell? (ar w.heap.size 0)=some (RI ra)/\v.cell? (ar w.heap.size 1)=some (RI p)/\v.cell? (ar w.heap.size 2)=some (RI q)/\v.cell? (ar (w.heap.size+1) 0)=some (.slice (some (ar Y 0)) n c1)/\v.cell? (ar (w.heap.size+1) 1)=some (.slice (some (ar gm 0)) n c2)/\v.cell? (ar (w.heap.size+1+1) 0)=some (RI lo)/\v.cell? (ar bG (oG+k))=some (RI gk)) ?_;refine HA.t ?_ [0,1,2,3,4,5,6,7,8,9,10,11,12,13,14,15,16,17,18] u ?_;clear bN bA;refine HA.o 19 (λK N=>?_);go_simp;refine cb.o.mono ?_;rintro e w5 ⟨rfl,bs,aM,C⟩;have aP:=QF (C.cell u.1 (by simp;omega)) (QF (C.cell u.2.1 (by simp;omega)) (QF (C.cell u.2.2.1 (by simp;omega)) (QF (C.cell u.2.2.2.1 (by simp;omega)) (QF (C.cell u.2.2.2.2.1 (by simp;omega)) (QF (C.cell u.2.2.2.2.2.1 (by simp;omega)) (C.cell u.2.2.2.2.2.2 a2))))))
   have b7:Keep (λj=>(Value.slice (some (ar Y 0)) n c1).ownBlock=some j\/(Value.slice (some (ar gm 0)) n c2).ownBlock=some j) w2 w5:=HK.o.trans ((Keep.refl _ wr).drew.trans (C.mono (λj _ h=>by
    rcases h with rfl | rfl
    .exact .inl rfl
    .exact .inr rfl)))
   obtain ⟨cc,bI,cf⟩:=af bs aM b7;clear bs aM C b7 u a2;dsimp only;refine N.out _ _ aP (λu=>?_);clear N K aP u y0 y1 y2 yf z0 z1 zf t0 t1 tf pg;refine HA.d ?_;go_wp2_with fail;go_roundw
   .exact ⟨k+1,by omega,by go_num,cc.o,bI.o,cf.o⟩
   .simp [intOf];omega
  .obtain rfl:m=k:=ap;have bo:Keep (λj=>(Value.slice A n c1).ownBlock=some j\/(Value.slice B n c2).ownBlock=some j) w wr:=(Keep.below c6.o).trans N;obtain ⟨bz,ci,c7⟩:=af R J bo;clear R J bo N;go_wp2_with fail;go_ret;exact ⟨rfl,bz.o,ci.o,c7.o⟩
theorem kY (A B:N_) (n c d:Nat) (ps ms:Q_) (w:R8) (hA:Rd w A (aA .i64 ps)) (hB:Rd w B (aA .i64 ms)) (a0:ps.length=n) (a7:ms.length=n) (hn:n<=1048576):Calls prog 73 #[.agg #[.slice A n c,.slice B n d]] w λe i=>∃A1 c1 x c2,e=.returned (.agg #[.slice A1 n c1,.slice x n c2])/\n<=c1/\n<=c2/\i.ownsRow w.heap.size 2 1 (.slice A1 n c1) n (aA .i64 ps)/\i.ownsRow w.heap.size 2 1 (.slice x n c2) n (aA .i64 ms)/\
   (∀j,(Value.slice A1 n c1).ownBlock=some j->(Value.slice x n c2).ownBlock≠some j)/\aq w i:=by
 have O:=λi (k:aq w i)=>fT A ps c i (hA.below k) ap;have T:=λi (k:aq w i)=>fT B ms d i (hB.below k) ap;rw [a0] at O;rw [a7] at T;obtain ⟨aR,b2⟩:=ae O T;clear O T a0 a7 hA hB;go_enter func73,ntmps73;go_wp2_with fail;have hz:=Qy (w.alloc (.cells #[.slice A n c,.slice B n d] 91)) (.cells #[RJ,RJ] 91);rw [show (w.alloc (.cells #[.slice A n c,.slice B n d] 91)).heap.size=w.heap.size+1 by simp] at hz;have hy:=(QL (w.alloc (.cells #[.slice A n c,.slice B n d] 91)) (.cells #[RJ,RJ] 91) w.heap.size (by simp)).trans (Qy w _);have U:aq w ((w.alloc (.cells #[.slice A n c,.slice B n d] 91)).alloc (.cells #[RJ,RJ] 91)):=((QA _ w).alloc (Qx _) _).alloc (by simp) _;have Q:((w.alloc (.cells #[.slice A n c,.slice B n d] 91)).alloc (.cells #[RJ,RJ] 91)).heap.size=w.heap.size+2:=by simp
 obtain ⟨W0,a1⟩:∃W0,W0=(w.alloc (.cells #[.slice A n c,.slice B n d] 91)).alloc (.cells #[RJ,RJ] 91):=⟨_,rfl⟩;rw [<-a1] at hz hy U Q |-;obtain ⟨⟨y0,y1⟩,yf⟩:=bx2 hy;obtain ⟨Hz,Y,D⟩:=af hz U Q;clear hz hy U Q a1;have h:(λi:R8=>i.cell? (ar w.heap.size 0)=some (.slice A n c)/\i.cell? (ar w.heap.size 1)=some (.slice B n d)) W0.drew:=⟨y0,y1⟩;refine XA.g 7 (λi:R8=>i.cell? (ar w.heap.size 0)=some (.slice A n c)/\i.cell? (ar w.heap.size 1)=some (.slice B n d)) ?_;refine XA.t ?_ [0,1,3,4] h ?_;refine XA.o 2 (λK hK=>?_);go_simp;refine (aR.o _ Y.o.drew).mono ?_;rintro e w1 ⟨A1,c1,rfl,ab,C,u⟩;have b0:=aa ab;clear ab;have a3:=QF (aw u h.1) (aw u h.2);have a2:=(u.block (w.heap.size+1) (by simp [D.o])).trans Hz.o;have Z:=Y.o.drew.trans (u.mono (by simp [D.o]));have b1:=u.size;simp only [Ru,D.o] at b1;have C:=aF (base':=w.heap.size) C (by simp [D.o]);obtain ⟨a4,aM,I⟩:=af C a2 Z;clear C a2 Z u h;dsimp only;refine hK.out _ _ a3 (λh=>?_);clear hK K a3;refine XA.o 5 (λK hK=>?_);go_simp;refine (b2.o _ I.o).mono ?_;rintro e V ⟨x,c2,rfl,ad,y,p⟩;have L:∀j,(Value.slice A1 n c1).ownBlock=some j->(Value.slice x n c2).ownBlock≠some j:=λj h1 h2=>by have:=(a4.o.lt j h1).2;have:=(y.lt j h2).1;omega
 obtain ⟨ao,a9⟩:=ae ad L;clear ad L;have a5:=QF (aw p h.1) (aw p h.2);have H:=(p.block (w.heap.size+1) ap).trans aM.o;have a6:=I.o.trans (p.mono I.o.size);have b5:=p.size;have y:=aF (base':=w.heap.size) y I.o.size;have N:=az a4.o p;obtain ⟨⟨z0,z1⟩,zf⟩:=bx2 H;have l2:w.heap.size+1<V.heap.size:=Qw H;obtain ⟨a8,J,R,b3⟩:=ag y N H a6;clear y N H a6 p h;dsimp only;refine hK.out _ _ a5 (λh=>?_);clear hK K a5;refine XA.t ?_ [6] h ?_;refine XA.e ?_;clear h;simp only [Re,Rf];go_wp2_with fail;have e1:=RG V (w.heap.size+1) 0 _ _ (.slice A1 n c1) R.o;have e2:=RG _ (w.heap.size+1) 1 _ _ (.slice x n c2) e1;have e3:((V.setCell (ar (w.heap.size+1) 0) (.slice A1 n c1)).setCell (ar (w.heap.size+1) 1) (.slice x n c2)).heap[w.heap.size+1]?=some (.cells #[(.slice A1 n c1),(.slice x n c2)] 91 (0,0)):=by simpa using e2
 have hk:Keep (λj=>j=w.heap.size+1) V ((V.setCell (ar (w.heap.size+1) 0) (.slice A1 n c1)).setCell (ar (w.heap.size+1) 1) (.slice x n c2)):=Keep.setCell (S:=λj=>j=w.heap.size+1) (Keep.setCell (S:=λj=>j=w.heap.size+1) (Keep.refl _ _) (ar (w.heap.size+1) 0) (.inr rfl) _) (ar (w.heap.size+1) 1) (.inr rfl) _;obtain ⟨W9,aP⟩:∃W9,W9=(V.setCell (ar (w.heap.size+1) 0) (.slice A1 n c1)).setCell (ar (w.heap.size+1) 1) (.slice x n c2):=⟨_,rfl⟩;rw [<-aP] at e3 hk |-;obtain ⟨⟨x0,x1⟩,xf⟩:=bx2 e3;have b4:=hk.own J.o (λj hj e=>ay R.o (by decide) J.o (by rw [hj,e]));have aG:=hk.own a8.o (λj hj e=>ay R.o (by decide) a8.o (by rw [hj,e]));have av:aq w W9:=b3.o.trans (hk.toBelow ap (λj hj=>ap));exact QM (v:=.agg #[.slice A1 n c1,.slice x n c2]) (by simp [results,results73,go_sem,x0,x1]) rfl ⟨A1,c1,x,c2,rfl,b0.o,ao.o,b4,aG,a9.o,av⟩
theorem Qc (ra p q:Int) (A B G:N_) (n c d cg:Nat) (ps ms g:Q_) (w:R8) (hA:Rd w A (aA .i64 ps)) (hB:Rd w B (aA .i64 ms)) (hG:Rd w G (aA .i64 g)) (a4:ps.length=n) (a3:ms.length=n) (aM:g.length=n) (hn:n<=1048576) (wr: -9223372036854775808<=ra/\ra<=9223372036854775807) (wo: -9223372036854775808<=p/\p<=9223372036854775807) (wm:W64 ms) (a9:∀a,G=some a->a.block<w.heap.size):Calls prog 264 #[.agg #[RI ra,RI p,RI q],.agg #[.slice A n c,.slice B n d],.slice G n cg] w λe N=>∃A1 c1 i c2,e=.returned (.tuple #[.agg #[.slice A1 n c1,.slice i n c2],.bool true])/\n<=c1/\n<=c2/\
   N.ownsRow w.heap.size 2 1 (.slice A1 n c1) n (aA .i64 (rk ra p q ps ms g))/\N.ownsRow w.heap.size 2 1 (.slice i n c2) n (aA .i64 (ro p q ms g))/\aq w N:=by
 have be:=λN (k:aq w N)=>kY A B n c d ps ms N (hA.below k) (hB.below k) a4 a3 hn
 have a5:=λ(A1 i:N_) c1 c2 base N (k:aq w N) (hb:w.heap.size<=base) (h1:N.ownsRow base 2 1 (.slice A1 n c1) n (aA .i64 ps)) (h2:N.ownsRow base 2 1 (.slice i n c2) n (aA .i64 ms)) bh=>yg ra p q base n 0 n c1 c2 cg A1 i G ps ms g N h1 h2 bh (hG.below k) aM ap hn
  (λa ha e=>by have:=(h1.lt _ e).1;have:=a9 a ha;omega) (λa ha e=>by have:=(h2.lt _ e).1;have:=a9 a ha;omega) wr wo wm
 have e1:=NY ra p q ps ms g;have e2:=NZ p q ms g;rw [a4] at e1;rw [a3] at e2;rw [e1,e2,RB] at a5;have hq:((n:Int) != (n:Int))=false:=by simp
 obtain ⟨bv,bo⟩:=ae be a5;clear be a5 e1 e2 hA hB hG a4 a3 aM wr wo wm a9;go_enter func264,ntmps264;go_wp2_with fail;have a0:(((w.alloc (.cells #[RI ra,RI p,RI q] 162)).alloc (.cells #[.slice A n c,.slice B n d] 91)).alloc (.cells #[RJ,RJ] 91)).heap.size=w.heap.size+3:=by simp
 have a6:aq w (((w.alloc (.cells #[RI ra,RI p,RI q] 162)).alloc (.cells #[.slice A n c,.slice B n d] 91)).alloc (.cells #[RJ,RJ] 91)):=(((QA _ w).alloc (Qx _) _).alloc (by simp) _).alloc (by simp;omega) _;have a2:=(QL ((w.alloc (.cells #[RI ra,RI p,RI q] 162)).alloc (.cells #[.slice A n c,.slice B n d] 91)) (.cells #[RJ,RJ] 91) w.heap.size (by simp;omega)).trans ((QL (w.alloc (.cells #[RI ra,RI p,RI q] 162)) (.cells #[.slice A n c,.slice B n d] 91) w.heap.size (by simp)).trans (Qy w _));have H:=Qy (w.alloc (.cells #[RI ra,RI p,RI q] 162)) (.cells #[.slice A n c,.slice B n d] 91);rw [show (w.alloc (.cells #[RI ra,RI p,RI q] 162)).heap.size=w.heap.size+1 by simp] at H;have H:=(QL ((w.alloc (.cells #[RI ra,RI p,RI q] 162)).alloc (.cells #[.slice A n c,.slice B n d] 91)) (.cells #[RJ,RJ] 91) (w.heap.size+1) (by simp)).trans H;have Q:=Qy ((w.alloc (.cells #[RI ra,RI p,RI q] 162)).alloc (.cells #[.slice A n c,.slice B n d] 91)) (.cells #[RJ,RJ] 91);rw [show ((w.alloc (.cells #[RI ra,RI p,RI q] 162)).alloc (.cells #[.slice A n c,.slice B n d] 91)).heap.size=w.heap.size+1+1 by simp] at Q;obtain ⟨W0,b2⟩:∃W0,W0=((w.alloc (.cells #[RI ra,RI p,RI q] 162)).alloc (.cells #[.slice A n c,.slice B n d] 91)).alloc (.cells #[RJ,RJ] 91):=⟨_,rfl⟩;rw [<-b2] at a0 a6 a2 H Q |-;obtain ⟨x,av,aG,a7,bA⟩:=ah a6 a2 H Q a0;clear a0 a6 a2 H Q b2;refine (bv.o _ x.o).mono ?_;rintro e w1 ⟨A1,c1,i,c2,rfl,bf,b0,C,y,U,k1⟩;have Z:=(k1.block _ (Qw av.o)).trans av.o;have a8:=(k1.block _ (Qw aG.o)).trans aG.o;have u:=(k1.block _ (Qw a7.o)).trans a7.o;have bz:=Qw Z;have bG:=Qw a8;have bM:=Qw u;have ad:=x.o.trans (k1.mono x.o.size);obtain ⟨⟨x0,x1,x2⟩,xf⟩:=bx3 Z;obtain ⟨⟨y0,y1⟩,yf⟩:=bx2 a8;obtain ⟨b5,b3,bw,bl,b9,ab,b4⟩:=aj u ad bf b0 C y U;clear k1 Z a8 u ad bf b0 C y U;go_wp2_with fail;have J:=b3.o.alloc b3.o.size (.cells #[.slice A1 n c1,.slice i n c2] 91);have a1:=Qy w1 (.cells #[.slice A1 n c1,.slice i n c2] 91);have u:=(QL w1 (.cells #[.slice A1 n c1,.slice i n c2] 91) _ (Qw b5.o)).trans b5.o;have C:=b9.o.alloc (.cells #[.slice A1 n c1,.slice i n c2] 91);have y:=ab.o.alloc (.cells #[.slice A1 n c1,.slice i n c2] 91);have b7:w1.heap.size<(w1.alloc (.cells #[.slice A1 n c1,.slice i n c2] 91)).heap.size:=by simp
 obtain ⟨V,hV⟩:∃V,V=w1.alloc (.cells #[.slice A1 n c1,.slice i n c2] 91):=⟨_,rfl⟩;rw [<-hV] at J a1 u C y b7 |-;clear hV;refine (bo.o A1 i c1 c2 W0.heap.size V J x.o.size C y b4.o).mono ?_;rintro e w3 ⟨rfl,ao,b6,R⟩;have L:=C.lt;have O:=y.lt
 have b8:∀j,j<W0.heap.size->¬((Value.slice A1 n c1).ownBlock=some j\/(Value.slice i n c2).ownBlock=some j):=λj Y=>by
  rintro (h | h)
  .have:=(L j h).1;omega
  .have:=(O j h).1;omega
 have T:=(R.block _ b7 (by
  rintro (h | h)
  .have:=(b9.o.lt _ h).2;omega
  .have:=(ab.o.lt _ h).2;omega)).trans a1
 have D:=(R.block _ (Qw u) (b8 _ (Qw a7.o))).trans u
 have aP:=J.trans (R.toBelow J.size (λj Y=>by
  rcases Y with h | h
  .have:=(L j h).1;have:=x.o.size;omega
  .have:=(O j h).1;have:=x.o.size;omega))
 have bI:=Qw D;obtain ⟨⟨z0,z1⟩,zf⟩:=bx2 T;obtain ⟨⟨t0,t1⟩,tf⟩:=bx2 D;obtain ⟨I,b1,aR,bb⟩:=ag D aP ao b6;clear D aP ao b6 R T a1 u C y J L O b8 x0 x1 x2 xf y0 y1 yf;go_wp2_with fail;have e1:=RG w3 (w.heap.size+1+1) 0 _ _ (.slice A1 n c1) I.o;have e2:=RG _ (w.heap.size+1+1) 1 _ _ (.slice i n c2) e1;have e3:((w3.setCell (ar (w.heap.size+1+1) 0) (.slice A1 n c1)).setCell (ar (w.heap.size+1+1) 1) (.slice i n c2)).heap[w.heap.size+1+1]?=some (.cells #[.slice A1 n c1,.slice i n c2] 91 (0,0)):=by simpa using e2
 have hk:Keep (λj=>j=w.heap.size+1+1) w3 ((w3.setCell (ar (w.heap.size+1+1) 0) (.slice A1 n c1)).setCell (ar (w.heap.size+1+1) 1) (.slice i n c2)):=Keep.setCell (S:=λj=>j=w.heap.size+1+1) (Keep.setCell (S:=λj=>j=w.heap.size+1+1) (Keep.refl _ _) (ar (w.heap.size+1+1) 0) (.inr rfl) _) (ar (w.heap.size+1+1) 1) (.inr rfl) _;obtain ⟨W9,bs⟩:∃W9,W9=(w3.setCell (ar (w.heap.size+1+1) 0) (.slice A1 n c1)).setCell (ar (w.heap.size+1+1) 1) (.slice i n c2):=⟨_,rfl⟩;rw [<-bs] at e3 hk |-;obtain ⟨⟨r0,r1⟩,rf⟩:=bx2 e3;have bn:=hk.own aR.o (λj Y e=>ay I.o (by decide) aR.o (by rw [Y,e]));have bi:=hk.own bb.o (λj Y e=>ay I.o (by decide) bb.o (by rw [Y,e]));exact QM (v:=.tuple #[.agg #[.slice A1 n c1,.slice i n c2],.bool true]) (by simp [results,results264,go_sem,r0,r1]) rfl ⟨A1,c1,i,c2,rfl,bw.o,bl.o,aF bn x.o.size,aF bi x.o.size,b1.o.trans (hk.toBelow b1.o.size (λj Y=>ap))⟩
theorem Ct (A:N_) (n c:Nat) (ps:Q_) (w:R8) (hA:Rd w A (aA .i64 ps)) (aG:ps.length=n) (hn:n<=1048576):Calls prog 70 #[.slice A n c] w λe w'=>∃A1 c1 A2 c2,e=.returned (.agg #[.slice A1 n c1,.slice A2 n c2])/\n<=c1/\n<=c2/\w'.ownsRow w.heap.size 2 1 (.slice A1 n c1) n (aA .i64 ps)/\w'.ownsRow w.heap.size 2 1 (.slice A2 n c2) n (aA .i64 (List.replicate n 0))/\(∀j,(Value.slice A1 n c1).ownBlock=some j->(Value.slice A2 n c2).ownBlock≠some j)/\aq w w':=by
 have a3:=λw' (k:aq w w')=>fT A ps c w' (hA.below k) ap;rw [aG] at a3;have aP:=aa a3;have a8:=λw'=>ny nc w' rfl n ap (by unfold maxLen;omega);simp only [fI] at a8;have aR:=aa a8;clear a3 aG hA a8;go_enter func70,ntmps70;go_wp2_with fail;have hz:=Qy w (.cells #[RJ,RJ] 91);have a6:aq w (w.alloc (.cells #[RJ,RJ] 91)):=(QA _ w).alloc (Qx _) _;obtain ⟨I,aM⟩:∃I,I=w.alloc (.cells #[RJ,RJ] 91):=⟨_,rfl⟩;rw [<-aM] at hz a6 |-;have av:=Qw hz;obtain ⟨HZ,B⟩:=ae hz a6;clear hz a6 aM;have h:(λ_:R8=>True) I.drew:=trivial;refine kK 6 (λ_:R8=>True) (by kernel_rfl) ?_;refine wX 0 h ?_;refine wX 2 h ?_;refine wX 3 h ?_;simp only [QS,QT,QU,Act.put,QV,QX,QY];refine cJ (rs:=[1,4]) (by kernel_rfl) (by simp) ?_;refine aT.cons rfl (λK O=>?_) (aT.cons rfl (λK O=>?_) aT.nil)
 .simp only [QS,QT,QU];go_simp;refine (aP.o _ B.o.drew).mono ?_;rintro e J ⟨A1,c1,rfl,a0,D,u⟩;have N:=B.o.drew.trans (u.mono B.o.size);have Q:=(u.block w.heap.size (by simpa using av)).trans HZ.o;have a1:=aF (base':=w.heap.size) D (by have:=B.o.size;simpa using this);have a5:=u.size;have Y:∀j,(Value.slice A1 n c1).ownBlock=some j->j<J.heap.size:=λj y=>(D.lt j y).2;have a2:=aa Y;clear Y;simp only [Ru] at a5;obtain ⟨x,a9,b1,ab⟩:=ag N Q a1 a0;clear u N Q D a1 a0;dsimp only;refine O.out _ _ trivial (λh=>?_);clear O K h;refine cJ (rs:=[4]) (by kernel_rfl) (by simp) ?_;refine aT.cons rfl (λK O=>?_) aT.nil;simp only [QS,QT,QU];obtain ⟨V,H,Z,p⟩:=aR.o J;obtain ⟨L,T,i,U⟩:=ag (aF (base':=w.heap.size) Z x.o.size) (x.o.trans (p.mono x.o.size)) ((p.block w.heap.size ap).trans a9.o) (az b1.o p);have C:=i.o;obtain ⟨⟨z0,z1⟩,zf⟩:=bx2 C;have b0:=Qw C;clear Z p C;go_simp;refine O.out _ _ trivial (λh=>?_);clear O K H;refine wX 5 h ?_;simp only [QS,QT,QU,Act.put,QV,QX,QY];refine fw (by rfl) (by kernel_rfl) ?_;simp only [Re,Rf];go_wp2_with fail;have e1:=RG V w.heap.size 0 _ _ (.slice A1 n c1) i.o;have e2:=RG _ w.heap.size 1 _ _ (.slice (some (ar J.heap.size 0)) n n) e1;have e3:((V.setCell (ar w.heap.size 0) (.slice A1 n c1)).setCell (ar w.heap.size 1) (.slice (some (ar J.heap.size 0)) n n)).heap[w.heap.size]?=some (.cells #[.slice A1 n c1,.slice (some (ar J.heap.size 0)) n n] 91 (0,0)):=by simpa using e2
  have hk:Keep (λj=>j=w.heap.size) V ((V.setCell (ar w.heap.size 0) (.slice A1 n c1)).setCell (ar w.heap.size 1) (.slice (some (ar J.heap.size 0)) n n)):=Keep.setCell (S:=λj=>j=w.heap.size) (Keep.setCell (S:=λj=>j=w.heap.size) (Keep.refl _ _) (ar w.heap.size 0) (.inr rfl) _) (ar w.heap.size 1) (.inr rfl) _;obtain ⟨W9,a4⟩:∃W9,W9=(V.setCell (ar w.heap.size 0) (.slice A1 n c1)).setCell (ar w.heap.size 1) (.slice (some (ar J.heap.size 0)) n n):=⟨_,rfl⟩;rw [<-a4] at e3 hk |-;obtain ⟨⟨r0,r1⟩,rf⟩:=bx2 e3;have ad:=hk.own U.o (λj y e=>ay i.o (by decide) U.o (by rw [y,e]));have a7:=hk.own L.o (λj y e=>ay i.o (by decide) L.o (by rw [y,e]))
  exact QM (v:=.agg #[.slice A1 n c1,.slice (some (ar J.heap.size 0)) n n]) (by simp [results,results70,go_sem,r0,r1]) rfl ⟨A1,c1,_,n,rfl,ab.o,Qx _,ad,a7,λj y e=>by
   have h1:=a2.o j y;have h2:J.heap.size=j:=by simpa [Value.ownBlock] using e
   omega,T.o.trans (hk.toBelow T.o.size (λj y=>ap))⟩
 .simp only [QS,QT,QU];obtain ⟨J,H,Z,p⟩:=aR.o I.drew;have N:=B.o.drew.trans (p.mono B.o.size);have Q:=(p.block w.heap.size (by simpa using av)).trans HZ.o;have R:=aF (base':=w.heap.size) Z (by have:=B.o.size;simpa using this);have a5:=p.size;simp only [Ru] at a5 R H;obtain ⟨x,a9,ao⟩:=af N Q R;clear p N Q Z R;go_simp;refine O.out _ _ trivial (λh=>?_);clear O K H;refine cJ (rs:=[1]) (by kernel_rfl) (by simp) ?_;refine aT.cons rfl (λK O=>?_) aT.nil;simp only [QS,QT,QU];go_simp;refine (aP.o _ x.o).mono ?_;rintro e V ⟨A1,c1,rfl,a0,D,u⟩;have Y:∀j,(Value.slice A1 n c1).ownBlock=some j->J.heap.size<=j:=λj y=>(D.lt j y).1;have a2:=aa Y;clear Y;obtain ⟨U,T,i,L,ab⟩:=ah (aF (base':=w.heap.size) D x.o.size) (x.o.trans (u.mono x.o.size)) ((u.block w.heap.size ap).trans a9.o) (az ao.o u) a0;have C:=i.o;obtain ⟨⟨z0,z1⟩,zf⟩:=bx2 C;have b0:=Qw C;clear D u C a0;dsimp only;refine O.out _ _ trivial (λh=>?_);clear O K;refine wX 5 h ?_;simp only [QS,QT,QU,Act.put,QV,QX,QY];refine fw (by rfl) (by kernel_rfl) ?_;simp only [Re,Rf];go_wp2_with fail;have e1:=RG V w.heap.size 0 _ _ (.slice A1 n c1) i.o;have e2:=RG _ w.heap.size 1 _ _ (.slice (some (ar I.heap.size 0)) n n) e1;have e3:((V.setCell (ar w.heap.size 0) (.slice A1 n c1)).setCell (ar w.heap.size 1) (.slice (some (ar I.heap.size 0)) n n)).heap[w.heap.size]?=some (.cells #[.slice A1 n c1,.slice (some (ar I.heap.size 0)) n n] 91 (0,0)):=by simpa using e2
  have hk:Keep (λj=>j=w.heap.size) V ((V.setCell (ar w.heap.size 0) (.slice A1 n c1)).setCell (ar w.heap.size 1) (.slice (some (ar I.heap.size 0)) n n)):=Keep.setCell (S:=λj=>j=w.heap.size) (Keep.setCell (S:=λj=>j=w.heap.size) (Keep.refl _ _) (ar w.heap.size 0) (.inr rfl) _) (ar w.heap.size 1) (.inr rfl) _;obtain ⟨W9,a4⟩:∃W9,W9=(V.setCell (ar w.heap.size 0) (.slice A1 n c1)).setCell (ar w.heap.size 1) (.slice (some (ar I.heap.size 0)) n n):=⟨_,rfl⟩;rw [<-a4] at e3 hk |-;obtain ⟨⟨r0,r1⟩,rf⟩:=bx2 e3;have ad:=hk.own U.o (λj y e=>ay i.o (by decide) U.o (by rw [y,e]));have a7:=hk.own L.o (λj y e=>ay i.o (by decide) L.o (by rw [y,e]))
  exact QM (v:=.agg #[.slice A1 n c1,.slice (some (ar I.heap.size 0)) n n]) (by simp [results,results70,go_sem,r0,r1]) rfl ⟨A1,c1,_,n,rfl,ab.o,Qx _,ad,a7,λj y e=>by
   have h1:=a2.o j y;have h2:I.heap.size=j:=by simpa [Value.ownBlock] using e
   have h3:=(ao.o.lt I.heap.size rfl).2
   omega,T.o.trans (hk.toBelow T.o.size (λj y=>ap))⟩
theorem Cu (S n b steps:Nat) (l:Q_) (w:R8) (h:gH w S n b steps l):Calls prog 251 #[(au S)] w λe i=>e=.returned (RI steps)/\w=i:=by
 obtain ⟨x,A,J,I,vs,h1,o,v,p,u⟩:=h;obtain ⟨⟨D,C,y,B⟩,H⟩:=bx4 h1;clear h1 o v p u;go_enter func251,ntmps251;go_wp2;go_ret;exact ⟨rfl,rfl⟩
theorem CA (S n b steps t:Nat) (l:Q_) (w:R8) (h:gH w S n b steps l) (hn:n<=1048576) (A:1<=n/b) (L:steps<=1048576) (ht:t<steps):Calls prog 242 #[(au S),RI t] w λe B=>e=.returned (.tuple #[RI ((t/(n/b):Nat):Int),RI ((t%(n/b):Nat):Int),.bool true])/\∃d,B=w.drewN d:=by
 have hs:=Cu S n b steps l w h;obtain ⟨Ab,cb,Ao,co,vs,h1,I,R,N,O⟩:=h;have y:=Nat.div_le_self n b;obtain ⟨nb,u⟩:∃nb,n/b=nb:=⟨_,rfl⟩;rw [u] at h1 A y |-;obtain ⟨⟨r0,r1,r2,r3⟩,rf⟩:=bx4 h1;obtain ⟨v,i⟩:∃v,t/nb=v:=⟨_,rfl⟩;obtain ⟨x,p⟩:∃x,t%nb=x:=⟨_,rfl⟩;have D:(t:Int).tdiv (nb:Int)=(v:Int):=by rw [<-i];rfl
 have a0:(t:Int).tmod (nb:Int)=(x:Int):=by rw [<-p];rfl
 have T:v<=t:=by rw [<-i];exact Nat.div_le_self _ _
 have H:x<=t:=by rw [<-p];exact Nat.mod_le _ _
 have V:IntKind.i64.wrap (v:Int)=(v:Int):=QC _ ap;have Z:IntKind.i64.wrap (x:Int)=(x:Int):=QC _ ap;have U:¬(nb=0):=ap;have Q:(t:Int)<steps:=ap;have Y:¬((t:Int)<0):=ap;have C:¬((steps:Int)<=t):=ap;rw [i,p];have J:=aa hs;clear hs h1 I R N O u i p;go_enter func242,ntmps242;go_wp2_with fail;refine J.o.mono ?_;rintro e B ⟨rfl,rfl⟩;go_wp2_with fail
 go_quiet (fail)
 go_wp2_with fail;go_ret3;exact ⟨rfl,_,rfl⟩
def de (l:Q_) (n b t:Nat):Q_:=((gC l n ((t/(n/b))*(n-1))).drop (t%(n/b)*b)).take b
theorem BH {n b steps t:Nat} (h:t<steps):t/(n/b)<epN n b steps:=by
 unfold epN di;rw [if_neg ap];have:=Nat.div_le_div_right (c:=n/b) (show t<=steps-1 by omega);omega
theorem iY (l:Q_) {n b t:Nat} (h:1<=n/b):(de l n b t).length=b:=by
 unfold de;have h1:=qE n b (t%(n/b)) (Nat.mod_lt _ h);rw [Rn,Rq,jO];omega
theorem IN (l:Q_) {n b t:Nat} (h:1<=n/b):∀k,k<b->0<=nth (de l n b t) k/\nth (de l n b t) k<n:=λk hk=>by
 have h1:=qE n b (t%(n/b)) (Nat.mod_lt _ h);unfold de;rw [eJ hk,eK];exact Ky l n _ _ ap
theorem eD.keep {w p:R8} {base:Nat} {A:R7} {e:Ex} (h:eD w base A e) {S:Nat->Prop} (k:Keep S w p) (y:∀j,S j->j<base):eD p base A e:=by
 obtain ⟨u,v,rfl,h1,x,B⟩:=h;exact ⟨u,v,rfl,k.own h1 (λi o hs=>by have:=y i hs;have:=(h1.lt i o).1;omega),k.own x (λi o hs=>by have:=y i hs;have:=(x.lt i o).1;omega),B⟩
def wA (base:Nat) (w:R8) (l:R_) (n:Nat) (v:Value):Prop:=∃rows,w.ownsRow base 145 2 v n (List.flatten rows)/\rows.length=n/\(∀r∈rows,r.length=2)/\(∀j x,j<n->l[j]?=some x->eD w base (cF rows j) x)
theorem jz.own {w wr:R8} {l:R_} {k:Nat} {v:Value} (h:jz w wr l k v):wA w.heap.size wr l k v:=by
 obtain ⟨rows,h1,i,p,o,_⟩:=h;exact ⟨rows,h1,i,p,o⟩
theorem wA.base {base base':Nat} {w:R8} {l:R_} {n:Nat} {v:Value} (h:wA base w l n v) (hb:base'<=base):wA base' w l n v:=by
 obtain ⟨rows,h1,o,u,p⟩:=h;exact ⟨rows,aF h1 hb,o,u,λj x i y=>(p j x i y).base hb⟩
theorem wA.keep {base:Nat} {w o:R8} {l:R_} {n:Nat} {v:Value} (h:wA base w l n v) {S:Nat->Prop} (k:Keep S w o) (p:∀j,S j->j<base):wA base o l n v:=by
 obtain ⟨rows,h1,u,B,y⟩:=h;exact ⟨rows,k.own h1 (λi C hs=>by have:=p i hs;have:=(h1.lt i C).1;omega),u,B,λj x A D=>(y j x A D).keep k p⟩
theorem wA.rd {base:Nat} {w:R8} {l:R_} {A:N_} {n c:Nat} (h:wA base w l n (.slice A n c)) (hn:l.length=n):dR rEx 2 w A l:=by
 obtain ⟨rows,h1,u,p,o⟩:=h;exact ⟨rows,Rd.own h1,by omega,p,λj x i=>(o j x (by have:=(Ri.1 i).1;omega) i).rd⟩
theorem Kx (c d:Nat) (A B:N_) (l:R_) (i:Q_) (w:R8) (h:dR rEx 2 w A l) (hl:l.length<=1048576) (hB:Rd w B (aA .i64 i)) (U:i.length<=1048576):Calls prog 219 #[.slice A l.length c,.slice B i.length d] w λe H=>aq w H/\
   (((∀k,k<i.length->ks l.length (nth i k))/\∃D x,e=.returned (.tuple #[.slice D i.length x,.bool true])/\wA w.heap.size H (cN l i) i.length (.slice D i.length x))\/((¬∀k,k<i.length->ks l.length (nth i k))/\e=.returned (.tuple #[RJ,.bool false]))):=by
 have hm:=Ds w.heap.size c d A B l i (w.alloc (.cells #[.slice A l.length c] 25)) (Qy w _) (h.below fH ((QA _ w).alloc (Qx _) _)) hl (hB.alloc _) U;have p:=pq l i;unfold D6 at hm;obtain ⟨n,hn⟩:∃n,i.length=n:=⟨_,rfl⟩;obtain ⟨N,I⟩:∃N,l.length=N:=⟨_,rfl⟩;rw [hn,I] at hm |-;rw [hn] at p;obtain ⟨Q,R⟩:=ae hm p;clear hm p hn I h hB;go_enter func219,ntmps219;go_wp2_with fail;refine Q.o.mono ?_;rintro e O ⟨hb,L⟩;have u:aq w O:=((QA _ w).alloc (Qx _) _).trans (hb.mono (by first | omega | (simp;done) | (simp;omega)));have J:=aa u;clear hb u;rcases L with ⟨hg,v,rfl,y⟩ | ⟨hg,rfl⟩
 .obtain ⟨D,x,rfl⟩:=y.form;obtain ⟨C,T⟩:=ae hg y;clear hg y;go_wp2_with fail;go_ret2;exact ⟨J.o,.inl ⟨C.o,_,_,rfl,T.o.own.base (by simp)⟩⟩
 .have C:=aa hg;clear hg;go_wp2_with fail;go_ret2;exact ⟨J.o,.inr ⟨C.o,rfl⟩⟩
abbrev Pl:=Nat×Nat×Int
def plW (k c m:Nat):List Pl:=(List.range m).map λi=>(k,i/c,((i%c:Nat):Int))
def plB (k m:Nat):List Pl:=(List.range m).map λi=>(k,i, -1)
def plK (sz:Q_) (k:Nat):List Pl:=plW k (szN sz k) (szN sz (k+1)*szN sz k)++plB k (szN sz (k+1))
def plL (sz:Q_) (n:Nat):List Pl:=(List.range n).flatMap (plK sz)
theorem Nq (k c m:Nat):(plW k c m).length=m:=by simp [plW]
theorem Ns (k m:Nat):(plB k m).length=m:=by simp [plB]
theorem AB (sz:Q_) (n:Nat):plL sz (n+1)=plL sz n++plK sz n:=by simp [plL,Rx,List.flatMap_append]
theorem Ew (sz:Q_) (n:Nat):(plL sz n).length=bS sz n:=by
 induction n with
 | zero=>rfl
 | succ n ih=>
  have:=fR sz n;unfold dM at this;rw [AB,Rh,ih];unfold plK;rw [Rh,Nq,Ns];omega
def gAt (sz ps:Q_) (q:Int) (x y:Q_) (p:Pl):Int:=
 if 0<=p.2.2 then fO (nth (gF sz ps q x y (sz.length-2-p.1)) p.2.1) (nth (dI sz ps q x p.1) p.2.2.toNat) q else nth (gF sz ps q x y (sz.length-2-p.1)) p.2.1
theorem NC (l:Q_) (n:Nat) (h:l.length=n):(List.range n).map (nth l)=l:=(fS h λk _=>rfl).symm
theorem Mu {sz ps:Q_} {q:Int} {x y:Q_} (h:x.length=szN sz 0) {k:Nat} (hk:k+2<=sz.length):
  mX (szN sz (k+1)) (szN sz k) (gF sz ps q x y (sz.length-2-k)) (dI sz ps q x k) q++gF sz ps q x y (sz.length-2-k)=(plK sz k).map (gAt sz ps q x y):=by
 unfold plK;rw [List.map_append]
 congr 1
 .unfold mX dU plW;rw [List.map_map];refine List.map_congr_left λi _=>?_;unfold Nu gAt
  show _=if 0<=((i%szN sz k:Nat):Int) then fO (nth (gF sz ps q x y (sz.length-2-k)) (i/szN sz k)) (nth (dI sz ps q x k) ((i%szN sz k:Nat):Int).toNat) q else nth (gF sz ps q x y (sz.length-2-k)) (i/szN sz k)
  rw [if_pos (Int.natCast_nonneg _),Int.toNat_natCast]
 .unfold plB;rw [List.map_map];have hl:=mw (sz:=sz) (ps:=ps) (q:=q) (x:=x) (y:=y) h (sz.length-2-k);rw [show sz.length-1-(sz.length-2-k)=k+1 by omega] at hl;have:=NC _ _ hl
  conv=>lhs;rw [<-this]
  refine List.map_congr_left λi _=>?_;unfold gAt;simp
theorem LG {sz ps:Q_} {q:Int} {x y:Q_} (i:x.length=szN sz 0):∀j,j+1<=sz.length->rx sz ps q x y j=(((List.range (sz.length-1)).drop (sz.length-1-j)).flatMap (plK sz)).map (gAt sz ps q x y):=by
 intro j
 induction j with
 | zero=>intro _;rw [Nat.sub_zero,List.drop_eq_nil_of_le (by simp)];rfl
 | succ j ih=>
  intro o
  have h:(List.range (sz.length-1)).drop (sz.length-1-(j+1))=(sz.length-2-j)::(List.range (sz.length-1)).drop (sz.length-1-j):=by
   rw [show sz.length-1-(j+1)=sz.length-2-j by omega];rw [List.drop_eq_getElem_cons (by simp;omega),List.getElem_range]
   congr 2
   omega
  rw [h,List.flatMap_cons,List.map_append,<-ih ap,rx,<-Ro]
  congr 1
  have:=Mu (sz:=sz) (ps:=ps) (q:=q) (x:=x) (y:=y) i (k:=sz.length-2-j) ap;rw [show sz.length-2-j+1=sz.length-1-j by omega,show sz.length-2-(sz.length-2-j)=j by omega] at this;exact this
theorem Bu {sz ps:Q_} {q:Int} {x y:Q_} (h:x.length=szN sz 0) (hl:1<=sz.length):fX sz ps q x y=(plL sz (sz.length-1)).map (gAt sz ps q x y):=by
 unfold fX;rw [LG h _ ap,Nat.sub_self,Rf];rfl
theorem xX {sz ps:Q_} {q:Int} {x y:Q_} (h:x.length=szN sz 0) (hl:1<=sz.length):(fX sz ps q x y).length=bS sz (sz.length-1):=by
 rw [Bu h hl,List.length_map,Ew]
theorem pE {i:Inp} (h:dY i.cfg.sizes):1<=cnt i:=by
 unfold cnt;have h1:=h.1.1;have:=gr i.cfg.sizes (show 1<=i.cfg.sizes.length-1 by omega);have p:bS i.cfg.sizes 1=0+(szN i.cfg.sizes 0+1)*szN i.cfg.sizes 1:=rfl;have o:=(h.1.at (k:=1) ap).1;have u:1*1<=(szN i.cfg.sizes 0+1)*szN i.cfg.sizes 1:=Nat.mul_le_mul ap o;omega
def dP (i:Inp) (P:Q_) (l:R_):Q_:=l.foldl (λa x=>eU a (fX i.cfg.sizes P i.cfg.shift x.1 x.2)) (List.replicate (cnt i) 0)
def jJ (i:Inp) (h:Q_):Prop:=∀k,k<h.length->ks i.data.length (nth h k)
def wQ (i:Inp) (P:Q_) (k:Nat):Q_:=dP i P (cN i.data (de i.draws i.data.length i.cfg.batch.toNat k))
def eE (i:Inp):Nat->Ex
 | 0=>(i.start,List.replicate (cnt i) 0)
 | k+1=>(rk i.cfg.rate i.cfg.mom i.cfg.shift (eE i k).1 (eE i k).2 (wQ i (eE i k).1 k),ro i.cfg.mom i.cfg.shift (eE i k).2 (wQ i (eE i k).1 k))
theorem DX {i:Inp} (hg:nk i) (k:Nat):jJ i (de i.draws i.data.length i.cfg.batch.toNat k):=λj o=>by
 have h1:=hg.c.w;have p:=hg.c.ba;have u:=hg.b;have h:1<=i.data.length/i.cfg.batch.toNat:=Nat.div_pos ap ap;rw [iY _ h] at o;exact IN _ h j o
theorem LU:dN prog 88 91 (.agg #[RJ,RJ]) 2 48:=⟨underlying88,info_parts (by kernel_rfl),rfl,by decide⟩
def qK (i:Inp) (n:Nat):R_:=(List.range n).map (eE i)
theorem zF (i:Inp) (h:i.start.length=cnt i):∀k,(eE i k).1.length=cnt i/\(eE i k).2.length=cnt i:=by
 intro k
 induction k with
 | zero=>exact ⟨h,by simp [eE]⟩
 | succ k ih=>exact ⟨by rw [eE];dsimp only;rw [HE];exact ih.1,by rw [eE];dsimp only;rw [HU];exact ih.2⟩
theorem Jt {n base:Nat} {w h:R8} {x:Ex} {A1 i:N_} {c1 c2:Nat} (h1:h.ownsRow w.heap.size 2 1 (.slice A1 n c1) n (aA .i64 x.1)) (p:h.ownsRow w.heap.size 2 1 (.slice i n c2) n (aA .i64 x.2)) (hb:base<=w.heap.size) (l1:x.1.length=n) (u:x.2.length=n) (hn:n<=1048576) (o:W64 x.1) (v:W64 x.2):eD h base [.slice A1 n c1,.slice i n c2] x:=
 ⟨_,_,rfl,by rw [l1];exact aF h1 hb,by rw [u];exact aF p hb,by omega,by omega,o,v⟩
theorem NW {w:R8} {b:Nat} {t:R9} {v0 v1 v2 v3 v4 v5 v6 v7 v8 v9 v10 v11 v o i y x p u:Value} (h:w.heap[b]?=some (.cells #[v0,v1,v2,v3,v4,v5,v6,v7,v8,v9,v10,v11,v,o,i,y,x,p,u] t (0,0))):(w.cell? (ar b 0)=some v0/\w.cell? (ar b 1)=some v1/\w.cell? (ar b 2)=some v2/\w.cell? (ar b 3)=some v3/\w.cell? (ar b 4)=some v4/\w.cell? (ar b 5)=some v5/\w.cell? (ar b 6)=some v6/\w.cell? (ar b 7)=some v7/\w.cell? (ar b 8)=some v8/\w.cell? (ar b 9)=some v9/\w.cell? (ar b 10)=some v10/\w.cell? (ar b 11)=some v11/\w.cell? (ar b 12)=some v/\w.cell? (ar b 13)=some o/\w.cell? (ar b 14)=some i/\w.cell? (ar b 15)=some y/\w.cell? (ar b 16)=some x/\w.cell? (ar b 17)=some p/\w.cell? (ar b 18)=some u)/\∀j,w.frozen? (ar b j)=false:=by
 have:=bx (vs:=[v0,v1,v2,v3,v4,v5,v6,v7,v8,v9,v10,v11,v,o,i,y,x,p,u]) h;simp only [Bx,Cs,Nat.reduceAdd,and_true] at this;exact ⟨this.1,this.2.2⟩
theorem fM {T:R9} {u v:R8} {b:Nat} {sz:Q_} (h:cS T u b sz) (i:Ext u v):cS T v b sz:=by
 obtain ⟨A1,c1,p,c2,o,c3,y,h1,x,A⟩:=h;exact ⟨A1,c1,p,c2,o,c3,vw (xs:=[_,_,_]) y i,aW h1 i,aW x i,aW A i⟩
theorem iD {u v:R8} {S n batch steps:Nat} {l:Q_} (h:gH u S n batch steps l) (i:Ext u v):gH v S n batch steps l:=by
 obtain ⟨p,x,N,J,vs,h1,C,L,D,I⟩:=h
 exact ⟨p,x,N,J,vs,vw (xs:=[_,_,_]) h1 i,aW C i,aW L i,D,λj B=>by
  obtain ⟨O,H,o,y,A⟩:=I j B
  exact ⟨O,H,o,y,aW A i⟩⟩
theorem cW:Qb rEx:=λ⟨A1,c1,p,c2,e,h,i⟩ o=>⟨A1,c1,p,c2,e,⟨h.hc,h.hl,aW h.hr o,h.hw⟩,⟨i.hc,i.hl,aW i.hr o,i.hw⟩⟩
theorem iE {u v:R8} {P:Nat} {p:Pln} {o a1 x A B y i:Value} (h:ft u P p o a1 x A B y i) (hb:Ext u v):ft v P p o a1 x A B y i:=by
 obtain ⟨BA,bc,N,J,I,C,h1,D,L,H⟩:=h;exact ⟨BA,bc,N,J,I,C,vw (xs:=[_,_,_,_,_,_,_,_,_,_,_,_,_,_]) h1 hb,aW D hb,aW L hb,aW H hb⟩
structure Mst where
 P:Q_
 M:Q_
 G:Q_
 rc:R_
 st:Nat
 nx:Nat
 op:List Nat
def ax (i:Inp):Pln:=⟨i.cfg.workers.toNat,i.cfg.micros.toNat,i.cfg.bucket.toNat,i.cfg.chunk.toNat,i.cfg.window.toNat,i.start.length⟩
def eF (l:List Nat):Q_:=l.map λj:Nat=>(j:Int)
theorem mq (l:List Nat):(eF l).length=l.length:=by simp [eF]
structure bD (i:Inp):Prop where
 g:nk i
 n:i.start.length<=60
 w:i.cfg.workers<=8
 m:i.cfg.micros<=20
 s:i.cfg.steps<=6
 d:i.data.length<=40
theorem bD.ok {i:Inp} (h:bD i):bT (ax i):=by
 have h1:=h.g.c.w;have v:=h.g.c.mi;have A:=h.g.c.bu;have x:=h.g.c.ch;have y:=h.g.c.wi;have o:=h.n;have p:=h.w;have u:=h.m;exact ⟨by simp only [ax];omega,by simp only [ax];omega,by simp only [ax];omega,by simp only [ax];omega,by simp only [ax];omega,by simp only [ax];omega,by simp only [ax];omega,by simp only [ax];omega⟩
theorem bD.n1 {i:Inp} (h:bD i):1<=(ax i).n:=by
 have:=pE h.g.c.z;have:=h.g.s;simp only [ax];omega
def cz (i:Inp) (x st:Nat):List Itm:=if st<i.cfg.steps.toNat then aE (ax i) x st else []
structure MAd where
 F:Nat
 E:N_
 ce:Nat
 S:Nat
 PP:Nat
 BA:N_
 bc:Nat
 bp:Nat
 cp:Nat
 bm:Nat
 cm:Nat
 bg:Nat
 cg:Nat
 rb:Nat
 rc:Nat
 IA:N_
 ic:Nat
 ov:Value
def bF (i:Inp) (x:Nat) (m:Mst):Nat:=m.st*(aE (ax i) x 0).length+m.nx
def Mut (b:Nat) (a:MAd) (k:Nat):Prop:=k=b\/k=a.bp\/k=a.bm\/k=a.bg\/k=a.rb\/a.ov.ownBlock=some k
abbrev ib (H:Nat->Prop) (b:Nat) (a:MAd):Nat->Prop:=λk=>Mut b a k\/H k
def yi (V w:R8) (v:Value) (l:R_):Prop:=∃rows:List (R7),w.ownsRow 0 91 2 v l.length (List.flatten rows)/\rows.length=l.length/\(∀r∈rows,r.length=2)/\∀j x,l[j]?=some x->rEx V (cF rows j) x
structure aU (H:Nat->Prop) (w:R8) (b:Nat) (i:Inp) (x:Nat) (a:MAd) (m:Mst):Prop where
 blk:w.heap[b]?=some (.cells #[RI (x:Nat),RI i.cfg.workers,RI i.cfg.micros,(au a.F),.slice a.E i.data.length a.ce,(au a.S),(au a.PP),.slice a.BA (ax i).buks.length a.bc,RI i.cfg.rate,RI i.cfg.mom,RI i.cfg.shift,.slice (some (ar a.bp 0)) i.start.length a.cp,.slice (some (ar a.bm 0)) i.start.length a.cm,.slice (some (ar a.bg 0)) i.start.length a.cg,.slice (some (ar a.rb 0)) m.rc.length a.rc,.slice a.IA (cz i x m.st).length a.ic,RI (m.nx:Nat),RI (bF i x m:Nat),a.ov] 169 (0,0))
 sh:cS 199 (aH (ib H b a) w) a.F i.cfg.sizes
 ex:dR rEx 2 (aH (ib H b a) w) a.E i.data
 sa:gH (aH (ib H b a) w) a.S i.data.length i.cfg.batch.toNat i.cfg.steps.toNat i.draws
 pl:∃a0 a1 a2 a3 a5 a11,ft (aH (ib H b a) w) a.PP (ax i) a0 a1 a2 a3 a5 (RI (i.cfg.steps.toNat:Nat)) a11
 bu:Rd (aH (ib H b a) w) a.BA (aS (ax i).buks)
 it:Rd (aH (ib H b a) w) a.IA (cD (cz i x m.st))
 re:yi (aH (ib H b a) w) w (.slice (some (ar a.rb 0)) m.rc.length a.rc) m.rc
 oP:w.ownsRow 0 2 1 (.slice (some (ar a.bp 0)) i.start.length a.cp) i.start.length (aA .i64 m.P)
 oM:w.ownsRow 0 2 1 (.slice (some (ar a.bm 0)) i.start.length a.cm) i.start.length (aA .i64 m.M)
 oG:w.ownsRow 0 2 1 (.slice (some (ar a.bg 0)) i.start.length a.cg) i.start.length (aA .i64 m.G)
 oO:w.ownsRow 0 3 1 a.ov m.op.length (aA .i64 (eF m.op))
 dj:a.bp≠a.bm/\a.bp≠a.bg/\a.bm≠a.bg
 hH:∀k,k<w.heap.size->Mut b a k->¬H k
 wP:m.P.length=i.start.length/\W64 m.P
 wM:m.M.length=i.start.length/\W64 m.M
 wG:m.G.length=i.start.length/\W64 m.G
 ox:m.nx<(cz i x m.st).length\/(m.nx=0/\i.cfg.steps.toNat<=m.st)
 xw:x<(ax i).W
theorem yi.ext {V i w o:R8} {v:Value} {l:R_} (h:yi V w v l) (he:Ext V i) (p:∀e size n xs,w.ownsRow 0 e size v n xs->o.ownsRow 0 e size v n xs):yi i o v l:=by
 obtain ⟨rows,h1,u,A,y⟩:=h;exact ⟨rows,p _ _ _ _ h1,u,A,λj x B=>cW (y j x B) he⟩
theorem aU.step {H H':Nat->Prop} {w u:R8} {b x:Nat} {i:Inp} {a:MAd} {m:Mst} (h:aU H w b i x a m) (hk:Keep H w u) (hs:∀k,k<w.heap.size->H' k->H k) (hn:∀k,Mut b a k->¬H' k):aU H' u b i x a m:=by
 have he:Ext (aH (ib H b a) w) (aH (ib H' b a) u):=bP (hk.mono λk _ h=>.inr h) (λk hl D=>D.imp id (hs k hl));have hb:∀k,k<w.heap.size->Mut b a k->u.heap[k]?=w.heap[k]?:=λk hl hm=>hk.block k hl (h.hH k hl hm);have o:∀(v:Value) e size n xs,(∀k,v.ownBlock=some k->Mut b a k)->w.ownsRow 0 e size v n xs->u.ownsRow 0 e size v n xs:=λv e size n xs I o=>hk.own o λk p=>h.hH k (o.lt k p).2 (I k p);have bp:∀k,(Value.slice (some (ar a.bp 0)) i.start.length a.cp).ownBlock=some k->Mut b a k:=λk e=>by cases e;exact .inr (.inl rfl)
 have bm:∀k,(Value.slice (some (ar a.bm 0)) i.start.length a.cm).ownBlock=some k->Mut b a k:=λk e=>by cases e;exact .inr (.inr (.inl rfl))
 have bg:∀k,(Value.slice (some (ar a.bg 0)) i.start.length a.cg).ownBlock=some k->Mut b a k:=λk e=>by cases e;exact .inr (.inr (.inr (.inl rfl)))
 have rb:∀k,(Value.slice (some (ar a.rb 0)) m.rc.length a.rc).ownBlock=some k->Mut b a k:=λk e=>by cases e;exact .inr (.inr (.inr (.inr (.inl rfl))))
 have ov:∀k,a.ov.ownBlock=some k->Mut b a k:=λk e=>.inr (.inr (.inr (.inr (.inr e))));obtain ⟨B,a1,C,J,L,y,A⟩:=h.pl
 exact ⟨(hb b (Qw h.blk) (.inl rfl)).trans h.blk,fM h.sh he,fj cW h.ex he,iD h.sa he,⟨B,a1,C,J,L,y,iE A he⟩,aW h.bu he,aW h.it he,
  h.re.ext he (λe size n xs=>o _ e size n xs rb),o _ _ _ _ _ bp h.oP,o _ _ _ _ _ bm h.oM,o _ _ _ _ _ bg h.oG,o _ _ _ _ _ ov h.oO,h.dj,λk _ hm=>hn k hm,h.wP,h.wM,h.wG,h.ox,h.xw⟩
theorem aU.below {H:Nat->Prop} {w o:R8} {b x:Nat} {i:Inp} {a:MAd} {m:Mst} (h:aU H w b i x a m) (hb:aq w o) (hn:∀k,Mut b a k->¬H k):aU H o b i x a m:=h.step (Keep.below hb) (λ_ _ h=>h) hn
theorem PE {w:R8} {b:Nat} {t:R9} {H y u D v C B A p x i o v0 v1 v2 v3 v4 v5 v6 v7 v8 v9 v10 v11:Value} (h:w.heap[b]?=some (.cells #[H,y,u,D,v,C,B,A,p,x,i,o] t (0,0))): ((((((((((((w.setCell (ar b 0) v0).setCell (ar b 1) v1).setCell (ar b 2) v2).setCell (ar b 3) v3).setCell (ar b 4) v4).setCell (ar b 5) v5).setCell (ar b 6) v6).setCell (ar b 7) v7).setCell (ar b 8) v8).setCell (ar b 9) v9).setCell (ar b 10) v10).setCell (ar b 11) v11).heap[b]?=some (.cells #[v0,v1,v2,v3,v4,v5,v6,v7,v8,v9,v10,v11] t (0,0)):=ss (ss (ss (ss (ss (ss (ss (ss (ss (ss (ss (ss h rfl) rfl) rfl) rfl) rfl) rfl) rfl) rfl) rfl) rfl) rfl) (by simp)
theorem sk (x:Itm):(bC x).length=12:=by
 rcases x with ⟨k,s,n,a⟩
 cases a<;>rfl
theorem ER {w:R8} {A:N_} {l:List Itm} (h:Rd w A (cD l)) {i:Nat} {y:Itm} (x:l[i]?=some y):∃b o,A=some (ar b o)/\∀f,f<12->w.cell? ⟨b,o+(i*12+f),none⟩=(bC y)[f]?:=by
 have B:=tH sk x 0 ap;obtain ⟨b,o,e,_⟩:=h _ ((bC y)[0]'(by rw [sk];omega)) (B.trans (Rj _));refine ⟨b,o,e,λf u=>?_⟩;have h1:=tH sk x f u;have v:(bC y)[f]?=some ((bC y)[f]'(by rw [sk];exact u)):=Rj _;obtain ⟨C,D,p,c⟩:=h _ _ (h1.trans v);rw [e] at p;injection p with p
 injection p with e1 e2 _
 subst e1;subst e2;rw [c,v]
theorem EG (b nx il ic u x:Nat) (c0 c1 c2 c3 c4 c5 c6 c7 c8 c9 a4 ao a7 av a2 a9 a5:Value) (Z Y J:Int) (H L:Bool) (Q V T R I O U:Int) (w:R8) (hb:w.heap[b]?=some (.cells #[c0,c1,c2,c3,c4,c5,c6,c7,c8,c9,a4,ao,a7,av,a2,.slice (some (ar u x)) il ic,RI (nx:Nat),a9,a5] 169 (0,0))) (hx:nx<il) (hc:w.cell? (ar u (x+nx*12))=some (RI Z)/\w.cell? (ar u (x+nx*12+1))=some (RI Y)/\w.cell? (ar u (x+nx*12+2))=some (RI J)/\w.cell? (ar u (x+nx*12+3))=some (.bool H)/\w.cell? (ar u (x+nx*12+4))=some (.bool L)/\w.cell? (ar u (x+nx*12+5))=some (RI Q)/\w.cell? (ar u (x+nx*12+6))=some (RI V)/\w.cell? (ar u (x+nx*12+7))=some (RI T)/\w.cell? (ar u (x+nx*12+8))=some (RI R)/\w.cell? (ar u (x+nx*12+9))=some (RI I)/\w.cell? (ar u (x+nx*12+10))=some (RI O)/\w.cell? (ar u (x+nx*12+11))=some (RI U)):Calls prog 206 #[(au b)] w λe i=>e=.returned (.tuple #[.agg #[RI Z,RI Y,RI J,.bool H,.bool L,RI Q,RI V,RI T,RI R,RI I,RI O,RI U],.bool true])/\aq w i:=by
 obtain ⟨p,B⟩:∃p,w.alloc (.cells RO 135)=p:=⟨_,rfl⟩;have g0:p.heap[w.heap.size]?=some (.cells RO 135 (0,0)):=by rw [<-B];exact Qy w _
 have h:aq w p:=by rw [<-B];exact (br w).alloc (Qx _) _
 have hs:=Qw hb;have kb:=λi (q:Keep (λj=>j=w.heap.size) p i)=>(q.block b (by have:=h.size;omega) ap).trans (sb hb p h);have tb:=λi q=>NW (kb i q);obtain ⟨h0,h1,h2,h3,h4,h5,h6,h7,h8,h9,N,a0⟩:=hc;have aR:u<w.heap.size:=aB h0;have y:¬u=w.heap.size:=ap;have d0:=λi (q:Keep (λj=>j=w.heap.size) p i)=>q.cell (aw h h0) y;have d1:=λi (q:Keep (λj=>j=w.heap.size) p i)=>q.cell (aw h h1) y;have d2:=λi (q:Keep (λj=>j=w.heap.size) p i)=>q.cell (aw h h2) y;have d3:=λi (q:Keep (λj=>j=w.heap.size) p i)=>q.cell (aw h h3) y;have d4:=λi (q:Keep (λj=>j=w.heap.size) p i)=>q.cell (aw h h4) y;have d5:=λi (q:Keep (λj=>j=w.heap.size) p i)=>q.cell (aw h h5) y;have d6:=λi (q:Keep (λj=>j=w.heap.size) p i)=>q.cell (aw h h6) y;have d7:=λi (q:Keep (λj=>j=w.heap.size) p i)=>q.cell (aw h h7) y;have d8:=λi (q:Keep (λj=>j=w.heap.size) p i)=>q.cell (aw h h8) y;have d9:=λi (q:Keep (λj=>j=w.heap.size) p i)=>q.cell (aw h h9) y;have aG:=λi (q:Keep (λj=>j=w.heap.size) p i)=>q.cell (aw h N) y;have a3:=λi (q:Keep (λj=>j=w.heap.size) p i)=>q.cell (aw h a0) y;have q0:Keep (λj=>j=w.heap.size) p p:=Keep.refl _ _;have aM:(nx:Int)<il:=ap;have b2:¬((il:Int)<=nx):=ap;obtain ⟨ad,a8,G0⟩:=af B h g0;clear B h g0 kb hb h0 h1 h2 h3 h4 h5 h6 h7 h8 h9 N a0;go_enter func206,ntmps206;go_wp2_with fail;rw [ad.o];refine HA.g (λi:R8=>Keep (λj=>j=w.heap.size) p i) ?_;refine HA.t ?_ [0,1,2,3,4,5,6,7,8,9,10,11,12,13] q0.drew ?_;refine HA.d ?_
 try simp only [Exit.then]
 have q1:=q0.drew;go_wp2_with fail;refine HA.g (λi:R8=>Keep (λj=>j=w.heap.size) p i) ?_;refine HA.t ?_ [0,1,2,3,4,5,6,7,8,9] q1.drew ?_;obtain ⟨W1,A⟩:∃W1,p.drew.drew=W1:=⟨_,rfl⟩;have g1:W1.heap[w.heap.size]?=some (.cells RO 135 (0,0)):=by rw [<-A];exact G0.o
 have q2:Keep (λj=>j=w.heap.size) p W1:=by rw [<-A];exact q0.drew.drew
 have a1:aq w W1:=by rw [<-A];exact (a8.o.drew).drew
 rw [A];clear A;have D:=PE (v0:=(RI Z)) (v1:=(RI Y)) (v2:=(RI J)) (v3:=(.bool H)) (v4:=(.bool L)) (v5:=(RI Q)) (v6:=(RI V)) (v7:=(RI T)) (v8:=(RI R)) (v9:=(RI I)) (v10:=(RI O)) (v11:=(RI U)) g1;obtain ⟨W9,C⟩:∃W9,((((((((((((W1.setCell (ar w.heap.size 0) (RI Z)).setCell (ar w.heap.size 1) (RI Y)).setCell (ar w.heap.size 2) (RI J)).setCell (ar w.heap.size 3) (.bool H)).setCell (ar w.heap.size 4) (.bool L)).setCell (ar w.heap.size 5) (RI Q)).setCell (ar w.heap.size 6) (RI V)).setCell (ar w.heap.size 7) (RI T)).setCell (ar w.heap.size 8) (RI R)).setCell (ar w.heap.size 9) (RI I)).setCell (ar w.heap.size 10) (RI O)).setCell (ar w.heap.size 11) (RI U))=W9:=⟨_,rfl⟩;have k9:Keep (λj=>j=w.heap.size) W1 W9:=by rw [<-C];exact Keep.setCell (S:=λj=>j=w.heap.size) (Keep.setCell (S:=λj=>j=w.heap.size) (Keep.setCell (S:=λj=>j=w.heap.size) (Keep.setCell (S:=λj=>j=w.heap.size) (Keep.setCell (S:=λj=>j=w.heap.size) (Keep.setCell (S:=λj=>j=w.heap.size) (Keep.setCell (S:=λj=>j=w.heap.size) (Keep.setCell (S:=λj=>j=w.heap.size) (Keep.setCell (S:=λj=>j=w.heap.size) (Keep.setCell (S:=λj=>j=w.heap.size) (Keep.setCell (S:=λj=>j=w.heap.size) (Keep.setCell (S:=λj=>j=w.heap.size) (Keep.refl _ _) _ (.inr rfl) _) _ (.inr rfl) _) _ (.inr rfl) _) _ (.inr rfl) _) _ (.inr rfl) _) _ (.inr rfl) _) _ (.inr rfl) _) _ (.inr rfl) _) _ (.inr rfl) _) _ (.inr rfl) _) _ (.inr rfl) _) _ (.inr rfl) _
 rw [C] at D;have u0:=kw g1;have lu:=Qw g1;refine HA.s 10 W9 (q2.trans k9) ?_ (he:=by subst C;go_simp);refine HA.t ?_ [11] (q2.trans k9) ?_;refine HA.d ?_;obtain ⟨⟨r0,r1,r2,r3,r4,r5,r6,r7,r8,r9,ab,a6⟩,rf⟩:=kw D;have HB:=aa (a1.trans (k9.toBelow a1.size (λj hj=>ap)));have aP:=Qw D;clear D k9 g1 u0 lu q0 q1 q2 tb C d0 d1 d2 d3 d4 d5 d6 d7 d8 d9 aG a3;go_wp2_with fail;exact QM (v:=.tuple #[.agg #[RI Z,RI Y,RI J,.bool H,.bool L,RI Q,RI V,RI T,RI R,RI I,RI O,RI U],.bool true]) (by simp [results,results206,go_sem,r0,r1,r2,r3,r4,r5,r6,r7,r8,r9,ab,a6]) rfl ⟨rfl,HB.o⟩
theorem jQ {H:Nat->Prop} {w:R8} {b x:Nat} {i:Inp} {a:MAd} {m:Mst} (h:aU H w b i x a m) {y:Itm} (v:(cz i x m.st)[m.nx]?=some y):Calls prog 206 #[(au b)] w λe B=>e=.returned (.tuple #[.agg (bC y).toArray,.bool true])/\aq w B:=by
 have hl:m.nx<(cz i x m.st).length:=(Ri.1 v).1;obtain ⟨u,p,e,hc⟩:=ER (aW h.it (fk _ w)) v;have hb:=h.blk;rw [e] at hb;have o:∀f,f<12->w.cell? (ar u (p+m.nx*12+f))=(bC y)[f]?:=λf o=>by rw [Rz];exact hc f o
 rcases y with ⟨C,st,n,A⟩
 cases A with
 | none=>
  exact EG b m.nx _ _ u p _ _ _ _ _ _ _ _ _ _ _ _ _ _ _ _ _ _ _ _ _ _ _ _ _ _ _ _ _ w hb hl ⟨o 0 ap,o 1 ap,o 2 ap,o 3 ap,o 4 ap,o 5 ap,o 6 ap,o 7 ap,o 8 ap,o 9 ap,o 10 ap,o 11 ap⟩
 | some A=>
  exact EG b m.nx _ _ u p _ _ _ _ _ _ _ _ _ _ _ _ _ _ _ _ _ _ _ _ _ _ _ _ _ _ _ _ _ w hb hl ⟨o 0 ap,o 1 ap,o 2 ap,o 3 ap,o 4 ap,o 5 ap,o 6 ap,o 7 ap,o 8 ap,o 9 ap,o 10 ap,o 11 ap⟩
theorem yS {H:Nat->Prop} {w:R8} {b x:Nat} {i:Inp} {a:MAd} {m:Mst} (h:aU H w b i x a m) (hn:(cz i x m.st).length<=m.nx):Calls prog 206 #[(au b)] w λe C=>e=.returned (.tuple #[.agg RO,.bool false])/\aq w C:=by
 obtain ⟨O,D⟩:∃O,(cz i x m.st).length=O:=⟨_,rfl⟩;have hb:=h.blk;rw [D] at hb hn;obtain ⟨y,u⟩:∃y,w.alloc (.cells RO 135)=y:=⟨_,rfl⟩;have g0:y.heap[w.heap.size]?=some (.cells RO 135 (0,0)):=by rw [<-u];exact Qy w _
 have B:aq w y:=by rw [<-u];exact (br w).alloc (Qx _) _
 have tb:=λC q=>NW (sb (sb hb y B) C q);obtain ⟨n,I⟩:∃n,m.nx=n:=⟨_,rfl⟩;rw [I] at tb hn;have a2:(O:Int)<=n:=ap;have Y:=br y;obtain ⟨R,Q,G0⟩:=af u B g0;clear u B g0 hb h D I;go_enter func206,ntmps206;go_wp2_with fail;rw [R.o];refine HA.g (λC:R8=>aq y C) ?_;refine HA.t ?_ [0,1,2,3,4,5,6,7,8,9,10,11,12,13] Y.drew ?_;refine HA.d ?_
 try simp only [Exit.then]
 obtain ⟨W1,p⟩:∃W1,y.drew=W1:=⟨_,rfl⟩;have g1:W1.heap[w.heap.size]?=some (.cells RO 135 (0,0)):=by rw [<-p];exact G0.o
 have J:aq w W1:=by rw [<-p];exact Q.o.drew
 rw [p];clear p Y tb;obtain ⟨⟨u0,u1,u2,u3,u4,u5,u6,u7,u8,u9,a1,a0⟩,uf⟩:=kw g1;have lu:=Qw g1;have N:=PE (v0:=RI 0) (v1:=RI 0) (v2:=RI 0) (v3:=.bool false) (v4:=.bool false) (v5:=RI 0) (v6:=RI 0) (v7:=RI 0) (v8:=RI 0) (v9:=RI 0) (v10:=RI 0) (v11:=RI 0) g1;have V:=aa N;have kk:Keep (λj=>j=w.heap.size) W1 (((((((((((((W1.setCell (ar w.heap.size 0) (RI 0)).setCell (ar w.heap.size 1) (RI 0)).setCell (ar w.heap.size 2) (RI 0)).setCell (ar w.heap.size 3) (.bool false)).setCell (ar w.heap.size 4) (.bool false)).setCell (ar w.heap.size 5) (RI 0)).setCell (ar w.heap.size 6) (RI 0)).setCell (ar w.heap.size 7) (RI 0)).setCell (ar w.heap.size 8) (RI 0)).setCell (ar w.heap.size 9) (RI 0)).setCell (ar w.heap.size 10) (RI 0)).setCell (ar w.heap.size 11) (RI 0))):=Keep.setCell (S:=λj=>j=w.heap.size) (Keep.setCell (S:=λj=>j=w.heap.size) (Keep.setCell (S:=λj=>j=w.heap.size) (Keep.setCell (S:=λj=>j=w.heap.size) (Keep.setCell (S:=λj=>j=w.heap.size) (Keep.setCell (S:=λj=>j=w.heap.size) (Keep.setCell (S:=λj=>j=w.heap.size) (Keep.setCell (S:=λj=>j=w.heap.size) (Keep.setCell (S:=λj=>j=w.heap.size) (Keep.setCell (S:=λj=>j=w.heap.size) (Keep.setCell (S:=λj=>j=w.heap.size) (Keep.setCell (S:=λj=>j=w.heap.size) (Keep.refl _ _) _ (.inr rfl) _) _ (.inr rfl) _) _ (.inr rfl) _) _ (.inr rfl) _) _ (.inr rfl) _) _ (.inr rfl) _) _ (.inr rfl) _) _ (.inr rfl) _) _ (.inr rfl) _) _ (.inr rfl) _) _ (.inr rfl) _) _ (.inr rfl) _;obtain ⟨KK,L⟩:=ae kk J;clear N kk g1 J;go_wp2_with fail;obtain ⟨W9,A⟩:∃W9,((((((((((((W1.setCell (ar w.heap.size 0) (RI 0)).setCell (ar w.heap.size 1) (RI 0)).setCell (ar w.heap.size 2) (RI 0)).setCell (ar w.heap.size 3) (.bool false)).setCell (ar w.heap.size 4) (.bool false)).setCell (ar w.heap.size 5) (RI 0)).setCell (ar w.heap.size 6) (RI 0)).setCell (ar w.heap.size 7) (RI 0)).setCell (ar w.heap.size 8) (RI 0)).setCell (ar w.heap.size 9) (RI 0)).setCell (ar w.heap.size 10) (RI 0)).setCell (ar w.heap.size 11) (RI 0))=W9:=⟨_,rfl⟩;rw [A];have Z:=V.o;rw [A] at Z;obtain ⟨⟨r0,r1,r2,r3,r4,r5,r6,r7,r8,r9,T,U⟩,rf⟩:=kw Z;have k9:=KK.o;rw [A] at k9;have HB:=L.o.trans (k9.toBelow L.o.size (λj hj=>ap));exact QM (v:=.tuple #[.agg RO,.bool false]) (by simp [results,results206,go_sem,r0,r1,r2,r3,r4,r5,r6,r7,r8,r9,T,U]) rfl ⟨rfl,HB⟩
def StL (base:Nat) (w:R8) (l:R_) (v:Value):Prop:=∃rows:List (R7),w.ownsRow base 91 2 v l.length (List.flatten rows)/\rows.length=l.length/\(∀r∈rows,r.length=2)/\∀j x,l[j]?=some x->eD w base (cF rows j) x
theorem StL.form {base:Nat} {w:R8} {l:R_} {v:Value} (h:StL base w l v):∃A c,v=.slice A l.length c/\l.length<=c:=by
 obtain ⟨rows,h1,_⟩:=h;exact aD h1
theorem StL.below {base:Nat} {w i:R8} {l:R_} {v:Value} (h:StL base w l v) (hb:aq w i):StL base i l v:=by
 obtain ⟨rows,h1,o,u,p⟩:=h;exact ⟨rows,az h1 hb,o,u,λj x y=>(p j x y).keep (S:=λ_=>False) (Keep.below hb) (λ_ h=>h.elim)⟩
theorem StL.rd {base:Nat} {w:R8} {l:R_} {A:N_} {n c:Nat} (h:StL base w l (.slice A n c)):dR rEx 2 w A l:=by
 obtain ⟨rows,h1,i,p,o⟩:=h;obtain ⟨y,v,e,_⟩:=aD h1;injection e with e1 e2 e3
 subst e2;exact ⟨rows,Rd.own h1,i,p,λj x u=>(o j x u).rd⟩
theorem StL.nil (base:Nat) (w:R8):StL base w [] (RJ):=⟨[],QI _ _ _ _,rfl,by simp,by simp⟩
theorem StL.push {base:Nat} {w u:R8} {l:R_} {x:Ex} {v v' o i:Value} {rows:List (R7)} (h1:w.ownsRow base 91 2 v l.length (List.flatten rows)) (A:rows.length=l.length) (I:∀r∈rows,r.length=2) (D:∀j x,l[j]?=some x->eD w base (cF rows j) x) (H:eD w base [o,i] x) (B:u.ownsRow base 91 2 v' (l.length+1) (List.flatten rows++[o,i])) (hg:w.grownBy u v.ownBlock):StL base u (l++[x]) v':=by
 refine ⟨rows++[[o,i]],?_,by simp [A],?_,?_⟩
 .rw [Rh,Rs,List.flatten_cons,List.flatten_nil,List.append_nil];exact B
 .intro r hr;rcases Rw.1 hr with hr | hr
  .exact I r hr
  .rw [List.mem_singleton.1 hr];rfl
 .intro j y p;rcases QO j l.length with h | h
  .rw [Rk h] at p;have e:cF (rows++[[o,i]]) j=cF rows j:=by simp [cF,Rk (show j<rows.length by omega)]
   rw [e];exact (D j y p).pushed h1 hg (by decide)
  .have C:j=l.length:=by have:=(Ri.1 p).1;simp at this;omega
   subst C;simp at p;subst p;have e:cF (rows++[[o,i]]) l.length=[o,i]:=by rw [<-A];simp [cF]
   rw [e];exact H.pushed h1 hg (by decide)
theorem yi.rd {H:Nat->Prop} {w:R8} {b x:Nat} {i:Inp} {a:MAd} {m:Mst} (h:aU H w b i x a m):dR rEx 2 w (some (ar a.rb 0)) m.rc:=by
 obtain ⟨rows,h1,o,u,p⟩:=h.re;exact ⟨rows,Rd.own h1,o,u,λj x v=>cW (p j x v) (fk _ w)⟩
theorem NQ {l:R_} {k:Nat} {x:Ex} (h:l[k]?=some x):l.take (k+1)=l.take k++[x]:=by
 obtain ⟨hk,e⟩:=Ri.1 h;rw [List.take_succ_eq_append_getElem hk,e]
theorem Ic {H:Nat->Prop} {w:R8} {b x:Nat} {i:Inp} {a:MAd} {m:Mst} (h:aU H w b i x a m) (hn:∀y∈m.rc,y.1.length=i.start.length/\y.2.length=i.start.length) (hi:i.start.length<=60) (hl:m.rc.length<=100):Calls prog 208 #[(au b)] w λe w'=>∃v,e=.returned v/\StL w.heap.size w' m.rc v/\aq w w':=by
 have tb:=NW h.blk;have lb:=Qw h.blk;have hr:=yi.rd h;obtain ⟨N,hN⟩:∃N,m.rc.length=N:=⟨_,rfl⟩;obtain ⟨n,Q⟩:∃n,i.start.length=n:=⟨_,rfl⟩;rw [hN] at tb hl;rw [Q] at hn hi;obtain ⟨Hr,HN,Hn⟩:=af hr hN hn;clear hr h hN hn Q;go_enter func208,ntmps208;go_wp2_with fail;clear tb
 go_loopw [3,13] (λv y wr=>∃k:Nat,k<=N/\y=RI k/\StL w.heap.size wr (m.rc.take k) v/\aq w wr) (λ_ y _=>N-(intOf y).toNat)
 .exact ⟨0,QB _,rfl,StL.nil _ _,QA _ _⟩
 case round=>
  obtain ⟨k,hk,rfl,hs,q⟩:=hrel;by_cases a4:k<N
  .have a6:(k:Int)<N:=ap;have aR:IntKind.i64.wrap ((k:Int)+1)=((k+1:Nat):Int):=by rw [QC _ ap];push_cast;rfl
   obtain ⟨y,hx⟩:∃x,m.rc[k]?=some x:=⟨_,Rj (by rw [HN.o];exact a4)⟩;have u:=Hn.o y (List.mem_of_getElem? hx);have a0:=NQ hx;obtain ⟨bb,o,A1,c1,A2,c2,e,T,p1,p2,r1,r2⟩:=iG Hr.o hx;injection e with e
   injection e with e1 e2
   subst e1;subst e2;rw [u.1] at p1;rw [u.2] at p2;have q1:=(q.cell (p:=(ar a.rb (0+k*2))) T).trans p1;have q2:=(q.cell (p:=(ar a.rb (0+k*2+1))) T).trans p2;rw [RB] at q1 q2;obtain ⟨W1,B⟩:∃W1,wr.alloc (.cells #[.slice A1 n c1,.slice A2 n c2] 91)=W1:=⟨_,rfl⟩;have g1:W1.heap[wr.heap.size]?=some (.cells #[.slice A1 n c1,.slice A2 n c2] 91 (0,0)):=by rw [<-B];exact Qy wr _
   have k1:aq wr W1:=by rw [<-B];exact (br wr).alloc (Qx _) _
   have qW:aq w W1:=q.trans (k1.mono q.size);have a1:=kY A1 A2 n c1 c2 y.1 y.2 W1 (r1.hr.below qW) (r2.hr.below qW) u.1 u.2 ap;have C:=QF r1.hw r2.hw;have V:=hs.below k1;have lr:=q.size;have tg:=bx2 g1;obtain ⟨aP,aM,QW,av,ao,O,D⟩:=aj a1 B qW V a0 u C;clear a1 B qW V a0 u C g1 k1 r1 r2 p1 p2 hx q;have b0:a.rb<wr.heap.size:=ap;have J:(m.rc.take k).length=k:=by rw [Rn,HN.o];omega
   have A:=aa J;obtain ⟨Av,cv,e,_⟩:=hs.form;rw [J] at e;subst e;clear hs J;go_wp2_with fail;rw [aM.o];refine aP.o.mono ?_;rintro e w3 ⟨B1,d1,B2,d2,rfl,aG,ad,o1,o2,Z,k3⟩;have a2:=av.o.below k3;obtain ⟨rows,u1,u2,u3,u4⟩:=a2;have I:=QW.o.trans (k3.mono QW.o.size);have hu:=Jt (base:=w.heap.size) (x:=y) o1 o2 QW.o.size O.o.1 O.o.2 ap D.o.1 D.o.2;rw [A.o] at u1 u2;obtain ⟨L,a9,ab,a8,Hu,a7⟩:=ai u1 u2 u3 u4 hu I;have a3:=I.size;clear u1 u2 u3 u4 hu I Z o1 o2 k3 aG ad tg q1 q2;go_wp2_with (at_builtin;refine aX LU _ rfl (.tmp 17) (.tmp 20) rfl w.heap.size (.slice Av k cv) k _ rfl L.o [.slice B1 n d1,.slice B2 n d2] rfl rfl (by simp [Value.oneCell']) ap (by unfold maxLen;omega) a3 ?_);intro g6 c6 w6 R U Y;have hp:=StL.push (x:=y) (v':=.slice (some (ar g6 0)) (k+1) c6) (by rw [A.o];exact L.o) (by rw [A.o];exact a9.o) ab.o a8.o Hu.o (by rw [A.o];exact R) Y;rw [<-ao.o] at hp;obtain ⟨Hp,a5⟩:=ae hp (a7.o.trans U);clear hp R U Y;go_wp2_with fail;go_roundw
   .exact ⟨k+1,by omega,by go_num,Hp.o,a5.o⟩
   .simp [intOf];omega
  .have a6:¬((k:Int)<N):=ap;rw [List.take_of_length_le (by rw [HN.o];omega)] at hs;obtain ⟨Hs,Hq⟩:=ae hs q;clear hs q;go_wp2_with fail;go_ret;exact ⟨_,rfl,Hs.o,Hq.o⟩
end Go.Proofs.YtindmkcnjlgomaaGreat
namespace Go.Proofs.YtindmkcnjlgomaaGreat
open Tryz
section
variable {P:Program} {ops:T0} {Q:Exit->T1->R8->Prop} {S:R8->Prop}
structure HAS (P:Program) (ops:T0) (Q:Exit->T1->R8->Prop) (S:R8->Prop) (i:Nat) (L:List Nat) (a:T1) (w:R8):Prop where
 out:∃o,ops[i]?=some o/\∀K':T1->R8->Prop,Shut (∀a w,S w->(S w->HA P ops Q S (i::L) a w)->K' a w)->if Region.wanted o (yielded ops a.tmps)=true then Oper.wp P o a w K' Q else K' (a.put o.dst undef) w
theorem HAS.c {L:List Nat} {a:T1} {w:R8} {i:Nat} {f:FuncId} {args:R6} {R:Ending->R8->Prop} {o:Oper} (hc:Calls P f args w R) (k:∀e p,R e p->∃v,e=.returned v/\S p/\(S p->HA P ops Q S (i::L) (a.put o.dst v) p)) (u:ops[i]?=some o:=by (simp only [QZ,Ra,Rc];rfl)) (hw:Region.wanted o (yielded ops a.tmps)=true:=by rfl) (he:(execOp a.eval o).run P w=.ok (.enter f args) w:=by go_simp):HAS P ops Q S i L a w:=by
 refine ⟨o,u,λB A=>?_⟩;rw [if_pos hw];unfold Oper.wp;rw [he];refine hc.mono λe p y=>?_;obtain ⟨v,rfl,x,h⟩:=k e p y;exact A.out _ _ x h
theorem HAS.v {L:List Nat} {a:T1} {w:R8} {i:Nat} {o:Oper} (h:R8) (v:Value) (u:S h) (k:HA P ops Q S (i::L) (a.put o.dst v) h) (p:ops[i]?=some o:=by (simp only [QZ,Ra,Rc];rfl)) (hw:Region.wanted o (yielded ops a.tmps)=true:=by rfl) (he:(execOp a.eval o).run P w=.ok (.value v) h:=by go_simp):HAS P ops Q S i L a w:=by
 refine ⟨o,p,λy x=>?_⟩;rw [if_pos hw];unfold Oper.wp;rw [he];exact x.out _ _ u λ_=>k
theorem HA.two {L:List Nat} {a:T1} {w:R8} (i j:Nat) (y:HAS P ops Q S i L a w) (p:HAS P ops Q S j L a w) (hr:dA ops L=[i,j]:=by decide +kernel):HA P ops Q S L a w:=by
 obtain ⟨H,x,y⟩:=y;obtain ⟨I,o,p⟩:=p;have B:unl (bK ops.size L)=unl (bK ops.size (i::L))+1:=cV (by rw [hr];simp);have D:unl (bK ops.size L)=unl (bK ops.size (j::L))+1:=cV (by rw [hr];simp);have C:unl (bK ops.size (j::L))=unl (bK ops.size (i::L)):=ap;refine ⟨?_⟩;rw [B];refine wpAnyH_ready (by rw [ep];exact hr) (by simp) (AllReadyH.cons x (λA v=>y A λa w u hw=>v.out a w u λh=>(hw h).out) (AllReadyH.cons o (λA v=>p A λa w u hw=>v.out a w u λh=>?_) AllReadyH.nil));have:=(hw h).out;rw [C] at this;exact this
theorem HA.three {L:List Nat} {a:T1} {w:R8} (i j k:Nat) (B:HAS P ops Q S i L a w) (y:HAS P ops Q S j L a w) (hk:HAS P ops Q S k L a w) (hr:dA ops L=[i,j,k]:=by decide +kernel):HA P ops Q S L a w:=by
 obtain ⟨N,A,B⟩:=B;obtain ⟨O,x,y⟩:=y;obtain ⟨ok,v,hk⟩:=hk;have D:unl (bK ops.size L)=unl (bK ops.size (i::L))+1:=cV (by rw [hr];simp);have I:unl (bK ops.size L)=unl (bK ops.size (j::L))+1:=cV (by rw [hr];simp);have J:unl (bK ops.size L)=unl (bK ops.size (k::L))+1:=cV (by rw [hr];simp);have C:unl (bK ops.size (j::L))=unl (bK ops.size (i::L)):=ap;have H:unl (bK ops.size (k::L))=unl (bK ops.size (i::L)):=ap;refine ⟨?_⟩;rw [D];refine wpAnyH_ready (by rw [ep];exact hr) (by simp) (AllReadyH.cons A (λu p=>B u λa w o hw=>p.out a w o λh=>(hw h).out) (AllReadyH.cons x (λu p=>y u λa w o hw=>p.out a w o λh=>?_) (AllReadyH.cons v (λu p=>hk u λa w o hw=>p.out a w o λh=>?_) AllReadyH.nil)))
 .have:=(hw h).out;rw [C] at this;exact this
 .have:=(hw h).out;rw [H] at this;exact this
end
end Go.Proofs.YtindmkcnjlgomaaGreat
namespace Go.Proofs.YtindmkcnjlgomaaGreat
open Go.RowKit
open Tryz
section
variable {P:Program}
structure dg (P:Program) (t:R9) (n:Nat):Prop where
 d:∃d,P.underlying t=some d/\d.isRow=true
 s:(P.info? t).map (·.size)=some n
theorem fy {w:R8} {b:Nat} {xs:R6} {t:R9} {u:Nat×Nat} (h:w.heap[b]?=some (.cells xs t u)) (o:Nat) {p:R7} (hcs:(xs.toList.drop o).take p.length=p):w.rangeAt b o p:=λj v i=>by
 rw [Qz w b (o+j) xs t u h];rw [<-hcs,List.getElem?_take] at i
 split at i
 .rw [List.getElem?_drop] at i;simpa using i
 .cases i
theorem sO (w:R8) (g:Nat) (h:R6):Keep (λj=>j=g) w (w.setRow g h):=by
 refine ⟨rfl,rfl,rfl,by simp [World.setRow],λk hk hs=>?_⟩;simp only [World.setRow,Array.getElem?_modify];rw [if_neg (λe=>hs e.symm)]
theorem aN {ops:T0} {rest:List Oper} {op:Oper} {a:T1} {w:R8} {Q:Exit->T1->R8->Prop} {u:R9} {x:Operand} {b o:Nat} {xs:R6} {t:R9} {C:Nat×Nat} (i:R6) (hb:w.heap[b]?=some (.cells xs t C)) (hr:dg P u i.size) (p:op.guard=none) (v:op.op=.load u x) (B:a.eval x=.pointer (some (ar b o))) (hcs:(xs.toList.drop o).take i.toList.length=i.toList) (h:wpList P ops Q rest (a.put op.dst (.agg i)) w):wpList P ops Q (op::rest) a w:=by
 obtain ⟨⟨d,h1,y⟩,A⟩:=hr;exact wpList_load_mid p u x v b o B i.toList d (fy hb o hcs) h1 y (by simpa using A) (by simpa using h)
theorem aI {ops:T0} {rest:List Oper} {op:Oper} {a:T1} {w:R8} {Q:Exit->T1->R8->Prop} {p:R9} {x y:Operand} {b n:Nat} {xs ys:R6} {t:R9} (hb:w.heap[b]?=some (.cells xs t (0,0))) (hr:dg P p n) (i:op.guard=none) (u:op.op=.store p x y) (B:a.eval x=(au b)) (v:a.eval y=.agg ys) (hn:ys.size=n) (hs:xs.size=ys.size) (h1:ys.toList.all (·.oneCell')=true) (h:∀o,o.heap[b]?=some (.cells ys t (0,0))->Keep (λj=>j=b) w o->wpList P ops Q rest (a.put op.dst undef) o):wpList P ops Q (op::rest) a w:=by
 refine wpList_plain i λK A=>?_;unfold Oper.wp execOp;simp only [u,B,v,Instr.storeAt,Instr.sureAddr,Sem.run_bind,Sem.run_pure,Result.andThen_ok,run_storeVar_row w b t p xs ys hb (by rw [hn];exact hr.s) hs (by rw [<-Array.all_toList];exact h1)];exact A _ _ (h _ (setRow_heap w b xs ys t (0,0) hb) (sO w b ys))
theorem Ai {f:Func} {x:Tmp} {o:R9} (h:f.results=#[.cell x o]) {tmps:R6} {w:R8} {b:Nat} {xs:R6} {t:R9} {y:Nat×Nat} (v:tmps.getD x undef=(au b)) (hb:w.heap[b]?=some (.cells xs t y)) (hr:dg P o xs.size):(results f tmps).run P w=.ok (.agg xs) w:=by
 obtain ⟨⟨d,h1,p⟩,u⟩:=hr;have:=run_loadVar_mid (P:=P) w b 0 o xs.toList d (fy hb 0 (by rw [Rf,Rt])) h1 p (by simpa using u);rw [Array.toArray_toList] at this;have i:tmps[x]?.getD undef=(au b):=by simpa using v
 simp [results,h,i,asAddr,this]
theorem dO {f:Func} {x y:Tmp} {o:R9} (h:f.results=#[.cell x o,.tmp y]) {tmps:R6} {w:R8} {b:Nat} {xs:R6} {t:R9} {A:Nat×Nat} (v:tmps.getD x undef=(au b)) (hb:w.heap[b]?=some (.cells xs t A)) (hr:dg P o xs.size):(results f tmps).run P w=.ok (.tuple #[.agg xs,tmps.getD y undef]) w:=by
 obtain ⟨⟨d,h1,p⟩,u⟩:=hr;have:=run_loadVar_mid (P:=P) w b 0 o xs.toList d (fy hb 0 (by rw [Rf,Rt])) h1 p (by simpa using u);rw [Array.toArray_toList] at this;have i:tmps[x]?.getD undef=(au b):=by simpa using v
 simp [results,h,i,asAddr,this]
end
section
variable {P:Program} {ops:T0} {Q:Exit->T1->R8->Prop} {S:R8->Prop} {n:Nat}
theorem wD {S:R8->Prop} {a:T1} {o:Oper} {v:R9} {x:Operand} {b h:Nat} {xs:R6} {t:R9} {C:Nat×Nat} (i:R6) (hb:∀p,S p->p.heap[b]?=some (.cells xs t C)) (hr:dg P v i.size) (u:o.op=.load v x) (B:a.eval x=.pointer (some (ar b h))) (hcs:(xs.toList.drop h).take i.toList.length=i.toList) (hg:Region.wanted o (yielded ops a.tmps)=true):YieldsIf P ops S o (.agg i) a:=by
 obtain ⟨⟨d,h1,y⟩,A⟩:=hr;have:=yieldsIf_load_mid (P:=P) (ops:=ops) (S:=S) (op:=o) (a:=a) hg v x u b h B i.toList d (λp q=>fy (hb p q) h hcs) h1 y (by simpa using A);simpa using this
theorem HA.ld {L:List Nat} {a:T1} {w:R8} (i:Nat) (u:R6) {o:Oper} {A:R9} {x:Operand} {b p:Nat} {xs:R6} {t:R9} {D:Nat×Nat} (hb:∀y,S y->y.heap[b]?=some (.cells xs t D)) (hr:dg P A u.size) (C:S w) (k:HA P ops Q S (i::L) (a.put o.dst (.agg u)) w) (B:ops[i]?=some o:=by (simp only [QZ,Ra,Rc];rfl)) (hop:o.op=.load A x:=by rfl) (hx:a.eval x=.pointer (some (ar b p)):=by rfl) (hcs:(xs.toList.drop p).take u.toList.length=u.toList:=by rfl) (hg:Region.wanted o (yielded ops a.tmps)=true:=by rfl) (hs:Region.noSelect ops=true:=by decide +kernel) (hQ:∀c a w d v,Q (.panic c) (Act.put a d v) w->Q (.panic c) a w:=by (intro _ _ _ d _ h;cases d<;>exact h)) (hc:mJ ops L [i]=true:=by decide +kernel):HA P ops Q S L a w:=
 HA.takes hs hQ C [i] hc (Ys.cons B (wD u hb hr hop hx hcs hg) Ys.nil) (by simpa using k)
theorem HA.st {L:List Nat} {a:T1} {w:R8} (i:Nat) {o:Oper} {p:R9} {x y:Operand} {b m:Nat} {xs ys:R6} {t:R9} (hb:w.heap[b]?=some (.cells xs t (0,0))) (hr:dg P p m) (k:∀h,h.heap[b]?=some (.cells ys t (0,0))->Keep (λj=>j=b) w h->S h/\HA P ops Q S (i::L) (a.put o.dst undef) h) (v:ops[i]?=some o:=by (simp only [QZ,Ra,Rc];rfl)) (hop:o.op=.store p x y:=by rfl) (hx:a.eval x=(au b):=by rfl) (hy:a.eval y=.agg ys:=by rfl) (hn:ys.size=m:=by rfl) (hs:xs.size=ys.size:=by rfl) (h1:ys.toList.all (·.oneCell')=true:=by rfl) (hrd:dA ops L=[i]:=by decide +kernel) (hw:Region.wanted o (yielded ops a.tmps)=true:=by rfl):HA P ops Q S L a w:=by
 obtain ⟨u,k⟩:=k _ (setRow_heap w b xs ys t (0,0) hb) (sO w b ys);refine HA.s i _ u k v hrd hw ?_;unfold execOp;simp only [hop,hx,hy,Instr.storeAt,Instr.sureAddr,Sem.run_bind,Sem.run_pure,Result.andThen_ok,run_storeVar_row w b t p xs ys hb (by rw [hn];exact hr.s) hs (by rw [<-Array.all_toList];exact h1)]
end
section
variable {P:Program} {ops:T0} {Q:Exit->T1->R8->Prop} {S:R8->Prop}
theorem HA.sole {L:List Nat} {a:T1} {w:R8} (i:Nat) (p:HAS P ops Q S i L a w) (hr:dA ops L=[i]:=by decide +kernel):HA P ops Q S L a w:=by
 obtain ⟨o,u,h⟩:=p;exact HA.one i u hr h
end
theorem Nn {w u i h:R8} {U V:Nat} {x y:R6} {t:R9} (ne:U≠V) (A:w.heap.size<=U) (o:w.heap.size<=V) (hb:aq w u) (B:i.heap[U]?=some (.cells x t (0,0))) (C:Keep (λj=>j=U) u i) (D:h.heap[V]?=some (.cells y t (0,0))) (p:Keep (λj=>j=V) i h):h.heap[U]?=some (.cells x t (0,0))/\h.heap[V]?=some (.cells y t (0,0))/\U≠V/\w.heap.size<=U/\w.heap.size<=V/\aq w h:=
 have v:=hb.trans (C.toBelow hb.size (λj e=>by rw [e];exact A))
 ⟨(p.block U (Qw B) ne).trans B,D,ne,A,o,v.trans (p.toBelow v.size (λj e=>by rw [e];exact o))⟩
theorem Mz {w h:R8} {B U:Nat} {W1:R8} (q:Below B W1 w) (k:Keep (λj=>j=U) w h) (hB:B<=w.heap.size) (i:B<=U):Below B W1 h:=q.trans (k.toBelow hB (λj e=>by rw [e];exact i))
def fu (i:Inp):Mst:=⟨i.start,List.replicate i.start.length 0,List.replicate i.start.length 0,[(i.start,List.replicate i.start.length 0)],0,0,[]⟩
theorem DK {T:R9} {B b:Nat} {w:R8} {sz:Q_} (h:cS T (gE B w) b sz):cS T w.drew b sz:=(oN h (Agr.refl B w)).below ((br w).drew)
structure P7 (sz:Q_) (L wk bh mi sn bu ch wi ca n Q:Nat) (A:N_) (c:Nat) (sh ra mo:Int) (D:N_) (cd:Nat) (T:N_) (ct:Nat) (R:N_) (cr:Nat) (data:R_) (ps draws:Q_) (w:R8):Prop where
 inp:∀N,N=data.length->∀w',aq w w'->Calls prog 40 #[.agg #[.slice A L c,RI sh,RI ra,RI mo,RI (wk:Nat),RI (bh:Nat),RI (mi:Nat),RI (sn:Nat),RI (bu:Nat),RI (ch:Nat),RI (wi:Nat),RI (ca:Nat),.slice D N cd,.slice T n ct,.slice R Q cr]] w' λe w''=>e=.returned (RI 0)/\aq w' w''
 snew:∀w',aq w w'->Calls prog 65 #[.slice A L c] w' λe w''=>∃F,e=.returned (.tuple #[(au F),RI 0])/\cS 199 (gE w.heap.size w'') F sz/\aq w' w''
 samp:∀N,N=data.length->∀w',aq w w'->Calls prog 69 #[RI (N:Nat),RI (bh:Nat),RI (sn:Nat),.slice R Q cr] w' λe w''=>∃S,e=.returned (.tuple #[(au S),RI 0])/\gH (gE w.heap.size w'') S data.length bh sn draws/\aq w' w''
 cnt:∀F w',cS 199 w' F sz->Calls prog 67 #[(au F)] w' λe w''=>e=.returned (RI (n:Nat))/\w'=w''
 chk:∀w',aq w w'->Calls prog 64 #[.agg #[.slice A L c,RI sh,RI ra,RI mo,RI (wk:Nat),RI (bh:Nat),RI (mi:Nat),RI (sn:Nat),RI (bu:Nat),RI (ch:Nat),RI (wi:Nat),RI (ca:Nat)]] w' λe w''=>e=.returned (RI 0)/\aq w' w''
 dat:dR rEx 2 w D data
 dl:data.length<=1048576
 st:Rd w T (aA .i64 ps)
 sl:ps.length=n
def Win (h:Nat) (i:R8) (ms:List Nat) (Q:R8->Prop):Prop:=∃lo u,h<=lo/\Q (gE lo u)/\aq u i/\∀k∈ms,k<lo\/u.heap.size<=k
theorem ms5 {a b c d e lo h:Nat} (h1:a<lo\/h<=a) (i:b<lo\/h<=b) (u:c<lo\/h<=c) (o:d<lo\/h<=d) (p:e<lo\/h<=e):∀k∈[a,b,c,d,e],k<lo\/h<=k:=by
 intro k hk;simp only [List.mem_cons,List.not_mem_nil,or_false] at hk;rcases hk with rfl | rfl | rfl | rfl | rfl<;>assumption
structure P6 (sz:Q_) (x L wk bh mi sn bu ch wi ca N n:Nat) (A:N_) (c:Nat) (sh ra mo:Int) (data:R_) (ps draws:Q_) (its:List Itm) (w w':R8) (b:Nat) (a:MAd):Prop where
 blk:w'.heap[b]?=some (.cells #[RI (x:Nat),RI (wk:Nat),RI (mi:Nat),(au a.F),.slice a.E N a.ce,(au a.S),(au a.PP),.slice a.BA (Pln.buks ⟨wk,mi,bu,ch,wi,n⟩).length a.bc,RI ra,RI mo,RI sh,.slice (some (ar a.bp 0)) n a.cp,.slice (some (ar a.bm 0)) n a.cm,.slice (some (ar a.bg 0)) n a.cg,.slice (some (ar a.rb 0)) 1 a.rc,.slice a.IA its.length a.ic,RI 0,RI 0,RJ] 169 (0,0))
 fo:Win w.heap.size w' [b,a.bp,a.bm,a.bg,a.rb] λV=>cS 199 V a.F sz
 sa:Win w.heap.size w' [b,a.bp,a.bm,a.bg,a.rb] λV=>gH V a.S data.length bh sn draws
 pl:Win w.heap.size w' [b,a.bp,a.bm,a.bg,a.rb] λV=>ft V a.PP ⟨wk,mi,bu,ch,wi,n⟩ (.slice A L c) (RI sh) (RI ra) (RI mo) (RI (bh:Nat)) (RI (sn:Nat)) (RI (ca:Nat))
 ex:Win w.heap.size w' [b,a.bp,a.bm,a.bg,a.rb] λV=>dR rEx 2 V a.E data
 bu:Win w.heap.size w' [b,a.bp,a.bm,a.bg,a.rb] λV=>Rd V a.BA (aS (Pln.buks ⟨wk,mi,bu,ch,wi,n⟩))
 it:Win w.heap.size w' [b,a.bp,a.bm,a.bg,a.rb] λV=>Rd V a.IA (cD its)
 re:∃A1 c1 A2 c2,n<=c1/\n<=c2/\w'.heap[a.rb]?=some (.cells #[.slice A1 n c1,.slice A2 n c2] 91 (0,0))/\(Win w.heap.size w' [b,a.bp,a.bm,a.bg,a.rb] λV=>Rd V A1 (aA .i64 ps))/\(Win w.heap.size w' [b,a.bp,a.bm,a.bg,a.rb] λV=>Rd V A2 (aA .i64 (List.replicate n 0)))
 oP:w'.ownsRow 0 2 1 (.slice (some (ar a.bp 0)) n a.cp) n (aA .i64 ps)
 oM:w'.ownsRow 0 2 1 (.slice (some (ar a.bm 0)) n a.cm) n (aA .i64 (List.replicate n 0))
 oG:w'.ownsRow 0 2 1 (.slice (some (ar a.bg 0)) n a.cg) n (aA .i64 (List.replicate n 0))
 lo:w.heap.size<=b/\w.heap.size<=a.bp/\w.heap.size<=a.bm/\w.heap.size<=a.bg/\w.heap.size<=a.rb
 dj:a.bp≠a.bm/\a.bp≠a.bg/\a.bm≠a.bg
 ov:a.ov=RJ
 rc:a.rc=1
 k:aq w w'
theorem Ig (sz:Q_) (x L H bh mi sn bu ch wi ca N n Q:Nat) (A:N_) (c:Nat) (sh ra O:Int) (D:N_) (cd:Nat) (T:N_) (ct:Nat) (R:N_) (cr:Nat) (data:R_) (ps draws:Q_) (w:R8) (a9:Ending->R8->Prop) (h:P7 sz L H bh mi sn bu ch wi ca n Q A c sh ra O D cd T ct R cr data ps draws w) (hN:N=data.length) (hx:x<H) (hp:bT ⟨H,mi,bu,ch,wi,n⟩) (hn:1<=n) (cj:bu<=1048576) (cc:wi<=1048576) (J:List Itm) (a8:∀P C,ft C P ⟨H,mi,bu,ch,wi,n⟩ (.slice A L c) (RI sh) (RI ra) (RI O) (RI (bh:Nat)) (RI (sn:Nat)) (RI (ca:Nat))->Calls prog 74 #[(au P),RI (x:Nat),RI 0] C λe bo=>∃v,e=.returned v/\bo.ownsRow C.heap.size 135 12 v J.length (cD J)/\aq C bo) (a7:∀C b a,P6 sz x L H bh mi sn bu ch wi ca N n A c sh ra O data ps draws J w C b a->a9 (.returned (.tuple #[(au b),RI 0])) C):Calls prog 41 #[.agg #[.slice A L c,RI sh,RI ra,RI O,RI (H:Nat),RI (bh:Nat),RI (mi:Nat),RI (sn:Nat),RI (bu:Nat),RI (ch:Nat),RI (wi:Nat),RI (ca:Nat),.slice D N cd,.slice T n ct,.slice R Q cr],RI (x:Nat)] w a9:=by
 obtain ⟨W0,a4⟩:∃W0,w.alloc (.cells #[.slice A L c,RI sh,RI ra,RI O,RI (H:Nat),RI (bh:Nat),RI (mi:Nat),RI (sn:Nat),RI (bu:Nat),RI (ch:Nat),RI (wi:Nat),RI (ca:Nat),.slice D N cd,.slice T n ct,.slice R Q cr] 29)=W0:=⟨_,rfl⟩;have g0:W0.heap[w.heap.size]?=some (.cells #[.slice A L c,RI sh,RI ra,RI O,RI (H:Nat),RI (bh:Nat),RI (mi:Nat),RI (sn:Nat),RI (bu:Nat),RI (ch:Nat),RI (wi:Nat),RI (ca:Nat),.slice D N cd,.slice T n ct,.slice R Q cr] 29 (0,0)):=by rw [<-a4];exact Qy w _
 have aG:aq w W0:=by rw [<-a4];exact (br w).alloc (Qx _) _
 have bw:=h.inp N hN W0 aG;have cI:¬((H:Int)<=x):=ap;have b0:=hp.n;dsimp only at b0;have t0:=λC q=>kH (sb g0 C q);obtain ⟨cl,bf,bV,Hh,HN,bn,b6,Hl⟩:=ak a4 aG bw h hN a7 a8 h.sl;have cs:n<=1048576:=ap;have q0:=br W0;clear a4 g0 aG bw h hN a7 a8;go_enter func41,ntmps41;go_wp2_with fail;rw [cl.o];refine bV.o.mono ?_;rintro e w1 ⟨rfl,k1⟩;have q1:=bt q0 k1;obtain ⟨W2,a3⟩:∃W2,w1.alloc (.cells #[.slice A L c,RI sh,RI ra,RI O,RI (H:Nat),RI (bh:Nat),RI (mi:Nat),RI (sn:Nat),RI (bu:Nat),RI (ch:Nat),RI (wi:Nat),RI (ca:Nat)] 24)=W2:=⟨_,rfl⟩;have g2:W2.heap[w1.heap.size]?=some (.cells #[.slice A L c,RI sh,RI ra,RI O,RI (H:Nat),RI (bh:Nat),RI (mi:Nat),RI (sn:Nat),RI (bu:Nat),RI (ch:Nat),RI (wi:Nat),RI (ca:Nat)] 24 (0,0)):=by rw [<-a3];exact Qy w1 _
 have k2:aq w1 W2:=by rw [<-a3];exact (br w1).alloc (Qx _) _
 have q2:=bt q1 k2;have t2:=λC q=>kw (sb g2 C q);have u2:=λC (q:aq W2 C)=>t0 C (bt q2 q);obtain ⟨bI,Q2⟩:=ae a3 (bf.o.trans (q2.mono bf.o.size));clear a3 g2 k1 k2;go_wp2_with fail;rw [bI.o];have cn:=br W2;clear q0 q1 q2 t0;refine (Hh.o.snew _ Q2.o).mono ?_;rintro e w3 ⟨F,rfl,hF,k3⟩;have q3:=bt cn k3;obtain ⟨Q3,HF⟩:=ae (Q2.o.trans (k3.mono Q2.o.size)) hF;clear hF k3;go_wp2_with fail;refine (Hh.o.samp N HN.o _ Q3.o).mono ?_;rintro e w4 ⟨S,rfl,hS,k4⟩;have q4:=bt q3 k4;obtain ⟨Q4,HS,K4⟩:=af (Q3.o.trans (k4.mono Q3.o.size)) hS k4;have b4:=HF.o.below (Fw k4);have av:=aa b4;clear hS k4 b4;go_wp2_with fail;refine HA.g (λC:R8=>aq W2 C) ?_;refine HA.t ?_ [0,1] q4.drew ?_;refine HA.c 2 (Hh.o.cnt F _ (DK av.o)) ?_;rintro e w5 ⟨rfl,rfl⟩;refine ⟨_,rfl,q4.drew,λ_=>?_⟩;have aP:=xu ⟨H,mi,bu,ch,wi,n⟩ (.slice A L c) (RI sh) (RI ra) (RI O) (RI (bh:Nat)) (RI (sn:Nat)) (RI (ca:Nat)) w4.drew hp hn cj cc (λC q=>Hh.o.chk C (Q4.o.drew.trans (q.mono Q4.o.size)));dsimp only at aP;refine HA.c 3 aP ?_;rintro e w6 ⟨PP,rfl,cA,b3,k6⟩;have q6:=bt q4.drew k6;refine ⟨_,rfl,q6,λ_=>?_⟩;refine HA.t ?_ [4,5,6,7,8] q6 ?_;refine HA.d ?_
 try simp only [Exit.then]
 have K6:=aa (show aq w4 w6 from (br w4).drew.trans k6);obtain ⟨Q6,ao⟩:=ae (Q4.o.trans (K6.o.mono Q4.o.size)) b3;clear aP b3 k6 q4 q3;have b8:=Ct T n ct ps w6 (Hh.o.st.below Q6.o) Hh.o.sl ap;have bA:=aa b8;clear b8;go_wp2_with fail;refine bA.o.mono ?_;rintro e w7 ⟨Ap,cp,Am,cm,rfl,cv,c7,oP,oM,bv,k7⟩;obtain ⟨bp,cM,e1,bz,b1⟩:=oP.form ap;obtain ⟨bm,cw,e2,bi,be⟩:=oM.form ap;injection e1 with e1 _ e1c
 injection e2 with e2 _ e2c
 subst e1;subst e2;subst e1c;subst e2c;obtain ⟨W8,a5⟩:∃W8,w7.alloc (.cells #[.slice (some (ar bp 0)) n cp,.slice (some (ar bm 0)) n cm] 91)=W8:=⟨_,rfl⟩;have g8:W8.heap[w7.heap.size]?=some (.cells #[.slice (some (ar bp 0)) n cp,.slice (some (ar bm 0)) n cm] 91 (0,0)):=by rw [<-a5];exact Qy w7 _
 have k8:aq w7 W8:=by rw [<-a5];exact (br w7).alloc (Qx _) _
 have a6:=bt k7 k8;have q8:=bt q6 a6;have t8:=λC q=>bx2 (sb g8 C q);have v8:=λC (q:aq W8 C)=>u2 C (bt q8 q);have x8:=λC (q:aq W8 C)=>t2 C (bt q8 q);have aR:bp≠bm:=λe=>bv bp rfl (by rw [e];rfl);obtain ⟨bO,Q8,K8,OP,OM,c6⟩:=ai a5 (Q6.o.trans (a6.mono Q6.o.size)) a6 (az oP k8) (az oM k8) aR;have b7:=br W8;have p1:w6.heap.size<=bp:=bz;have p2:bp<W8.heap.size:=QE b1 k8.size;have p3:w6.heap.size<=bm:=bi;have p4:bm<W8.heap.size:=QE be k8.size;clear a5 g8 k7 k8 a6 oP oM bv q6 q8 u2 t2 cv c7 aR;go_wp2_with fail;rw [bO.o];refine HA.g (λC:R8=>aq W8 C) ?_;refine HA.t ?_ [0,1,2,3,4,5,6,7,9,10,11,13,14,15,16,17,18,19,21,22,25,28,29] b7.drew ?_;have c8:dR rEx 2 W8.drew D data:=Hh.o.dat.below fH (Q8.o.drew);have b2:=BN D data cd W8.drew c8 Hh.o.dl;rw [<-HN.o] at b2;refine HA.c 8 b2 ?_;rintro e w9 ⟨E,ce,rfl,hE,k9⟩;have q9:=bt b7.drew k9;refine ⟨_,rfl,q9,λ_=>?_⟩;have bs:ft w9 PP ⟨H,mi,bu,ch,wi,n⟩ (.slice A L c) (RI sh) (RI ra) (RI O) (RI (bh:Nat)) (RI (sn:Nat)) (RI (ca:Nat)):=(ao.o.agr (Agr.refl _ w6)).below (bt K8.o q9);refine HA.c 12 (Kz _ PP _ _ _ _ _ _ _ w9 hp bs) ?_;rintro e x0 ⟨v10,rfl,ab,a0⟩;have q0:=bt q9 a0;obtain ⟨BA,bc,rfl,_⟩:=aD ab;refine ⟨_,rfl,q0,λ_=>?_⟩;have b9:cS 199 x0 F sz:=(oN av.o (Agr.refl _ w4)).below (bt (bt (bt K6.o K8.o) q9) a0);refine HA.t ?_ [20] q0 ?_;refine HA.c 23 (Hh.o.cnt F x0 b9) ?_;rintro e cy ⟨rfl,rfl⟩;refine ⟨_,rfl,q0,λ_=>?_⟩;have ci:w.heap.size<=w4.heap.size:=Q4.o.size;have cx:w4.heap.size<=w6.heap.size:=K6.o.size;have cO:w6.heap.size<=W8.heap.size:=K8.o.size;have cL:W8.heap.size<=w9.heap.size:=k9.size;have cb:w9.heap.size<=x0.heap.size:=a0.size
 -- BRANCHES
 obtain ⟨x9,aM⟩:∃x9,x9=x0:=⟨_,rfl⟩;have y:aq x9 x0:=by rw [aM];exact br _
 rw [<-aM] at ab a0 cb;clear aM;have q:=q0;clear q0;obtain ⟨U,rfl⟩:∃U,U=x0:=⟨_,rfl⟩
 repeat' first
  | (refine HA.three 24 27 30 ?_ ?_ ?_)
  | (refine HA.two 24 26 ?_ ?_)
  | (refine HA.two 27 30 ?_ ?_)
  | (refine HA.two 24 30 ?_ ?_)
  | (refine HA.two 24 27 ?_ ?_)
  | (refine HA.sole 24 ?_)
  | (refine HA.sole 26 ?_)
  | (refine HA.sole 27 ?_)
  | (refine HA.sole 30 ?_)
  | (obtain ⟨V,bl,gG,p⟩:=ny nc U rfl n ap (by unfold maxLen;omega);refine HAS.v (i:=24) V (.slice (some (ar U.heap.size 0)) n n) (bt q p) ?_;clear bl;rw [fI] at gG;(try have:=u.size);(try have:=B.size);(try have:=Qw I);(try have:G<U.heap.size:=(gP oG _ rfl).2);have:=y.size;(try replace oG:=az oG p);(try replace I:=sb I _ p);(try replace u:=bt u p);(try replace B:=bt B p);replace y:=bt y p;replace q:=bt q p;have oG:=gG;have tG:U.heap.size<V.heap.size:=(gP oG _ rfl).2;obtain ⟨G,hG⟩:∃G,U.heap.size=G:=⟨_,rfl⟩;rw [hG] at oG |-;clear gG p;obtain ⟨U,rfl⟩:∃U,U=V:=⟨_,rfl⟩)
  | (refine HAS.c (i:=26) (kY (some (ar bp 0)) (some (ar bm 0)) n cp cm ps (List.replicate n 0) U (Rd.own (az OP.o q)) (Rd.own (az OM.o q)) Hl.o (Rp ..) cs) ?_;rintro e V ⟨A1,c1,A2,c2,rfl,bG,bN,o1,o2,_,p⟩;(try have:=u.size);(try have:=B.size);(try have:=Qw I);(try have:G<U.heap.size:=(gP oG _ rfl).2);have:=y.size;(try replace oG:=az oG p);(try replace I:=sb I _ p);(try replace u:=bt u p);(try replace B:=bt B p);replace y:=bt y p;replace q:=bt q p;refine ⟨_,rfl,q,λ_=>?_⟩;obtain ⟨a2,c9⟩:∃s,U.heap.size=s:=⟨_,rfl⟩;rw [c9] at o1 o2;have bX:=p.size;obtain ⟨Y,hw⟩:∃Y,Y=V:=⟨_,rfl⟩;have u:aq Y V:=(by rw [hw];exact br _);rw [<-hw] at o1 o2 bX;clear hw p;obtain ⟨U,rfl⟩:∃U,U=V:=⟨_,rfl⟩)
  | (have p:=(br U).alloc (Qx _) (.cells #[.slice A1 n c1,.slice A2 n c2] 91);have nR:=Qy U (.cells #[.slice A1 n c1,.slice A2 n c2] 91);refine HAS.v (i:=27) (U.alloc (.cells #[.slice A1 n c1,.slice A2 n c2] 91)) (.slice (some (ar U.heap.size 0)) 1 1) (bt q p) ?_;obtain ⟨V,hv⟩:∃V,U.alloc (.cells #[.slice A1 n c1,.slice A2 n c2] 91)=V:=⟨_,rfl⟩;rw [hv] at nR p |-;clear hv;(try have:=u.size);(try have:=B.size);(try have:=Qw I);(try have:G<U.heap.size:=(gP oG _ rfl).2);have:=y.size;(try replace oG:=az oG p);(try replace I:=sb I _ p);(try replace u:=bt u p);(try replace B:=bt B p);replace y:=bt y p;replace q:=bt q p;have I:=nR;have tR:=Qw I;obtain ⟨Z,hR⟩:∃r,U.heap.size=r:=⟨_,rfl⟩;rw [hR] at I |-;clear nR p;obtain ⟨U,rfl⟩:∃U,U=V:=⟨_,rfl⟩)
  | (refine HAS.c (i:=30) (b6.o PP U ((ao.o.agr (Agr.refl _ w6)).below (bt K8.o q))) ?_;rintro e V ⟨v,rfl,oS,p⟩;obtain ⟨IA,ic,rfl,_⟩:=aD oS;(try have:=u.size);(try have:=B.size);(try have:=Qw I);(try have:G<U.heap.size:=(gP oG _ rfl).2);have:=y.size;(try replace oG:=az oG p);(try replace I:=sb I _ p);(try replace u:=bt u p);(try replace B:=bt B p);replace y:=bt y p;replace q:=bt q p;refine ⟨_,rfl,q,λ_=>?_⟩;obtain ⟨ad,co⟩:∃s,U.heap.size=s:=⟨_,rfl⟩;rw [co] at oS;have bM:=p.size;obtain ⟨a1,hw⟩:∃a1,a1=V:=⟨_,rfl⟩;have B:aq a1 V:=(by rw [hw];exact br _);rw [<-hw] at oS bM;clear hw p;obtain ⟨U,rfl⟩:∃U,U=V:=⟨_,rfl⟩)
  | (refine HA.t ?_ [31] q ?_)
  | fail
 all_goals
  have gB:=Qy U (Obj.cells #[RI (x:Nat),RI (H:Nat),RI (mi:Nat),(au F),.slice E N ce,(au S),(au PP),.slice BA (Pln.buks ⟨H,mi,bu,ch,wi,n⟩).length bc,RI ra,RI O,RI sh,.slice (some (ar bp 0)) n cp,.slice (some (ar bm 0)) n cm,.slice (some (ar G 0)) n n,.slice (some (ar Z 0)) 1 1,.slice IA J.length ic,RI 0,RI 0,RJ] 169);have p:=(br U).alloc (Qx _) (Obj.cells #[RI (x:Nat),RI (H:Nat),RI (mi:Nat),(au F),.slice E N ce,(au S),(au PP),.slice BA (Pln.buks ⟨H,mi,bu,ch,wi,n⟩).length bc,RI ra,RI O,RI sh,.slice (some (ar bp 0)) n cp,.slice (some (ar bm 0)) n cm,.slice (some (ar G 0)) n n,.slice (some (ar Z 0)) 1 1,.slice IA J.length ic,RI 0,RI 0,RJ] 169);refine HA.v 32 (U.alloc (Obj.cells #[RI (x:Nat),RI (H:Nat),RI (mi:Nat),(au F),.slice E N ce,(au S),(au PP),.slice BA (Pln.buks ⟨H,mi,bu,ch,wi,n⟩).length bc,RI ra,RI O,RI sh,.slice (some (ar bp 0)) n cp,.slice (some (ar bm 0)) n cm,.slice (some (ar G 0)) n n,.slice (some (ar Z 0)) 1 1,.slice IA J.length ic,RI 0,RI 0,RJ] 169)) ((au U.heap.size)) (bt q p) ?_;obtain ⟨V,hv⟩:∃V,U.alloc (Obj.cells #[RI (x:Nat),RI (H:Nat),RI (mi:Nat),(au F),.slice E N ce,(au S),(au PP),.slice BA (Pln.buks ⟨H,mi,bu,ch,wi,n⟩).length bc,RI ra,RI O,RI sh,.slice (some (ar bp 0)) n cp,.slice (some (ar bm 0)) n cm,.slice (some (ar G 0)) n n,.slice (some (ar Z 0)) 1 1,.slice IA J.length ic,RI 0,RI 0,RJ] 169)=V:=⟨_,rfl⟩;rw [hv] at gB p |-;clear hv;refine HA.t ?_ [33] (bt q p) ?_;refine HA.d ?_
  try simp only [Exit.then]
  (try have:=u.size);(try have:=B.size);(try have:=Qw I);(try have:G<U.heap.size:=(gP oG _ rfl).2);have:=y.size
  obtain ⟨bb,hb⟩:∃b,U.heap.size=b:=⟨_,rfl⟩;rw [hb] at gB |-;have z8:=bt q p;have z6:=bt K8.o z8;have zz:=bt K6.o z6;have z0:=bt y p;have z9:=bt a0 z0;have b5:=bt u p;have cf:=bt B p;have mF:∀k∈[bb,bp,bm,G,Z],k<w.heap.size\/w4.heap.size<=k:=by apply ms5<;>omega
  have mP:∀k∈[bb,bp,bm,G,Z],k<w4.heap.size\/w6.heap.size<=k:=by apply ms5<;>omega
  have mE:∀k∈[bb,bp,bm,G,Z],k<W8.heap.size\/w9.heap.size<=k:=by apply ms5<;>omega
  have mB:∀k∈[bb,bp,bm,G,Z],k<w9.heap.size\/x9.heap.size<=k:=by apply ms5<;>omega
  have mI:∀k∈[bb,bp,bm,G,Z],k<ad\/a1.heap.size<=k:=by apply ms5<;>omega
  have mS:∀k∈[bb,bp,bm,G,Z],k<a2\/Y.heap.size<=k:=by apply ms5<;>omega
  have lS:w.heap.size<=a2/\w.heap.size<=ad/\w.heap.size<=W8.heap.size/\w.heap.size<=w9.heap.size:=ap;have l1:w.heap.size<=bb/\w.heap.size<=bp/\w.heap.size<=bm/\w.heap.size<=G/\w.heap.size<=Z:=ap;have l6:bp≠G/\bm≠G:=ap;have fin:=bn.o V bb ⟨F,E,ce,S,PP,BA,bc,bp,cp,bm,cm,G,n,Z,1,IA,ic,RJ⟩ ⟨gB,⟨_,w4,Qx _,av.o,zz,mF⟩,⟨_,w4,Qx _,HS.o,zz,mF⟩,⟨_,w6,ci,ao.o,z6,mP⟩,⟨W8.heap.size,w9,lS.2.2.1,hE,z9,mE⟩,⟨w9.heap.size,x9,lS.2.2.2,Rd.own (fQ ab (Qx _)),z0,mB⟩,⟨ad,a1,lS.2.1,Rd.own (fQ oS (Qx _)),cf,mI⟩,⟨A1,c1,A2,c2,bG,bN,sb I _ p,⟨a2,Y,lS.1,Rd.own (fQ o1 (Qx _)),b5,mS⟩,⟨a2,Y,lS.1,Rd.own (fQ o2 (Qx _)),b5,mS⟩⟩,aF (az OP.o z8) (QB _),aF (az OM.o z8) (QB _),aF (az oG p) (QB _),l1,⟨c6.o,l6.1,l6.2⟩,rfl,rfl,bt Q4.o zz⟩;go_wp2_with fail;exact fin
theorem kO {i:Nat} {p o:R8} {ms:List Nat} {Q:R8->Prop} {S:Nat->Prop} (h:Win i p ms Q) (C:∀{u v},Q u->Ext u v->Q v) (hk:Keep (λk=>k<i) p o) (B:∀k,S k->k<i\/k∈ms):Q (aH S o):=by
 obtain ⟨lo,u,h1,y,x,A⟩:=h;refine C y (LQ (λk hB hl=>(hk.block k (QE hl x.size) ap).trans (x.block k hl)) λk hB hl hs=>?_);rcases B k hs with h | h
 .omega
 .rcases A k h with h | h<;>omega
theorem H9 {H:Nat->Prop} {i:Inp} {x L:Nat} {A:N_} {c:Nat} {w N B:R8} {b:Nat} {a:MAd} (hr:P6 i.cfg.sizes x L i.cfg.workers.toNat i.cfg.batch.toNat i.cfg.micros.toNat i.cfg.steps.toNat i.cfg.bucket.toNat i.cfg.chunk.toNat i.cfg.window.toNat i.cfg.cap.toNat i.data.length i.start.length A c i.cfg.shift i.cfg.rate i.cfg.mom i.data i.start i.draws (cz i x 0) w N b a) (hg:jK i.cfg) (hw:W64 i.start) (hl:i.start.length<=1048576) (hx:x<(ax i).W) (hk:Keep (λk=>k<w.heap.size) N B) (hH:∀k,H k->k<w.heap.size):aU H B b i x a (fu i):=by
 have O:∀k,Mut b a k->k∈[b,a.bp,a.bm,a.bg,a.rb]:=by
  rintro k (rfl | rfl | rfl | rfl | rfl | h)
  .simp
  .simp
  .simp
  .simp
  .simp
  .rw [hr.ov] at h;exact absurd h (by simp [Value.ownBlock])
 have C:∀k,ib H b a k->k<w.heap.size\/k∈[b,a.bp,a.bm,a.bg,a.rb]:=λk hk=>hk.elim (λh=>.inr (O k h)) λh=>.inl (hH k h);have a0:=hr.lo
 have I:∀k,k∈[b,a.bp,a.bm,a.bg,a.rb]->¬k<w.heap.size:=by
  intro k hk;simp only [List.mem_cons,List.not_mem_nil,or_false] at hk;rcases hk with rfl | rfl | rfl | rfl | rfl<;>omega
 have u:W64 (List.replicate i.start.length 0):=λk hk=>by
  rw [dB _ _ hk];simp
 have p:∀{v:Value} {e size n:Nat} {xs:R7},(∀k,v.ownBlock=some k->Mut b a k)->N.ownsRow 0 e size v n xs->B.ownsRow 0 e size v n xs:=λhv h=>hk.own h λk U Q=>I k (O k (hv k U)) Q;have D:∀{k:Nat} {o:Obj},Mut b a k->N.heap[k]?=some o->B.heap[k]?=some o:=λhm hb=>(hk.block _ (Qw hb) (I _ (O _ hm))).trans hb;obtain ⟨A1,c1,A2,c2,V,Z,gR,r1,r2⟩:=hr.re;have R:=D (.inr (.inr (.inr (.inr (.inl rfl))))) gR;have T:=hr.rc;have ew:((i.cfg.workers.toNat:Nat):Int)=i.cfg.workers:=by have:=hg.w;omega
 have em:((i.cfg.micros.toNat:Nat):Int)=i.cfg.micros:=by have:=hg.mi;omega
 have J:=D (.inl rfl) hr.blk;rw [ew,em] at J
 refine ⟨?_,kO hr.fo fM hk C,kO hr.ex (fj cW) hk C,kO hr.sa iD hk C,⟨_,_,_,_,_,_,kO hr.pl iE hk C⟩,kO hr.bu aW hk C,kO hr.it aW hk C,?_,
  p (λk e=>by cases e;exact .inr (.inl rfl)) hr.oP,p (λk e=>by cases e;exact .inr (.inr (.inl rfl))) hr.oM,p (λk e=>by cases e;exact .inr (.inr (.inr (.inl rfl)))) hr.oG,?_,hr.dj,λk _ hm hh=>I k (O k hm) (hH k hh),
  ⟨rfl,hw⟩,⟨by simp [fu],u⟩,⟨by simp [fu],u⟩,?_,hx⟩
 .have e0:bF i x (fu i)=0:=by simp [bF,fu]
  rw [e0,hr.ov];exact J
 .refine ⟨[[.slice A1 i.start.length c1,.slice A2 i.start.length c2]],⟨rfl,.inr ⟨a.rb,1,_,by rw [T];first | done | rfl,QB _,R,Qx _,by unfold maxLen;omega,by simp,rfl⟩⟩,rfl,by simp,?_⟩;intro j y Y
  cases j with
  | succ j=>simp [fu] at Y
  | zero=>
   simp [fu] at Y;subst Y;exact ⟨A1,c1,A2,c2,by simp [cF],⟨V,by dsimp only;omega,kO r1 aW hk C,hw⟩,⟨by rw [Rp];exact Z,by rw [Rp];omega,kO r2 aW hk C,u⟩⟩
 .rw [hr.ov];exact QI _ _ _ _
 .show (0<(cz i x 0).length)\/_
  unfold cz;by_cases h:0<i.cfg.steps.toNat
  .rw [if_pos h];exact .inl (jU _ _ _)
  .exact .inr ⟨rfl,by show i.cfg.steps.toNat<=0;omega⟩
def Qo (i:Inp) (x:Nat) (w:R8) (e:Ending) (h:R8):Prop:=∃b a,e=.returned (.tuple #[(au b),RI 0])/\aq w h/\(∀k,Mut b a k->w.heap.size<=k)/\
 ∀(H:Nat->Prop) w'',Keep (λk=>k<w.heap.size) h w''->(∀k,H k->k<w.heap.size)->aU H w'' b i x a (fu i)
theorem Ih (A:N_) (c:Nat) (D:N_) (y:Nat) (T:N_) (ct:Nat) (R:N_) (u:Nat) (i:Inp) (x:Nat) (w:R8) (h:gW w A c D T ct R i) (hs:bD i) (C:x<(ax i).W):Calls prog 41 #[.agg (aL A c D y T ct R u i),RI (x:Nat)] w (Qo i x w):=by
 have hg:=hs.g.c;have ew:((i.cfg.workers.toNat:Nat):Int)=i.cfg.workers:=by have:=hg.w;omega
 have eb:((i.cfg.batch.toNat:Nat):Int)=i.cfg.batch:=by have:=hg.ba;have:=hg.w;omega
 have em:((i.cfg.micros.toNat:Nat):Int)=i.cfg.micros:=by have:=hg.mi;omega
 have es:((i.cfg.steps.toNat:Nat):Int)=i.cfg.steps:=by have:=hg.st;omega
 have eu:((i.cfg.bucket.toNat:Nat):Int)=i.cfg.bucket:=by have:=hg.bu;omega
 have Y:((i.cfg.chunk.toNat:Nat):Int)=i.cfg.chunk:=by have:=hg.ch;omega
 have ei:((i.cfg.window.toNat:Nat):Int)=i.cfg.window:=by have:=hg.wi;omega
 have ea:((i.cfg.cap.toNat:Nat):Int)=i.cfg.cap:=by have:=hg.ca;omega
 have hv:aL A c D y T ct R u i=#[.slice A i.cfg.sizes.length c,RI i.cfg.shift,RI i.cfg.rate,RI i.cfg.mom,RI (i.cfg.workers.toNat:Nat),RI (i.cfg.batch.toNat:Nat),RI (i.cfg.micros.toNat:Nat),RI (i.cfg.steps.toNat:Nat),RI (i.cfg.bucket.toNat:Nat),RI (i.cfg.chunk.toNat:Nat),RI (i.cfg.window.toNat:Nat),RI (i.cfg.cap.toNat:Nat),.slice D i.data.length y,.slice T i.start.length ct,.slice R i.draws.length u]:=by
  rw [ew,eb,em,es,eu,Y,ei,ea]
 have L:dH A c i.cfg=#[.slice A i.cfg.sizes.length c,RI i.cfg.shift,RI i.cfg.rate,RI i.cfg.mom,RI (i.cfg.workers.toNat:Nat),RI (i.cfg.batch.toNat:Nat),RI (i.cfg.micros.toNat:Nat),RI (i.cfg.steps.toNat:Nat),RI (i.cfg.bucket.toNat:Nat),RI (i.cfg.chunk.toNat:Nat),RI (i.cfg.window.toNat:Nat),RI (i.cfg.cap.toNat:Nat)]:=by
  rw [ew,eb,em,es,eu,Y,ei,ea]
 have B:=hs.g.s;unfold cnt at B
 have Q:P7 i.cfg.sizes i.cfg.sizes.length i.cfg.workers.toNat i.cfg.batch.toNat i.cfg.micros.toNat i.cfg.steps.toNat i.cfg.bucket.toNat i.cfg.chunk.toNat i.cfg.window.toNat i.cfg.cap.toNat i.start.length i.draws.length A c i.cfg.shift i.cfg.rate i.cfg.mom D y T ct R u i.data i.start i.draws w:=by
  constructor
  .intro N V o q;subst V;have:=xT A c D y T ct R u i o (h.below q);rw [rt.2 hs.g,hv] at this;exact this
  .intro o q;refine (ul A i.cfg.sizes c o (h.c.hr.below q) h.c.hc h.c.hm).mono ?_;rintro e v ⟨hb,J⟩;rcases J with ⟨_,S,he,U,_⟩ | ⟨I,_⟩
   .exact ⟨S,he,oN U (Fi q.size),hb⟩
   .exact absurd hg.z I
  .intro N V o q;subst V;have Z:=hs.g.d;have gb:=hs.g.b;have g1:=hg.w;have g2:=hg.ba;have g3:=hg.st;unfold nS at Z;refine (yz R i.draws u i.data.length i.cfg.batch.toNat i.cfg.steps.toNat o (h.r.below q) h.rl h.ru ap ap gb.2 ap Z).mono ?_;rintro e v ⟨S,he,U,_,hb⟩;exact ⟨S,he,Jd U (Fi q.size),hb⟩
  .intro F o hF;have:=lh F i.cfg.sizes o hF;rw [<-B] at this;exact this
  .intro o q;have:=mx A c i.cfg o (h.c.below q);rw [fl.2 hg,L] at this;exact this
  .exact h.d
  .exact h.dl
  .exact h.t.hr
  .rfl
 rw [hv];refine Ig i.cfg.sizes x i.cfg.sizes.length _ _ _ _ _ _ _ _ i.data.length i.start.length i.draws.length A c _ _ _ D y T ct R u i.data i.start i.draws w _ Q rfl C hs.ok hs.n1 (by have:=hg.bu;omega) (by have:=hg.wi;omega) (cz i x 0) ?_ ?_
 .intro P o hP;unfold cz;by_cases O:0<i.cfg.steps.toNat
  .rw [if_pos O];exact xt (ax i) P x 0 i.cfg.steps.toNat _ _ _ _ _ _ o hs.ok hs.n1 C O hP
  .rw [if_neg O];refine (xr (ax i) P x 0 i.cfg.steps.toNat _ _ _ _ _ _ o C ap hP).mono ?_;rintro e v ⟨rfl,rfl⟩;exact ⟨_,rfl,QI _ _ _ _,br _⟩
 .intro o b a hr;refine ⟨b,a,rfl,hr.k,?_,λH v hk hH=>H9 hr hg h.t.hw h.tl C hk hH⟩;have p:=hr.lo;rintro k (rfl | rfl | rfl | rfl | rfl | hh)
  .exact p.1
  .exact p.2.1
  .exact p.2.2.1
  .exact p.2.2.2.1
  .exact p.2.2.2.2
  .rw [hr.ov] at hh;exact absurd hh (by simp [Value.ownBlock])
theorem lj (A:N_) (L c:Nat) (sh ra p u x mi sn bu ch wi ca:Int) (D:N_) (N V:Nat) (T:N_) (n ct:Nat) (R:N_) (Q O:Nat) (w:R8):Calls prog 32 #[.agg #[.slice A L c,RI sh,RI ra,RI p,RI u,RI x,RI mi,RI sn,RI bu,RI ch,RI wi,RI ca,.slice D N V,.slice T (n:Nat) ct,.slice R Q O]] w λe B=>e=.returned (.agg #[.slice A L c,RI sh,RI ra,RI p,RI u,RI x,RI mi,RI sn,RI bu,RI ch,RI wi,RI ca,RI (n:Nat)])/\aq w B:=by
 obtain ⟨i,h⟩:∃i,w.alloc (.cells #[.slice A L c,RI sh,RI ra,RI p,RI u,RI x,RI mi,RI sn,RI bu,RI ch,RI wi,RI ca,.slice D N V,.slice T (n:Nat) ct,.slice R Q O] 29)=i:=⟨_,rfl⟩;have I:i.heap[w.heap.size]?=some (.cells #[.slice A L c,RI sh,RI ra,RI p,RI u,RI x,RI mi,RI sn,RI bu,RI ch,RI wi,RI ca,.slice D N V,.slice T (n:Nat) ct,.slice R Q O] 29 (0,0)):=by rw [<-h];exact Qy w _
 have H:aq w i:=by rw [<-h];exact (br w).alloc (Qx _) _
 have y:i.heap.size=w.heap.size+1:=by rw [<-h];exact Array.size_push _
 have g1:(i.alloc (.cells #[.slice A L c,RI sh,RI ra,RI p,RI u,RI x,RI mi,RI sn,RI bu,RI ch,RI wi,RI ca,RI (n:Nat)] 83)).heap[w.heap.size+1]?=some (.cells #[.slice A L c,RI sh,RI ra,RI p,RI u,RI x,RI mi,RI sn,RI bu,RI ch,RI wi,RI ca,RI (n:Nat)] 83 (0,0)):=by rw [<-y];exact Qy i _
 have HB:=aa (H.alloc H.size (.cells #[.slice A L c,RI sh,RI ra,RI p,RI u,RI x,RI mi,RI sn,RI bu,RI ch,RI wi,RI ca,RI (n:Nat)] 83));have t0:=λB (q:aq i B)=>kH (sb I B q);obtain ⟨C,G1⟩:=ae h g1;have l0:=Qw I;have p1:=br i;clear h I g1 H y;go_enter func32,ntmps32;go_wp2_with fail;rw [C.o];obtain ⟨⟨r0,r1,r2,Z,r4,r5,r6,r7,r8,r9,J,U,Y⟩,rf⟩:=ww G1.o;exact QM (v:=.agg #[.slice A L c,RI sh,RI ra,RI p,RI u,RI x,RI mi,RI sn,RI bu,RI ch,RI wi,RI ca,RI (n:Nat)]) (by simp [results,results32,go_sem,r0,r1,r2,Z,r4,r5,r6,r7,r8,r9,J,U,Y]) rfl ⟨rfl,HB.o⟩
def iL (i:Inp) (x k:Nat):List Itm:=(List.range k).flatMap λt=>aE (ax i) x t
abbrev dC (i:Inp) (x:Nat):List Itm:=iL i x i.cfg.steps.toNat
theorem jV (i:Inp) (x k:Nat):iL i x (k+1)=iL i x k++aE (ax i) x k:=by simp [iL,Rx]
theorem ot {i:Inp} (h:bT (ax i)) (x k:Nat):(iL i x k).length=k*(aE (ax i) x 0).length:=by
 induction k with
 | zero=>simp [iL]
 | succ k ih=>rw [jV,Rh,ih,kp h x k,Ry]
theorem Fh {i:Inp} (o:bT (ax i)) {x st nx:Nat} {y:Itm} (p:(aE (ax i) x st)[nx]?=some y):∀{k:Nat},st<k->(iL i x k)[st*(aE (ax i) x 0).length+nx]?=some y
 | 0,h=>absurd h (Nat.not_lt_zero _)
 | k+1,h=>by
  have hl:=ot o x k;have hn:=(Ri.1 p).1;rw [kp o] at hn;rw [jV];rcases QO st k with u | u
  .have h1:=RH (aE (ax i) x 0).length (Nat.succ_le_of_lt u);rw [Ry] at h1;rw [Rk ap];exact Fh o p u
  .obtain rfl:st=k:=ap;rw [Rl ap,hl,Nat.add_sub_cancel_left];exact p
end Go.Proofs.YtindmkcnjlgomaaGreat
