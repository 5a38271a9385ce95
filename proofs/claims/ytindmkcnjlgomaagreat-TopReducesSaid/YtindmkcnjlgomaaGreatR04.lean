/- No condition. -/
import Derived.Test.YtindmkcnjlgomaaGreatR03
import Derived.Deep.MidRow
set_option linter.unusedSimpArgs false
set_option linter.unusedVariables false
set_option maxRecDepth 100000
set_option maxHeartbeats 4000000
namespace Go.Proofs.YtindmkcnjlgomaaGreat
open Go.RowKit
open Tryz
theorem gK (A B:N0) (n c d:Nat) (ps ms:N1) (w:N5) (hA:Rd w A (az .i64 ps)) (hB:Rd w B (az .i64 ms)) (a0:ps.length=n) (a7:ms.length=n) (hn:n<=1048576):Calls prog 73 #[.agg #[.slice A n c,.slice B n d]] w λe i=>∃A1 c1 x c2,e=.returned (.agg #[.slice A1 n c1,.slice x n c2])/\n<=c1/\n<=c2/\i.ownsRow w.heap.size 2 1 (.slice A1 n c1) n (az .i64 ps)/\i.ownsRow w.heap.size 2 1 (.slice x n c2) n (az .i64 ms)/\
   (∀j,(Value.slice A1 n c1).ownBlock=some j->(Value.slice x n c2).ownBlock≠some j)/\ap w i:=by
 have O:=λi (k:ap w i)=>cT A ps c i (hA.below k) ao;have T:=λi (k:ap w i)=>cT B ms d i (hB.below k) ao;rw [a0] at O;rw [a7] at T;obtain ⟨b3,b6⟩:=ab O T;clear O T a0 a7 hA hB;go_enter func73,ntmps73;go_wp2_with fail;have hz:=F4 (w.alloc (.cells #[.slice A n c,.slice B n d] 91)) (.cells #[H9,H9] 91);rw [show (w.alloc (.cells #[.slice A n c,.slice B n d] 91)).heap.size=w.heap.size+1 by simp] at hz;have hy:=(Gk (w.alloc (.cells #[.slice A n c,.slice B n d] 91)) (.cells #[H9,H9] 91) w.heap.size (by simp)).trans (F4 w _);have U:ap w ((w.alloc (.cells #[.slice A n c,.slice B n d] 91)).alloc (.cells #[H9,H9] 91)):=((Gb _ w).alloc (F3 _) _).alloc (by simp) _;have Q:((w.alloc (.cells #[.slice A n c,.slice B n d] 91)).alloc (.cells #[H9,H9] 91)).heap.size=w.heap.size+2:=by simp
 obtain ⟨W0,a1⟩:∃W0,W0=(w.alloc (.cells #[.slice A n c,.slice B n d] 91)).alloc (.cells #[H9,H9] 91):=⟨_,rfl⟩;rw [<-a1] at hz hy U Q ⊢;obtain ⟨⟨y0,y1⟩,yf⟩:=bx2 hy;obtain ⟨Hz,Y,D⟩:=ae hz U Q;clear hz hy U Q a1;have h:(λi:N5=>i.cell? (aq w.heap.size 0)=some (.slice A n c)/\i.cell? (aq w.heap.size 1)=some (.slice B n d)) W0.drew:=⟨y0,y1⟩;refine XA.g 7 (λi:N5=>i.cell? (aq w.heap.size 0)=some (.slice A n c)/\i.cell? (aq w.heap.size 1)=some (.slice B n d)) ?_;refine XA.t ?_ [0,1,3,4] h ?_;refine XA.o 2 (λK hK=>?_);go_simp;refine (b3.o _ Y.o.drew).mono ?_;rintro e w1 ⟨A1,c1,rfl,ak,C,u⟩;have b4:=aa ak;clear ak;have a3:=Gg (av u h.1) (av u h.2);have a2:=(u.block (w.heap.size+1) (by simp [D.o])).trans Hz.o;have Z:=Y.o.drew.trans (u.mono (by simp [D.o]));have b5:=u.size;simp only [GS,D.o] at b5;have C:=aG (base':=w.heap.size) C (by simp [D.o]);obtain ⟨a4,b1,I⟩:=ae C a2 Z;clear C a2 Z u h;dsimp only;refine hK.out _ _ a3 (λh=>?_);clear hK K a3;refine XA.o 5 (λK hK=>?_);go_simp;refine (b6.o _ I.o).mono ?_;rintro e V ⟨x,c2,rfl,ax,y,p⟩;have L:∀j,(Value.slice A1 n c1).ownBlock=some j->(Value.slice x n c2).ownBlock≠some j:=λj h1 h2=>by have:=(a4.o.lt j h1).2;have:=(y.lt j h2).1;omega
 obtain ⟨aM,ad⟩:=ab ax L;clear ax L;have a5:=Gg (av p h.1) (av p h.2);have H:=(p.block (w.heap.size+1) ao).trans b1.o;have a6:=I.o.trans (p.mono I.o.size);have bb:=p.size;have y:=aG (base':=w.heap.size) y I.o.size;have N:=aA a4.o p;obtain ⟨⟨z0,z1⟩,zf⟩:=bx2 H;have l2:w.heap.size+1<V.heap.size:=F1 H;obtain ⟨a8,J,R,b7⟩:=af y N H a6;clear y N H a6 p h;dsimp only;refine hK.out _ _ a5 (λh=>?_);clear hK K a5;refine XA.t ?_ [6] h ?_;refine XA.e ?_;clear h;simp only [GC,GD];go_wp2_with fail;have e1:=HE V (w.heap.size+1) 0 _ _ (.slice A1 n c1) R.o;have e2:=HE _ (w.heap.size+1) 1 _ _ (.slice x n c2) e1;have e3:((V.setCell (aq (w.heap.size+1) 0) (.slice A1 n c1)).setCell (aq (w.heap.size+1) 1) (.slice x n c2)).heap[w.heap.size+1]?=some (.cells #[(.slice A1 n c1),(.slice x n c2)] 91 (0,0)):=by simpa using e2
 have hk:Keep (λj=>j=w.heap.size+1) V ((V.setCell (aq (w.heap.size+1) 0) (.slice A1 n c1)).setCell (aq (w.heap.size+1) 1) (.slice x n c2)):=Keep.setCell (S:=λj=>j=w.heap.size+1) (Keep.setCell (S:=λj=>j=w.heap.size+1) (Keep.refl _ _) (aq (w.heap.size+1) 0) (.inr rfl) _) (aq (w.heap.size+1) 1) (.inr rfl) _;obtain ⟨W9,b2⟩:∃W9,W9=(V.setCell (aq (w.heap.size+1) 0) (.slice A1 n c1)).setCell (aq (w.heap.size+1) 1) (.slice x n c2):=⟨_,rfl⟩;rw [<-b2] at e3 hk ⊢;obtain ⟨⟨x0,x1⟩,xf⟩:=bx2 e3;have b8:=hk.own J.o (λj hj e=>aw R.o (by decide) J.o (by rw [hj,e]));have b0:=hk.own a8.o (λj hj e=>aw R.o (by decide) a8.o (by rw [hj,e]));have aP:ap w W9:=b7.o.trans (hk.toBelow ao (λj hj=>ao));exact Gm (v:=.agg #[.slice A1 n c1,.slice x n c2]) (by simp [results,results73,go_sem,x0,x1]) rfl ⟨A1,c1,x,c2,rfl,b4.o,aM.o,b8,b0,ad.o,aP⟩
theorem FN (ra p q:Int) (A B G:N0) (n c d cg:Nat) (ps Q g:N1) (w:N5) (hA:Rd w A (az .i64 ps)) (hB:Rd w B (az .i64 Q)) (hG:Rd w G (az .i64 g)) (a5:ps.length=n) (a4:Q.length=n) (b2:g.length=n) (hn:n<=1048576) (wr: -9223372036854775808<=ra/\ra<=9223372036854775807) (wo: -9223372036854775808<=p/\p<=9223372036854775807) (wm:W64 Q) (ak:∀a,G=some a->a.block<w.heap.size):Calls prog 264 #[.agg #[H8 ra,H8 p,H8 q],.agg #[.slice A n c,.slice B n d],.slice G n cg] w λe N=>∃A1 c1 i c2,e=.returned (.tuple #[.agg #[.slice A1 n c1,.slice i n c2],.bool true])/\n<=c1/\n<=c2/\
   N.ownsRow w.heap.size 2 1 (.slice A1 n c1) n (az .i64 (wK ra p q ps Q g))/\N.ownsRow w.heap.size 2 1 (.slice i n c2) n (az .i64 (wN p q Q g))/\ap w N:=by
 have bs:=λN (k:ap w N)=>gK A B n c d ps Q N (hA.below k) (hB.below k) a5 a4 hn
 have a6:=λ(A1 i:N0) c1 c2 base N (k:ap w N) (hb:w.heap.size<=base) (h1:N.ownsRow base 2 1 (.slice A1 n c1) n (az .i64 ps)) (h2:N.ownsRow base 2 1 (.slice i n c2) n (az .i64 Q)) bw=>qE ra p q base n 0 n c1 c2 cg A1 i G ps Q g N h1 h2 bw (hG.below k) b2 ao hn
  (λa ha e=>by have:=(h1.lt _ e).1;have:=ak a ha;omega) (λa ha e=>by have:=(h2.lt _ e).1;have:=ak a ha;omega) wr wo wm
 have e1:=Ec ra p q ps Q g;have e2:=Ef p q Q g;rw [a5] at e1;rw [a4] at e2;rw [e1,e2,GY] at a6;have hq:((n:Int) != (n:Int))=false:=by simp
 obtain ⟨bN,bI⟩:=ab bs a6;clear bs a6 e1 e2 hA hB hG a5 a4 b2 wr wo wm ak;go_enter func264,ntmps264;go_wp2_with fail;have a1:(((w.alloc (.cells #[H8 ra,H8 p,H8 q] 162)).alloc (.cells #[.slice A n c,.slice B n d] 91)).alloc (.cells #[H9,H9] 91)).heap.size=w.heap.size+3:=by simp
 have a7:ap w (((w.alloc (.cells #[H8 ra,H8 p,H8 q] 162)).alloc (.cells #[.slice A n c,.slice B n d] 91)).alloc (.cells #[H9,H9] 91)):=(((Gb _ w).alloc (F3 _) _).alloc (by simp) _).alloc (by simp;omega) _;have a3:=(Gk ((w.alloc (.cells #[H8 ra,H8 p,H8 q] 162)).alloc (.cells #[.slice A n c,.slice B n d] 91)) (.cells #[H9,H9] 91) w.heap.size (by simp;omega)).trans ((Gk (w.alloc (.cells #[H8 ra,H8 p,H8 q] 162)) (.cells #[.slice A n c,.slice B n d] 91) w.heap.size (by simp)).trans (F4 w _));have H:=F4 (w.alloc (.cells #[H8 ra,H8 p,H8 q] 162)) (.cells #[.slice A n c,.slice B n d] 91);rw [show (w.alloc (.cells #[H8 ra,H8 p,H8 q] 162)).heap.size=w.heap.size+1 by simp] at H;have H:=(Gk ((w.alloc (.cells #[H8 ra,H8 p,H8 q] 162)).alloc (.cells #[.slice A n c,.slice B n d] 91)) (.cells #[H9,H9] 91) (w.heap.size+1) (by simp)).trans H;have R:=F4 ((w.alloc (.cells #[H8 ra,H8 p,H8 q] 162)).alloc (.cells #[.slice A n c,.slice B n d] 91)) (.cells #[H9,H9] 91);rw [show ((w.alloc (.cells #[H8 ra,H8 p,H8 q] 162)).alloc (.cells #[.slice A n c,.slice B n d] 91)).heap.size=w.heap.size+1+1 by simp] at R;obtain ⟨W0,b7⟩:∃W0,W0=((w.alloc (.cells #[H8 ra,H8 p,H8 q] 162)).alloc (.cells #[.slice A n c,.slice B n d] 91)).alloc (.cells #[H9,H9] 91):=⟨_,rfl⟩;rw [<-b7] at a1 a7 a3 H R ⊢;obtain ⟨x,b0,b1,a8,bX⟩:=ag a7 a3 H R a1;clear a1 a7 a3 H R b7;refine (bN.o _ x.o).mono ?_;rintro e w1 ⟨A1,c1,i,c2,rfl,bv,b5,C,y,Y,k1⟩;have a0:=(k1.block _ (F1 b0.o)).trans b0.o;have ad:=(k1.block _ (F1 b1.o)).trans b1.o;have u:=(k1.block _ (F1 a8.o)).trans a8.o;have bV:=F1 a0;have c6:=F1 ad;have c8:=F1 u;have aM:=x.o.trans (k1.mono x.o.size);obtain ⟨⟨x0,x1,x2⟩,xf⟩:=bx3 a0;obtain ⟨⟨y0,y1⟩,yf⟩:=bx2 ad;obtain ⟨bd,b8,bO,bA,bn,ax,bb⟩:=ai u aM bv b5 C y Y;clear k1 a0 ad u aM bv b5 C y Y;go_wp2_with fail;have J:=b8.o.alloc b8.o.size (.cells #[.slice A1 n c1,.slice i n c2] 91);have a2:=F4 w1 (.cells #[.slice A1 n c1,.slice i n c2] 91);have u:=(Gk w1 (.cells #[.slice A1 n c1,.slice i n c2] 91) _ (F1 bd.o)).trans bd.o;have C:=bn.o.alloc (.cells #[.slice A1 n c1,.slice i n c2] 91);have y:=ax.o.alloc (.cells #[.slice A1 n c1,.slice i n c2] 91);have bi:w1.heap.size<(w1.alloc (.cells #[.slice A1 n c1,.slice i n c2] 91)).heap.size:=by simp
 obtain ⟨V,hV⟩:∃V,V=w1.alloc (.cells #[.slice A1 n c1,.slice i n c2] 91):=⟨_,rfl⟩;rw [<-hV] at J a2 u C y bi ⊢;clear hV;refine (bI.o A1 i c1 c2 W0.heap.size V J x.o.size C y bb.o).mono ?_;rintro e w3 ⟨rfl,aP,bh,T⟩;have L:=C.lt;have O:=y.lt
 have bl:∀j,j<W0.heap.size->¬((Value.slice A1 n c1).ownBlock=some j\/(Value.slice i n c2).ownBlock=some j):=λj Z=>by
  rintro (h | h)
  ·have:=(L j h).1;omega
  ·have:=(O j h).1;omega
 have U:=(T.block _ bi (by
  rintro (h | h)
  ·have:=(bn.o.lt _ h).2;omega
  ·have:=(ax.o.lt _ h).2;omega)).trans a2
 have D:=(T.block _ (F1 u) (bl _ (F1 a8.o))).trans u
 have b3:=J.trans (T.toBelow J.size (λj Z=>by
  rcases Z with h | h
  ·have:=(L j h).1;have:=x.o.size;omega
  ·have:=(O j h).1;have:=x.o.size;omega))
 have c7:=F1 D;obtain ⟨⟨z0,z1⟩,zf⟩:=bx2 U;obtain ⟨⟨t0,t1⟩,tf⟩:=bx2 D;obtain ⟨I,b6,b4,bo⟩:=af D b3 aP bh;clear D b3 aP bh T U a2 u C y J L O bl x0 x1 x2 xf y0 y1 yf;go_wp2_with fail;have e1:=HE w3 (w.heap.size+1+1) 0 _ _ (.slice A1 n c1) I.o;have e2:=HE _ (w.heap.size+1+1) 1 _ _ (.slice i n c2) e1;have e3:((w3.setCell (aq (w.heap.size+1+1) 0) (.slice A1 n c1)).setCell (aq (w.heap.size+1+1) 1) (.slice i n c2)).heap[w.heap.size+1+1]?=some (.cells #[.slice A1 n c1,.slice i n c2] 91 (0,0)):=by simpa using e2
 have hk:Keep (λj=>j=w.heap.size+1+1) w3 ((w3.setCell (aq (w.heap.size+1+1) 0) (.slice A1 n c1)).setCell (aq (w.heap.size+1+1) 1) (.slice i n c2)):=Keep.setCell (S:=λj=>j=w.heap.size+1+1) (Keep.setCell (S:=λj=>j=w.heap.size+1+1) (Keep.refl _ _) (aq (w.heap.size+1+1) 0) (.inr rfl) _) (aq (w.heap.size+1+1) 1) (.inr rfl) _;obtain ⟨W9,bM⟩:∃W9,W9=(w3.setCell (aq (w.heap.size+1+1) 0) (.slice A1 n c1)).setCell (aq (w.heap.size+1+1) 1) (.slice i n c2):=⟨_,rfl⟩;rw [<-bM] at e3 hk ⊢;obtain ⟨⟨r0,r1⟩,rf⟩:=bx2 e3;have bG:=hk.own b4.o (λj Z e=>aw I.o (by decide) b4.o (by rw [Z,e]));have bz:=hk.own bo.o (λj Z e=>aw I.o (by decide) bo.o (by rw [Z,e]));exact Gm (v:=.tuple #[.agg #[.slice A1 n c1,.slice i n c2],.bool true]) (by simp [results,results264,go_sem,r0,r1]) rfl ⟨A1,c1,i,c2,rfl,bO.o,bA.o,aG bG x.o.size,aG bz x.o.size,b6.o.trans (hk.toBelow b6.o.size (λj Z=>ao))⟩
theorem ul (A:N0) (n c:Nat) (ps:N1) (w:N5) (hA:Rd w A (az .i64 ps)) (b0:ps.length=n) (hn:n<=1048576):Calls prog 70 #[.slice A n c] w λe w'=>∃A1 c1 A2 c2,e=.returned (.agg #[.slice A1 n c1,.slice A2 n c2])/\n<=c1/\n<=c2/\w'.ownsRow w.heap.size 2 1 (.slice A1 n c1) n (az .i64 ps)/\w'.ownsRow w.heap.size 2 1 (.slice A2 n c2) n (az .i64 (List.replicate n 0))/\(∀j,(Value.slice A1 n c1).ownBlock=some j->(Value.slice A2 n c2).ownBlock≠some j)/\ap w w':=by
 have a3:=λw' (k:ap w w')=>cT A ps c w' (hA.below k) ao;rw [b0] at a3;have b2:=aa a3;have a8:=λw'=>uv iX w' rfl n ao (by unfold maxLen;omega);simp only [gr] at a8;have b3:=aa a8;clear a3 b0 hA a8;go_enter func70,ntmps70;go_wp2_with fail;have hz:=F4 w (.cells #[H9,H9] 91);have a6:ap w (w.alloc (.cells #[H9,H9] 91)):=(Gb _ w).alloc (F3 _) _;obtain ⟨I,b1⟩:∃I,I=w.alloc (.cells #[H9,H9] 91):=⟨_,rfl⟩;rw [<-b1] at hz a6 ⊢;have aP:=F1 hz;obtain ⟨HZ,B⟩:=ab hz a6;clear hz a6 b1;have h:(λ_:N5=>True) I.drew:=trivial;refine gF 6 (λ_:N5=>True) (by kernel_rfl) ?_;refine wX 0 h ?_;refine wX 2 h ?_;refine wX 3 h ?_;simp only [Gq,Gr,Gs,Act.put,Gt,Gu,Gv];refine bK (rs:=[1,4]) (by kernel_rfl) (by simp) ?_;refine aK.cons rfl (λK R=>?_) (aK.cons rfl (λK R=>?_) aK.nil)
 ·simp only [Gq,Gr,Gs];go_simp;refine (b2.o _ B.o.drew).mono ?_;rintro e J ⟨A1,c1,rfl,a0,D,u⟩;have N:=B.o.drew.trans (u.mono B.o.size);have O:=(u.block w.heap.size (by simpa using aP)).trans HZ.o;have a1:=aG (base':=w.heap.size) D (by have:=B.o.size;simpa using this);have a5:=u.size;have Y:∀j,(Value.slice A1 n c1).ownBlock=some j->j<J.heap.size:=λj y=>(D.lt j y).2;have a2:=aa Y;clear Y;simp only [GS] at a5;obtain ⟨x,ad,b5,ak⟩:=af N O a1 a0;clear u N O D a1 a0;dsimp only;refine R.out _ _ trivial (λh=>?_);clear R K h;refine bK (rs:=[4]) (by kernel_rfl) (by simp) ?_;refine aK.cons rfl (λK R=>?_) aK.nil;simp only [Gq,Gr,Gs];obtain ⟨V,H,Z,p⟩:=b3.o J;obtain ⟨L,T,i,U⟩:=af (aG (base':=w.heap.size) Z x.o.size) (x.o.trans (p.mono x.o.size)) ((p.block w.heap.size ao).trans ad.o) (aA b5.o p);have C:=i.o;obtain ⟨⟨z0,z1⟩,zf⟩:=bx2 C;have b4:=F1 C;clear Z p C;go_simp;refine R.out _ _ trivial (λh=>?_);clear R K H;refine wX 5 h ?_;simp only [Gq,Gr,Gs,Act.put,Gt,Gu,Gv];refine de (by rfl) (by kernel_rfl) ?_;simp only [GC,GD];go_wp2_with fail;have e1:=HE V w.heap.size 0 _ _ (.slice A1 n c1) i.o;have e2:=HE _ w.heap.size 1 _ _ (.slice (some (aq J.heap.size 0)) n n) e1;have e3:((V.setCell (aq w.heap.size 0) (.slice A1 n c1)).setCell (aq w.heap.size 1) (.slice (some (aq J.heap.size 0)) n n)).heap[w.heap.size]?=some (.cells #[.slice A1 n c1,.slice (some (aq J.heap.size 0)) n n] 91 (0,0)):=by simpa using e2
  have hk:Keep (λj=>j=w.heap.size) V ((V.setCell (aq w.heap.size 0) (.slice A1 n c1)).setCell (aq w.heap.size 1) (.slice (some (aq J.heap.size 0)) n n)):=Keep.setCell (S:=λj=>j=w.heap.size) (Keep.setCell (S:=λj=>j=w.heap.size) (Keep.refl _ _) (aq w.heap.size 0) (.inr rfl) _) (aq w.heap.size 1) (.inr rfl) _;obtain ⟨W9,a4⟩:∃W9,W9=(V.setCell (aq w.heap.size 0) (.slice A1 n c1)).setCell (aq w.heap.size 1) (.slice (some (aq J.heap.size 0)) n n):=⟨_,rfl⟩;rw [<-a4] at e3 hk ⊢;obtain ⟨⟨r0,r1⟩,rf⟩:=bx2 e3;have ax:=hk.own U.o (λj y e=>aw i.o (by decide) U.o (by rw [y,e]));have a7:=hk.own L.o (λj y e=>aw i.o (by decide) L.o (by rw [y,e]))
  exact Gm (v:=.agg #[.slice A1 n c1,.slice (some (aq J.heap.size 0)) n n]) (by simp [results,results70,go_sem,r0,r1]) rfl ⟨A1,c1,_,n,rfl,ak.o,F3 _,ax,a7,λj y e=>by
   have h1:=a2.o j y;have h2:J.heap.size=j:=by simpa [Value.ownBlock] using e
   omega,T.o.trans (hk.toBelow T.o.size (λj y=>ao))⟩
 ·simp only [Gq,Gr,Gs];obtain ⟨J,H,Z,p⟩:=b3.o I.drew;have N:=B.o.drew.trans (p.mono B.o.size);have O:=(p.block w.heap.size (by simpa using aP)).trans HZ.o;have Q:=aG (base':=w.heap.size) Z (by have:=B.o.size;simpa using this);have a5:=p.size;simp only [GS] at a5 Q H;obtain ⟨x,ad,aM⟩:=ae N O Q;clear p N O Z Q;go_simp;refine R.out _ _ trivial (λh=>?_);clear R K H;refine bK (rs:=[1]) (by kernel_rfl) (by simp) ?_;refine aK.cons rfl (λK R=>?_) aK.nil;simp only [Gq,Gr,Gs];go_simp;refine (b2.o _ x.o).mono ?_;rintro e V ⟨A1,c1,rfl,a0,D,u⟩;have Y:∀j,(Value.slice A1 n c1).ownBlock=some j->J.heap.size<=j:=λj y=>(D.lt j y).1;have a2:=aa Y;clear Y;obtain ⟨U,T,i,L,ak⟩:=ag (aG (base':=w.heap.size) D x.o.size) (x.o.trans (u.mono x.o.size)) ((u.block w.heap.size ao).trans ad.o) (aA aM.o u) a0;have C:=i.o;obtain ⟨⟨z0,z1⟩,zf⟩:=bx2 C;have b4:=F1 C;clear D u C a0;dsimp only;refine R.out _ _ trivial (λh=>?_);clear R K;refine wX 5 h ?_;simp only [Gq,Gr,Gs,Act.put,Gt,Gu,Gv];refine de (by rfl) (by kernel_rfl) ?_;simp only [GC,GD];go_wp2_with fail;have e1:=HE V w.heap.size 0 _ _ (.slice A1 n c1) i.o;have e2:=HE _ w.heap.size 1 _ _ (.slice (some (aq I.heap.size 0)) n n) e1;have e3:((V.setCell (aq w.heap.size 0) (.slice A1 n c1)).setCell (aq w.heap.size 1) (.slice (some (aq I.heap.size 0)) n n)).heap[w.heap.size]?=some (.cells #[.slice A1 n c1,.slice (some (aq I.heap.size 0)) n n] 91 (0,0)):=by simpa using e2
  have hk:Keep (λj=>j=w.heap.size) V ((V.setCell (aq w.heap.size 0) (.slice A1 n c1)).setCell (aq w.heap.size 1) (.slice (some (aq I.heap.size 0)) n n)):=Keep.setCell (S:=λj=>j=w.heap.size) (Keep.setCell (S:=λj=>j=w.heap.size) (Keep.refl _ _) (aq w.heap.size 0) (.inr rfl) _) (aq w.heap.size 1) (.inr rfl) _;obtain ⟨W9,a4⟩:∃W9,W9=(V.setCell (aq w.heap.size 0) (.slice A1 n c1)).setCell (aq w.heap.size 1) (.slice (some (aq I.heap.size 0)) n n):=⟨_,rfl⟩;rw [<-a4] at e3 hk ⊢;obtain ⟨⟨r0,r1⟩,rf⟩:=bx2 e3;have ax:=hk.own U.o (λj y e=>aw i.o (by decide) U.o (by rw [y,e]));have a7:=hk.own L.o (λj y e=>aw i.o (by decide) L.o (by rw [y,e]))
  exact Gm (v:=.agg #[.slice A1 n c1,.slice (some (aq I.heap.size 0)) n n]) (by simp [results,results70,go_sem,r0,r1]) rfl ⟨A1,c1,_,n,rfl,ak.o,F3 _,ax,a7,λj y e=>by
   have h1:=a2.o j y;have h2:I.heap.size=j:=by simpa [Value.ownBlock] using e
   have h3:=(aM.o.lt I.heap.size rfl).2
   omega,T.o.trans (hk.toBelow T.o.size (λj y=>ao))⟩
theorem um (S n b steps:Nat) (l:N1) (w:N5) (h:ed w S n b steps l):Calls prog 251 #[(ar S)] w λe o=>e=.returned (H8 steps)/\w=o:=by
 obtain ⟨y,B,L,J,vs,i,p,x,u,v⟩:=h;obtain ⟨⟨H,D,A,C⟩,I⟩:=bx4 i;clear i p x u v;go_enter func251,ntmps251;go_wp2;go_ret;exact ⟨rfl,rfl⟩
theorem ur (S n b steps t:Nat) (l:N1) (w:N5) (h:ed w S n b steps l) (hn:n<=1048576) (B:1<=n/b) (O:steps<=1048576) (ht:t<steps):Calls prog 242 #[(ar S),H8 t] w λe C=>e=.returned (.tuple #[H8 ((t/(n/b):Nat):Int),H8 ((t%(n/b):Nat):Int),.bool true])/\∃d,C=w.drewN d:=by
 have H:=um S n b steps l w h;obtain ⟨Ab,cb,Ao,co,vs,y,L,U,Q,R⟩:=h;have A:=Nat.div_le_self n b;obtain ⟨nb,u⟩:∃nb,n/b=nb:=⟨_,rfl⟩;rw [u] at y B A ⊢;obtain ⟨⟨r0,r1,r2,r3⟩,rf⟩:=bx4 y;obtain ⟨v,i⟩:∃v,t/nb=v:=⟨_,rfl⟩;obtain ⟨x,p⟩:∃x,t%nb=x:=⟨_,rfl⟩;have I:(t:Int).tdiv (nb:Int)=(v:Int):=by rw [<-i];rfl
 have a2:(t:Int).tmod (nb:Int)=(x:Int):=by rw [<-p];rfl
 have V:v<=t:=by rw [<-i];exact Nat.div_le_self _ _
 have J:x<=t:=by rw [<-p];exact Nat.mod_le _ _
 have Z:IntKind.i64.wrap (v:Int)=(v:Int):=Gd _ ao;have a1:IntKind.i64.wrap (x:Int)=(x:Int):=Gd _ ao;have Y:¬(nb=0):=ao;have T:(t:Int)<steps:=ao;have a0:¬((t:Int)<0):=ao;have D:¬((steps:Int)<=t):=ao;rw [i,p];have N:=aa H;clear H y L U Q R u i p;go_enter func242,ntmps242;go_wp2_with fail;refine N.o.mono ?_;rintro e C ⟨rfl,rfl⟩;go_wp2_with fail
 go_quiet (fail)
 go_wp2_with fail;go_ret3;exact ⟨rfl,_,rfl⟩
def cG (l:N1) (n b t:Nat):N1:=((iw l n ((t/(n/b))*(n-1))).drop (t%(n/b)*b)).take b
theorem Cw {n b steps t:Nat} (h:t<steps):t/(n/b)<epN n b steps:=by
 unfold epN be;rw [if_neg ao];have:=Nat.div_le_div_right (c:=n/b) (show t<=steps-1 by omega);omega
theorem kp (l:N1) {n b t:Nat} (h:1<=n/b):(cG l n b t).length=b:=by
 unfold cG;have i:=nh n b (t%(n/b)) (Nat.mod_lt _ h);rw [GL,GO,qg];omega
theorem zv (l:N1) {n b t:Nat} (h:1<=n/b):∀k,k<b->0<=nth (cG l n b t) k/\nth (cG l n b t) k<n:=λk hk=>by
 have i:=nh n b (t%(n/b)) (Nat.mod_lt _ h);unfold cG;rw [eA hk,eB];exact Ba l n _ _ ao
theorem cK.keep {w x:N5} {base:Nat} {B:N4} {e:Ex} (h:cK w base B e) {S:Nat->Prop} (k:Keep S w x) (A:∀j,S j->j<base):cK x base B e:=by
 obtain ⟨u,v,rfl,C,y,D⟩:=h;exact ⟨u,v,rfl,k.own C (λi p o=>by have:=A i o;have:=(C.lt i p).1;omega),k.own y (λi p o=>by have:=A i o;have:=(y.lt i p).1;omega),D⟩
def pH (base:Nat) (w:N5) (l:N8) (n:Nat) (v:Value):Prop:=∃rows,w.ownsRow base 145 2 v n (List.flatten rows)/\rows.length=n/\(∀r∈rows,r.length=2)/\(∀j x,j<n->l[j]?=some x->cK w base (bH rows j) x)
theorem fP.own {w wr:N5} {l:N8} {k:Nat} {v:Value} (h:fP w wr l k v):pH w.heap.size wr l k v:=by
 obtain ⟨rows,p,i,u,o,_⟩:=h;exact ⟨rows,p,i,u,o⟩
theorem pH.base {base base':Nat} {w:N5} {l:N8} {n:Nat} {v:Value} (h:pH base w l n v) (hb:base'<=base):pH base' w l n v:=by
 obtain ⟨rows,u,o,y,p⟩:=h;exact ⟨rows,aG u hb,o,y,λj x i A=>(p j x i A).base hb⟩
theorem pH.keep {base:Nat} {w o:N5} {l:N8} {n:Nat} {v:Value} (h:pH base w l n v) {S:Nat->Prop} (k:Keep S w o) (p:∀j,S j->j<base):pH base o l n v:=by
 obtain ⟨rows,u,y,C,A⟩:=h;exact ⟨rows,k.own u (λi H D=>by have:=p i D;have:=(u.lt i H).1;omega),y,C,λj x B I=>(A j x B I).keep k p⟩
theorem pH.rd {base:Nat} {w:N5} {l:N8} {A:N0} {n c:Nat} (h:pH base w l n (.slice A n c)) (hn:l.length=n):cO rEx 2 w A l:=by
 obtain ⟨rows,p,v,u,o⟩:=h;exact ⟨rows,Rd.own p,by omega,u,λj x i=>(o j x (by have:=(GF.1 i).1;omega) i).rd⟩
theorem AZ (c d:Nat) (A B:N0) (l:N8) (i:N1) (w:N5) (h:cO rEx 2 w A l) (hl:l.length<=1048576) (hB:Rd w B (az .i64 i)) (T:i.length<=1048576):Calls prog 219 #[.slice A l.length c,.slice B i.length d] w λe I=>ap w I/\
   (((∀k,k<i.length->jh l.length (nth i k))/\∃D y,e=.returned (.tuple #[.slice D i.length y,.bool true])/\pH w.heap.size I (cz l i) i.length (.slice D i.length y))\/((¬∀k,k<i.length->jh l.length (nth i k))/\e=.returned (.tuple #[H9,.bool false]))):=by
 have hm:=uY w.heap.size c d A B l i (w.alloc (.cells #[.slice A l.length c] 25)) (F4 w _) (h.below fI ((Gb _ w).alloc (F3 _) _)) hl (hB.alloc _) T;have p:=jP l i;unfold vQ at hm;obtain ⟨n,hn⟩:∃n,i.length=n:=⟨_,rfl⟩;obtain ⟨N,L⟩:∃N,l.length=N:=⟨_,rfl⟩;rw [hn,L] at hm ⊢;rw [hn] at p;obtain ⟨U,V⟩:=ab hm p;clear hm p hn L h hB;go_enter func219,ntmps219;go_wp2_with fail;refine U.o.mono ?_;rintro e O ⟨hb,R⟩;have x:ap w O:=((Gb _ w).alloc (F3 _) _).trans (hb.mono (by first | omega | (simp;done) | (simp;omega)));have J:=aa x;clear hb x;rcases R with ⟨u,v,rfl,C⟩ | ⟨u,rfl⟩
 ·obtain ⟨D,y,rfl⟩:=C.form;obtain ⟨H,Q⟩:=ab u C;clear u C;go_wp2_with fail;go_ret2;exact ⟨J.o,.inl ⟨H.o,_,_,rfl,Q.o.own.base (by simp)⟩⟩
 ·have H:=aa u;clear u;go_wp2_with fail;go_ret2;exact ⟨J.o,.inr ⟨H.o,rfl⟩⟩
abbrev Pl:=Nat×Nat×Int
def plW (k c m:Nat):List Pl:=(List.range m).map λi=>(k,i/c,((i%c:Nat):Int))
def plB (k m:Nat):List Pl:=(List.range m).map λi=>(k,i, -1)
def plK (sz:N1) (k:Nat):List Pl:=plW k (szN sz k) (szN sz (k+1)*szN sz k)++plB k (szN sz (k+1))
def plL (sz:N1) (n:Nat):List Pl:=(List.range n).flatMap (plK sz)
theorem DE (k c m:Nat):(plW k c m).length=m:=by simp [plW]
theorem DG (k m:Nat):(plB k m).length=m:=by simp [plB]
theorem AY (sz:N1) (n:Nat):plL sz (n+1)=plL sz n++plK sz n:=by simp [plL,GV,List.flatMap_append]
theorem DF (sz:N1) (n:Nat):(plL sz n).length=bZ sz n:=by
 induction n with
 | zero=>rfl
 | succ n ih=>
  have:=fC sz n;unfold db at this;rw [AY,GE,ih];unfold plK;rw [GE,DE,DG];omega
def gAt (sz ps:N1) (q:Int) (x y:N1) (p:Pl):Int:=
 if 0<=p.2.2 then gE (nth (jV sz ps q x y (sz.length-2-p.1)) p.2.1) (nth (eS sz ps q x p.1) p.2.2.toNat) q else nth (jV sz ps q x y (sz.length-2-p.1)) p.2.1
theorem DQ (l:N1) (n:Nat) (h:l.length=n):(List.range n).map (nth l)=l:=(dR h λk _=>rfl).symm
theorem CJ {sz ps:N1} {q:Int} {x y:N1} (h:x.length=szN sz 0) {k:Nat} (hk:k+2<=sz.length):
  iR (szN sz (k+1)) (szN sz k) (jV sz ps q x y (sz.length-2-k)) (eS sz ps q x k) q++jV sz ps q x y (sz.length-2-k)=(plK sz k).map (gAt sz ps q x y):=by
 unfold plK;rw [List.map_append]
 congr 1
 ·unfold iR cY plW;rw [List.map_map];refine List.map_congr_left λi _=>?_;unfold DH gAt
  show _=if 0<=((i%szN sz k:Nat):Int) then gE (nth (jV sz ps q x y (sz.length-2-k)) (i/szN sz k)) (nth (eS sz ps q x k) ((i%szN sz k:Nat):Int).toNat) q else nth (jV sz ps q x y (sz.length-2-k)) (i/szN sz k)
  rw [if_pos (Int.natCast_nonneg _),Int.toNat_natCast]
 ·unfold plB;rw [List.map_map];have hl:=tB (sz:=sz) (ps:=ps) (q:=q) (x:=x) (y:=y) h (sz.length-2-k);rw [show sz.length-1-(sz.length-2-k)=k+1 by omega] at hl;have:=DQ _ _ hl
  conv=>lhs;rw [<-this]
  refine List.map_congr_left λi _=>?_;unfold gAt;simp
theorem Cb {sz ps:N1} {q:Int} {x y:N1} (i:x.length=szN sz 0):∀j,j+1<=sz.length->kU sz ps q x y j=(((List.range (sz.length-1)).drop (sz.length-1-j)).flatMap (plK sz)).map (gAt sz ps q x y):=by
 intro j
 induction j with
 | zero=>intro _;rw [Nat.sub_zero,List.drop_eq_nil_of_le (by simp)];rfl
 | succ j ih=>
  intro o
  have h:(List.range (sz.length-1)).drop (sz.length-1-(j+1))=(sz.length-2-j)::(List.range (sz.length-1)).drop (sz.length-1-j):=by
   rw [show sz.length-1-(j+1)=sz.length-2-j by omega];rw [List.drop_eq_getElem_cons (by simp;omega),List.getElem_range]
   congr 2
   omega
  rw [h,List.flatMap_cons,List.map_append,<-ih ao,kU,<-GM]
  congr 1
  have:=CJ (sz:=sz) (ps:=ps) (q:=q) (x:=x) (y:=y) i (k:=sz.length-2-j) ao;rw [show sz.length-2-j+1=sz.length-1-j by omega,show sz.length-2-(sz.length-2-j)=j by omega] at this;exact this
theorem Cc {sz ps:N1} {q:Int} {x y:N1} (h:x.length=szN sz 0) (hl:1<=sz.length):fQ sz ps q x y=(plL sz (sz.length-1)).map (gAt sz ps q x y):=by
 unfold fQ;rw [Cb h _ ao,Nat.sub_self,GD];rfl
theorem zd {sz ps:N1} {q:Int} {x y:N1} (h:x.length=szN sz 0) (hl:1<=sz.length):(fQ sz ps q x y).length=bZ sz (sz.length-1):=by
 rw [Cc h hl,List.length_map,DF]
theorem D6 {i:Inp} (h:cP i.cfg.sizes):1<=cnt i:=by
 unfold cnt;have v:=h.1.1;have:=fy i.cfg.sizes (show 1<=i.cfg.sizes.length-1 by omega);have p:bZ i.cfg.sizes 1=0+(szN i.cfg.sizes 0+1)*szN i.cfg.sizes 1:=rfl;have o:=(h.1.at (k:=1) ao).1;have u:1*1<=(szN i.cfg.sizes 0+1)*szN i.cfg.sizes 1:=Nat.mul_le_mul ao o;omega
def kY (i:Inp) (P:N1) (l:N8):N1:=l.foldl (λa x=>ij a (fQ i.cfg.sizes P i.cfg.shift x.1 x.2)) (List.replicate (cnt i) 0)
def jS (i:Inp) (h:N1):Prop:=∀k,k<h.length->jh i.data.length (nth h k)
def pR (i:Inp) (P:N1) (k:Nat):N1:=kY i P (cz i.data (cG i.draws i.data.length i.cfg.batch.toNat k))
def cM (i:Inp):Nat->Ex
 | 0=>(i.start,List.replicate (cnt i) 0)
 | k+1=>(wK i.cfg.rate i.cfg.mom i.cfg.shift (cM i k).1 (cM i k).2 (pR i (cM i k).1 k),wN i.cfg.mom i.cfg.shift (cM i k).2 (pR i (cM i k).1 k))
theorem vJ {i:Inp} (o:me i) (k:Nat):jS i (cG i.draws i.data.length i.cfg.batch.toNat k):=λj p=>by
 have v:=o.c.w;have u:=o.c.ba;have x:=o.b;have h:1<=i.data.length/i.cfg.batch.toNat:=Nat.div_pos ao ao;rw [kp _ h] at p;exact zv _ h j p
theorem Cn:cW prog 88 91 (.agg #[H9,H9]) 2 48:=⟨underlying88,info_parts (by kernel_rfl),rfl,by decide⟩
def kw (i:Inp) (n:Nat):N8:=(List.range n).map (cM i)
theorem rQ (i:Inp) (h:i.start.length=cnt i):∀k,(cM i k).1.length=cnt i/\(cM i k).2.length=cnt i:=by
 intro k
 induction k with
 | zero=>exact ⟨h,by simp [cM]⟩
 | succ k ih=>exact ⟨by rw [cM];dsimp only;rw [yD];exact ih.1,by rw [cM];dsimp only;rw [yE];exact ih.2⟩
theorem zY {n base:Nat} {w h:N5} {x:Ex} {A1 i:N0} {c1 c2:Nat} (v:h.ownsRow w.heap.size 2 1 (.slice A1 n c1) n (az .i64 x.1)) (p:h.ownsRow w.heap.size 2 1 (.slice i n c2) n (az .i64 x.2)) (hb:base<=w.heap.size) (l1:x.1.length=n) (u:x.2.length=n) (hn:n<=1048576) (o:W64 x.1) (y:W64 x.2):cK h base [.slice A1 n c1,.slice i n c2] x:=
 ⟨_,_,rfl,by rw [l1];exact aG v hb,by rw [u];exact aG p hb,by omega,by omega,o,y⟩
theorem qL (a b:Int):wrap64 (wrap64 a+b)=wrap64 (a+b):=by unfold wrap64;omega
theorem vU (a b:Int):wrap64 (wrap64 a+wrap64 b)=wrap64 (a+b):=by unfold wrap64;omega
theorem zE (a:Int):wrap64 (wrap64 a)=wrap64 a:=by unfold wrap64;omega
def fH (i:Inp) (P:N1) (k:Nat):N8->Int
 | []=>0
 | x::l=>nth (fQ i.cfg.sizes P i.cfg.shift x.1 x.2) k+fH i P k l
theorem pQ (i:Inp) (P:N1) (k:Nat) (b:N8):∀a:N8,fH i P k (a++b)=fH i P k a+fH i P k b
 | []=>by simp [fH]
 | x::a=>by have:=pQ i P k b a;simp only [List.cons_append,fH,this];omega
theorem mK (i:Inp) (P:N1) {k:Nat} (hk:k<cnt i) (l:N8):nth (kY i P l) k=wrap64 (fH i P k l):=by
 have h:∀(l:N8) (a:N1),a.length=cnt i->nth (l.foldl (λa x=>ij a (fQ i.cfg.sizes P i.cfg.shift x.1 x.2)) a) k=wrap64 (nth a k+fH i P k l)\/l=[]:=by
  intro l
  induction l with
  | nil=>intro a _;exact .inr rfl
  | cons x l ih=>
   intro a o;have e:nth (ij a (fQ i.cfg.sizes P i.cfg.shift x.1 x.2)) k=wrap64 (nth a k+nth (fQ i.cfg.sizes P i.cfg.shift x.1 x.2) k):=bP _ ao;rw [List.foldl_cons];rcases ih (ij a (fQ i.cfg.sizes P i.cfg.shift x.1 x.2)) (by rw [iE];exact o) with h | rfl
   ·rw [h,e,qL];left;simp only [fH];congr 1;omega
   ·left;rw [List.foldl_nil,e];simp [fH]
 rcases h l (List.replicate (cnt i) 0) (by simp) with h | rfl
 ·unfold kY;rw [h];congr 1;simp [nth,hk]
 ·simp [kY,nth,hk,fH,wrap64]
abbrev Rg:=Nat×Nat
def aI (l:List Rg):N4:=l.flatMap λr=>[H8 (r.1:Int),H8 (r.2:Int)]
theorem kc (a b:List Rg):aI (a++b)=aI a++aI b:=by simp [aI]
theorem j9:∀l:List Rg,(aI l).length=l.length*2
 | []=>rfl
 | r::l=>by have:=j9 l;simp only [aI,List.flatMap_cons,GE,List.length_cons,List.length_nil] at *;omega
theorem iu:∀{l:List Rg} {j:Nat} {r:Rg},l[j]?=some r->(aI l)[j*2]?=some (H8 (r.1:Int))/\(aI l)[j*2+1]?=some (H8 (r.2:Int))
 | [],_,_,h=>by simp at h
 | x::l,0,r,h=>by simp only [Gz,Option.some.injEq] at h;subst h;exact ⟨rfl,rfl⟩
 | x::l,j+1,r,h=>by
  simp only [Gy] at h;have:=iu h;have e:aI (x::l)=[H8 (x.1:Int),H8 (x.2:Int)]++aI l:=by simp [aI]
  rw [e,GK (by simp;omega),GK (by simp;omega)];simp only [List.length_cons,List.length_nil];rw [show (j+1)*2-(0+1+1)=j*2 by omega,show (j+1)*2+1-(0+1+1)=j*2+1 by omega];exact this
def dU (n s:Nat):List Rg:=(List.range (be n s)).map λj=>(j*s,min (j*s+s) n)
theorem dt (n s:Nat):(dU n s).length=be n s:=by simp [dU]
theorem lX (n s:Nat):aI (dU n s)=dS n s (be n s):=by simp [aI,dU,dS,List.flatMap_map]
def bdN (n k i:Nat):Nat:=i*(n/k)+min i (n%k)
def fR (n k:Nat):List Rg:=(List.range k).map λi=>(bdN n k i,bdN n k (i+1))
theorem ge (n k:Nat):(fR n k).length=k:=by simp [fR]
def shR (d:Nat) (l:List Rg):List Rg:=l.map λr=>(r.1+d,r.2+d)
theorem jK (d:Nat) (l:List Rg):(shR d l).length=l.length:=by simp [shR]
def bY (b:Rg) (W:Nat):List Rg:=shR b.1 (fR (b.2-b.1) W)
theorem nz (b:Rg) (W:Nat):(bY b W).length=W:=by rw [bY,jK,ge]
def chR (s:Rg) (c:Nat):List Rg:=shR s.1 (dU (s.2-s.1) c)
def pb (n s:Nat):List Rg:=(dU n s).reverse
theorem gy (n s:Nat):(pb n s).length=be n s:=by rw [pb,List.length_reverse,dt]
def aD (l:List Rg) (j:Nat):Rg:=l.getD j (0,0)
def jg (b:Rg) (W c:Nat):Nat:=((bY b W).map λs=>(chR s c).length).sum
structure Acn where
 send:Bool
 add:Bool
 st:Nat
 bk:Nat
 ph:Nat
 rd:Nat
 ch:Nat
 at':Rg
def bU (W w ph r:Nat):Nat:=(w+(2*W+ph-r))%W
def aO (W w ph r:Nat):Nat:=(w+(2*W+ph-r-1))%W
def fq (x y:List Rg) (f g:Nat->Rg->Acn):List Acn:= (List.range (max x.length y.length)).flatMap λi=>(if i<x.length then [f i (aD x i)] else [])++(if i<y.length then [g i (aD y i)] else [])
theorem nQ (x y:List Rg) (f g:Nat->Rg->Acn):(fq x y f g).length=x.length+y.length:=by
 have h:∀m,((List.range m).flatMap λi=>(if i<x.length then [f i (aD x i)] else [])++(if i<y.length then [g i (aD y i)] else [])).length=min m x.length+min m y.length:=by
  intro m
  induction m with
  | zero=>simp
  | succ m ih=>
   rw [GV,List.flatMap_append,GE,ih];simp only [List.flatMap_cons,List.flatMap_nil,List.append_nil,GE];by_cases o:m<x.length<;>by_cases p:m<y.length<;>simp [o,p]<;>omega
 unfold fq;rw [h];omega
def bf (st bk:Nat) (b:Rg) (W c w ph r:Nat):List Acn:=
 fq (chR (aD (bY b W) (bU W w ph r)) c) (chR (aD (bY b W) (aO W w ph r)) c) (λi s=>⟨true,false,st,bk,ph,r,i,s⟩) (λi s=>⟨false,ph==0,st,bk,ph,r,i,s⟩)
structure Pln where
 W:Nat
 mi:Nat
 bu:Nat
 ck:Nat
 wi:Nat
 n:Nat
structure Itm where
 kind:Nat
 st:Nat
 n:Nat
 a:Option Acn
def Pln.buks (p:Pln):List Rg:=pb p.n p.bu
def Pln.grps (p:Pln):List Rg:=dU p.buks.length p.wi
def eZ (st:Nat) (a:Acn):Itm:=⟨if a.send then 3 else 4,st,0,some a⟩
def aU (p:Pln) (w st ph r j:Nat):List Itm:=(bf st j (aD p.buks j) p.W p.ck w ph r).map (eZ st)
def b9 (p:Pln) (w st:Nat) (g:Rg):List Itm:= (List.range' g.1 (g.2-g.1)).map (λj=>⟨2,st,j,none⟩)++ ((List.range 2).flatMap λph=>(List.range (p.W-1)).flatMap λr=>(List.range' g.1 (g.2-g.1)).flatMap λj=>aU p w st ph r j)++ (List.range' g.1 (g.2-g.1)).map (λj=>⟨5,st,j,none⟩)
def aB (p:Pln) (w st:Nat):List Itm:= (List.range p.mi).map (λa=>⟨1,st,a,none⟩)++p.grps.flatMap (b9 p w st)++[⟨6,st,0,none⟩]
def aQ (n:Nat) (f:Nat->Nat):Nat:=((List.range n).map f).sum
theorem dg (n:Nat) (f:Nat->Nat):aQ (n+1) f=aQ n f+f n:=by simp [aQ,GV]
theorem cH {n:Nat} {f g:Nat->Nat} (h:∀k,k<n->f k=g k):aQ n f=aQ n g:=by
 unfold aQ;congr 1;exact List.map_congr_left λk hk=>h k (List.mem_range.1 hk)
theorem fV (n:Nat) (f g:Nat->Nat):aQ n (λk=>f k+g k)=aQ n f+aQ n g:=by
 induction n with
 | zero=>rfl
 | succ n ih=>rw [dg,dg,dg,ih];omega
theorem df (n c:Nat):aQ n (λ_=>c)=n*c:=by
 induction n with
 | zero=>simp [aQ]
 | succ n ih=>rw [dg,ih,GW]
theorem fk (n m:Nat) (f:Nat->Nat->Nat):aQ n (λi=>aQ m (f i))=aQ m (λj=>aQ n (λi=>f i j)):=by
 induction n with
 | zero=>simp only [aQ,List.range_zero,List.map_nil,List.sum_nil];rw [show (λ_:Nat=>0)=λ_=>0 from rfl];exact (df m 0).symm
 | succ n ih=>rw [dg,ih,<-fV];exact cH λj _=>(dg n (λi=>f i j)).symm
theorem gI (a b:Nat) (f:Nat->Nat):aQ (a+b) f=aQ a f+aQ b (λk=>f (a+k)):=by
 induction b with
 | zero=>simp [aQ]
 | succ b ih=>rw [<-GX,dg,ih,dg];omega
theorem np (W a:Nat) (f:Nat->Nat):aQ W (λw=>f ((w+a)%W))=aQ W f:=by
 rcases Nat.eq_zero_or_pos W with rfl | p
 ·rfl
 have h:∀d,d<W->aQ W (λw=>f ((w+d)%W))=aQ W f:=by
  intro d u;have i:=gI (W-d) d (λw=>f ((w+d)%W));have o:=gI d (W-d) f;rw [show W-d+d=W by omega] at i;rw [show d+(W-d)=W by omega] at o;rw [i,o,Nat.add_comm]
  congr 1
  ·exact cH λk hk=>by
    congr 1
    rw [show W-d+k+d=k+W by omega,Nat.add_mod_right,Nat.mod_eq_of_lt ao]
  ·exact cH λk hk=>by rw [Nat.mod_eq_of_lt ao,Nat.add_comm]
 rw [<-h (a%W) (Nat.mod_lt _ p)];exact cH λk _=>by rw [Nat.add_mod_mod]
theorem ns {α:Type} (l:List α) (d:α) (f:α->Nat):(l.map f).sum=aQ l.length λk=>f (l.getD k d):=by
 induction l with
 | nil=>rfl
 | cons x l ih=>
  rw [List.map_cons,List.sum_cons,ih,List.length_cons,Nat.add_comm l.length 1,gI 1];have:aQ 1 (λk=>f ((x::l).getD k d))=f x:=by simp [aQ]
  rw [this]
  congr 1
  exact cH λk _=>by rw [Nat.add_comm 1 k,List.getD_cons_succ]
theorem vo {β:Type} (n:Nat) (f:Nat->List β):((List.range n).flatMap f).length=aQ n λk=>(f k).length:=by
 rw [List.length_flatMap];rfl
theorem tu {β:Type} (a n:Nat) (f:Nat->List β):((List.range' a n).flatMap f).length=aQ n λk=>(f (a+k)).length:=by
 rw [List.length_flatMap];unfold aQ;rw [List.range'_eq_map_range,List.map_map];rfl
theorem CK (n s:Nat) (o:1<=s) (f:Nat->Nat):((dU n s).map λg=>aQ (g.2-g.1) λk=>f (g.1+k)).sum=aQ n f:=by
 have h:∀m,m<=be n s->(((List.range m).map λj=>(j*s,min (j*s+s) n)).map λg:Rg=>aQ (g.2-g.1) λk=>f (g.1+k)).sum=aQ (min (m*s) n) f:=by
  intro m
  induction m with
  | zero=>intro _;simp [aQ]
  | succ m ih=>
   intro hm;have i:=fe (n:=n) (size:=s) (k:=m) ao;rw [GV,List.map_append,List.map_append,List.sum_append,ih ao];simp only [List.map_cons,List.map_nil,List.sum_cons,List.sum_nil,Nat.add_zero];rw [show min (m*s) n=m*s by omega,GW];have:=gI (m*s) (min (m*s+s) n-m*s) f;rw [show m*s+(min (m*s+s) n-m*s)=min (m*s+s) n by omega] at this;exact this.symm
 have:=h (be n s) (F3 _);unfold dU;rw [this]
 congr 1
 rcases Nat.eq_zero_or_pos n with rfl | hn
 ·simp
 ·have:n<=be n s*s:=by
   unfold be;rw [if_neg ao,GW];have:=Nat.div_add_mod (n-1) s;have:=Nat.mod_lt (n-1) (show 0<s by omega);have:s*((n-1)/s)=(n-1)/s*s:=Nat.mul_comm _ _;omega
  omega
theorem gn (st bk:Nat) (b:Rg) (W c w ph r:Nat):(bf st bk b W c w ph r).length=(chR (aD (bY b W) (bU W w ph r)) c).length+(chR (aD (bY b W) (aO W w ph r)) c).length:=nQ _ _ _ _
theorem sO (b:Rg) (W c:Nat):jg b W c=aQ W λs=>(chR (aD (bY b W) s) c).length:=by
 unfold jg;rw [ns _ (0,0),nz];rfl
theorem uD (st bk:Nat) (b:Rg) (W c ph r:Nat):aQ W (λw=>(bf st bk b W c w ph r).length)=2*jg b W c:=by
 simp only [gn,fV];unfold bU aO;rw [np W _ (λs=>(chR (aD (bY b W) s) c).length),np W _ (λs=>(chR (aD (bY b W) s) c).length),<-sO];omega
theorem vi (p:Pln) (w st:Nat) (g:Rg):(b9 p w st g).length=aQ (g.2-g.1) λk=>2+aQ 2 λph=>aQ (p.W-1) λr=>(aU p w st ph r (g.1+k)).length:=by
 unfold b9;simp only [GE,List.length_map,List.length_range',vo,tu];rw [fV,df]
 have e:(aQ 2 λph=>aQ (p.W-1) λr=>aQ (g.2-g.1) λk=>(aU p w st ph r (g.1+k)).length)=aQ (g.2-g.1) λk=>aQ 2 λph=>aQ (p.W-1) λr=>(aU p w st ph r (g.1+k)).length:=by
  rw [cH (g:=λph=>aQ (g.2-g.1) λk=>aQ (p.W-1) λr=>(aU p w st ph r (g.1+k)).length) (λph _=>fk _ _ _),fk]
 rw [e];omega
theorem kj (p:Pln) (w st:Nat) (hw:1<=p.wi):(aB p w st).length=p.mi+1+aQ p.buks.length λj=>2+aQ 2 λph=>aQ (p.W-1) λr=>(aU p w st ph r j).length:=by
 unfold aB;simp only [GE,List.length_map,List.length_range,List.length_flatMap,List.length_cons,List.length_nil]
 have:((p.grps.map λa=>(b9 p w st a).length)).sum=aQ p.buks.length λj=>2+aQ 2 λph=>aQ (p.W-1) λr=>(aU p w st ph r j).length:=by
  simp only [vi];exact CK p.buks.length p.wi hw λj=>2+aQ 2 λph=>aQ (p.W-1) λr=>(aU p w st ph r j).length
 rw [this];omega
theorem yV (p:Pln) (st:Nat) (hw:1<=p.wi):aQ p.W (λw=>(aB p w st).length)=p.W*(p.mi+2*p.buks.length+1)+(p.buks.map λb=>4*(p.W-1)*jg b p.W p.ck).sum:=by
 simp only [kj p _ st hw];rw [fV,df,fk]
 have e:∀j,aQ p.W (λw=>2+aQ 2 λph=>aQ (p.W-1) λr=>(aU p w st ph r j).length)=2*p.W+4*(p.W-1)*jg (aD p.buks j) p.W p.ck:=by
  intro j;rw [fV,df,fk]
  have:(aQ 2 λph=>aQ p.W λw=>aQ (p.W-1) λr=>(aU p w st ph r j).length)=aQ 2 λ_=>(p.W-1)*(2*jg (aD p.buks j) p.W p.ck):=by
   refine cH λph _=>?_;rw [fk,<-df];refine cH λr _=>?_;unfold aU;simp only [List.length_map];exact uD _ _ _ _ _ _ _
  rw [this,df,Nat.mul_comm p.W 2,show 2*((p.W-1)*(2*jg (aD p.buks j) p.W p.ck))=4*(p.W-1)*jg (aD p.buks j) p.W p.ck by rw [Nat.mul_left_comm (p.W-1) 2,<-Nat.mul_assoc,<-Nat.mul_assoc]]
 rw [cH (λj _=>e j),fV,df,ns _ (0,0)];unfold aD
 have:p.W*(p.mi+1)+p.buks.length*(2*p.W)=p.W*(p.mi+2*p.buks.length+1):=by
  rw [show p.mi+2*p.buks.length+1=p.mi+1+2*p.buks.length by omega,Nat.mul_add p.W (p.mi+1),show p.buks.length*(2*p.W)=p.W*(2*p.buks.length) by rw [Nat.mul_left_comm,Nat.mul_comm p.buks.length,Nat.mul_left_comm]]
 omega
end Go.Proofs.YtindmkcnjlgomaaGreat
namespace Go.Proofs.YtindmkcnjlgomaaGreat
open Tryz
def szE (k m i:Nat):Nat:=m/k+if i<m%k then 1 else 0
theorem CQ (n k i:Nat):bdN n k (i+1)=bdN n k i+szE k n i:=by
 unfold bdN szE;rw [GW]
 split<;>omega
theorem gY (n k:Nat) (hk:0<k):bdN n k k=n:=by
 unfold bdN;have h:=Nat.div_add_mod n k;have i:=Nat.mod_lt n hk;omega
theorem du (n k:Nat) {i j:Nat} (h:i<=j):bdN n k i<=bdN n k j:=by
 unfold bdN;have:=HU (n/k) h;omega
theorem fz (n k i:Nat) (hk:0<k) (h:i<=k):bdN n k i<=n:=by
 have:=du n k h
 rwa [gY n k hk] at this
theorem vt (n k m:Nat):(List.range (m+1)).map (λi=>(bdN n k i,bdN n k (i+1)))=(List.range m).map (λi=>(bdN n k i,bdN n k (i+1)))++[(bdN n k m,bdN n k (m+1))]:=by
 rw [GV,List.map_append];rfl
end Go.Proofs.YtindmkcnjlgomaaGreat
namespace Go.Proofs.YtindmkcnjlgomaaGreat
open Go.RowKit
open Tryz
theorem nK (a b:Nat) (w:N5) (u:a<=1048576) (hb:b<=1048576):Calls prog 124 #[.agg #[H8 a,H8 b]] w λe o=>e=.returned (H8 ((b-a:Nat):Int))/\ap w o:=by
 have hB:ap w (w.alloc (.cells #[H8 a,H8 b] 69)):=(br w).alloc (F3 _) _;by_cases h:a<=b
 ·have p:¬((b:Int)-a<0):=ao;have i:((b-a:Nat):Int)=(b:Int)-a:=ao;rw [i];clear i;go_enter func124,ntmps124;go_wp2;go_ret;exact ⟨bE (by first | rfl | omega | (simp;omega)),hB⟩
 ·have p:(b:Int)-a<0:=ao;have i:((b-a:Nat):Int)=0:=ao;rw [i];clear i;go_enter func124,ntmps124;go_wp2;go_ret;exact ⟨bE (by first | rfl | omega | (simp;omega)),hB⟩
theorem zt (i n k V bk:Nat) (w:N5) (hn:w.heap[V]?=some (.cells #[H8 n] 3 (0,0))) (hk:w.heap[bk]?=some (.cells #[H8 k] 3 (0,0))) (h1:1<=k) (h2:k<=1048576) (h3:n<=1048576) (hi:i<=k):Calls prog 149 #[H8 i,(ar V),(ar bk)] w λe u=>e=.returned (H8 (bdN n k i:Int))/\ap w u:=by
 have tn:=λu q=>bx1 (sb hn u q);have tk:=λu q=>bx1 (sb hk u q);have J:=br w;have a0:¬(k=0):=ao;have x:(n:Int).tdiv (k:Int)=((n/k:Nat):Int):=rfl;have I:(n:Int)/(k:Int)=((n/k:Nat):Int):=rfl;have D:(n:Int).tmod (k:Int)=((n%k:Nat):Int):=rfl;have y:(n:Int)%(k:Int)=((n%k:Nat):Int):=rfl;have H:=fz n k i ao hi;have h:bdN n k i=i*(n/k)+min i (n%k):=rfl;have T:n/k<=n:=Nat.div_le_self _ _;obtain ⟨q,Y⟩:∃q,n/k=q:=⟨_,rfl⟩;obtain ⟨r,hr⟩:∃r,n%k=r:=⟨_,rfl⟩;obtain ⟨p,Q⟩:∃p,i*q=p:=⟨_,rfl⟩;have hm:(i:Int)*(q:Int)=(p:Int):=by rw [<-Q];push_cast;rfl
 rw [Y] at x I h T;rw [hr] at D y h;rw [Q] at h;have Z:p<=1048576:=ao;have R:IntKind.i64.wrap (p:Int)=p:=Gd _ ao;have O:IntKind.i64.wrap (q:Int)=q:=Gd _ ao;obtain ⟨d,U⟩:∃d,bdN n k i=d:=⟨_,rfl⟩;rw [U] at H h ⊢;have A:=aa h;clear hn hk Y hr Q U h H;go_enter func149,ntmps149;go_wp2_with fail;refine HA.g (λu:N5=>ap w u) ?_;refine HA.t ?_ [0,1,2,3,4,5,6,7,8] J.drew ?_;obtain ⟨v,C⟩:∃v:Nat,min i r=v:=⟨_,rfl⟩;have B:(if r<i then (r:Int) else (i:Int))=(v:Int):=by rw [<-C];split<;>omega
 have N:IntKind.i64.wrap ((p:Int)+(v:Int))=(p:Int)+v:=Gd _ ao;refine HA.t ?_ [9] J.drew ?_;refine HA.t ?_ [10,11] J.drew ?_;refine HA.d ?_;have hB:=J.drew;have L:=aa (show (p:Int)+v=(d:Int) by have:=A.o;omega);clear C B R O N x I D y hm;go_wp2_with fail;go_ret;exact ⟨bE L.o,hB⟩
theorem tA (n k:Nat) (w:N5) (h1:1<=k) (h2:k<=1048576) (h3:n<=1048576):Calls prog 123 #[H8 n,H8 k] w λe u=>∃v,e=.returned v/\u.ownsRow w.heap.size 69 2 v k (aI (fR n k))/\ap w u:=by
 have a1:¬((n:Int)<0):=ao;have a6:¬((k:Int)<1):=ao;obtain ⟨p,h⟩:∃p,(w.alloc (.cells #[H8 n] 3)).alloc (.cells #[H8 k] 3)=p:=⟨_,rfl⟩
 have hn:p.heap[w.heap.size]?=some (.cells #[H8 n] 3 (0,0)):=by
  rw [<-h,Gk _ _ _ (by simp)];exact F4 w _
 have hk:p.heap[w.heap.size+1]?=some (.cells #[H8 k] 3 (0,0)):=by
  rw [<-h];have:=F4 (w.alloc (.cells #[H8 n] 3)) (.cells #[H8 k] 3);simpa using this
 have H:p.heap.size=w.heap.size+1+1:=by rw [<-h];simp
 have L:ap w p:=by rw [<-h];exact ((br w).alloc (F3 _) _).alloc (by simp) _
 have tn:=λu q=>bx1 (sb hn u q);have tk:=λu q=>bx1 (sb hk u q);have O:=λi u (q:ap p u) (hi:i<=k)=>zt i n k w.heap.size (w.heap.size+1) u (sb hn u q) (sb hk u q) h1 h2 h3 hi;have N:=λi (hi:i<=k)=>fz n k i ao hi;obtain ⟨U,D,a3,T,C⟩:=ag h O N H L;clear h hn hk O N H L;go_enter func123,ntmps123;have q0:=br p;go_wp2_with fail;rw [U.o]
 go_loopw [6,16] (λv x wr=>∃m:Nat,m<=k/\x=H8 m/\wr.ownsRow p.heap.size 69 2 v m (aI ((List.range m).map λi=>(bdN n k i,bdN n k (i+1))))/\ap p wr) (λ_ x _=>k-(intOf x).toNat)
 ·exact ⟨0,Gc _,rfl,Gj _ _ _ _,q0⟩
 case round=>
  obtain ⟨m,hm,rfl,J,q⟩:=hrel;by_cases a2:m<k
  ·have a4:(m:Int)<k:=ao;obtain ⟨A,c,rfl,_⟩:=aE J;have Q:=aa J;clear J;go_wp2_with fail;refine (D.o m wr q ao).mono ?_;rintro e w1 ⟨rfl,R⟩;have V:=bt q R;have O1:=aa (aA Q.o R);have a5:IntKind.i64.wrap ((m:Int)+1)=((m+1:Nat):Int):=by rw [Gd _ ao];push_cast;rfl
   clear R q;go_wp2_with fail;have y:=D.o (m+1) w1 V ao;rw [show ((m+1:Nat):Int)=(m:Int)+1 from by omega] at y;refine y.mono ?_;rintro e w2 ⟨rfl,k2⟩;have q2:=bt V k2;have O2:=aa (aA O1.o k2);have Y:=q2.size;clear y k2 V O1 Q;go_wp2_with (at_builtin;refine bJ iY _ rfl (.tmp 19) (.tmp 28) rfl p.heap.size (.slice A m c) m _ rfl O2.o [H8 (bdN n k m:Nat),H8 (bdN n k (m+1):Nat)] rfl rfl (bS .i64 [_,_]) ao (by unfold maxLen;omega) Y ?_);intro g6 c6 w6 B I a0;have Z:=aa B;have q6:=q2.trans I;clear B I a0 q2;go_wp2_with fail;go_roundw
   ·exact ⟨m+1,by omega,by go_num,by rw [vt,kc];exact Z.o,q6⟩
   ·simp [intOf];omega
  ·obtain rfl:k=m:=ao;have Q:=aa (aG (base':=w.heap.size) J (by have:=T.o;omega));have hB:=C.o.trans (q.mono C.o.size);have HB:=aa hB;clear J hB;go_wp2_with fail;go_ret;exact ⟨_,rfl,Q.o,HB.o⟩
theorem cu (l:List Rg) (j:Nat) (h:j<l.length):aD l j=l[j]:=by simp [aD,List.getD,h]
theorem fm {l:List Rg} {j:Nat} (h:j<l.length):(aI l)[j*2]?=some (H8 ((aD l j).1:Int))/\(aI l)[j*2+1]?=some (H8 ((aD l j).2:Int)):=iu (by rw [cu l j h];simp [h])
theorem nL:∀(l:List Rg) (j:Nat) (r:Rg),((aI l).set (j*2) (H8 (r.1:Int))).set (j*2+1) (H8 (r.2:Int))=aI (l.set j r)
 | [],_,_=>rfl
 | x::l,0,r=>rfl
 | x::l,j+1,r=>by
  have h:=nL l j r;have e:∀y (m:List Rg),aI (y::m)=H8 (y.1:Int)::H8 (y.2:Int)::aI m:=λy m=>by simp [aI]
  rw [e,Gv,e,<-h,show (j+1)*2=j*2+1+1 by omega,show j*2+1+1+1=(j*2+1)+1+1 by omega];simp only [Gv]
theorem AJ {w:N5} {base n g c:Nat} {l:List Rg} {e:N6} (h:w.ownsRow base e 2 (.slice (some (aq g 0)) n c) n (aI l)) (j:Nat) (r:Rg): ((w.setCell (aq g (j*2)) (H8 (r.1:Int))).setCell (aq g (j*2+1)) (H8 (r.2:Int))).ownsRow base e 2 (.slice (some (aq g 0)) n c) n (aI (l.set j r)):=by
 have:=((h.stored (j*2) (H8 (r.1:Int))).1.stored (j*2+1) (H8 (r.2:Int))).1
 rwa [nL] at this
theorem mW {w:N5} {base n g c:Nat} {l:List Rg} {e:N6} (h:w.ownsRow base e 2 (.slice (some (aq g 0)) n c) n (aI l)) {j:Nat} (i:j<n):
  w.cell? (aq g (j*2))=some (H8 ((aD l j).1:Int))/\w.cell? (aq g (j*2+1))=some (H8 ((aD l j).2:Int)):=by
 have hl:=h.1;rw [j9] at hl;have:=fm (l:=l) (j:=j) ao;exact ⟨by rw [h.cellAt _ ao];exact this.1,by rw [h.cellAt _ ao];exact this.2⟩
def kC (l:List Rg) (k:Nat):List Rg:=(List.range l.length).map λt=>if t<k\/l.length-1-t<k then aD l (l.length-1-t) else aD l t
theorem eV (l:List Rg) (k:Nat):(kC l k).length=l.length:=by simp [kC]
theorem jO {l:List Rg} {k t:Nat} (h:t<l.length):aD (kC l k) t=if t<k\/l.length-1-t<k then aD l (l.length-1-t) else aD l t:=by
 rw [cu _ _ (by rw [eV];exact h)];simp [kC]
theorem uE {a b:List Rg} (h:a.length=b.length) (hn:∀k,k<a.length->aD a k=aD b k):a=b:=List.ext_getElem h λk i o=>by
 have:=hn k i;rwa [cu _ _ i,cu _ _ o] at this
theorem x6 (l:List Rg):kC l 0=l:=uE (eV l 0) λk hk=>by
 rw [eV] at hk;rw [jO hk,if_neg ao]
theorem sw {l:List Rg} {i j:Nat} {r:Rg} (h:i<l.length):aD (l.set j r) i=if j=i then r else aD l i:=by
 rw [cu _ _ (by simpa using h),List.getElem_set,cu _ _ h]
theorem ya {l:List Rg} {k:Nat} (h:2*k+1<l.length):((kC l k).set k (aD (kC l k) (l.length-1-k))).set (l.length-1-k) (aD (kC l k) k)=kC l (k+1):=by
 refine uE (by simp [eV]) λt v=>?_;have i:t<l.length:=by simpa [eV] using v
 rw [sw (by simpa [eV] using i),sw (by rw [eV];exact i),jO i,jO ao,jO ao,jO i];by_cases p:l.length-1-k=t
 ·subst p;rw [if_pos rfl,if_neg ao,if_pos ao,show l.length-1-(l.length-1-k)=k by omega]
 ·rw [if_neg p];by_cases o:k=t
  ·subst o;rw [if_pos rfl,if_neg ao,if_pos ao]
  ·rw [if_neg o];by_cases u:t<k\/l.length-1-t<k
   ·rw [if_pos u,if_pos ao]
   ·rw [if_neg u,if_neg ao]
theorem AM {l:List Rg} {k:Nat} (h:l.length<=2*k+1):kC l k=l.reverse:=by
 refine uE (by simp [eV]) λt p=>?_;have i:t<l.length:=by simpa [eV] using p
 rw [jO i,cu l.reverse t (by simpa using i),List.getElem_reverse,<-cu l _ ao];by_cases o:t<k\/l.length-1-t<k
 ·rw [if_pos o]
 ·rw [if_neg o,show l.length-1-t=t by omega]
theorem AK (A:N0) (l:List Rg) (n c base:Nat) (w:N5) (ho:w.ownsRow base 69 2 (.slice A n c) n (aI l)) (hn:l.length=n) (hl:n<=1048576):Calls prog 130 #[.slice A n c] w λe v=>e=.returned (.tuple #[])/\v.ownsRow base 69 2 (.slice A n c) n (aI l.reverse)/\Keep (λj=>(Value.slice A n c).ownBlock=some j) w v:=by
 have h0:w.ownsRow base 69 2 (.slice A n c) n (aI (kC l 0)):=by rw [x6];exact ho
 have x:=λk (h:2*k+1<n)=>ya (l:=l) (k:=k) ao;have u:=λk (h:n<=2*k+1)=>AM (l:=l) (k:=k) ao;rw [hn] at x;obtain ⟨H0,R,H,Hn⟩:=af h0 x u hn;clear ho h0 x u hn;go_enter func130,ntmps130;go_wp2_with fail
 go_loopw [2,3] (λi j wr=>∃k:Nat,2*k<=n+1/\i=H8 k/\j=H8 ((n:Int)-1-k)/\wr.ownsRow base 69 2 (.slice A n c) n (aI (kC l k))/\Keep (λj=>(Value.slice A n c).ownBlock=some j) w wr) (λi _ _=>n-(intOf i).toNat)
 ·exact ⟨0,by omega,rfl,by go_num,H0.o,Keep.refl _ _⟩
 case round=>
  obtain ⟨k,hk,rfl,rfl,hr,J⟩:=hrel;by_cases Q:2*k+1<n
  ·obtain ⟨g,rfl⟩:∃g,A=some (aq g 0):=by
    obtain ⟨g,e,hv,_⟩:=hr.form ao;simp only [GT] at hv;exact ⟨g,hv.1⟩
   have L:=mW hr (show k<n by omega);have C:=mW hr (show n-1-k<n by omega);have f1:=λj=>hr.frozenAt j;have D:(k:Int)<(n:Int)-1-k:=ao;have O:(n:Int)-1-k=((n-1-k:Nat):Int):=ao;have Y:n-1-k<n:=ao;have a0:k<n:=ao;have U:n-1-k≠k:=ao;have B:¬((n-1-k)*2=k*2)/\¬((n-1-k)*2=k*2+1)/\¬((n-1-k)*2+1=k*2)/\¬((n-1-k)*2+1=k*2+1):=ao;obtain ⟨T,y⟩:∃r,aD (kC l k) k=r:=⟨_,rfl⟩;obtain ⟨r2,p⟩:∃r,aD (kC l k) (n-1-k)=r:=⟨_,rfl⟩;obtain ⟨j,I⟩:∃j,n-1-k=j:=⟨_,rfl⟩;have N:=R.o k Q;rw [y,p] at N;rw [y] at L;rw [p] at C;rw [I] at C O Y U B N;rw [O] at D ⊢;obtain ⟨V,Z,Hj,Hs⟩:=af hr J O N;clear hr J O I N y p;go_wp2_with fail;refine XA.g 13 (λv:N5=>(v.cell? (aq g (k*2))=some (H8 (T.1:Int))/\v.cell? (aq g (k*2+1))=some (H8 (T.2:Int)))/\(v.cell? (aq g (j*2))=some (H8 (r2.1:Int))/\v.cell? (aq g (j*2+1))=some (H8 (r2.2:Int)))) ?_;refine XA.t0 ?_ [0,1,2,3,4,5,6,8,9,10] ⟨L,C⟩ ?_;refine XA.t ?_ [7,11] ⟨L,C⟩ ?_;refine XA.t0 ?_ [12] ⟨L,C⟩ ?_;refine XA.e ?_;simp only [GC,GD];go_wp2_with fail;go_roundw
   ·exact ⟨k+1,by omega,by go_num,by have:=Hj.o;go_num,by rw [<-Hs.o];exact AJ (AJ V.o k r2) j T,Keep.setCell (S:=λj=>(Value.slice (some (aq g 0)) n c).ownBlock=some j) (Keep.setCell (S:=λj=>(Value.slice (some (aq g 0)) n c).ownBlock=some j) (Keep.setCell (S:=λj=>(Value.slice (some (aq g 0)) n c).ownBlock=some j) (Keep.setCell (S:=λj=>(Value.slice (some (aq g 0)) n c).ownBlock=some j) Z.o.drew (aq g (k*2)) (.inr rfl) _) (aq g (k*2+1)) (.inr rfl) _) (aq g (j*2)) (.inr rfl) _) (aq g (j*2+1)) (.inr rfl) _⟩
   ·simp [intOf];omega
  ·have D:¬((k:Int)<(n:Int)-1-k):=ao;have p:=H.o k ao;rw [p] at hr;obtain ⟨V,Z⟩:=ab hr J;clear hr J p;go_wp2_with fail
   go_end0
   exact ⟨rfl,V.o,Z.o⟩
theorem tQ (n s:Nat) (w:N5) (hn:n<=1048576) (O:1<=s) (B:s<=1048576):Calls prog 94 #[H8 n,H8 s] w λe i=>∃v,e=.returned v/\i.ownsRow w.heap.size 69 2 v (pb n s).length (aI (pb n s))/\ap w i:=by
 have hb:=ja n s w hn O B;have hl:=fF n s;rw [<-lX,<-dt] at hb;have h:=gy n s;rw [dt] at hb;rw [h];have p:=λ(A:N0) c base i (N:i.ownsRow base 69 2 (.slice A (be n s) c) (be n s) (aI (dU n s)))=>AK A (dU n s) (be n s) c base i N (dt n s) ao;obtain ⟨J,x⟩:=ab hb p;clear hb p h hl;go_enter func94,ntmps94;go_wp2_with fail;refine J.o.mono ?_;rintro e I ⟨v,rfl,y,u⟩;obtain ⟨A,c,rfl,_⟩:=aE y;have C:=aa y;clear y;go_wp2_with fail;refine (x.o A c _ I C.o).mono ?_;rintro e R ⟨rfl,D,H⟩;have hB:=u.trans (H.toBelow u.size (λj Q=>(C.o.lt j Q).1));have L:=aa D;clear D u H C;go_wp2_with fail;go_ret;exact ⟨_,rfl,L.o,hB⟩
theorem vh (n s:Nat) (w:N5) (hn:n<=1048576) (y:1<=s) (h:s<=1048576):Calls prog 95 #[H8 n,H8 s] w λe i=>∃v,e=.returned v/\i.ownsRow w.heap.size 69 2 v (dU n s).length (aI (dU n s))/\ap w i:=by
 have hb:=ja n s w hn y h;rw [<-lX,<-dt] at hb;have A:=aa hb;clear hb;go_enter func95,ntmps95;go_wp2_with fail;refine A.o.mono ?_;rintro e B ⟨v,rfl,p,u⟩;have x:=aa p;clear p;go_wp2_with fail;go_ret;exact ⟨_,rfl,x.o,u⟩
theorem ui (S n b steps t:Nat) (l:N1) (w:N5) (h:ed w S n b steps l) (hb:1<=b) (hn:n<=1048576) (y:1<=n/b) (Y:steps<=1048576) (ht:t<steps):Calls prog 234 #[(ar S),H8 t] w λe w'=>∃A c,e=.returned (.slice A b c)/\b<=c/\Rd w' A (az .i64 (cG l n b t))/\ap w w':=by
 have u:=ur S n b steps t l w h hn y Y ht;obtain ⟨Ab,cb,Ao,co,vs,C,R,h3,h4,h5⟩:=h;have a1:=Nat.div_le_self n b;have he:=Cw (n:=n) (b:=b) ht;have hm:=Nat.mod_lt t y;have J:=nh n b _ hm;have O:=xt n b _ hb hm;have i:=vH (n-n%b) b hm;rw [O] at i;obtain ⟨A1,c1,k1,k2,T⟩:=h5 _ he;have H:cG l n b t=((iw l n ((t/(n/b))*(n-1))).drop (t%(n/b)*b)).take b:=rfl;rw [H];have a2:epN n b steps<=steps:=fF _ _;obtain ⟨pl,B⟩:∃pl,iw l n ((t/(n/b))*(n-1))=pl:=⟨_,rfl⟩;have a3:pl.length=n:=by rw [<-B];exact qg _ _ _
 rw [B] at T ⊢;obtain ⟨E,hE⟩:∃E,epN n b steps=E:=⟨_,rfl⟩;rw [hE] at he C h4 a2;obtain ⟨V,D⟩:∃V,t/(n/b)=V:=⟨_,rfl⟩;obtain ⟨U,Q⟩:∃U,t%(n/b)=U:=⟨_,rfl⟩;rw [D] at u he k1;rw [Q] at u hm J i ⊢;obtain ⟨nb,x⟩:∃nb,n/b=nb:=⟨_,rfl⟩;rw [x] at C R y hm a1 i;obtain ⟨lo,L⟩:∃lo,U*b=lo:=⟨_,rfl⟩;rw [L] at J i ⊢;obtain ⟨bb,ob,rfl,q0⟩:=R _ _ i.1;obtain ⟨_,_,e2,q1⟩:=R _ _ i.2;injection e2 with e2;injection e2 with i1 i2 _;subst i1;subst i2
 obtain ⟨bo,oo,rfl,q2⟩:=h3 _ _ k1;obtain ⟨bg,og,rfl,q3⟩:=T.num (show 0<pl.length by omega);rw [<-GX] at q1;have ad:(U:Int)<nb:=ao;have b6:(V:Int)<E:=ao;have a6:(lo:Int)<=((lo+b:Nat):Int):=ao;have aM:((lo+b:Nat):Int)<=c1:=ao;have ak:lo<=lo+b:=ao;have aP:lo+b<=c1:=ao;have b5:¬(c1=lo):=ao;have b1:bo<w.heap.size:=aC q2;have b2:bb<w.heap.size:=aC q0;obtain ⟨⟨r0,r1,r2,r3⟩,rf⟩:=bx4 C;have b3:S<w.heap.size:=F1 C;obtain ⟨H1,Z,K3⟩:=ae C u T;clear u T C R h3 h4 h5 hE D Q x L B a3 i k1 q3 O H;go_enter func234,ntmps234;go_wp2_with fail;refine Z.o.mono ?_;rintro e w' ⟨rfl,d,rfl⟩;have p:ap w (w.drewN d):=Gi (Gb _ _) d;have v:(w.drewN d).heap.size=w.heap.size:=by simp
 generalize w.drewN d=w1 at p v ⊢;have ax:=av p q0;have a8:=av p q1;have b8:=av p q2;have I:=(p.block _ b3).trans H1.o;obtain ⟨⟨y0,y1,y2,y3⟩,yf⟩:=bx4 I;rw [<-v] at b1 b2 b3;obtain ⟨N,a0⟩:=ab p v;clear q0 q1 q2 r0 r1 r2 r3 rf p v I;go_wp2_with fail;have b0:(lo:Int)+b<=c1:=ao;have b4:((lo:Int)+b).toNat=lo+b:=ao;have a5:(0:Int)<=(lo:Int)+b:=ao;have b7:(lo:Int)<=(lo:Int)+b:=ao;have a4:lo+b-lo=b:=ao;have a7:¬(lo+b=lo):=ao
 go_quiet (fail)
 go_wp2_with fail;go_ret;refine ⟨_,_,rfl,F3 _,?_,Gi (N.o.alloc (by have:=a0.o;omega) _) _⟩;have:=((((K3.o.below N.o).alloc (.cells #[H8 (lo:Int),H8 ((lo:Int)+b)] 69)).drewN nq).drop lo).take b
 rwa [dQ,dz] at this
def cD (l:N1) (k i:Nat):N1:=(l.drop (bdN l.length k i)).take (bdN l.length k (i+1)-bdN l.length k i)
theorem ke (l:N1) {k i:Nat} (hk:1<=k) (h:i<k):(cD l k i).length=bdN l.length k (i+1)-bdN l.length k i:=by
 have o:=fz l.length k (i+1) hk h;simp only [cD,GL,GO];omega
def kh (l:N1) (W x mi a:Nat):N1:=cD (cD l W x) mi a
def Fj (L:N1) (m:Nat) (w:N5) (e:Ending) (h:N5):Prop:=∃i o,e=.returned (.slice i m o)/\m<=o/\Rd h i (az .i64 L)/\ap w h
theorem qe (A:N0) (l:N1) (c k i:Nat) (w:N5) (N:Rd w A (az .i64 l)) (hc:l.length<=c) (hl:l.length<=1048576) (hn:0<l.length) (hk:1<=k) (J:k<=1048576) (I:i<k):Calls prog 235 #[.slice A l.length c,H8 i,H8 k] w (Fj (cD l k i) (cD l k i).length w):=by
 have p:=tA l.length k w hk J hl;obtain ⟨b,o,rfl,_⟩:=N.num hn;have u:=ke l hk I;have H:cD l k i=(l.drop (bdN l.length k i)).take (bdN l.length k (i+1)-bdN l.length k i):=rfl;have T:=du l.length k (Nat.le_succ i);have Q:=fz l.length k (i+1) hk I;have y:=fm (l:=fR l.length k) (j:=i) (by rw [ge];exact I)
 have hr:aD (fR l.length k) i=(bdN l.length k i,bdN l.length k (i+1)):=by
  rw [cu _ _ (by rw [ge];exact I)];simp [fR]
 rw [hr] at y;rw [u];obtain ⟨P,U⟩:∃P,cD l k i=P:=⟨_,rfl⟩;obtain ⟨lo,D⟩:∃lo,bdN l.length k i=lo:=⟨_,rfl⟩;obtain ⟨h,x⟩:∃h,bdN l.length k (i+1)=h:=⟨_,rfl⟩;simp only [Nat.succ_eq_add_one] at T;rw [U] at H ⊢;rw [D,x] at H T y ⊢;rw [x] at Q;obtain ⟨V,Y⟩:∃V,aI (fR l.length k)=V:=⟨_,rfl⟩;rw [Y] at p y;obtain ⟨n,C⟩:∃n,l.length=n:=⟨_,rfl⟩;rw [C] at p hc hl hn Q ⊢;have a2:(i:Int)<k:=ao;have a3:¬(i:Int)<0:=ao;obtain ⟨L,HA,R,Z⟩:=af p N y H;clear p N y H hr u U D x C Y;go_enter func235,ntmps235;go_wp2_with fail;refine L.o.mono ?_;rintro e w1 ⟨v,rfl,ov,O⟩;obtain ⟨g,cv,rfl,_⟩:=ov.form ao;have c0:=ov.cellAt (i*2) ao;have c1:=ov.cellAt (i*2+1) ao;rw [R.o.1] at c0;rw [R.o.2] at c1;have lg:=(ov.lt g rfl).2;have B:=aa O;clear ov O;by_cases hz:h=lo
 ·subst hz;go_wp2_with fail;go_ret;refine ⟨_,0,by rw [Nat.sub_self];rfl,by omega,?_,B.o.alloc B.o.size _⟩;rw [Z.o,Nat.sub_self,List.take_zero];exact Rd.nil _ _
 ·have a0:¬(h:Int)=lo:=ao;have a1:¬h-lo=0:=ao;go_wp2_with fail;go_ret;refine ⟨_,_,rfl,F3 _,?_,B.o.alloc B.o.size _⟩;have:=(((HA.o.below B.o).alloc (.cells #[H8 (lo:Int),H8 (h:Int)] 69)).drop lo).take (h-lo)
  rwa [dQ,dz,<-Z.o] at this
theorem yN (S n b steps t W x mi a:Nat) (l:N1) (w:N5) (h:ed w S n b steps l) (hb:1<=b) (a5:b<=n) (hn:n<=1048576) (a1:steps<=1048576) (ht:t<steps) (hW:1<=W) (a7:W<=b) (hx:x<W) (hm:1<=mi) (a2:mi<=1048576) (ha:a<mi):Calls prog 220 #[(ar S),H8 t,H8 x,H8 W,H8 a,H8 mi] w (Fj (kh (cG l n b t) W x mi a) (kh (cG l n b t) W x mi a).length w):=by
 have U:1<=n/b:=Nat.div_pos a5 hb;have y:=kp l (t:=t) U;have hv:=λi (q:ap w i)=>ui S n b steps t l i (h.below q) hb hn U a1 ht;obtain ⟨B,hB⟩:∃B,cG l n b t=B:=⟨_,rfl⟩;rw [hB] at y hv ⊢;have hP:=ke B hW hx
 have Y:bdN B.length W x+1<=bdN B.length W (x+1):=by
  rw [CQ];have:1<=B.length/W:=Nat.div_pos ao ao;unfold szE;omega
 have p:=λA c i (I:Rd i A (az .i64 B)) (hc:B.length<=c)=>qe A B c W x i I hc ao ao hW ao hx;obtain ⟨Q,hQ⟩:∃Q,cD B W x=Q:=⟨_,rfl⟩;have L:kh B W x mi a=cD Q mi a:=by unfold kh;rw [hQ]
 rw [hQ] at hP p;have H:Q.length<=1048576:=by have:=fz B.length W (x+1) hW hx;omega
 have u:=λA c i (I:Rd i A (az .i64 Q)) (hc:Q.length<=c)=>qe A Q c mi a i I hc H ao hm a2 ha;have T:=ke Q hm ha;have Z:=fz Q.length mi (a+1) hm ha;rw [L];obtain ⟨M,hM⟩:∃M,cD Q mi a=M:=⟨_,rfl⟩;rw [hM] at u T ⊢;have C:=λA c i (I:Rd i A (az .i64 M))=>kl A M c i I ao;rw [y] at p;obtain ⟨qn,D⟩:∃qn,Q.length=qn:=⟨_,rfl⟩;rw [D] at p u;obtain ⟨V,R⟩:∃V,M.length=V:=⟨_,rfl⟩;rw [R] at u C ⊢;obtain ⟨Hv,a0,a3,a4⟩:=af hv p u C;clear hv p u C h T Z hP Y y H R D hM L hQ hB;go_enter func220,ntmps220;go_wp2_with fail;refine (Hv.o w (br w)).mono ?_;rintro e w1 ⟨A1,c1,rfl,J,r1,k1⟩;obtain ⟨H1,K1⟩:=ab (a0.o A1 c1 w1 r1 J) k1;clear J r1 k1;go_wp2_with fail;refine H1.o.mono ?_;rintro e w2 ⟨A2,c2,rfl,O,r2,k2⟩;obtain ⟨H2,K2⟩:=ab (a3.o A2 c2 w2 r2 O) (bt K1.o k2);clear O r2 k2;go_wp2_with fail;refine H2.o.mono ?_;rintro e w3 ⟨A3,c3,rfl,a6,r3,k3⟩;obtain ⟨H3,K3⟩:=ab (a4.o A3 c3 w3 r3) (bt K2.o k3);clear a6 r3 k3;go_wp2_with fail;refine H3.o.mono ?_;rintro e w4 ⟨v,rfl,o4,k4⟩;obtain ⟨A4,c4,rfl,N⟩:=aE o4;have HP:=aa (⟨A4,c4,rfl,N,Rd.own o4,bt K3.o k4⟩:Fj M V w (.returned (.slice A4 V c4)) w4);clear o4 k4 N;go_wp2_with fail;go_ret;exact HP.o
end Go.Proofs.YtindmkcnjlgomaaGreat
namespace Go.Proofs.YtindmkcnjlgomaaGreat
open Tryz
section
variable {P:Program} {ops:N9} {Q:Exit->Na->N5->Prop} {S:N5->Prop}
structure HAS (P:Program) (ops:N9) (Q:Exit->Na->N5->Prop) (S:N5->Prop) (i:Nat) (L:List Nat) (a:Na) (w:N5):Prop where
 out:∃o,ops[i]?=some o/\∀K':Na->N5->Prop,Shut (∀a w,S w->(S w->HA P ops Q S (i::L) a w)->K' a w)->if Region.wanted o (yielded ops a.tmps)=true then Oper.wp P o a w K' Q else K' (a.put o.dst undef) w
theorem HAS.c {L:List Nat} {a:Na} {w:N5} {i:Nat} {f:FuncId} {args:N2} {R:Ending->N5->Prop} {o:Oper} (hc:Calls P f args w R) (k:∀e p,R e p->∃v,e=.returned v/\S p/\(S p->HA P ops Q S (i::L) (a.put o.dst v) p)) (u:ops[i]?=some o:=by (simp only [Gw,Gy,Gz];rfl)) (hw:Region.wanted o (yielded ops a.tmps)=true:=by rfl) (he:(execOp a.eval o).run P w=.ok (.enter f args) w:=by go_simp):HAS P ops Q S i L a w:=by
 refine ⟨o,u,λB A=>?_⟩;rw [if_pos hw];unfold Oper.wp;rw [he];refine hc.mono λe p y=>?_;obtain ⟨v,rfl,x,h⟩:=k e p y;exact A.out _ _ x h
theorem HAS.v {L:List Nat} {a:Na} {w:N5} {i:Nat} {o:Oper} (h:N5) (v:Value) (u:S h) (k:HA P ops Q S (i::L) (a.put o.dst v) h) (p:ops[i]?=some o:=by (simp only [Gw,Gy,Gz];rfl)) (hw:Region.wanted o (yielded ops a.tmps)=true:=by rfl) (he:(execOp a.eval o).run P w=.ok (.value v) h:=by go_simp):HAS P ops Q S i L a w:=by
 refine ⟨o,p,λy x=>?_⟩;rw [if_pos hw];unfold Oper.wp;rw [he];exact x.out _ _ u λ_=>k
theorem HA.two {L:List Nat} {a:Na} {w:N5} (i j:Nat) (y:HAS P ops Q S i L a w) (p:HAS P ops Q S j L a w) (hr:cC ops L=[i,j]:=by decide +kernel):HA P ops Q S L a w:=by
 obtain ⟨H,x,y⟩:=y;obtain ⟨I,o,p⟩:=p;have B:unl (bC ops.size L)=unl (bC ops.size (i::L))+1:=cE (by rw [hr];simp);have D:unl (bC ops.size L)=unl (bC ops.size (j::L))+1:=cE (by rw [hr];simp);have C:unl (bC ops.size (j::L))=unl (bC ops.size (i::L)):=ao;refine ⟨?_⟩;rw [B];refine wpAnyH_ready (by rw [da];exact hr) (by simp) (AllReadyH.cons x (λA v=>y A λa w u hw=>v.out a w u λh=>(hw h).out) (AllReadyH.cons o (λA v=>p A λa w u hw=>v.out a w u λh=>?_) AllReadyH.nil));have:=(hw h).out;rw [C] at this;exact this
theorem HA.three {L:List Nat} {a:Na} {w:N5} (i j k:Nat) (B:HAS P ops Q S i L a w) (y:HAS P ops Q S j L a w) (hk:HAS P ops Q S k L a w) (hr:cC ops L=[i,j,k]:=by decide +kernel):HA P ops Q S L a w:=by
 obtain ⟨N,A,B⟩:=B;obtain ⟨O,x,y⟩:=y;obtain ⟨ok,v,hk⟩:=hk;have D:unl (bC ops.size L)=unl (bC ops.size (i::L))+1:=cE (by rw [hr];simp);have I:unl (bC ops.size L)=unl (bC ops.size (j::L))+1:=cE (by rw [hr];simp);have J:unl (bC ops.size L)=unl (bC ops.size (k::L))+1:=cE (by rw [hr];simp);have C:unl (bC ops.size (j::L))=unl (bC ops.size (i::L)):=ao;have H:unl (bC ops.size (k::L))=unl (bC ops.size (i::L)):=ao;refine ⟨?_⟩;rw [D];refine wpAnyH_ready (by rw [da];exact hr) (by simp) (AllReadyH.cons A (λu p=>B u λa w o hw=>p.out a w o λh=>(hw h).out) (AllReadyH.cons x (λu p=>y u λa w o hw=>p.out a w o λh=>?_) (AllReadyH.cons v (λu p=>hk u λa w o hw=>p.out a w o λh=>?_) AllReadyH.nil)))
 ·have:=(hw h).out;rw [C] at this;exact this
 ·have:=(hw h).out;rw [H] at this;exact this
end
end Go.Proofs.YtindmkcnjlgomaaGreat
namespace Go.Proofs.YtindmkcnjlgomaaGreat
open Go.RowKit
open Tryz
section
variable {P:Program}
structure eC (P:Program) (t:N6) (n:Nat):Prop where
 d:∃d,P.underlying t=some d/\d.isRow=true
 s:(P.info? t).map (·.size)=some n
theorem ju {w:N5} {b:Nat} {xs:N2} {t:N6} {x:Nat×Nat} (h:w.heap[b]?=some (.cells xs t x)) (o:Nat) {p:N4} (u:(xs.toList.drop o).take p.length=p):w.rangeAt b o p:=λj v i=>by
 rw [Ga w b (o+j) xs t x h];rw [<-u,List.getElem?_take] at i
 split at i
 ·rw [List.getElem?_drop] at i;simpa using i
 ·cases i
theorem mr (w:N5) (g:Nat) (i:N2):Keep (λj=>j=g) w (w.setRow g i):=by
 refine ⟨rfl,rfl,rfl,by simp [World.setRow],λk hk h=>?_⟩;simp only [World.setRow,Array.getElem?_modify];rw [if_neg (λe=>h e.symm)]
theorem eg {ops:N9} {rest:List Oper} {op:Oper} {a:Na} {w:N5} {Q:Exit->Na->N5->Prop} {v:N6} {x:Operand} {b o:Nat} {xs:N2} {t:N6} {H:Nat×Nat} (i:N2) (hb:w.heap[b]?=some (.cells xs t H)) (hr:eC P v i.size) (p:op.guard=none) (y:op.op=.load v x) (D:a.eval x=.pointer (some (aq b o))) (u:(xs.toList.drop o).take i.toList.length=i.toList) (h:wpList P ops Q rest (a.put op.dst (.agg i)) w):wpList P ops Q (op::rest) a w:=by
 obtain ⟨⟨d,B,A⟩,C⟩:=hr;exact wpList_load_mid p v x y b o D i.toList d (ju hb o u) B A (by simpa using C) (by simpa using h)
theorem vV {ops:N9} {rest:List Oper} {op:Oper} {a:Na} {w:N5} {Q:Exit->Na->N5->Prop} {u:N6} {x:Operand} {b o:Nat} {i:N4} (hb:w.rangeAt b o i) (hr:eC P u i.length) (p:op.guard=none) (v:op.op=.load u x) (C:a.eval x=.pointer (some (aq b o))) (h:wpList P ops Q rest (a.put op.dst (.agg i.toArray)) w):wpList P ops Q (op::rest) a w:=by
 obtain ⟨⟨d,A,y⟩,B⟩:=hr;exact wpList_load_mid p u x v b o C i d hb A y B h
theorem dx {ops:N9} {rest:List Oper} {op:Oper} {a:Na} {w:N5} {Q:Exit->Na->N5->Prop} {u:N6} {x y:Operand} {b n:Nat} {xs i:N2} {t:N6} (hb:w.heap[b]?=some (.cells xs t (0,0))) (hr:eC P u n) (o:op.guard=none) (v:op.op=.store u x y) (H:a.eval x=(ar b)) (A:a.eval y=.agg i) (hn:i.size=n) (D:xs.size=i.size) (C:i.toList.all (·.oneCell')=true) (h:∀p,p.heap[b]?=some (.cells i t (0,0))->Keep (λj=>j=b) w p->wpList P ops Q rest (a.put op.dst undef) p):wpList P ops Q (op::rest) a w:=by
 refine wpList_plain o λK B=>?_;unfold Oper.wp execOp;simp only [v,H,A,Instr.storeAt,Instr.sureAddr,Sem.run_bind,Sem.run_pure,Result.andThen_ok,run_storeVar_row w b t u xs i hb (by rw [hn];exact hr.s) D (by rw [<-Array.all_toList];exact C)];exact B _ _ (h _ (setRow_heap w b xs i t (0,0) hb) (mr w b i))
theorem sy {f:Func} {x:Tmp} {o:N6} (h:f.results=#[.cell x o]) {tmps:N2} {w:N5} {b:Nat} {xs:N2} {t:N6} {A:Nat×Nat} (y:tmps.getD x undef=(ar b)) (hb:w.heap[b]?=some (.cells xs t A)) (hr:eC P o xs.size):(results f tmps).run P w=.ok (.agg xs) w:=by
 obtain ⟨⟨d,u,p⟩,v⟩:=hr;have:=run_loadVar_mid (P:=P) w b 0 o xs.toList d (ju hb 0 (by rw [GD,GR])) u p (by simpa using v);rw [Array.toArray_toList] at this;have i:tmps[x]?.getD undef=(ar b):=by simpa using y
 simp [results,h,i,asAddr,this]
end
section
variable {P:Program} {ops:N9} {Q:Exit->Na->N5->Prop} {S:N5->Prop} {n:Nat}
theorem xk {S:N5->Prop} {a:Na} {o:Oper} {y:N6} {x:Operand} {b h:Nat} {xs:N2} {t:N6} {I:Nat×Nat} (i:N2) (hb:∀p,S p->p.heap[b]?=some (.cells xs t I)) (hr:eC P y i.size) (u:o.op=.load y x) (H:a.eval x=.pointer (some (aq b h))) (v:(xs.toList.drop h).take i.toList.length=i.toList) (D:Region.wanted o (yielded ops a.tmps)=true):YieldsIf P ops S o (.agg i) a:=by
 obtain ⟨⟨d,B,A⟩,C⟩:=hr;have:=yieldsIf_load_mid (P:=P) (ops:=ops) (S:=S) (op:=o) (a:=a) D y x u b h H i.toList d (λp q=>ju (hb p q) h v) B A (by simpa using C);simpa using this
theorem HA.ld {L:List Nat} {a:Na} {w:N5} (i:Nat) (u:N2) {o:Oper} {A:N6} {x:Operand} {b p:Nat} {xs:N2} {t:N6} {D:Nat×Nat} (hb:∀y,S y->y.heap[b]?=some (.cells xs t D)) (hr:eC P A u.size) (C:S w) (k:HA P ops Q S (i::L) (a.put o.dst (.agg u)) w) (B:ops[i]?=some o:=by (simp only [Gw,Gy,Gz];rfl)) (hop:o.op=.load A x:=by rfl) (hx:a.eval x=.pointer (some (aq b p)):=by rfl) (hcs:(xs.toList.drop p).take u.toList.length=u.toList:=by rfl) (hg:Region.wanted o (yielded ops a.tmps)=true:=by rfl) (hs:Region.noSelect ops=true:=by decide +kernel) (hQ:∀c a w d v,Q (.panic c) (Act.put a d v) w->Q (.panic c) a w:=by (intro _ _ _ d _ h;cases d<;>exact h)) (hc:nm ops L [i]=true:=by decide +kernel):HA P ops Q S L a w:=
 HA.takes hs hQ C [i] hc (Ys.cons B (xk u hb hr hop hx hcs hg) Ys.nil) (by simpa using k)
theorem HA.st {L:List Nat} {a:Na} {w:N5} (i:Nat) {o:Oper} {u:N6} {x y:Operand} {b m:Nat} {xs h:N2} {t:N6} (hb:w.heap[b]?=some (.cells xs t (0,0))) (hr:eC P u m) (k:∀p,p.heap[b]?=some (.cells h t (0,0))->Keep (λj=>j=b) w p->S p/\HA P ops Q S (i::L) (a.put o.dst undef) p) (v:ops[i]?=some o:=by (simp only [Gw,Gy,Gz];rfl)) (hop:o.op=.store u x y:=by rfl) (hx:a.eval x=(ar b):=by rfl) (hy:a.eval y=.agg h:=by rfl) (hn:h.size=m:=by rfl) (hs:xs.size=h.size:=by rfl) (h1:h.toList.all (·.oneCell')=true:=by rfl) (hrd:cC ops L=[i]:=by decide +kernel) (hw:Region.wanted o (yielded ops a.tmps)=true:=by rfl):HA P ops Q S L a w:=by
 obtain ⟨A,k⟩:=k _ (setRow_heap w b xs h t (0,0) hb) (mr w b h);refine HA.s i _ A k v hrd hw ?_;unfold execOp;simp only [hop,hx,hy,Instr.storeAt,Instr.sureAddr,Sem.run_bind,Sem.run_pure,Result.andThen_ok,run_storeVar_row w b t u xs h hb (by rw [hn];exact hr.s) hs (by rw [<-Array.all_toList];exact h1)]
end
section
variable {P:Program} {ops:N9} {Q:Exit->Na->N5->Prop} {S:N5->Prop}
theorem HA.sole {L:List Nat} {a:Na} {w:N5} (i:Nat) (p:HAS P ops Q S i L a w) (hr:cC ops L=[i]:=by decide +kernel):HA P ops Q S L a w:=by
 obtain ⟨o,u,h⟩:=p;exact HA.one i u hr h
end
theorem DB {w u i h:N5} {U V:Nat} {x y:N2} {t:N6} (ne:U≠V) (A:w.heap.size<=U) (o:w.heap.size<=V) (hb:ap w u) (B:i.heap[U]?=some (.cells x t (0,0))) (C:Keep (λj=>j=U) u i) (D:h.heap[V]?=some (.cells y t (0,0))) (p:Keep (λj=>j=V) i h):h.heap[U]?=some (.cells x t (0,0))/\h.heap[V]?=some (.cells y t (0,0))/\U≠V/\w.heap.size<=U/\w.heap.size<=V/\ap w h:=
 have v:=hb.trans (C.toBelow hb.size (λj e=>by rw [e];exact A))
 ⟨(p.block U (F1 B) ne).trans B,D,ne,A,o,v.trans (p.toBelow v.size (λj e=>by rw [e];exact o))⟩
theorem CP {w h:N5} {B U:Nat} {W1:N5} (q:Below B W1 w) (k:Keep (λj=>j=U) w h) (hB:B<=w.heap.size) (i:B<=U):Below B W1 h:=q.trans (k.toBelow hB (λj e=>by rw [e];exact i))
def Ext (u v:N5):Prop:=∀k,k<u.heap.size->u.heap[k]?=some (.cells #[] 0 (0,0))\/v.heap[k]?=u.heap[k]?
theorem Cl {u v:N5} {a:Addr} {x:Value} (h:u.cell? a=some x) (o:Ext u v):v.cell? a=some x:=by
 rcases o _ (aC h) with i | i
 ·rw [World.cell?] at h;simp only [i] at h;simp at h
 ·exact (World.cell?_of_block (w:=u) i).trans h
theorem oN {u v:N5} {b:Nat} {x:Value} {xs:N4} {t:N6} {o:Nat×Nat} (h:u.heap[b]?=some (.cells (x::xs).toArray t o)) (p:Ext u v):v.heap[b]?=some (.cells (x::xs).toArray t o):=by
 rcases p _ (F1 h) with i | i
 ·rw [i] at h;simp at h
 ·rw [i];exact h
theorem a9 {u v:N5} {A:N0} {xs:N4} (h:Rd u A xs) (i:Ext u v):Rd v A xs:=λk x p=>by
 obtain ⟨b,o,e,hc⟩:=h k x p;exact ⟨b,o,e,Cl hc i⟩
def FM {α:Type} (R:eL α):Prop:=∀{u v:N5} {cs:N4} {x:α},R u cs x->Ext u v->R v cs x
theorem iW {α:Type} {R:eL α} {size:Nat} {u v:N5} {A:N0} {l:List α} (y:FM R) (h:cO R size u A l) (i:Ext u v):cO R size v A l:=by
 obtain ⟨rows,B,o,C,p⟩:=h;exact ⟨rows,a9 B i,o,C,λj x D=>y (p j x D) i⟩
noncomputable def aW (S:Nat->Prop) (w:N5):N5:=by
 classical exact {w with heap:=w.heap.mapIdx λk o=>if S k then .cells #[] 0 (0,0) else o}
theorem lU (S:Nat->Prop) (w:N5):(aW S w).heap.size=w.heap.size:=by simp [aW]
theorem iB {S:Nat->Prop} {w:N5} {k:Nat} (h:¬S k):(aW S w).heap[k]?=w.heap[k]?:=by
 simp only [aW,Array.getElem?_mapIdx];simp [h]
theorem rx {S:Nat->Prop} {w:N5} {k:Nat} (h:S k) (hk:k<w.heap.size):(aW S w).heap[k]?=some (.cells #[] 0 (0,0)):=by
 simp only [aW,Array.getElem?_mapIdx];simp [h,hk]
theorem jC (S:Nat->Prop) (w:N5):Ext (aW S w) w:=λk hk=>by
 rw [lU] at hk;by_cases h:S k
 ·exact .inl (rx h hk)
 ·exact .inr (iB h).symm
theorem dN {S S':Nat->Prop} {w i:N5} (hk:Keep S w i) (o:∀k,k<w.heap.size->S' k->S k):Ext (aW S w) (aW S' i):=λk hl=>by
 rw [lU] at hl;by_cases h:S k
 ·exact .inl (rx h hl)
 ·exact .inr (by rw [iB h,iB (λe=>h (o k hl e)),hk.block k hl h])
theorem Ck {B:Nat} {S:Nat->Prop} {u w:N5} (hb:∀k,B<=k->k<u.heap.size->w.heap[k]?=u.heap[k]?) (i:∀k,B<=k->k<u.heap.size->¬S k):Ext (dY B u) (aW S w):=λk hl=>by
 rw [gi] at hl;rcases Gn k B with h | h
 ·exact .inl (ky h hl)
 ·exact .inr (by rw [iB (i k h hl),hb k h hl,fA h])
theorem mY {S:Nat->Prop} {w:N5} {A:N0} {xs:N4} (h:Rd w A xs) (i:∀y,A=some y->¬S y.block):Rd (aW S w) A xs:=λk x p=>by
 obtain ⟨b,o,e,hc⟩:=h k x p;have hl:=aC hc;exact ⟨b,o,e,(World.cell?_of_block (w:=w) (a:=(aq b (o+k))) (iB (show ¬S b from i _ e))).trans hc⟩
end Go.Proofs.YtindmkcnjlgomaaGreat
namespace Go.Proofs.YtindmkcnjlgomaaGreat
open Go.RowKit Go.Shelf
open Tryz
attribute [local go_sem] Oper.semAt_some
theorem nE (P:Program) (w:N5) (a:Addr) (i:Fn) (h ca:N2) (m:Mode):(store a (.func i h ca) m).run P w=stored P w a (.func i h ca) m:=run_store P w a _ m rfl
attribute [local go_sem] nE
structure hZ (w:N5) (L S B:Nat) (A:N0) (rs:List Rg) (c d:Nat) (tf:N6):Prop where
 l:w.heap[L]?=some (.cells #[.slice A rs.length c] 159 (0,0))
 s:w.heap[S]?=some (.cells #[.func (.func 147) #[] #[(ar B)]] tf (0,0))
 b:w.heap[B]?=some (.cells #[H8 d] 3 (0,0))
 r:Rd w A (aI rs)
theorem hZ.below {w i:N5} {L S B:Nat} {A:N0} {rs:List Rg} {c d:Nat} {o:N6} (h:hZ w L S B A rs c d o) (hb:ap w i):hZ i L S B A rs c d o:=
 ⟨sb h.l _ hb,sb h.s _ hb,sb h.b _ hb,h.r.below hb⟩
theorem vd (lo h d B:Nat) (w:N5) (hB:w.heap[B]?=some (.cells #[H8 d] 3 (0,0))) (D:lo<=1048576) (C:h<=1048576) (H:d<=1048576):Calls prog 147 #[.agg #[H8 lo,H8 h],(ar B)] w λe A=>e=.returned (.agg #[H8 ((lo+d:Nat):Int),H8 ((h+d:Nat):Int)])/\ap w A:=by
 have hb:=bx1 hB;have hl:=F1 hB;have o:((lo+d:Nat):Int)=(lo:Int)+d:=ao;have y:((h+d:Nat):Int)=(h:Int)+d:=ao;rw [o,y];clear o y hB;go_enter func147,ntmps147;go_wp2_with fail;have o:=F4 (w.alloc (.cells #[H8 lo,H8 h] 69)) (.cells #[H8 ((lo:Int)+d),H8 ((h:Int)+d)] 69);obtain ⟨u,i⟩:∃u,u=(w.alloc (.cells #[H8 lo,H8 h] 69)).alloc (.cells #[H8 ((lo:Int)+d),H8 ((h:Int)+d)] 69):=⟨_,rfl⟩;have p:ap w u:=by rw [i];exact ((Gb _ w).alloc (F3 _) _).alloc (by simp) _
 rw [<-i,Gp] at o;rw [<-i];have x:=bx2 o;exact Gm (v:=.agg #[H8 ((lo:Int)+d),H8 ((h:Int)+d)]) (by simp [results,results147,go_sem,x]) rfl ⟨rfl,p⟩
def wz (r:Rg):N2:=#[.agg #[H8 (r.1:Int),H8 (r.2:Int)]]
theorem xB {α:Type} {l:List α} {k:Nat} {x:α} (h:l[k]?=some x):l.take (k+1)=l.take k++[x]:=by
 rw [List.take_add_one,h];rfl
theorem qr (A:N0) (rs:List Rg) (c d:Nat) (w:N5) (hr:Rd w A (aI rs)):Calls prog 122 #[.slice A rs.length c,H8 d] w λe u=>∃L S B,e=.returned (.func (.func 148) #[] #[(ar L),(ar S)])/\hZ u L S B A rs c d 258/\(w.heap.size<=L/\w.heap.size<=S/\w.heap.size<=B)/\ap w u:=by
 obtain ⟨n,hn⟩:∃n,n=rs.length:=⟨_,rfl⟩;rw [<-hn];obtain ⟨I,H⟩:=ab hn hr;clear hn hr;go_enter func122,ntmps122;go_wp2_with fail;have a1:=F4 w (.cells #[.slice A n c] 159);have p:ap w (w.alloc (.cells #[.slice A n c] 159)):=(Gb _ w).alloc (F3 _) _;have s1:=Gp w (.cells #[.slice A n c] 159);generalize w.alloc (.cells #[.slice A n c] 159)=W1 at *;have x:=F4 W1 (.cells #[H8 d] 3);have y:ap W1 (W1.alloc (.cells #[H8 d] 3)):=(Gb _ W1).alloc (F3 _) _;have s2:=Gp W1 (.cells #[H8 d] 3);generalize W1.alloc (.cells #[H8 d] 3)=W2 at *;have C:=F4 W2 (.cells #[.func (.func 147) #[] #[(ar (w.heap.size+1))]] 258);have D:ap W2 (W2.alloc (.cells #[.func (.func 147) #[] #[(ar (w.heap.size+1))]] 258)):=(Gb _ W2).alloc (F3 _) _;generalize W2.alloc (.cells #[.func (.func 147) #[] #[(ar (w.heap.size+1))]] 258)=W3 at *;have i:=y.trans (D.mono y.size);have h:=p.trans (i.mono p.size);rw [s2,s1] at C;rw [s1] at x
 exact Gm (v:=.func (.func 148) #[] #[(ar w.heap.size),(ar (w.heap.size+1+1))]) (by simp [results,results122,go_sem]) rfl
  ⟨w.heap.size,w.heap.size+1+1,w.heap.size+1,rfl,⟨by rw [<-I.o];exact sb a1 _ i,C,sb x _ D,H.o.below h⟩,⟨F3 _,by omega,by omega⟩,h⟩
theorem yT (n l L S B:Nat) (A:N0) (rs:List Rg) (c d:Nat) (Kp:N5->N5->Prop) (U:∀W C,hZ W L S B A rs c d 258->Kp W C->hZ C L S B A rs c d 258) (y:rs.length<=1048576) (hd:d<=1048576) (a5:∀r∈rs,r.1<=1048576/\r.2<=1048576) (J Jx:List Rg->N5->Prop) (Bx:Nat) (hJ:AbidesFrom Bx J) (hY:∀p x W,J p W->x∈shR d rs->p.length<rs.length->YieldAt Fence.wide (n-1) prog l (wz x) W λe C=> (e=.returned (.bool true)/\J (p++[x]) C/\Kp W C)\/(e=.returned (.bool false)/\Jx (p++[x]) C)) (W:N5) (hA:hZ W L S B A rs c d 258) (h0:J [] W):
  CallsIn Fence.wide n prog 148 #[.func (.yield l) #[] #[],(ar L),(ar S)] W λe C=>(∃v,e=.returned v)/\
   ((∃ys,ys=shR d rs/\J ys C)\/(∃p,True/\Jx p C)):=by
 have xL:=bx1 hA.l;obtain ⟨N,Q⟩:∃N,N=rs.length:=⟨_,rfl⟩;rw [<-Q] at hY y xL;obtain ⟨R,HA,HK⟩:=ae Q hA U;clear Q hA U;refine callsIn_of_wp func148 rfl trivial ?_ rfl;simp only [ntmps148,List.size_toArray,List.length_cons,List.length_nil,Nat.reduceAdd,Nat.reduceSub,Array.replicate_succ,Array.replicate_zero,List.push_toArray,List.append_toArray,List.nil_append,List.cons_append]
 gi_wp2
 gi_loopw [8] (λi wr=>∃k:Nat,k<=N/\i=H8 k/\J ((shR d rs).take k) wr/\hZ wr L S B A rs c d 258) (λi _=>N-(intOf i).toNat)
 ·exact ⟨0,Gc _,rfl,h0,HA.o⟩
 case round=>
  obtain ⟨k,hk,rfl,u,hL⟩:=hrel;clear xL h0 HA W;by_cases a4:k<N
  ·obtain ⟨r,hr⟩:∃r,rs[k]?=some r:=⟨_,GG (by rw [<-R.o];exact a4)⟩;have T:=a5 r (List.mem_of_getElem? hr);have H:=iu hr;obtain ⟨g,o,rfl,c0⟩:=hL.r _ _ H.1;obtain ⟨g',o',e',c1⟩:=hL.r _ _ H.2;obtain ⟨rfl,rfl⟩:g'=g/\o'=o:=by simpa using e'.symm
   rw [<-GX] at c1;have xS:=bx1 hL.s;have lS:=aC xS.1;obtain ⟨O,Hr,HL⟩:=ae u hr hL;clear u hr H e' hL;have y:((shR d rs).take k).length<N:=by rw [GL,jK];omega
   have hx:(shR d rs)[k]?=some (r.1+d,r.2+d):=by simp [shR,Hr.o]
   have Hx:=aa hx;have qa:ap wr (wr.alloc (.cells #[H8 (r.1:Int),H8 (r.2:Int)] 69)):=(Gb _ wr).alloc (F3 _) _;clear hx
   gi_wp2_with fail
   refine ⟨trivial,(λh=>by cases h),?_⟩;refine (callsIn_wide.2 (vd r.1 r.2 d B _ (HL.o.below qa).b T.1 T.2 hd)).mono ?_;rintro e w3 ⟨rfl,a1⟩;have I:=qa.trans (a1.mono qa.size);have a0:=hJ _ _ _ none O.o (iV I) (λ_ h=>by cases h);obtain ⟨fn,tmps,a2,a8,hy,hR⟩:=hY _ (r.1+d,r.2+d) w3 a0 (List.mem_of_getElem? Hx.o) y;unfold wz at hy;dsimp only at hy;rw [Int.natCast_add,Int.natCast_add] at hy;have a3:=aa (HL.o.below I);clear a0 a1 I qa xS lS c0 c1
   gi_wp2
   refine ⟨(λh=>by cases h),?_⟩;refine hR.mono ?_;rintro e w5 (⟨rfl,V,Z⟩ | ⟨rfl,Y⟩)
   ·obtain ⟨a7,a6⟩:=ab V Z;clear V Z
    gi_wp2
    go_roundw
    ·exact ⟨k+1,by omega,by go_num,by rw [xB Hx.o];exact a7.o,HK.o _ _ a3.o a6.o⟩
    ·simp [intOf];omega
   ·gi_wp2
    refine Gm (results_none rfl _ _ _) rfl ?_;exact ⟨⟨_,rfl⟩,.inr ⟨_,trivial,Y⟩⟩
  ·obtain rfl:k=N:=ao;have D:(shR d rs).take k=shR d rs:=List.take_of_length_le (by rw [jK,R.o];exact F3 _);rw [D] at u;have O:=aa u;clear u D
   gi_wp2
   go_end0
   exact ⟨⟨_,rfl⟩,.inl ⟨_,rfl,O.o⟩⟩
structure Kd (n₁ n₂:Nat) (W W':N5):Prop where
 size:W.heap.size<=W'.heap.size
 block:∀k,n₁<=k->k<n₂->W'.heap[k]?=W.heap[k]?
theorem Kd.trans {o i:Nat} {A B C:N5} (h:Kd o i A B) (k:Kd o i B C):Kd o i A C:=⟨Ge h.size k.size,λj u p=>(k.block j u p).trans (h.block j u p)⟩
theorem FQ {x u:Nat} {w:N5} (hn:u<=w.heap.size) (W:N5) (l:Nat) (o i:Obj) (hl:w.heap.size<=l) (h:W.heap[l]?=some o) (v:o.isCells=false) (p:o.isWalk=false):Kd x u W (W.putObj l i):=
 ⟨(belowK_b hn W l o i hl h v p).size,λk _ hk=>(belowK_b hn W l o i hl h v p).block k hk⟩
theorem s9 {p i:Nat} {W o:N5} (h:Below i W o):Kd p i W o:=⟨h.size,λk _ hk=>h.block k hk⟩
structure zC (n₁ n₂ L S B:Nat) (A:N0):Prop where
 l:n₁<=L/\L<n₂
 s:n₁<=S/\S<n₂
 b:n₁<=B/\B<n₂
 a:∀x,A=some x->n₁<=x.block/\x.block<n₂
theorem hZ.kd {p i:Nat} {W v:N5} {L S B:Nat} {A:N0} {rs:List Rg} {c d:Nat} {u:N6} (h:hZ W L S B A rs c d u) (hb:zC p i L S B A) (k:Kd p i W v):hZ v L S B A rs c d u:=
 ⟨(k.block _ hb.l.1 hb.l.2).trans h.l,(k.block _ hb.s.1 hb.s.2).trans h.s,(k.block _ hb.b.1 hb.b.2).trans h.b,λj x y=>by
  obtain ⟨b,o,e,hc⟩:=h.r j x y;refine ⟨b,o,e,?_⟩;have:=hb.a _ e;rw [World.cell?] at hc ⊢;rw [k.block b this.1 this.2]
  exact hc⟩
theorem s7 (n v u L S B:Nat) (A:N0) (rs:List Rg) (c d:Nat) (w:N5) (N:hZ w L S B A rs c d 258) (hB:zC v u L S B A) (i:rs.length<=1048576) (y:d<=1048576) (o:∀r∈rs,r.1<=1048576/\r.2<=1048576):
  SeqStopsK Fence.wide n prog 148 #[(ar L),(ar S)] wz (Kd v u) (λD=>D=shR d rs) (λ_=>True) rs.length w:=λl J O W C H _ Q I=>
 yT n l L S B A rs c d (Kd v u) (λ_ _ h k=>h.kd hB k) i y o J O _ H (λp x W h _=>Q p x W h) W (N.below C) I
theorem ig {w:N5} {base:Nat} {e:N6} {size n c:Nat} {A:N0} {xs:N4} (h:w.ownsRow base e size (.slice A n c) n xs):∀x,A=some x->base<=x.block/\x.block<w.heap.size:=λx o=>by
 rcases h.2 with ⟨i,_⟩ | ⟨g,cap,p,i,hb,u,_⟩
 ·simp only [GT] at i;rw [o] at i;cases i.1
 ·simp only [GT] at i;rw [o] at i;cases i.1;exact ⟨hb,F1 u⟩
attribute [local go_sem] Oper.semAt_some
theorem su (l:List Rg) (x:Rg):aI (l++[x])=aI l++[H8 (x.1:Int),H8 (x.2:Int)]:=by simp [aI]
theorem CU (L S B:Nat) (A:N0) (rs:List Rg) (c d:Nat) (w:N5) (hA:hZ w L S B A rs c d 258) (hB:zC 0 w.heap.size L S B A) (N:rs.length<=1048576) (hd:d<=1048576) (V:∀r∈rs,r.1<=1048576/\r.2<=1048576):Calls prog 146 #[H9,.func (.func 148) #[] #[(ar L),(ar S)]] w λe w'=>∃v,e=.returned v/\w'.ownsRow w.heap.size 69 2 v rs.length (aI (shR d rs))/\ap w w':=by
 have I:=λn=>s7 n 0 w.heap.size L S B A rs c d w hA hB N hd V;have U:=aa I;clear I;refine (callsIn_wide (n:=3)).1 ?_;refine callsIn_of_wp_marks func146 rfl trivial ?_ rfl;simp only [ntmps146,List.size_toArray,List.length_cons,List.length_nil,Nat.reduceAdd,Nat.reduceSub,Array.replicate_succ,Array.replicate_zero,List.push_toArray,List.append_toArray,List.nil_append,List.cons_append]
 gi_wp2_with fail
 have y:ap w (w.alloc (.cells #[H9] 159)):=(Gb _ w).alloc (F3 _) _
 refine' wpIn_rangeFunc_ownH (F:=Fence.wide) (n:=3) rfl ao (gf:=148) (lb:=#[(ar L),(ar S)]) rfl trivial (enters_of func148 (by kernel_rfl) rfl)
  (U.o _) Kd.trans (FQ y.size) y (λ_=>rfl)
  (λ(p:List Rg) W=>(∃v,Boxed W w.heap.size 159 v/\W.ownsRow w.heap.size 69 2 v p.length (aI p)/\True)/\ap w W)
  (λ_ _ _=>False)
  (OwnFrom.and (Own.from (holdsRow_own w.heap.size w.heap.size 159 69 2 (λp:List Rg=>p.length) (λp=>aI p) (λ_ _=>True)) _) (ownFrom_below (F3 _) y.size))
  (λ_ _ _ _ _ hs _ _=>hs)
  ⟨⟨_,Boxed.new w 159 (H9),Gj _ _ _ _,trivial⟩,y⟩
  (λ(x:Rg) Y W=>∃b,Y={tmps:=#[H9,.func (.func 148) #[] #[(ar L),(ar S)],(ar w.heap.size),undef,H9,(ar b),.func (.func 148) #[] #[(ar L),(ar S)],.agg #[H8 (x.1:Int),H8 (x.2:Int)],undef,undef,undef,undef,undef],defers:=[]}/\W.heap[b]?=some (.cells #[H8 (x.1:Int),H8 (x.2:Int)] 69 (0,0)))
  (λx Y _ W W' row h hg hr=>by obtain ⟨b,e,hb⟩:=h;exact ⟨b,e,ez _ b _ rfl () W W' row hb hg hr⟩)
  ?assign ?body ?done ?stop
 case assign=>
  rintro l p x W K ⟨⟨v,C,i,_⟩,u⟩ J;unfold wz;have R:ap W (W.alloc (.cells #[H8 (x.1:Int),H8 (x.2:Int)] 69)):=(Gb _ W).alloc (F3 _) _
  gi_wp2
  refine J _ _ ((KeepsOthers.of_grownBy (row:=none) (iV R) (λ_ _ h=>by cases h)).from _) (s9 (R.mono u.size)) ⟨⟨v,C.alloc _,i.alloc _,trivial⟩,u.trans (R.mono u.size)⟩ ⟨_,rfl,F4 _ _⟩
 case body=>
  rintro l p x Y W _ _ ⟨⟨v,C,i,_⟩,u⟩ ⟨b,rfl,hb⟩ H;have hc:=C.cell;have hW:=u.size;have a0:=aC hc;have xb:=bx2 hb;have lb:=F1 hb;have R:ap W (W.alloc (.cells #[H8 (x.1:Int),H8 (x.2:Int)] 69)):=(Gb _ W).alloc (F3 _) _;obtain ⟨Hv,O,Z,Q,HW⟩:=ag C i u H hW;clear C i u H hW hb
  gi_wp2_with (gi_at_builtin;refine jW iY W rfl (.tmp 8) (.tmp 10) rfl w.heap.size w.heap.size v p.length _ rfl Hv.o (by decide) O.o [H8 (x.1:Int),H8 (x.2:Int)] rfl rfl (by simp [Value.oneCell']) (by have:=Q.o;omega) (by have:=Q.o;unfold maxLen;omega) HW.o (F3 _) ?_)
  intro g1 c1 w1 T k2 k3 k4 k5 k6;have a2:=T.cell;have a1:=T.frozen;obtain ⟨K2,K3,K4,K5⟩:=af k2 k3 k4 k5;clear T k2 k3 k4 k5 k6 hc xb
  gi_wp2_with fail
  exact ⟨K4.o.from _,s9 K5.o,⟨⟨_,K2.o,by rw [GE,su];exact K3.o,trivial⟩,Z.o.trans K5.o⟩⟩
 case done=>
  rintro D ys W hD rfl ⟨⟨v,C,i,_⟩,u⟩ J;have hc:=C.cell
  gi_wp2
  refine ⟨by simp,.inl ⟨_,_,rfl,run_takeDeferred J,?_⟩⟩;rw [jK] at i;refine ⟨v,by simp [results,results146,go_sem],v,rfl,ownsRow_putObj i _ J rfl,u.trans (belowK_b (w:=w) (F3 _) W D _ _ (by simp at hD;omega) J rfl rfl)⟩
 case stop=>
  rintro D c p W _ _ h _;exact h.elim
theorem tH (L S B:Nat) (A:N0) (rs:List Rg) (c d:Nat) (w:N5) (y:hZ w L S B A rs c d 258) (hB:zC 0 w.heap.size L S B A) (i:rs.length<=1048576) (u:d<=1048576) (p:∀r∈rs,r.1<=1048576/\r.2<=1048576):Calls prog 121 #[.func (.func 148) #[] #[(ar L),(ar S)]] w λe x=>∃v,e=.returned v/\x.ownsRow w.heap.size 69 2 v rs.length (aI (shR d rs))/\ap w x:=by
 have h:=CU L S B A rs c d w y hB i u p;have H:=aa h;clear h y hB i u p;go_enter func121,ntmps121;go_wp2_with fail;refine H.o.mono ?_;rintro e J ⟨v,rfl,C,D⟩;have I:=aa C;clear C;go_wp2_with fail;go_ret;exact ⟨_,rfl,I.o,D⟩
end Go.Proofs.YtindmkcnjlgomaaGreat
namespace Go.Proofs.YtindmkcnjlgomaaGreat
open Go.RowKit
open Tryz
theorem Cm {n k:Nat} (h:1<=k) (hn:n<=1048576):∀r∈fR n k,r.1<=1048576/\r.2<=1048576:=by
 intro r hr;simp only [fR,List.mem_map,List.mem_range] at hr;obtain ⟨i,o,rfl⟩:=hr;have a:=fz n k i h ao;have b:=fz n k (i+1) h ao;exact ⟨by simp only;omega,by simp only;omega⟩
theorem D8 {n s:Nat} (hn:n<=1048576):∀r∈dU n s,r.1<=1048576/\r.2<=1048576:=by
 intro r hr;simp only [dU,List.mem_map,List.mem_range] at hr;obtain ⟨i,h,rfl⟩:=hr;have:=fe h;exact ⟨by simp only;omega,by simp only;omega⟩
theorem An (lo h k:Nat) (w:N5) (h1:1<=k) (h2:k<=1048576) (h3:lo<=1048576) (h4:h<=1048576):Calls prog 83 #[.agg #[H8 lo,H8 h],H8 k] w λe y=>∃v,e=.returned v/\y.ownsRow w.heap.size 69 2 v k (aI (bY (lo,h) k))/\ap w y:=by
 obtain ⟨u,i⟩:∃u,w.alloc (.cells #[H8 lo,H8 h] 69)=u:=⟨_,rfl⟩;have h0:u.heap[w.heap.size]?=some (.cells #[H8 lo,H8 h] 69 (0,0)):=by rw [<-i];exact F4 w _
 have H:ap w u:=by rw [<-i];exact (br w).alloc (F3 _) _
 have t0:=λy q=>bx2 (sb h0 y q);obtain ⟨O,p⟩:=ab i H;clear i h0 H;have T:an (bY (lo,h) k=shR lo (fR (h-lo) k)):=aa rfl;go_enter func83,ntmps83;have q0:=br u;go_wp2_with fail;rw [O.o];refine HA.g (λy:N5=>ap u y) ?_;refine HA.t ?_ [0,2,4,5] q0.drew ?_;refine HA.c 1 (nK lo h _ h3 h4) ?_;rintro e w1 ⟨rfl,Z⟩;have R:=bt q0.drew Z;refine ⟨_,rfl,R,λ_=>?_⟩;refine HA.c 3 (tA (h-lo) k _ h1 h2 ao) ?_;rintro e w2 ⟨v2,rfl,J,k2⟩;obtain ⟨A,c,rfl,_⟩:=aE J;have V:=bt R k2;have hl:=qr A (fR (h-lo) k) c lo w2 (Rd.own J);rw [ge] at hl;refine ⟨_,rfl,V,λ_=>?_⟩;refine HA.c 6 hl ?_;rintro e w3 ⟨L,S,B,rfl,C,Y,Q⟩;have D:zC 0 w3.heap.size L S B A:=⟨⟨Gc _,F1 C.l⟩,⟨Gc _,F1 C.s⟩,⟨Gc _,F1 C.b⟩,λx hx=>⟨Gc _,Gf (ig J x hx).2 Q.size⟩⟩;clear Y;have I:=bt V Q;refine ⟨_,rfl,I,λ_=>?_⟩;refine HA.c 7 (tH L S B A _ c lo w3 C D (by rw [ge];exact h2) h3 (Cm h1 ao)) ?_;rintro e w4 ⟨v4,rfl,U,k4⟩;have N:=bt I k4;refine ⟨_,rfl,N,λ_=>?_⟩;refine HA.t ?_ [8] N ?_;refine HA.d ?_;have hB:=aa (p.o.trans (N.mono p.o.size));rw [ge,<-T.out] at U;have O4:=aa (aG (base':=w.heap.size) U (Ge p.o.size I.size));clear U J hl C D Z k2 Q k4 R V I N t0;go_wp2_with fail;go_ret;exact ⟨_,rfl,O4.o,hB.o⟩
theorem tJ (lo h k:Nat) (w:N5) (h1:1<=k) (h2:k<=1048576) (h3:lo<=1048576) (h4:h<=1048576):Calls prog 84 #[.agg #[H8 lo,H8 h],H8 k] w λe C=>∃v,e=.returned v/\C.ownsRow w.heap.size 69 2 v (chR (lo,h) k).length (aI (chR (lo,h) k))/\ap w C:=by
 obtain ⟨y,i⟩:∃y,w.alloc (.cells #[H8 lo,H8 h] 69)=y:=⟨_,rfl⟩;have h0:y.heap[w.heap.size]?=some (.cells #[H8 lo,H8 h] 69 (0,0)):=by rw [<-i];exact F4 w _
 have I:ap w y:=by rw [<-i];exact (br w).alloc (F3 _) _
 have t0:=λC q=>bx2 (sb h0 C q);obtain ⟨U,u⟩:=ab i I;clear i h0 I;have J:an (chR (lo,h) k=shR lo (dU (h-lo) k)):=aa rfl;go_enter func84,ntmps84;have q0:=br y;go_wp2_with fail;rw [U.o];refine HA.g (λC:N5=>ap y C) ?_;refine HA.t ?_ [0,2,4,5] q0.drew ?_;refine HA.c 1 (nK lo h _ h3 h4) ?_;rintro e w1 ⟨rfl,k1⟩;have Y:=bt q0.drew k1;refine ⟨_,rfl,Y,λ_=>?_⟩;have p:=ja (h-lo) k w1 ao h1 h2;have O:=fF (h-lo) k;rw [<-lX,<-dt] at p;rw [<-dt] at O;refine HA.c 3 p ?_;rintro e w2 ⟨v2,rfl,R,k2⟩;obtain ⟨A,c,rfl,_⟩:=aE R;have q2:=bt Y k2;have hl:=qr A (dU (h-lo) k) c lo w2 (Rd.own R);refine ⟨_,rfl,q2,λ_=>?_⟩;refine HA.c 6 hl ?_;rintro e w3 ⟨L,S,B,rfl,D,a0,V⟩;have H:zC 0 w3.heap.size L S B A:=⟨⟨Gc _,F1 D.l⟩,⟨Gc _,F1 D.s⟩,⟨Gc _,F1 D.b⟩,λx hx=>⟨Gc _,Gf (ig R x hx).2 V.size⟩⟩;clear a0;have Q:=bt q2 V;refine ⟨_,rfl,Q,λ_=>?_⟩;refine HA.c 7 (tH L S B A _ c lo w3 D H ao h3 (D8 ao)) ?_;rintro e w4 ⟨v4,rfl,Z,k4⟩;have T:=bt Q k4;refine ⟨_,rfl,T,λ_=>?_⟩;refine HA.t ?_ [8] T ?_;refine HA.d ?_;have hB:=aa (u.o.trans (T.mono u.o.size));have N:(chR (lo,h) k).length=(dU (h-lo) k).length:=by rw [J.out,jK]
 rw [<-J.out,<-N] at Z;have O4:=aa (aG (base':=w.heap.size) Z (Ge u.o.size Q.size));clear Z R hl D H p O N k1 k2 V k4 Y q2 Q T t0;go_wp2_with fail;go_ret;exact ⟨_,rfl,O4.o,hB.o⟩
end Go.Proofs.YtindmkcnjlgomaaGreat
namespace Go.Proofs.YtindmkcnjlgomaaGreat
open Go.RowKit Go.Shelf
open Tryz
attribute [local go_sem] Oper.semAt_some
theorem rD (s:Rg) (c:Nat):(chR s c).length=be (s.2-s.1) c:=by rw [chR,jK,dt]
theorem Dt {b:Rg} {k:Nat} (h:1<=k) (o:b.1<=1048576) (hb:b.2<=1048576):∀r∈bY b k,r.1<=1048576/\r.2<=1048576:=by
 intro r hr;simp only [bY,shR,fR,List.map_map,List.mem_map,List.mem_range,Function.comp] at hr;obtain ⟨i,p,rfl⟩:=hr;have a:=fz (b.2-b.1) k i h ao;have c:=fz (b.2-b.1) k (i+1) h ao;exact ⟨by simp only;omega,by simp only;omega⟩
end Go.Proofs.YtindmkcnjlgomaaGreat
namespace Go.Proofs.YtindmkcnjlgomaaGreat
open Go.RowKit
open Tryz
theorem xA (n:Int) (W:Nat) (h:1<=W):n%(W:Int)=if n.tmod W<0 then n.tmod W+W else n.tmod W:=by
 rw [Int.tmod_eq_emod];have o:=Int.emod_nonneg n (show (W:Int)≠0 by omega);have p:=Int.emod_lt_of_pos n (show (0:Int)<W by omega);have i:((W:Int).natAbs:Int)=W:=by simp
 split<;>split<;>omega
theorem Dl (n:Int) (W:Nat) (h:1<=W): -(W:Int)<n.tmod W/\n.tmod W<W:=by
 rw [Int.tmod_eq_emod];have u:=Int.emod_nonneg n (show (W:Int)≠0 by omega);have p:=Int.emod_lt_of_pos n (show (0:Int)<W by omega);have i:((W:Int).natAbs:Int)=W:=by simp
 split
 ·omega
 ·rename_i o
  have:n%(W:Int)≠0:=λe=>o (.inr (Int.dvd_of_emod_eq_zero e));omega
theorem jb (st bk lo v W c:Nat) (n:Int) (w:N5) (i:1<=W) (x:W<=1048576) (hn: -(W:Int)<=n) (u:n<=2*W):Calls prog 51 #[.agg #[H8 (st:Nat),H8 (bk:Nat),H8 (lo:Nat),H8 (v:Nat),H8 (W:Nat),H8 (c:Nat)],H8 n] w λe o=>e=.returned (H8 (n%(W:Int)))/\ap w o:=by
 have y:¬((W:Int)=0):=ao;have hm:=Dl n W i;have he:=xA n W i;obtain ⟨r,hr⟩:∃r,n.tmod (W:Int)=r:=⟨_,rfl⟩;rw [hr] at hm he;by_cases h:r<0
 ·rw [if_pos h] at he;rw [he];have p:=aa he;clear he;go_enter func51,ntmps51;go_wp2_with fail;go_ret;exact ⟨rfl,(br w).alloc (F3 _) _⟩
 ·rw [if_neg h] at he;rw [he];have p:=aa he;clear he;go_enter func51,ntmps51;go_wp2_with fail;go_ret;exact ⟨rfl,(br w).alloc (F3 _) _⟩
theorem mw (st bk lo u W c x r:Nat) (w:N5) (B:1<=W) (A:W<=1048576) (C:x<W) (hr:r<W):Calls prog 119 #[.agg #[H8 (st:Nat),H8 (bk:Nat),H8 (lo:Nat),H8 (u:Nat),H8 (W:Nat),H8 (c:Nat)],H8 x,H8 r] w λe h=>e=.returned (H8 (((x:Int)-r)%(W:Int)))/\ap w h:=by
 have p:=λh=>jb st bk lo u W c ((x:Int)-r) h B A ao ao;have y:=aa p;clear p;go_enter func119,ntmps119;go_wp2_with fail;refine (y.o _).mono ?_;rintro e v ⟨rfl,i⟩;have hB:ap w v:=((br w).alloc (F3 _) _).trans (i.mono (by simp));clear i;go_wp2_with fail;go_ret;exact ⟨rfl,hB⟩
theorem oF (st bk lo u W c x r:Nat) (w:N5) (B:1<=W) (A:W<=1048576) (C:x<W) (hr:r<W):Calls prog 120 #[.agg #[H8 (st:Nat),H8 (bk:Nat),H8 (lo:Nat),H8 (u:Nat),H8 (W:Nat),H8 (c:Nat)],H8 x,H8 r] w λe h=>e=.returned (H8 (((x:Int)+1-r)%(W:Int)))/\ap w h:=by
 have p:=λh=>jb st bk lo u W c ((x:Int)+1-r) h B A ao ao;have y:=aa p;clear p;go_enter func120,ntmps120;go_wp2_with fail;refine (y.o _).mono ?_;rintro e v ⟨rfl,i⟩;have hB:ap w v:=((br w).alloc (F3 _) _).trans (i.mono (by simp));clear i;go_wp2_with fail;go_ret;exact ⟨rfl,hB⟩
theorem ut {W x ph r:Nat} (hr:r<W) (n:Int) (hn:n=(x:Int)+ph-r):n%(W:Int)=((bU W x ph r:Nat):Int):=by
 unfold bU;rw [Int.natCast_emod,show ((x+(2*W+ph-r):Nat):Int)=n+2*W by omega,Int.add_mul_emod_self_right]
theorem pV {W x ph r:Nat} (hr:r+1<=W) (n:Int) (hn:n=((x:Int)-1)%(W:Int)+ph-r):n%(W:Int)=((aO W x ph r:Nat):Int):=by
 unfold aO;rw [Int.natCast_emod,show ((x+(2*W+ph-r-1):Nat):Int)=((x:Int)-1+ph-r)+2*W by omega,Int.add_mul_emod_self_right,hn,Int.add_sub_assoc,Int.emod_add_emod,Int.add_sub_assoc]
theorem B8 (w:N5) (f g:Fn):(Instr.index 218 (.agg #[.func f #[] #[],.func g #[] #[]]) (H8 0)).run prog w=.ok (.func f #[] #[]) w:=by
 simp [Instr.index,run_underlying underlying218,asIntOf,go_sem]
theorem DX (w:N5) (f g:Fn):(Instr.index 218 (.agg #[.func f #[] #[],.func g #[] #[]]) (H8 1)).run prog w=.ok (.func g #[] #[]) w:=by
 simp [Instr.index,run_underlying underlying218,asIntOf,go_sem]
attribute [local go_sem] B8 DX
theorem Ay (st bk lo A W c x ph r:Nat) (w:N5) (C:1<=W) (B:W<=1048576) (D:x<W) (H:ph<2) (hr:r+1<W):Calls prog 82 #[.agg #[H8 (st:Nat),H8 (bk:Nat),H8 (lo:Nat),H8 (A:Nat),H8 (W:Nat),H8 (c:Nat)],H8 x,H8 ph,H8 r,.bool true] w λe u=>e=.returned (.tuple #[H8 (bU W x ph r:Nat),.bool true])/\ap w u:=by
 have g1:(x:Int)<W:=ao;have I:(r:Int)<(W:Int)-1:=ao;have i:=ut (W:=W) (x:=x) (ph:=ph) (r:=r) ao _ rfl;obtain rfl | rfl:ph=0\/ph=1:=ao
 ·have h:=λu=>mw st bk lo A W c x r u C B D ao;rw [show ((x:Int)+(0:Nat)-r)=(x:Int)-r by omega] at i;rw [i] at h;have y:=aa h;clear h i;go_enter func82,ntmps82;go_wp2_with fail;refine (y.o _).mono ?_;rintro e v ⟨rfl,p⟩;have hB:ap w v:=((br w).alloc (F3 _) _).trans (p.mono (by simp));clear p;go_wp2_with fail;go_ret2;exact ⟨rfl,hB⟩
 ·have h:=λu=>oF st bk lo A W c x r u C B D ao;rw [show ((x:Int)+(1:Nat)-r)=(x:Int)+1-r by omega] at i;rw [i] at h;have y:=aa h;clear h i;go_enter func82,ntmps82;go_wp2_with fail;refine (y.o _).mono ?_;rintro e v ⟨rfl,p⟩;have hB:ap w v:=((br w).alloc (F3 _) _).trans (p.mono (by simp));clear p;go_wp2_with fail;go_ret2;exact ⟨rfl,hB⟩
theorem Az (st bk lo I W c x ph r:Nat) (w:N5) (V:1<=W) (U:W<=1048576) (hx:x<W) (hp:ph<2) (hr:r+1<W):Calls prog 82 #[.agg #[H8 (st:Nat),H8 (bk:Nat),H8 (lo:Nat),H8 (I:Nat),H8 (W:Nat),H8 (c:Nat)],H8 x,H8 ph,H8 r,.bool false] w λe i=>e=.returned (.tuple #[H8 (aO W x ph r:Nat),.bool true])/\ap w i:=by
 have g1:(x:Int)<W:=ao;have g2:(r:Int)<(W:Int)-1:=ao;obtain ⟨A,u⟩:∃A,w.alloc (.cells #[H8 (st:Nat),H8 (bk:Nat),H8 (lo:Nat),H8 (I:Nat),H8 (W:Nat),H8 (c:Nat)] 71)=A:=⟨_,rfl⟩;have Z:A.heap[w.heap.size]?=some (.cells #[H8 (st:Nat),H8 (bk:Nat),H8 (lo:Nat),H8 (I:Nat),H8 (W:Nat),H8 (c:Nat)] 71 (0,0)):=by rw [<-u];exact F4 w _
 have Q:ap w A:=by rw [<-u];exact (br w).alloc (F3 _) _
 have t0:=λi q=>bx6 (sb Z i q);have C:=λi=>jb st bk lo I W c ((x:Int)-1) i V U ao ao;have a0:IntKind.i64.wrap ((x:Int)-1)=(x:Int)-1:=Gd _ ao;obtain ⟨y,Y⟩:∃y:Nat,(y:Int)=((x:Int)-1)%(W:Int):=⟨(((x:Int)-1)%(W:Int)).toNat,Int.toNat_of_nonneg (Int.emod_nonneg _ ao)⟩;have L:y<W:=by have:=Int.emod_lt_of_pos ((x:Int)-1) (show (0:Int)<W by omega);omega
 rw [<-Y] at C;obtain ⟨N,p,O⟩:=ae u Q C;clear u Z Q C;obtain rfl | rfl:ph=0\/ph=1:=ao
 ·have R:=pV (W:=W) (x:=x) (ph:=0) (r:=r) ao ((y:Int)-r) (by rw [Y];omega);have h:=λi=>mw st bk lo I W c y r i V U L ao;rw [R] at h;have H:=aa h;clear h R;go_enter func82,ntmps82;have B:=br A;go_wp2_with fail;rw [N.o];refine HA.g (λi:N5=>ap A i) ?_;refine HA.t ?_ [0,1,2,3,4,6] B.drew ?_;refine HA.c 5 (O.o _) ?_;rintro e w1 ⟨rfl,J⟩;have D:=bt B.drew J;refine ⟨_,rfl,D,λ_=>?_⟩;refine HA.c 7 (H.o _) ?_;rintro e w2 ⟨rfl,T⟩;have v:=bt D T;refine ⟨_,rfl,v,λ_=>?_⟩;refine HA.t ?_ [8,9] v ?_;refine HA.d ?_;have hB:=p.o.trans (v.mono p.o.size);clear J T B D v t0;go_wp2_with fail;go_ret2;exact ⟨rfl,hB⟩
 ·have R:=pV (W:=W) (x:=x) (ph:=1) (r:=r) ao ((y:Int)+1-r) (by rw [Y];omega);have h:=λi=>oF st bk lo I W c y r i V U L ao;rw [R] at h;have H:=aa h;clear h R;go_enter func82,ntmps82;have B:=br A;go_wp2_with fail;rw [N.o];refine HA.g (λi:N5=>ap A i) ?_;refine HA.t ?_ [0,1,2,3,4,6] B.drew ?_;refine HA.c 5 (O.o _) ?_;rintro e w1 ⟨rfl,J⟩;have D:=bt B.drew J;refine ⟨_,rfl,D,λ_=>?_⟩;refine HA.c 7 (H.o _) ?_;rintro e w2 ⟨rfl,T⟩;have v:=bt D T;refine ⟨_,rfl,v,λ_=>?_⟩;refine HA.t ?_ [8,9] v ?_;refine HA.d ?_;have hB:=p.o.trans (v.mono p.o.size);clear J T B D v t0;go_wp2_with fail;go_ret2;exact ⟨rfl,hB⟩
theorem XA.v {P:Program} {ops:N9} {Q:Exit->Na->N5->Prop} {S:N5->Prop} {n:Nat} {L:List Nat} {a:Na} {w:N5} {o:Oper} (i:Nat) (h:N5) (v:Value) (u:S h) (k:XA P ops Q S n (i::L) (a.put o.dst v) h) (p:ops[i]?=some o:=by (simp only [Gw,Gy,Gz];rfl)) (hr:cC ops L=[i]:=by decide +kernel) (hw:Region.wanted o (yielded ops a.tmps)=true:=by rfl) (he:(execOp a.eval o).run P w=.ok (.value v) h:=by go_simp):XA P ops Q S n L a w:=by
 refine XA.one i p hr λy x=>?_;rw [if_pos hw];unfold Oper.wp;rw [he];exact x.out _ _ u λ_=>k
def bD (a:Acn):N4:=[.bool a.send,.bool a.add,H8 (a.st:Nat),H8 (a.bk:Nat),H8 (a.ph:Nat),H8 (a.rd:Nat),H8 (a.ch:Nat),H8 (a.at'.1:Nat),H8 (a.at'.2:Nat)]
def dm (l:List Acn):N4:=l.flatMap bD
theorem lp (l:List Acn) (a:Acn):dm (l++[a])=dm l++bD a:=by simp [dm]
theorem xa:cW prog 124 129 (.agg #[.bool false,.bool false,H8 0,H8 0,H8 0,H8 0,H8 0,H8 0,H8 0]) 9 64:=⟨underlying124,info_parts (by kernel_rfl),rfl,by decide⟩
theorem zB (snd:Bool) (i:Nat) (A:N0) (n c J u h N:Nat) (w:N5) (v:n<=i):Calls prog 85 #[.bool snd,H8 i,.slice A n c,(ar J),(ar u),(ar h),(ar N)] w λe o=>e=.returned (.tuple #[])/\o=w:=by
 have p:¬((i:Int)<n):=ao;go_enter func85,ntmps85;go_wp2_with fail
 go_end0
 exact ⟨rfl,rfl⟩
theorem C7 (snd:Bool) (i:Nat) (A:N0) (rs:List Rg) (n c J Pb Rb N base:Nat) (st bk lo hi W cc ph r:Nat) (x:Rg) (v:Value) (l:List Acn) (m:Nat) (w:N5) (hJ:w.heap[J]?=some (.cells #[H8 (st:Nat),H8 (bk:Nat),H8 (lo:Nat),H8 (hi:Nat),H8 (W:Nat),H8 (cc:Nat)] 71 (0,0))) (hP:w.heap[Pb]?=some (.cells #[H8 (ph:Nat)] 3 (0,0))) (hR:w.heap[Rb]?=some (.cells #[H8 (r:Nat)] 3 (0,0))) (hN:w.heap[N]?=some (.cells #[v] 124 (0,0))) (ho:w.ownsRow base 129 9 v m (dm l)) (hb:base<=w.heap.size) (hA:Rd w A (aI rs)) (hn:rs.length=n) (hx:rs[i]?=some x) (hm:m<=8388608) (ad:n<=1048576) (a2:∀y,A=some y->y.block<base):Calls prog 85 #[.bool snd,H8 i,.slice A n c,(ar J),(ar Pb),(ar Rb),(ar N)] w λe p=>e=.returned (.tuple #[])/\
   ∃v',p.heap[N]?=some (.cells #[v'] 124 (0,0))/\p.ownsRow base 129 9 v' (m+1) (dm (l++[⟨snd, !snd&&ph==0,st,bk,ph,r,i,x⟩]))/\Keep (λj=>j=N\/v.ownBlock=some j) w p:=by
 have a8:i<n:=by rw [<-hn];exact (GF.1 hx).1
 have a7:(i:Int)<n:=ao;have V:=iu hx;obtain ⟨g,o,rfl,c0⟩:=hA _ _ V.1;obtain ⟨g',o',e',c1⟩:=hA _ _ V.2;obtain ⟨rfl,rfl⟩:g'=g/\o'=o:=by simpa using e'.symm
 rw [<-GX] at c1;obtain ⟨h,Q⟩:∃h,w.alloc (.cells #[H8 (st:Nat),H8 (bk:Nat),H8 (ph:Nat),H8 (r:Nat),H8 (i:Nat)] 127)=h:=⟨_,rfl⟩;have h0:h.heap[w.heap.size]?=some (.cells #[H8 (st:Nat),H8 (bk:Nat),H8 (ph:Nat),H8 (r:Nat),H8 (i:Nat)] 127 (0,0)):=by rw [<-Q];exact F4 w _
 have D:ap w h:=by rw [<-Q];exact (br w).alloc (F3 _) _
 have xJ:=bx6 hJ;have xP:=bx1 hP;have xR:=bx1 hR;have U:=aA ho D;have nt:=λb cs t' sg (a6:h.heap[b]?=some (.cells cs t' sg)) (a4:t'≠129) (e:v.ownBlock=some b)=>aw a6 a4 U e.symm;have R:=sb hP _ D;have T:=sb hN _ D;have kP:=λp (q:Keep (λj=>v.ownBlock=some j) h p)=>(q.block _ (F1 R) (nt _ _ _ _ R (by decide))).trans R;have kN:=λp (q:Keep (λj=>v.ownBlock=some j) h p)=>(q.block _ (F1 T) (nt _ _ _ _ T (by decide))).trans T;have tP:=λp q=>bx1 (kP p q);have tN:=λp q=>bx1 (kN p q);have t0:=λp (q:Keep (λj=>v.ownBlock=some j) h p)=>bx5 ((q.block _ (F1 h0) (nt _ _ _ _ h0 (by decide))).trans h0)
 have a0:¬v.ownBlock=some g':=λe=>by
  have h1:=(U.lt g' e).1;have h2:=a2 _ rfl;simp only at h2;omega
 have d0:=λp (q:Keep (λj=>v.ownBlock=some j) h p)=>q.cell (av D c0) a0;have d1:=λp (q:Keep (λj=>v.ownBlock=some j) h p)=>q.cell (av D c1) a0;obtain ⟨HN,HO,O,a5⟩:=af kN U D Q;clear hJ hP hR hN ho D Q V hA e' hx hn h0 R T kP kN U nt a0 c0 c1 a2;go_enter func85,ntmps85;have q0:Keep (λj=>v.ownBlock=some j) h h.drew:=(Keep.refl _ _).drew;go_wp2_with fail;rw [a5.o];have a1:((ph:Int)==0)=(ph==0):=by rw [Bool.eq_iff_iff];simp
 cases snd
 ·refine XA.g 16 (λp:N5=>Keep (λj=>v.ownBlock=some j) h p) ?_;refine XA.t ?_ [0,1,2,3,4,5,6,7,8,9,10,11,12,13] q0 ?_;obtain ⟨a,ha⟩:∃a:Acn,a=⟨false,(!false&&ph==0),st,bk,ph,r,i,x⟩:=⟨_,rfl⟩;refine XA.v 14 (h.drew.alloc (.cells (bD a).toArray 129)) (.slice (some (aq h.heap.size 0)) 1 1) (q0.alloc _) ?_ rfl (by decide +kernel) rfl (by subst ha;go_simp;simp [bD,a1];try rfl);refine XA.o 15 (λK' hK=>?_) rfl (by decide +kernel);have hO:=(HO.o.drew).alloc (.cells (bD a).toArray 129);have a3:=O.o.size;refine cZ xa (.tmp 23) (.tmp 37) rfl rfl base v m _ rfl hO (some (aq h.heap.size 0)) 1 1 (bD a) rfl (λk u hu=>⟨_,_,rfl,by rw [GY,Ga _ h.heap.size k (bD a).toArray 129 (0,0) (F4 h.drew _)];simpa using hu⟩) rfl (by simp [bD,Value.oneCell']) ao (by unfold maxLen;omega) (by simp;omega) ?_;intro Y c5 H B Z L _;have I:Keep (λj=>v.ownBlock=some j) h H:=(q0.alloc _).grown L (λk hk=>.inr hk);refine hK.out _ _ I λ_=>?_;refine XA.e ?_;simp only [GC,GD];have C:=HN.o H I;have e3:=HE H N 0 _ _ (.slice Y (m+1) c5) C;have k1:Keep (λj=>j=N) H (H.setCell (aq N 0) (.slice Y (m+1) c5)):=Keep.setCell (S:=λj=>j=N) (Keep.refl _ _) (aq N 0) (.inr rfl) _;have o6:=k1.own B (λj hj e=>aw C (by decide) B (by rw [hj,e]));have k6:Keep (λj=>j=N\/v.ownBlock=some j) w (H.setCell (aq N 0) (.slice Y (m+1) c5)):=Keep.setCell (S:=λj=>j=N\/v.ownBlock=some j) ((Keep.below O.o).trans (I.mono λk _ hk=>.inr hk)) (aq N 0) (.inr (.inl rfl)) _;obtain ⟨E3,O6,K6,HA⟩:=af e3 o6 k6 ha;have xN:=tN H I;clear B Z L C e3 k1 o6 k6 tN tP t0 d0 d1 hK K' ha I hO;go_wp2_with fail
  go_end0
  refine ⟨rfl,_,by simpa using E3.o,?_,K6.o⟩;rw [lp,<-HA.o];exact O6.o
 ·refine XA.g 16 (λp:N5=>Keep (λj=>v.ownBlock=some j) h p) ?_;refine XA.t ?_ [0,1,2,3,4,5,6,7,8,9,10,11,12,13] q0 ?_;obtain ⟨a,ha⟩:∃a:Acn,a=⟨true,(!true&&ph==0),st,bk,ph,r,i,x⟩:=⟨_,rfl⟩;refine XA.v 14 (h.drew.alloc (.cells (bD a).toArray 129)) (.slice (some (aq h.heap.size 0)) 1 1) (q0.alloc _) ?_ rfl (by decide +kernel) rfl (by subst ha;go_simp;simp [bD,a1];try rfl);refine XA.o 15 (λK' hK=>?_) rfl (by decide +kernel);have hO:=(HO.o.drew).alloc (.cells (bD a).toArray 129);have a3:=O.o.size;refine cZ xa (.tmp 23) (.tmp 37) rfl rfl base v m _ rfl hO (some (aq h.heap.size 0)) 1 1 (bD a) rfl (λk u hu=>⟨_,_,rfl,by rw [GY,Ga _ h.heap.size k (bD a).toArray 129 (0,0) (F4 h.drew _)];simpa using hu⟩) rfl (by simp [bD,Value.oneCell']) ao (by unfold maxLen;omega) (by simp;omega) ?_;intro Y c5 H B Z L _;have I:Keep (λj=>v.ownBlock=some j) h H:=(q0.alloc _).grown L (λk hk=>.inr hk);refine hK.out _ _ I λ_=>?_;refine XA.e ?_;simp only [GC,GD];have C:=HN.o H I;have e3:=HE H N 0 _ _ (.slice Y (m+1) c5) C;have k1:Keep (λj=>j=N) H (H.setCell (aq N 0) (.slice Y (m+1) c5)):=Keep.setCell (S:=λj=>j=N) (Keep.refl _ _) (aq N 0) (.inr rfl) _;have o6:=k1.own B (λj hj e=>aw C (by decide) B (by rw [hj,e]));have k6:Keep (λj=>j=N\/v.ownBlock=some j) w (H.setCell (aq N 0) (.slice Y (m+1) c5)):=Keep.setCell (S:=λj=>j=N\/v.ownBlock=some j) ((Keep.below O.o).trans (I.mono λk _ hk=>.inr hk)) (aq N 0) (.inr (.inl rfl)) _;obtain ⟨E3,O6,K6,HA⟩:=af e3 o6 k6 ha;have xN:=tN H I;clear B Z L C e3 k1 o6 k6 tN tP t0 d0 d1 hK K' ha I hO;go_wp2_with fail
  go_end0
  refine ⟨rfl,_,by simpa using E3.o,?_,K6.o⟩;rw [lp,<-HA.o];exact O6.o
def je (snd:Bool) (i:Nat) (rs:List Rg) (st bk ph r:Nat) (l:List Acn):List Acn:=if i<rs.length then l++[⟨snd, !snd&&ph==0,st,bk,ph,r,i,aD rs i⟩] else l
theorem qG (snd:Bool) (i:Nat) (A:N0) (rs:List Rg) (c J u p N base:Nat) (st bk lo L W I ph r:Nat) (v:Value) (l:List Acn) (w:N5) (U:w.heap[J]?=some (.cells #[H8 (st:Nat),H8 (bk:Nat),H8 (lo:Nat),H8 (L:Nat),H8 (W:Nat),H8 (I:Nat)] 71 (0,0))) (Y:w.heap[u]?=some (.cells #[H8 (ph:Nat)] 3 (0,0))) (hR:w.heap[p]?=some (.cells #[H8 (r:Nat)] 3 (0,0))) (O:w.heap[N]?=some (.cells #[v] 124 (0,0))) (C:w.ownsRow base 129 9 v l.length (dm l)) (hb:base<=w.heap.size) (x:base<=N) (R:Rd w A (aI rs)) (hm:l.length<=8388608) (D:rs.length<=1048576) (B:∀y,A=some y->y.block<base):Calls prog 85 #[.bool snd,H8 i,.slice A rs.length c,(ar J),(ar u),(ar p),(ar N)] w λe o=>e=.returned (.tuple #[])/\
   ∃v',o.heap[N]?=some (.cells #[v'] 124 (0,0))/\o.ownsRow base 129 9 v' (je snd i rs st bk ph r l).length (dm (je snd i rs st bk ph r l))/\Below base w o:=by
 by_cases h:i<rs.length
 ·refine (C7 snd i A rs rs.length c J u p N base st bk lo L W I ph r (aD rs i) v l l.length w U Y hR O C hb R rfl (by rw [cu rs i h];simp [h]) hm D B).mono ?_;rintro e o ⟨rfl,v',Z,T,Q⟩;have H:je snd i rs st bk ph r l=l++[⟨snd, !snd&&ph==0,st,bk,ph,r,i,aD rs i⟩]:=if_pos h;refine ⟨rfl,v',Z,?_,Q.toBelow hb ?_⟩
  ·rw [H,GE];exact T
  ·rintro j (rfl | V)
   ·exact x
   ·exact (C.lt j V).1
 ·refine (zB snd i A rs.length c J u p N w ao).mono ?_;rintro e o ⟨rfl,rfl⟩;have H:je snd i rs st bk ph r l=l:=if_neg h;exact ⟨rfl,v,O,by rw [H];exact C,Gb _ _⟩
end Go.Proofs.YtindmkcnjlgomaaGreat
