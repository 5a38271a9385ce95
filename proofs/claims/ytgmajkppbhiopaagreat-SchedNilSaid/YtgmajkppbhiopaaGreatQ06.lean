/- No condition. -/
import Derived.Test.YtgmajkppbhiopaaGreatQ05
set_option linter.unusedSimpArgs false
set_option linter.unusedVariables false
set_option maxRecDepth 100000
set_option maxHeartbeats 4000000
namespace Go.Proofs.YtgmajkppbhiopaaGreat
open Go.RowKit
open Tryz
theorem kv (A B:N_) (n c d:Nat) (ps ms:Qa) (w:Qd) (hA:Rd w A (aA .i64 ps)) (hB:Rd w B (aA .i64 ms)) (a0:ps.length=n) (a7:ms.length=n) (hn:n<=1048576):Calls prog 86 #[.agg #[.slice A n c,.slice B n d]] w fun e i=>∃A1 c1 x c2,e=.returned (.agg #[.slice A1 n c1,.slice x n c2])/\n<=c1/\n<=c2/\i.ownsRow w.heap.size 2 1 (.slice A1 n c1) n (aA .i64 ps)/\i.ownsRow w.heap.size 2 1 (.slice x n c2) n (aA .i64 ms)/\
   (∀j,(Value.slice A1 n c1).ownBlock=some j->(Value.slice x n c2).ownBlock≠some j)/\aq w i:=by
 have O:=fun i (k:aq w i)=>fI A ps c i (hA.below k) ap;have T:=fun i (k:aq w i)=>fI B ms d i (hB.below k) ap;rw [a0] at O;rw [a7] at T;obtain ⟨aR,b2⟩:=ae O T;clear O T a0 a7 hA hB;go_enter func86,ntmps86;go_wp2_with fail;have hz:=NG (w.alloc (.cells #[.slice A n c,.slice B n d] 141)) (.cells #[OJ,OJ] 141);rw [show (w.alloc (.cells #[.slice A n c,.slice B n d] 141)).heap.size=w.heap.size+1 by simp] at hz;have hy:=(NW (w.alloc (.cells #[.slice A n c,.slice B n d] 141)) (.cells #[OJ,OJ] 141) w.heap.size (by simp)).trans (NG w _);have U:aq w ((w.alloc (.cells #[.slice A n c,.slice B n d] 141)).alloc (.cells #[OJ,OJ] 141)):=((NI _ w).alloc (NF _) _).alloc (by simp) _;have Q:((w.alloc (.cells #[.slice A n c,.slice B n d] 141)).alloc (.cells #[OJ,OJ] 141)).heap.size=w.heap.size+2:=by simp
 obtain ⟨W0,a1⟩:∃W0,W0=(w.alloc (.cells #[.slice A n c,.slice B n d] 141)).alloc (.cells #[OJ,OJ] 141):=⟨_,rfl⟩;rw [<-a1] at hz hy U Q ⊢;obtain ⟨⟨y0,y1⟩,yf⟩:=bx2 hy;obtain ⟨Hz,Y,D⟩:=af hz U Q;clear hz hy U Q a1;have h:(fun i:Qd=>i.cell? (ar w.heap.size 0)=some (.slice A n c)/\i.cell? (ar w.heap.size 1)=some (.slice B n d)) W0.drew:=⟨y0,y1⟩;refine XA.g 7 (fun i:Qd=>i.cell? (ar w.heap.size 0)=some (.slice A n c)/\i.cell? (ar w.heap.size 1)=some (.slice B n d)) ?_;refine XA.t ?_ [0,1,3,4] h ?_;refine XA.o 2 (fun K hK=>?_);go_simp;refine (aR.o _ Y.o.drew).mono ?_;rintro e w1 ⟨A1,c1,rfl,ab,C,u⟩;have b0:=aa ab;clear ab;have a3:=NR (aw u h.1) (aw u h.2);have a2:=(u.block (w.heap.size+1) (by simp [D.o])).trans Hz.o;have Z:=Y.o.drew.trans (u.mono (by simp [D.o]));have b1:=u.size;simp only [Ot,D.o] at b1;have C:=aE (base':=w.heap.size) C (by simp [D.o]);obtain ⟨a4,aM,I⟩:=af C a2 Z;clear C a2 Z u h;dsimp only;refine hK.out _ _ a3 (fun h=>?_);clear hK K a3;refine XA.o 5 (fun K hK=>?_);go_simp;refine (b2.o _ I.o).mono ?_;rintro e V ⟨x,c2,rfl,ad,y,p⟩;have L:∀j,(Value.slice A1 n c1).ownBlock=some j->(Value.slice x n c2).ownBlock≠some j:=fun j h1 h2=>by have:=(a4.o.lt j h1).2;have:=(y.lt j h2).1;omega
 obtain ⟨ao,a9⟩:=ae ad L;clear ad L;have a5:=NR (aw p h.1) (aw p h.2);have H:=(p.block (w.heap.size+1) ap).trans aM.o;have a6:=I.o.trans (p.mono I.o.size);have b5:=p.size;have y:=aE (base':=w.heap.size) y I.o.size;have N:=ay a4.o p;obtain ⟨⟨z0,z1⟩,zf⟩:=bx2 H;have l2:w.heap.size+1<V.heap.size:=NE H;obtain ⟨a8,J,R,b3⟩:=ag y N H a6;clear y N H a6 p h;dsimp only;refine hK.out _ _ a5 (fun h=>?_);clear hK K a5;refine XA.t ?_ [6] h ?_;refine XA.e ?_;clear h;simp only [Ob,Oc];go_wp2_with fail;have e1:=OE V (w.heap.size+1) 0 _ _ (.slice A1 n c1) R.o;have e2:=OE _ (w.heap.size+1) 1 _ _ (.slice x n c2) e1;have e3:((V.setCell (ar (w.heap.size+1) 0) (.slice A1 n c1)).setCell (ar (w.heap.size+1) 1) (.slice x n c2)).heap[w.heap.size+1]?=some (.cells #[(.slice A1 n c1),(.slice x n c2)] 141 (0,0)):=by simpa using e2
 have hk:Keep (fun j=>j=w.heap.size+1) V ((V.setCell (ar (w.heap.size+1) 0) (.slice A1 n c1)).setCell (ar (w.heap.size+1) 1) (.slice x n c2)):=Keep.setCell (S:=fun j=>j=w.heap.size+1) (Keep.setCell (S:=fun j=>j=w.heap.size+1) (Keep.refl _ _) (ar (w.heap.size+1) 0) (.inr rfl) _) (ar (w.heap.size+1) 1) (.inr rfl) _;obtain ⟨W9,aP⟩:∃W9,W9=(V.setCell (ar (w.heap.size+1) 0) (.slice A1 n c1)).setCell (ar (w.heap.size+1) 1) (.slice x n c2):=⟨_,rfl⟩;rw [<-aP] at e3 hk ⊢;obtain ⟨⟨x0,x1⟩,xf⟩:=bx2 e3;have b4:=hk.own J.o (fun j hj e=>ax R.o (by decide) J.o (by rw [hj,e]));have aG:=hk.own a8.o (fun j hj e=>ax R.o (by decide) a8.o (by rw [hj,e]));have av:aq w W9:=b3.o.trans (hk.toBelow ap (fun j hj=>ap));exact NX (v:=.agg #[.slice A1 n c1,.slice x n c2]) (by simp [results,results86,go_sem,x0,x1]) rfl ⟨A1,c1,x,c2,rfl,b0.o,ao.o,b4,aG,a9.o,av⟩
theorem Ni (ra p q:Int) (A B G:N_) (n c d cg:Nat) (ps ms g:Qa) (w:Qd) (hA:Rd w A (aA .i64 ps)) (hB:Rd w B (aA .i64 ms)) (hG:Rd w G (aA .i64 g)) (a4:ps.length=n) (a3:ms.length=n) (aM:g.length=n) (hn:n<=1048576) (wr: -9223372036854775808<=ra/\ra<=9223372036854775807) (wo: -9223372036854775808<=p/\p<=9223372036854775807) (wm:W64 ms) (a9:∀a,G=some a->a.block<w.heap.size):Calls prog 278 #[.agg #[OH ra,OH p,OH q],.agg #[.slice A n c,.slice B n d],.slice G n cg] w fun e N=>∃A1 c1 i c2,e=.returned (.tuple #[.agg #[.slice A1 n c1,.slice i n c2],.bool true])/\n<=c1/\n<=c2/\
   N.ownsRow w.heap.size 2 1 (.slice A1 n c1) n (aA .i64 (sU ra p q ps ms g))/\N.ownsRow w.heap.size 2 1 (.slice i n c2) n (aA .i64 (sW p q ms g))/\aq w N:=by
 have bd:=fun N (k:aq w N)=>kv A B n c d ps ms N (hA.below k) (hB.below k) a4 a3 hn
 have a5:=fun (A1 i:N_) c1 c2 base N (k:aq w N) (hb:w.heap.size<=base) (h1:N.ownsRow base 2 1 (.slice A1 n c1) n (aA .i64 ps)) (h2:N.ownsRow base 2 1 (.slice i n c2) n (aA .i64 ms)) bf=>vI ra p q base n 0 n c1 c2 cg A1 i G ps ms g N h1 h2 bf (hG.below k) aM ap hn
  (fun a ha e=>by have:=(h1.lt _ e).1;have:=a9 a ha;omega) (fun a ha e=>by have:=(h2.lt _ e).1;have:=a9 a ha;omega) wr wo wm
 have e1:=Lu ra p q ps ms g;have e2:=Lv p q ms g;rw [a4] at e1;rw [a3] at e2;rw [e1,e2,Oz] at a5;have hq:((n:Int) != (n:Int))=false:=by simp
 obtain ⟨bs,bn⟩:=ae bd a5;clear bd a5 e1 e2 hA hB hG a4 a3 aM wr wo wm a9;go_enter func278,ntmps278;go_wp2_with fail;have a0:(((w.alloc (.cells #[OH ra,OH p,OH q] 172)).alloc (.cells #[.slice A n c,.slice B n d] 141)).alloc (.cells #[OJ,OJ] 141)).heap.size=w.heap.size+3:=by simp
 have a6:aq w (((w.alloc (.cells #[OH ra,OH p,OH q] 172)).alloc (.cells #[.slice A n c,.slice B n d] 141)).alloc (.cells #[OJ,OJ] 141)):=(((NI _ w).alloc (NF _) _).alloc (by simp) _).alloc (by simp;omega) _;have a2:=(NW ((w.alloc (.cells #[OH ra,OH p,OH q] 172)).alloc (.cells #[.slice A n c,.slice B n d] 141)) (.cells #[OJ,OJ] 141) w.heap.size (by simp;omega)).trans ((NW (w.alloc (.cells #[OH ra,OH p,OH q] 172)) (.cells #[.slice A n c,.slice B n d] 141) w.heap.size (by simp)).trans (NG w _));have H:=NG (w.alloc (.cells #[OH ra,OH p,OH q] 172)) (.cells #[.slice A n c,.slice B n d] 141);rw [show (w.alloc (.cells #[OH ra,OH p,OH q] 172)).heap.size=w.heap.size+1 by simp] at H;have H:=(NW ((w.alloc (.cells #[OH ra,OH p,OH q] 172)).alloc (.cells #[.slice A n c,.slice B n d] 141)) (.cells #[OJ,OJ] 141) (w.heap.size+1) (by simp)).trans H;have Q:=NG ((w.alloc (.cells #[OH ra,OH p,OH q] 172)).alloc (.cells #[.slice A n c,.slice B n d] 141)) (.cells #[OJ,OJ] 141);rw [show ((w.alloc (.cells #[OH ra,OH p,OH q] 172)).alloc (.cells #[.slice A n c,.slice B n d] 141)).heap.size=w.heap.size+1+1 by simp] at Q;obtain ⟨W0,b2⟩:∃W0,W0=((w.alloc (.cells #[OH ra,OH p,OH q] 172)).alloc (.cells #[.slice A n c,.slice B n d] 141)).alloc (.cells #[OJ,OJ] 141):=⟨_,rfl⟩;rw [<-b2] at a0 a6 a2 H Q ⊢;obtain ⟨x,av,aG,a7,bz⟩:=ah a6 a2 H Q a0;clear a0 a6 a2 H Q b2;refine (bs.o _ x.o).mono ?_;rintro e w1 ⟨A1,c1,i,c2,rfl,be,b0,C,y,U,k1⟩;have Z:=(k1.block _ (NE av.o)).trans av.o;have a8:=(k1.block _ (NE aG.o)).trans aG.o;have u:=(k1.block _ (NE a7.o)).trans a7.o;have bw:=NE Z;have bA:=NE a8;have bI:=NE u;have ad:=x.o.trans (k1.mono x.o.size);obtain ⟨⟨x0,x1,x2⟩,xf⟩:=bx3 Z;obtain ⟨⟨y0,y1⟩,yf⟩:=bx2 a8;obtain ⟨b5,b3,bv,bi,b9,ab,b4⟩:=aj u ad be b0 C y U;clear k1 Z a8 u ad be b0 C y U;go_wp2_with fail;have J:=b3.o.alloc b3.o.size (.cells #[.slice A1 n c1,.slice i n c2] 141);have a1:=NG w1 (.cells #[.slice A1 n c1,.slice i n c2] 141);have u:=(NW w1 (.cells #[.slice A1 n c1,.slice i n c2] 141) _ (NE b5.o)).trans b5.o;have C:=b9.o.alloc (.cells #[.slice A1 n c1,.slice i n c2] 141);have y:=ab.o.alloc (.cells #[.slice A1 n c1,.slice i n c2] 141);have b7:w1.heap.size<(w1.alloc (.cells #[.slice A1 n c1,.slice i n c2] 141)).heap.size:=by simp
 obtain ⟨V,hV⟩:∃V,V=w1.alloc (.cells #[.slice A1 n c1,.slice i n c2] 141):=⟨_,rfl⟩;rw [<-hV] at J a1 u C y b7 ⊢;clear hV;refine (bn.o A1 i c1 c2 W0.heap.size V J x.o.size C y b4.o).mono ?_;rintro e w3 ⟨rfl,ao,b6,R⟩;have L:=C.lt;have O:=y.lt
 have b8:∀j,j<W0.heap.size->¬((Value.slice A1 n c1).ownBlock=some j\/(Value.slice i n c2).ownBlock=some j):=fun j Y=>by
  rintro (h | h)
  ·have:=(L j h).1;omega
  ·have:=(O j h).1;omega
 have T:=(R.block _ b7 (by
  rintro (h | h)
  ·have:=(b9.o.lt _ h).2;omega
  ·have:=(ab.o.lt _ h).2;omega)).trans a1
 have D:=(R.block _ (NE u) (b8 _ (NE a7.o))).trans u
 have aP:=J.trans (R.toBelow J.size (fun j Y=>by
  rcases Y with h | h
  ·have:=(L j h).1;have:=x.o.size;omega
  ·have:=(O j h).1;have:=x.o.size;omega))
 have bG:=NE D;obtain ⟨⟨z0,z1⟩,zf⟩:=bx2 T;obtain ⟨⟨t0,t1⟩,tf⟩:=bx2 D;obtain ⟨I,b1,aR,bb⟩:=ag D aP ao b6;clear D aP ao b6 R T a1 u C y J L O b8 x0 x1 x2 xf y0 y1 yf;go_wp2_with fail;have e1:=OE w3 (w.heap.size+1+1) 0 _ _ (.slice A1 n c1) I.o;have e2:=OE _ (w.heap.size+1+1) 1 _ _ (.slice i n c2) e1;have e3:((w3.setCell (ar (w.heap.size+1+1) 0) (.slice A1 n c1)).setCell (ar (w.heap.size+1+1) 1) (.slice i n c2)).heap[w.heap.size+1+1]?=some (.cells #[.slice A1 n c1,.slice i n c2] 141 (0,0)):=by simpa using e2
 have hk:Keep (fun j=>j=w.heap.size+1+1) w3 ((w3.setCell (ar (w.heap.size+1+1) 0) (.slice A1 n c1)).setCell (ar (w.heap.size+1+1) 1) (.slice i n c2)):=Keep.setCell (S:=fun j=>j=w.heap.size+1+1) (Keep.setCell (S:=fun j=>j=w.heap.size+1+1) (Keep.refl _ _) (ar (w.heap.size+1+1) 0) (.inr rfl) _) (ar (w.heap.size+1+1) 1) (.inr rfl) _;obtain ⟨W9,bo⟩:∃W9,W9=(w3.setCell (ar (w.heap.size+1+1) 0) (.slice A1 n c1)).setCell (ar (w.heap.size+1+1) 1) (.slice i n c2):=⟨_,rfl⟩;rw [<-bo] at e3 hk ⊢;obtain ⟨⟨r0,r1⟩,rf⟩:=bx2 e3;have bl:=hk.own aR.o (fun j Y e=>ax I.o (by decide) aR.o (by rw [Y,e]));have bh:=hk.own bb.o (fun j Y e=>ax I.o (by decide) bb.o (by rw [Y,e]));exact NX (v:=.tuple #[.agg #[.slice A1 n c1,.slice i n c2],.bool true]) (by simp [results,results278,go_sem,r0,r1]) rfl ⟨A1,c1,i,c2,rfl,bv.o,bi.o,aE bl x.o.size,aE bh x.o.size,b1.o.trans (hk.toBelow b1.o.size (fun j Y=>ap))⟩
theorem zY (A:N_) (n c:Nat) (ps:Qa) (w:Qd) (hA:Rd w A (aA .i64 ps)) (aG:ps.length=n) (hn:n<=1048576):Calls prog 83 #[.slice A n c] w fun e w'=>∃A1 c1 A2 c2,e=.returned (.agg #[.slice A1 n c1,.slice A2 n c2])/\n<=c1/\n<=c2/\w'.ownsRow w.heap.size 2 1 (.slice A1 n c1) n (aA .i64 ps)/\w'.ownsRow w.heap.size 2 1 (.slice A2 n c2) n (aA .i64 (List.replicate n 0))/\(∀j,(Value.slice A1 n c1).ownBlock=some j->(Value.slice A2 n c2).ownBlock≠some j)/\aq w w':=by
 have a3:=fun w' (k:aq w w')=>fI A ps c w' (hA.below k) ap;rw [aG] at a3;have aP:=aa a3;have a8:=fun w'=>m6 mL w' rfl n ap (by unfold maxLen;omega);simp only [fp] at a8;have aR:=aa a8;clear a3 aG hA a8;go_enter func83,ntmps83;go_wp2_with fail;have hz:=NG w (.cells #[OJ,OJ] 141);have a6:aq w (w.alloc (.cells #[OJ,OJ] 141)):=(NI _ w).alloc (NF _) _;obtain ⟨I,aM⟩:∃I,I=w.alloc (.cells #[OJ,OJ] 141):=⟨_,rfl⟩;rw [<-aM] at hz a6 ⊢;have av:=NE hz;obtain ⟨HZ,B⟩:=ae hz a6;clear hz a6 aM;have h:(fun _:Qd=>True) I.drew:=trivial;refine kp 6 (fun _:Qd=>True) (by kernel_rfl) ?_;refine wX 0 h ?_;refine wX 2 h ?_;refine wX 3 h ?_;simp only [N0,N1,N2,Act.put,N4,N5,N6];refine cD (rs:=[1,4]) (by kernel_rfl) (by simp) ?_;refine aU.cons rfl (fun K O=>?_) (aU.cons rfl (fun K O=>?_) aU.nil)
 ·simp only [N0,N1,N2];go_simp;refine (aP.o _ B.o.drew).mono ?_;rintro e J ⟨A1,c1,rfl,a0,D,u⟩;have N:=B.o.drew.trans (u.mono B.o.size);have Q:=(u.block w.heap.size (by simpa using av)).trans HZ.o;have a1:=aE (base':=w.heap.size) D (by have:=B.o.size;simpa using this);have a5:=u.size;have Y:∀j,(Value.slice A1 n c1).ownBlock=some j->j<J.heap.size:=fun j y=>(D.lt j y).2;have a2:=aa Y;clear Y;simp only [Ot] at a5;obtain ⟨x,a9,b1,ab⟩:=ag N Q a1 a0;clear u N Q D a1 a0;dsimp only;refine O.out _ _ trivial (fun h=>?_);clear O K h;refine cD (rs:=[4]) (by kernel_rfl) (by simp) ?_;refine aU.cons rfl (fun K O=>?_) aU.nil;simp only [N0,N1,N2];obtain ⟨V,H,Z,p⟩:=aR.o J;obtain ⟨L,T,i,U⟩:=ag (aE (base':=w.heap.size) Z x.o.size) (x.o.trans (p.mono x.o.size)) ((p.block w.heap.size ap).trans a9.o) (ay b1.o p);have C:=i.o;obtain ⟨⟨z0,z1⟩,zf⟩:=bx2 C;have b0:=NE C;clear Z p C;go_simp;refine O.out _ _ trivial (fun h=>?_);clear O K H;refine wX 5 h ?_;simp only [N0,N1,N2,Act.put,N4,N5,N6];refine eR (by rfl) (by kernel_rfl) ?_;simp only [Ob,Oc];go_wp2_with fail;have e1:=OE V w.heap.size 0 _ _ (.slice A1 n c1) i.o;have e2:=OE _ w.heap.size 1 _ _ (.slice (some (ar J.heap.size 0)) n n) e1;have e3:((V.setCell (ar w.heap.size 0) (.slice A1 n c1)).setCell (ar w.heap.size 1) (.slice (some (ar J.heap.size 0)) n n)).heap[w.heap.size]?=some (.cells #[.slice A1 n c1,.slice (some (ar J.heap.size 0)) n n] 141 (0,0)):=by simpa using e2
  have hk:Keep (fun j=>j=w.heap.size) V ((V.setCell (ar w.heap.size 0) (.slice A1 n c1)).setCell (ar w.heap.size 1) (.slice (some (ar J.heap.size 0)) n n)):=Keep.setCell (S:=fun j=>j=w.heap.size) (Keep.setCell (S:=fun j=>j=w.heap.size) (Keep.refl _ _) (ar w.heap.size 0) (.inr rfl) _) (ar w.heap.size 1) (.inr rfl) _;obtain ⟨W9,a4⟩:∃W9,W9=(V.setCell (ar w.heap.size 0) (.slice A1 n c1)).setCell (ar w.heap.size 1) (.slice (some (ar J.heap.size 0)) n n):=⟨_,rfl⟩;rw [<-a4] at e3 hk ⊢;obtain ⟨⟨r0,r1⟩,rf⟩:=bx2 e3;have ad:=hk.own U.o (fun j y e=>ax i.o (by decide) U.o (by rw [y,e]));have a7:=hk.own L.o (fun j y e=>ax i.o (by decide) L.o (by rw [y,e]))
  exact NX (v:=.agg #[.slice A1 n c1,.slice (some (ar J.heap.size 0)) n n]) (by simp [results,results83,go_sem,r0,r1]) rfl ⟨A1,c1,_,n,rfl,ab.o,NF _,ad,a7,fun j y e=>by
   have h1:=a2.o j y;have h2:J.heap.size=j:=by simpa [Value.ownBlock] using e
   omega,T.o.trans (hk.toBelow T.o.size (fun j y=>ap))⟩
 ·simp only [N0,N1,N2];obtain ⟨J,H,Z,p⟩:=aR.o I.drew;have N:=B.o.drew.trans (p.mono B.o.size);have Q:=(p.block w.heap.size (by simpa using av)).trans HZ.o;have R:=aE (base':=w.heap.size) Z (by have:=B.o.size;simpa using this);have a5:=p.size;simp only [Ot] at a5 R H;obtain ⟨x,a9,ao⟩:=af N Q R;clear p N Q Z R;go_simp;refine O.out _ _ trivial (fun h=>?_);clear O K H;refine cD (rs:=[1]) (by kernel_rfl) (by simp) ?_;refine aU.cons rfl (fun K O=>?_) aU.nil;simp only [N0,N1,N2];go_simp;refine (aP.o _ x.o).mono ?_;rintro e V ⟨A1,c1,rfl,a0,D,u⟩;have Y:∀j,(Value.slice A1 n c1).ownBlock=some j->J.heap.size<=j:=fun j y=>(D.lt j y).1;have a2:=aa Y;clear Y;obtain ⟨U,T,i,L,ab⟩:=ah (aE (base':=w.heap.size) D x.o.size) (x.o.trans (u.mono x.o.size)) ((u.block w.heap.size ap).trans a9.o) (ay ao.o u) a0;have C:=i.o;obtain ⟨⟨z0,z1⟩,zf⟩:=bx2 C;have b0:=NE C;clear D u C a0;dsimp only;refine O.out _ _ trivial (fun h=>?_);clear O K;refine wX 5 h ?_;simp only [N0,N1,N2,Act.put,N4,N5,N6];refine eR (by rfl) (by kernel_rfl) ?_;simp only [Ob,Oc];go_wp2_with fail;have e1:=OE V w.heap.size 0 _ _ (.slice A1 n c1) i.o;have e2:=OE _ w.heap.size 1 _ _ (.slice (some (ar I.heap.size 0)) n n) e1;have e3:((V.setCell (ar w.heap.size 0) (.slice A1 n c1)).setCell (ar w.heap.size 1) (.slice (some (ar I.heap.size 0)) n n)).heap[w.heap.size]?=some (.cells #[.slice A1 n c1,.slice (some (ar I.heap.size 0)) n n] 141 (0,0)):=by simpa using e2
  have hk:Keep (fun j=>j=w.heap.size) V ((V.setCell (ar w.heap.size 0) (.slice A1 n c1)).setCell (ar w.heap.size 1) (.slice (some (ar I.heap.size 0)) n n)):=Keep.setCell (S:=fun j=>j=w.heap.size) (Keep.setCell (S:=fun j=>j=w.heap.size) (Keep.refl _ _) (ar w.heap.size 0) (.inr rfl) _) (ar w.heap.size 1) (.inr rfl) _;obtain ⟨W9,a4⟩:∃W9,W9=(V.setCell (ar w.heap.size 0) (.slice A1 n c1)).setCell (ar w.heap.size 1) (.slice (some (ar I.heap.size 0)) n n):=⟨_,rfl⟩;rw [<-a4] at e3 hk ⊢;obtain ⟨⟨r0,r1⟩,rf⟩:=bx2 e3;have ad:=hk.own U.o (fun j y e=>ax i.o (by decide) U.o (by rw [y,e]));have a7:=hk.own L.o (fun j y e=>ax i.o (by decide) L.o (by rw [y,e]))
  exact NX (v:=.agg #[.slice A1 n c1,.slice (some (ar I.heap.size 0)) n n]) (by simp [results,results83,go_sem,r0,r1]) rfl ⟨A1,c1,_,n,rfl,ab.o,NF _,ad,a7,fun j y e=>by
   have h1:=a2.o j y;have h2:I.heap.size=j:=by simpa [Value.ownBlock] using e
   have h3:=(ao.o.lt I.heap.size rfl).2
   omega,T.o.trans (hk.toBelow T.o.size (fun j y=>ap))⟩
theorem zZ (S n b steps:Nat) (l:Qa) (w:Qd) (h:gi w S n b steps l):Calls prog 264 #[(au S)] w fun e i=>e=.returned (OH steps)/\w=i:=by
 obtain ⟨x,A,J,I,vs,h1,o,v,p,u⟩:=h;obtain ⟨⟨D,C,y,B⟩,H⟩:=bx4 h1;clear h1 o v p u;go_enter func264,ntmps264;go_wp2;go_ret;exact ⟨rfl,rfl⟩
theorem Ah (S n b steps t:Nat) (l:Qa) (w:Qd) (h:gi w S n b steps l) (hn:n<=1048576) (A:1<=n/b) (L:steps<=1048576) (ht:t<steps):Calls prog 255 #[(au S),OH t] w fun e B=>e=.returned (.tuple #[OH ((t/(n/b):Nat):Int),OH ((t%(n/b):Nat):Int),.bool true])/\∃d,B=w.drewN d:=by
 have hs:=zZ S n b steps l w h;obtain ⟨Ab,cb,Ao,co,vs,h1,I,R,N,O⟩:=h;have y:=Nat.div_le_self n b;obtain ⟨nb,u⟩:∃nb,n/b=nb:=⟨_,rfl⟩;rw [u] at h1 A y ⊢;obtain ⟨⟨r0,r1,r2,r3⟩,rf⟩:=bx4 h1;obtain ⟨v,i⟩:∃v,t/nb=v:=⟨_,rfl⟩;obtain ⟨x,p⟩:∃x,t%nb=x:=⟨_,rfl⟩;have D:(t:Int).tdiv (nb:Int)=(v:Int):=by rw [<-i];rfl
 have a0:(t:Int).tmod (nb:Int)=(x:Int):=by rw [<-p];rfl
 have T:v<=t:=by rw [<-i];exact Nat.div_le_self _ _
 have H:x<=t:=by rw [<-p];exact Nat.mod_le _ _
 have V:IntKind.i64.wrap (v:Int)=(v:Int):=NK _ ap;have Z:IntKind.i64.wrap (x:Int)=(x:Int):=NK _ ap;have U:¬(nb=0):=ap;have Q:(t:Int)<steps:=ap;have Y:¬((t:Int)<0):=ap;have C:¬((steps:Int)<=t):=ap;rw [i,p];have J:=aa hs;clear hs h1 I R N O u i p;go_enter func255,ntmps255;go_wp2_with fail;refine J.o.mono ?_;rintro e B ⟨rfl,rfl⟩;go_wp2_with fail
 go_quiet (fail)
 go_wp2_with fail;go_ret3;exact ⟨rfl,_,rfl⟩
def dH (l:Qa) (n b t:Nat):Qa:=((fW l n ((t/(n/b))*(n-1))).drop (t%(n/b)*b)).take b
theorem zn {n b steps t:Nat} (h:t<steps):t/(n/b)<epN n b steps:=by
 unfold epN dD;rw [if_neg ap];have:=Nat.div_le_div_right (c:=n/b) (show t<=steps-1 by omega);omega
theorem iK (l:Qa) {n b t:Nat} (h:1<=n/b):(dH l n b t).length=b:=by
 unfold dH;have h1:=pG n b (t%(n/b)) (Nat.mod_lt _ h);rw [Oi,Om,jB];omega
theorem Fm (l:Qa) {n b t:Nat} (h:1<=n/b):∀k,k<b->0<=nth (dH l n b t) k/\nth (dH l n b t) k<n:=fun k hk=>by
 have h1:=pG n b (t%(n/b)) (Nat.mod_lt _ h);unfold dH;rw [fq hk,ft];exact Ih l n _ _ ap
theorem dZ.keep {w p:Qd} {base:Nat} {A:Qc} {e:Ex} (h:dZ w base A e) {S:Nat->Prop} (k:Keep S w p) (y:∀j,S j->j<base):dZ p base A e:=by
 obtain ⟨u,v,rfl,h1,x,B⟩:=h;exact ⟨u,v,rfl,k.own h1 (fun i o hs=>by have:=y i hs;have:=(h1.lt i o).1;omega),k.own x (fun i o hs=>by have:=y i hs;have:=(x.lt i o).1;omega),B⟩
def uq (base:Nat) (w:Qd) (l:Qg) (n:Nat) (v:Value):Prop:=∃rows,w.ownsRow base 91 2 v n (List.flatten rows)/\rows.length=n/\(∀r∈rows,r.length=2)/\(∀j x,j<n->l[j]?=some x->dZ w base (bZ rows j) x)
theorem jk.own {w wr:Qd} {l:Qg} {k:Nat} {v:Value} (h:jk w wr l k v):uq w.heap.size wr l k v:=by
 obtain ⟨rows,h1,i,p,o,_⟩:=h;exact ⟨rows,h1,i,p,o⟩
theorem uq.base {base base':Nat} {w:Qd} {l:Qg} {n:Nat} {v:Value} (h:uq base w l n v) (hb:base'<=base):uq base' w l n v:=by
 obtain ⟨rows,h1,o,u,p⟩:=h;exact ⟨rows,aE h1 hb,o,u,fun j x i y=>(p j x i y).base hb⟩
theorem uq.keep {base:Nat} {w o:Qd} {l:Qg} {n:Nat} {v:Value} (h:uq base w l n v) {S:Nat->Prop} (k:Keep S w o) (p:∀j,S j->j<base):uq base o l n v:=by
 obtain ⟨rows,h1,u,B,y⟩:=h;exact ⟨rows,k.own h1 (fun i C hs=>by have:=p i hs;have:=(h1.lt i C).1;omega),u,B,fun j x A D=>(y j x A D).keep k p⟩
theorem uq.rd {base:Nat} {w:Qd} {l:Qg} {A:N_} {n c:Nat} (h:uq base w l n (.slice A n c)) (hn:l.length=n):de rEx 2 w A l:=by
 obtain ⟨rows,h1,u,p,o⟩:=h;exact ⟨rows,Rd.own h1,by omega,p,fun j x i=>(o j x (by have:=(Oe.1 i).1;omega) i).rd⟩
theorem Ig (c d:Nat) (A B:N_) (l:Qg) (i:Qa) (w:Qd) (h:de rEx 2 w A l) (hl:l.length<=1048576) (hB:Rd w B (aA .i64 i)) (U:i.length<=1048576):Calls prog 231 #[.slice A l.length c,.slice B i.length d] w fun e H=>aq w H/\
   (((∀k,k<i.length->j8 l.length (nth i k))/\∃D x,e=.returned (.tuple #[.slice D i.length x,.bool true])/\uq w.heap.size H (dR l i) i.length (.slice D i.length x))\/((¬∀k,k<i.length->j8 l.length (nth i k))/\e=.returned (.tuple #[OJ,.bool false]))):=by
 have hm:=Bs w.heap.size c d A B l i (w.alloc (.cells #[.slice A l.length c] 25)) (NG w _) (h.below dE ((NI _ w).alloc (NF _) _)) hl (hB.alloc _) U;have p:=nD l i;unfold Ck at hm;obtain ⟨n,hn⟩:∃n,i.length=n:=⟨_,rfl⟩;obtain ⟨N,I⟩:∃N,l.length=N:=⟨_,rfl⟩;rw [hn,I] at hm ⊢;rw [hn] at p;obtain ⟨Q,R⟩:=ae hm p;clear hm p hn I h hB;go_enter func231,ntmps231;go_wp2_with fail;refine Q.o.mono ?_;rintro e O ⟨hb,L⟩;have u:aq w O:=((NI _ w).alloc (NF _) _).trans (hb.mono (by first | omega | (simp;done) | (simp;omega)));have J:=aa u;clear hb u;rcases L with ⟨hg,v,rfl,y⟩ | ⟨hg,rfl⟩
 ·obtain ⟨D,x,rfl⟩:=y.form;obtain ⟨C,T⟩:=ae hg y;clear hg y;go_wp2_with fail;go_ret2;exact ⟨J.o,.inl ⟨C.o,_,_,rfl,T.o.own.base (by simp)⟩⟩
 ·have C:=aa hg;clear hg;go_wp2_with fail;go_ret2;exact ⟨J.o,.inr ⟨C.o,rfl⟩⟩
abbrev Pl:=Nat×Nat×Int
def plW (k c m:Nat):List Pl:=(List.range m).map fun i=>(k,i/c,((i%c:Nat):Int))
def plB (k m:Nat):List Pl:=(List.range m).map fun i=>(k,i, -1)
def plK (sz:Qa) (k:Nat):List Pl:=plW k (szN sz k) (szN sz (k+1)*szN sz k)++plB k (szN sz (k+1))
def plL (sz:Qa) (n:Nat):List Pl:=(List.range n).flatMap (plK sz)
theorem KE (k c m:Nat):(plW k c m).length=m:=by simp [plW]
theorem KG (k m:Nat):(plB k m).length=m:=by simp [plB]
theorem yq (sz:Qa) (n:Nat):plL sz (n+1)=plL sz n++plK sz n:=by simp [plL,Ow,List.flatMap_append]
theorem CH (sz:Qa) (n:Nat):(plL sz n).length=bR sz n:=by
 induction n with
 | zero=>rfl
 | succ n ih=>
  have:=fE sz n;unfold dA at this;rw [yq,Od,ih];unfold plK;rw [Od,KE,KG];omega
def plV (l:List Pl):Qc:=l.flatMap fun p=>[OH (p.1:Int),OH (p.2.1:Int),OH p.2.2]
theorem sL (a b:List Pl):plV (a++b)=plV a++plV b:=by simp [plV,List.flatMap_append]
theorem CG (p:Pl):plV [p]=[OH (p.1:Int),OH (p.2.1:Int),OH p.2.2]:=rfl
theorem Mb:∀(l:List Pl) (i:Nat) (p:Pl),l[i]?=some p->(plV l)[i*3]?=some (OH (p.1:Int))/\(plV l)[i*3+1]?=some (OH (p.2.1:Int))/\(plV l)[i*3+2]?=some (OH p.2.2):=by
 intro l
 induction l with
 | nil=>intro i p h;simp at h
 | cons a l ih=>
  intro i p h;have o:plV (a::l)=[OH (a.1:Int),OH (a.2.1:Int),OH a.2.2]++plV l:=rfl;rw [o]
  cases i with
  | zero=>
   simp at h;subst h;exact ⟨rfl,rfl,rfl⟩
  | succ i=>
   have:=ih i p (by simpa using h);rw [Oh (by simp;omega),Oh (by simp;omega),Oh (by simp;omega)];simp only [List.length_cons,List.length_nil];rw [show (i+1)*3-(0+1+1+1)=i*3 by omega,show (i+1)*3+1-(0+1+1+1)=i*3+1 by omega,show (i+1)*3+2-(0+1+1+1)=i*3+2 by omega];exact this
theorem Id (k c r j:Nat) (h:j<c):plW k c (r*c+j+1)=plW k c (r*c+j)++[(k,r,(j:Int))]:=by
 unfold plW;rw [Ow,List.map_append];have h1:(r*c+j)/c=r:=by rw [Nat.add_comm,Nat.add_mul_div_right _ _ ap,Nat.div_eq_of_lt h,Oz]
 have i:(r*c+j)%c=j:=by rw [Nat.add_comm,Nat.add_mul_mod_self_right,Nat.mod_eq_of_lt h]
 rw [List.map_singleton,h1,i]
theorem Ie (k r:Nat):plB k (r+1)=plB k r++[(k,r, -1)]:=by simp [plB,Ow]
def gAt (sz ps:Qa) (q:Int) (x y:Qa) (p:Pl):Int:=
 if 0<=p.2.2 then fB (nth (ge sz ps q x y (sz.length-2-p.1)) p.2.1) (nth (dy sz ps q x p.1) p.2.2.toNat) q else nth (ge sz ps q x y (sz.length-2-p.1)) p.2.1
theorem Lb (l:Qa) (n:Nat) (h:l.length=n):(List.range n).map (nth l)=l:=(fF h fun k _=>rfl).symm
theorem JC {sz ps:Qa} {q:Int} {x y:Qa} (h:x.length=szN sz 0) {k:Nat} (hk:k+2<=sz.length):
  mx (szN sz (k+1)) (szN sz k) (ge sz ps q x y (sz.length-2-k)) (dy sz ps q x k) q++ge sz ps q x y (sz.length-2-k)=(plK sz k).map (gAt sz ps q x y):=by
 unfold plK;rw [List.map_append]
 congr 1
 ·unfold mx dM plW;rw [List.map_map];refine List.map_congr_left fun i _=>?_;unfold KN gAt
  show _=if 0<=((i%szN sz k:Nat):Int) then fB (nth (ge sz ps q x y (sz.length-2-k)) (i/szN sz k)) (nth (dy sz ps q x k) ((i%szN sz k:Nat):Int).toNat) q else nth (ge sz ps q x y (sz.length-2-k)) (i/szN sz k)
  rw [if_pos (Int.natCast_nonneg _),Int.toNat_natCast]
 ·unfold plB;rw [List.map_map];have hl:=lQ (sz:=sz) (ps:=ps) (q:=q) (x:=x) (y:=y) h (sz.length-2-k);rw [show sz.length-1-(sz.length-2-k)=k+1 by omega] at hl;have:=Lb _ _ hl
  conv=>lhs;rw [<-this]
  refine List.map_congr_left fun i _=>?_;unfold gAt;simp
theorem IX {sz ps:Qa} {q:Int} {x y:Qa} (i:x.length=szN sz 0):∀j,j+1<=sz.length->qg sz ps q x y j=(((List.range (sz.length-1)).drop (sz.length-1-j)).flatMap (plK sz)).map (gAt sz ps q x y):=by
 intro j
 induction j with
 | zero=>intro _;rw [Nat.sub_zero,List.drop_eq_nil_of_le (by simp)];rfl
 | succ j ih=>
  intro o
  have h:(List.range (sz.length-1)).drop (sz.length-1-(j+1))=(sz.length-2-j)::(List.range (sz.length-1)).drop (sz.length-1-j):=by
   rw [show sz.length-1-(j+1)=sz.length-2-j by omega];rw [List.drop_eq_getElem_cons (by simp;omega),List.getElem_range]
   congr 2
   omega
  rw [h,List.flatMap_cons,List.map_append,<-ih ap,qg,<-Oj]
  congr 1
  have:=JC (sz:=sz) (ps:=ps) (q:=q) (x:=x) (y:=y) i (k:=sz.length-2-j) ap;rw [show sz.length-2-j+1=sz.length-1-j by omega,show sz.length-2-(sz.length-2-j)=j by omega] at this;exact this
theorem zb {sz ps:Qa} {q:Int} {x y:Qa} (h:x.length=szN sz 0) (hl:1<=sz.length):iA sz ps q x y=(plL sz (sz.length-1)).map (gAt sz ps q x y):=by
 unfold iA;rw [IX h _ ap,Nat.sub_self,Oc];rfl
theorem vy {sz ps:Qa} {q:Int} {x y:Qa} (h:x.length=szN sz 0) (hl:1<=sz.length):(iA sz ps q x y).length=bR sz (sz.length-1):=by
 rw [zb h hl,List.length_map,CH]
theorem KF {sz:Qa} {n:Nat} {p:Pl} (h:p∈plL sz n):p.1<n/\p.2.1<szN sz (p.1+1)/\(p.2.2= -1\/(0<=p.2.2/\p.2.2.toNat<szN sz p.1)):=by
 unfold plL at h;obtain ⟨k,hk,h⟩:=List.mem_flatMap.1 h;have hk:=List.mem_range.1 hk;unfold plK at h;rcases Ov.1 h with h | h
 ·unfold plW at h;obtain ⟨i,o,rfl⟩:=List.mem_map.1 h;have o:=List.mem_range.1 o
  have hc:0<szN sz k:=by
   rcases Nat.eq_zero_or_pos (szN sz k) with u | u
   ·rw [u,Nat.mul_zero] at o;omega
   ·exact u
  exact ⟨hk,Nat.div_lt_of_lt_mul (by rw [Nat.mul_comm];exact o),.inr ⟨by dsimp only;omega,by dsimp only;rw [Int.toNat_natCast];exact Nat.mod_lt _ hc⟩⟩
 ·unfold plB at h;obtain ⟨i,o,rfl⟩:=List.mem_map.1 h;exact ⟨hk,List.mem_range.1 o,.inl rfl⟩
theorem C0 {i:Inp} (h:dO i.cfg.sizes):1<=cnt i:=by
 unfold cnt;have h1:=h.1.1;have:=fS i.cfg.sizes (show 1<=i.cfg.sizes.length-1 by omega);have p:bR i.cfg.sizes 1=0+(szN i.cfg.sizes 0+1)*szN i.cfg.sizes 1:=rfl;have o:=(h.1.at (k:=1) ap).1;have u:1*1<=(szN i.cfg.sizes 0+1)*szN i.cfg.sizes 1:=Nat.mul_le_mul ap o;omega
def eE (i:Inp) (P:Qa) (l:Qg):Qa:=l.foldl (fun a x=>fw a (iA i.cfg.sizes P i.cfg.shift x.1 x.2)) (List.replicate (cnt i) 0)
theorem xi (i:Inp) (P:Qa) (l:Qg) (x:Ex):eE i P (l++[x])=fw (eE i P l) (iA i.cfg.sizes P i.cfg.shift x.1 x.2):=by simp [eE]
theorem iY (i:Inp) (P:Qa) (l:Qg):(eE i P l).length=cnt i:=by
 have:∀(l:Qg) (a:Qa),(l.foldl (fun a x=>fw a (iA i.cfg.sizes P i.cfg.shift x.1 x.2)) a).length=a.length:=by
  intro l
  induction l with
  | nil=>intro a;rfl
  | cons x l ih=>intro a;rw [List.foldl_cons,ih,iZ]
 unfold eE;rw [this,Ol]
theorem zc (i:Inp) (P:Qa) (l:Qg):W64 (eE i P l):=by
 have:∀(l:Qg) (a:Qa),W64 a->W64 (l.foldl (fun a x=>fw a (iA i.cfg.sizes P i.cfg.shift x.1 x.2)) a):=by
  intro l
  induction l with
  | nil=>intro a h;exact h
  | cons x l ih=>intro a _;exact ih _ (fJ fun _ _=>gF _)
 refine this _ _ fun k hk=>?_;rw [dd _ _ hk];simp
def jv (i:Inp) (h:Qa):Prop:=∀k,k<h.length->j8 i.data.length (nth h k)
theorem Ca {i:Inp} (hg:mU i) (k:Nat):jv i (dH i.draws i.data.length i.cfg.batch.toNat k):=fun j o=>by
 have h1:=hg.c.w;have p:=hg.c.ba;have u:=hg.b;have h:1<=i.data.length/i.cfg.batch.toNat:=Nat.div_pos ap ap;rw [iK _ h] at o;exact Fm _ h j o
theorem Jb:dB prog 59 141 (.agg #[OJ,OJ]) 2 48:=⟨underlying59,info_parts (by kernel_rfl),rfl,by decide⟩
theorem FW {n base:Nat} {w h:Qd} {x:Ex} {A1 i:N_} {c1 c2:Nat} (h1:h.ownsRow w.heap.size 2 1 (.slice A1 n c1) n (aA .i64 x.1)) (p:h.ownsRow w.heap.size 2 1 (.slice i n c2) n (aA .i64 x.2)) (hb:base<=w.heap.size) (l1:x.1.length=n) (u:x.2.length=n) (hn:n<=1048576) (o:W64 x.1) (v:W64 x.2):dZ h base [.slice A1 n c1,.slice i n c2] x:=
 ⟨_,_,rfl,by rw [l1];exact aE h1 hb,by rw [u];exact aE p hb,by omega,by omega,o,v⟩
theorem Lq {w:Qd} {b:Nat} {t:Qf} {v0 v1 v2 v3 v4 v5 v6 v7 v8 v9 v10 v11 v o i y x p u:Value} (h:w.heap[b]?=some (.cells #[v0,v1,v2,v3,v4,v5,v6,v7,v8,v9,v10,v11,v,o,i,y,x,p,u] t (0,0))):(w.cell? (ar b 0)=some v0/\w.cell? (ar b 1)=some v1/\w.cell? (ar b 2)=some v2/\w.cell? (ar b 3)=some v3/\w.cell? (ar b 4)=some v4/\w.cell? (ar b 5)=some v5/\w.cell? (ar b 6)=some v6/\w.cell? (ar b 7)=some v7/\w.cell? (ar b 8)=some v8/\w.cell? (ar b 9)=some v9/\w.cell? (ar b 10)=some v10/\w.cell? (ar b 11)=some v11/\w.cell? (ar b 12)=some v/\w.cell? (ar b 13)=some o/\w.cell? (ar b 14)=some i/\w.cell? (ar b 15)=some y/\w.cell? (ar b 16)=some x/\w.cell? (ar b 17)=some p/\w.cell? (ar b 18)=some u)/\∀j,w.frozen? (ar b j)=false:=by
 have:=bx (vs:=[v0,v1,v2,v3,v4,v5,v6,v7,v8,v9,v10,v11,v,o,i,y,x,p,u]) h;simp only [Bx,Cs,Nat.reduceAdd,and_true] at this;exact ⟨this.1,this.2.2⟩
theorem fA {T:Qf} {u v:Qd} {b:Nat} {sz:Qa} (h:cI T u b sz) (i:Ext u v):cI T v b sz:=by
 obtain ⟨A1,c1,p,c2,o,c3,y,h1,x,A⟩:=h;exact ⟨A1,c1,p,c2,o,c3,tx (xs:=[_,_,_]) y i,aQ h1 i,aQ x i,aQ A i⟩
theorem iq {u v:Qd} {S n batch steps:Nat} {l:Qa} (h:gi u S n batch steps l) (i:Ext u v):gi v S n batch steps l:=by
 obtain ⟨p,x,N,J,vs,h1,C,L,D,I⟩:=h
 exact ⟨p,x,N,J,vs,tx (xs:=[_,_,_]) h1 i,aQ C i,aQ L i,D,fun j B=>by
  obtain ⟨O,H,o,y,A⟩:=I j B
  exact ⟨O,H,o,y,aQ A i⟩⟩
theorem cQ:Nh rEx:=fun ⟨A1,c1,p,c2,e,h,i⟩ o=>⟨A1,c1,p,c2,e,⟨h.hc,h.hl,aQ h.hr o,h.hw⟩,⟨i.hc,i.hl,aQ i.hr o,i.hw⟩⟩
theorem ir {u v:Qd} {P:Nat} {p:Pln} {o a1 x A B y i:Value} (h:fk u P p o a1 x A B y i) (hb:Ext u v):fk v P p o a1 x A B y i:=by
 obtain ⟨BA,bc,N,J,I,C,h1,D,L,H⟩:=h;exact ⟨BA,bc,N,J,I,C,tx (xs:=[_,_,_,_,_,_,_,_,_,_,_,_,_,_]) h1 hb,aQ D hb,aQ L hb,aQ H hb⟩
structure Mst where
 P:Qa
 M:Qa
 G:Qa
 rc:Qg
 st:Nat
 nx:Nat
 op:List Nat
def az (i:Inp):Pln:=⟨i.cfg.workers.toNat,i.cfg.micros.toNat,i.cfg.bucket.toNat,i.cfg.chunk.toNat,i.cfg.window.toNat,i.start.length⟩
def dU (l:List Nat):Qa:=l.map fun j:Nat=>(j:Int)
theorem lL (l:List Nat):(dU l).length=l.length:=by simp [dU]
structure cq (i:Inp):Prop where
 g:mU i
 n:i.start.length<=60
 w:i.cfg.workers<=8
 m:i.cfg.micros<=20
 s:i.cfg.steps<=6
 d:i.data.length<=40
theorem cq.ok {i:Inp} (h:cq i):cW (az i):=by
 have h1:=h.g.c.w;have v:=h.g.c.mi;have A:=h.g.c.bu;have x:=h.g.c.ch;have y:=h.g.c.wi;have o:=h.n;have p:=h.w;have u:=h.m;exact ⟨by simp only [az];omega,by simp only [az];omega,by simp only [az];omega,by simp only [az];omega,by simp only [az];omega,by simp only [az];omega,by simp only [az];omega,by simp only [az];omega⟩
theorem cq.n1 {i:Inp} (h:cq i):1<=(az i).n:=by
 have:=C0 h.g.c.z;have:=h.g.s;simp only [az];omega
def cK (i:Inp) (x st:Nat):List Itm:=if st<i.cfg.steps.toNat then aJ (az i) x st else []
structure MAd where
 F:Nat
 E:N_
 ce:Nat
 S:Nat
 PP:Nat
 BA:N_
 bc:Nat
 bp:Nat
 cp:Nat
 bm:Nat
 cm:Nat
 bg:Nat
 cg:Nat
 rb:Nat
 rc:Nat
 IA:N_
 ic:Nat
 ov:Value
def bq (i:Inp) (x:Nat) (m:Mst):Nat:=m.st*(aJ (az i) x 0).length+m.nx
def Mut (b:Nat) (a:MAd) (k:Nat):Prop:=k=b\/k=a.bp\/k=a.bm\/k=a.bg\/k=a.rb\/a.ov.ownBlock=some k
abbrev gE (H:Nat->Prop) (b:Nat) (a:MAd):Nat->Prop:=fun k=>Mut b a k\/H k
def vN (V w:Qd) (v:Value) (l:Qg):Prop:=∃rows:List (Qc),w.ownsRow 0 141 2 v l.length (List.flatten rows)/\rows.length=l.length/\(∀r∈rows,r.length=2)/\∀j x,l[j]?=some x->rEx V (bZ rows j) x
structure aV (H:Nat->Prop) (w:Qd) (b:Nat) (i:Inp) (x:Nat) (a:MAd) (m:Mst):Prop where
 blk:w.heap[b]?=some (.cells #[OH (x:Nat),OH i.cfg.workers,OH i.cfg.micros,(au a.F),.slice a.E i.data.length a.ce,(au a.S),(au a.PP),.slice a.BA (az i).buks.length a.bc,OH i.cfg.rate,OH i.cfg.mom,OH i.cfg.shift,.slice (some (ar a.bp 0)) i.start.length a.cp,.slice (some (ar a.bm 0)) i.start.length a.cm,.slice (some (ar a.bg 0)) i.start.length a.cg,.slice (some (ar a.rb 0)) m.rc.length a.rc,.slice a.IA (cK i x m.st).length a.ic,OH (m.nx:Nat),OH (bq i x m:Nat),a.ov] 179 (0,0))
 sh:cI 212 (aF (gE H b a) w) a.F i.cfg.sizes
 ex:de rEx 2 (aF (gE H b a) w) a.E i.data
 sa:gi (aF (gE H b a) w) a.S i.data.length i.cfg.batch.toNat i.cfg.steps.toNat i.draws
 pl:∃a0 a1 a2 a3 a5 a11,fk (aF (gE H b a) w) a.PP (az i) a0 a1 a2 a3 a5 (OH (i.cfg.steps.toNat:Nat)) a11
 bu:Rd (aF (gE H b a) w) a.BA (aT (az i).buks)
 it:Rd (aF (gE H b a) w) a.IA (cC (cK i x m.st))
 re:vN (aF (gE H b a) w) w (.slice (some (ar a.rb 0)) m.rc.length a.rc) m.rc
 oP:w.ownsRow 0 2 1 (.slice (some (ar a.bp 0)) i.start.length a.cp) i.start.length (aA .i64 m.P)
 oM:w.ownsRow 0 2 1 (.slice (some (ar a.bm 0)) i.start.length a.cm) i.start.length (aA .i64 m.M)
 oG:w.ownsRow 0 2 1 (.slice (some (ar a.bg 0)) i.start.length a.cg) i.start.length (aA .i64 m.G)
 oO:w.ownsRow 0 3 1 a.ov m.op.length (aA .i64 (dU m.op))
 dj:a.bp≠a.bm/\a.bp≠a.bg/\a.bm≠a.bg
 hH:∀k,k<w.heap.size->Mut b a k->¬H k
 wP:m.P.length=i.start.length/\W64 m.P
 wM:m.M.length=i.start.length/\W64 m.M
 wG:m.G.length=i.start.length/\W64 m.G
 ox:m.nx<(cK i x m.st).length\/(m.nx=0/\i.cfg.steps.toNat<=m.st)
 xw:x<(az i).W
theorem vN.ext {V i w o:Qd} {v:Value} {l:Qg} (h:vN V w v l) (he:Ext V i) (p:∀e size n xs,w.ownsRow 0 e size v n xs->o.ownsRow 0 e size v n xs):vN i o v l:=by
 obtain ⟨rows,h1,u,A,y⟩:=h;exact ⟨rows,p _ _ _ _ h1,u,A,fun j x B=>cQ (y j x B) he⟩
theorem aV.step {H H':Nat->Prop} {w u:Qd} {b x:Nat} {i:Inp} {a:MAd} {m:Mst} (h:aV H w b i x a m) (hk:Keep H w u) (hs:∀k,k<w.heap.size->H' k->H k) (hn:∀k,Mut b a k->¬H' k):aV H' u b i x a m:=by
 have he:Ext (aF (gE H b a) w) (aF (gE H' b a) u):=aX (hk.mono fun k _ h=>.inr h) (fun k hl D=>D.imp id (hs k hl));have hb:∀k,k<w.heap.size->Mut b a k->u.heap[k]?=w.heap[k]?:=fun k hl hm=>hk.block k hl (h.hH k hl hm);have o:∀(v:Value) e size n xs,(∀k,v.ownBlock=some k->Mut b a k)->w.ownsRow 0 e size v n xs->u.ownsRow 0 e size v n xs:=fun v e size n xs I o=>hk.own o fun k p=>h.hH k (o.lt k p).2 (I k p);have bp:∀k,(Value.slice (some (ar a.bp 0)) i.start.length a.cp).ownBlock=some k->Mut b a k:=fun k e=>by cases e;exact .inr (.inl rfl)
 have bm:∀k,(Value.slice (some (ar a.bm 0)) i.start.length a.cm).ownBlock=some k->Mut b a k:=fun k e=>by cases e;exact .inr (.inr (.inl rfl))
 have bg:∀k,(Value.slice (some (ar a.bg 0)) i.start.length a.cg).ownBlock=some k->Mut b a k:=fun k e=>by cases e;exact .inr (.inr (.inr (.inl rfl)))
 have rb:∀k,(Value.slice (some (ar a.rb 0)) m.rc.length a.rc).ownBlock=some k->Mut b a k:=fun k e=>by cases e;exact .inr (.inr (.inr (.inr (.inl rfl))))
 have ov:∀k,a.ov.ownBlock=some k->Mut b a k:=fun k e=>.inr (.inr (.inr (.inr (.inr e))));obtain ⟨B,a1,C,J,L,y,A⟩:=h.pl
 exact ⟨(hb b (NE h.blk) (.inl rfl)).trans h.blk,fA h.sh he,eO cQ h.ex he,iq h.sa he,⟨B,a1,C,J,L,y,ir A he⟩,aQ h.bu he,aQ h.it he,
  h.re.ext he (fun e size n xs=>o _ e size n xs rb),o _ _ _ _ _ bp h.oP,o _ _ _ _ _ bm h.oM,o _ _ _ _ _ bg h.oG,o _ _ _ _ _ ov h.oO,h.dj,fun k _ hm=>hn k hm,h.wP,h.wM,h.wG,h.ox,h.xw⟩
theorem aV.below {H:Nat->Prop} {w o:Qd} {b x:Nat} {i:Inp} {a:MAd} {m:Mst} (h:aV H w b i x a m) (hb:aq w o) (hn:∀k,Mut b a k->¬H k):aV H o b i x a m:=h.step (Keep.below hb) (fun _ _ h=>h) hn
theorem MP {w:Qd} {b:Nat} {t:Qf} {H y u D v C B A p x i o v0 v1 v2 v3 v4 v5 v6 v7 v8 v9 v10 v11:Value} (h:w.heap[b]?=some (.cells #[H,y,u,D,v,C,B,A,p,x,i,o] t (0,0))): ((((((((((((w.setCell (ar b 0) v0).setCell (ar b 1) v1).setCell (ar b 2) v2).setCell (ar b 3) v3).setCell (ar b 4) v4).setCell (ar b 5) v5).setCell (ar b 6) v6).setCell (ar b 7) v7).setCell (ar b 8) v8).setCell (ar b 9) v9).setCell (ar b 10) v10).setCell (ar b 11) v11).heap[b]?=some (.cells #[v0,v1,v2,v3,v4,v5,v6,v7,v8,v9,v10,v11] t (0,0)):=ss (ss (ss (ss (ss (ss (ss (ss (ss (ss (ss (ss h rfl) rfl) rfl) rfl) rfl) rfl) rfl) rfl) rfl) rfl) rfl) (by simp)
theorem jf (x:Itm):(bj x).length=12:=by
 rcases x with ⟨k,s,n,a⟩
 cases a<;>rfl
theorem CV {w:Qd} {A:N_} {l:List Itm} (h:Rd w A (cC l)) {i:Nat} {y:Itm} (x:l[i]?=some y):∃b o,A=some (ar b o)/\∀f,f<12->w.cell? ⟨b,o+(i*12+f),none⟩=(bj y)[f]?:=by
 have B:=rJ jf x 0 ap;obtain ⟨b,o,e,_⟩:=h _ ((bj y)[0]'(by rw [jf];omega)) (B.trans (Of _));refine ⟨b,o,e,fun f u=>?_⟩;have h1:=rJ jf x f u;have v:(bj y)[f]?=some ((bj y)[f]'(by rw [jf];exact u)):=Of _;obtain ⟨C,D,p,c⟩:=h _ _ (h1.trans v);rw [e] at p;injection p with p
 injection p with e1 e2 _
 subst e1;subst e2;rw [c,v]
theorem CO (b nx il ic u x:Nat) (c0 c1 c2 c3 c4 c5 c6 c7 c8 c9 a4 ao a7 av a2 a9 a5:Value) (Z Y J:Int) (H L:Bool) (Q V T R I O U:Int) (w:Qd) (hb:w.heap[b]?=some (.cells #[c0,c1,c2,c3,c4,c5,c6,c7,c8,c9,a4,ao,a7,av,a2,.slice (some (ar u x)) il ic,OH (nx:Nat),a9,a5] 179 (0,0))) (hx:nx<il) (hc:w.cell? (ar u (x+nx*12))=some (OH Z)/\w.cell? (ar u (x+nx*12+1))=some (OH Y)/\w.cell? (ar u (x+nx*12+2))=some (OH J)/\w.cell? (ar u (x+nx*12+3))=some (.bool H)/\w.cell? (ar u (x+nx*12+4))=some (.bool L)/\w.cell? (ar u (x+nx*12+5))=some (OH Q)/\w.cell? (ar u (x+nx*12+6))=some (OH V)/\w.cell? (ar u (x+nx*12+7))=some (OH T)/\w.cell? (ar u (x+nx*12+8))=some (OH R)/\w.cell? (ar u (x+nx*12+9))=some (OH I)/\w.cell? (ar u (x+nx*12+10))=some (OH O)/\w.cell? (ar u (x+nx*12+11))=some (OH U)):Calls prog 218 #[(au b)] w fun e i=>e=.returned (.tuple #[.agg #[OH Z,OH Y,OH J,.bool H,.bool L,OH Q,OH V,OH T,OH R,OH I,OH O,OH U],.bool true])/\aq w i:=by
 obtain ⟨p,B⟩:∃p,w.alloc (.cells OS 152)=p:=⟨_,rfl⟩;have g0:p.heap[w.heap.size]?=some (.cells OS 152 (0,0)):=by rw [<-B];exact NG w _
 have h:aq w p:=by rw [<-B];exact (br w).alloc (NF _) _
 have hs:=NE hb;have kb:=fun i (q:Keep (fun j=>j=w.heap.size) p i)=>(q.block b (by have:=h.size;omega) ap).trans (sb hb p h);have tb:=fun i q=>Lq (kb i q);obtain ⟨h0,h1,h2,h3,h4,h5,h6,h7,h8,h9,N,a0⟩:=hc;have aR:u<w.heap.size:=aB h0;have y:¬u=w.heap.size:=ap;have d0:=fun i (q:Keep (fun j=>j=w.heap.size) p i)=>q.cell (aw h h0) y;have d1:=fun i (q:Keep (fun j=>j=w.heap.size) p i)=>q.cell (aw h h1) y;have d2:=fun i (q:Keep (fun j=>j=w.heap.size) p i)=>q.cell (aw h h2) y;have d3:=fun i (q:Keep (fun j=>j=w.heap.size) p i)=>q.cell (aw h h3) y;have d4:=fun i (q:Keep (fun j=>j=w.heap.size) p i)=>q.cell (aw h h4) y;have d5:=fun i (q:Keep (fun j=>j=w.heap.size) p i)=>q.cell (aw h h5) y;have d6:=fun i (q:Keep (fun j=>j=w.heap.size) p i)=>q.cell (aw h h6) y;have d7:=fun i (q:Keep (fun j=>j=w.heap.size) p i)=>q.cell (aw h h7) y;have d8:=fun i (q:Keep (fun j=>j=w.heap.size) p i)=>q.cell (aw h h8) y;have d9:=fun i (q:Keep (fun j=>j=w.heap.size) p i)=>q.cell (aw h h9) y;have aG:=fun i (q:Keep (fun j=>j=w.heap.size) p i)=>q.cell (aw h N) y;have a3:=fun i (q:Keep (fun j=>j=w.heap.size) p i)=>q.cell (aw h a0) y;have q0:Keep (fun j=>j=w.heap.size) p p:=Keep.refl _ _;have aM:(nx:Int)<il:=ap;have b2:¬((il:Int)<=nx):=ap;obtain ⟨ad,a8,G0⟩:=af B h g0;clear B h g0 kb hb h0 h1 h2 h3 h4 h5 h6 h7 h8 h9 N a0;go_enter func218,ntmps218;go_wp2_with fail;rw [ad.o];refine HA.g (fun i:Qd=>Keep (fun j=>j=w.heap.size) p i) ?_;refine HA.t ?_ [0,1,2,3,4,5,6,7,8,9,10,11,12,13] q0.drew ?_;refine HA.d ?_
 try simp only [Exit.then]
 have q1:=q0.drew;go_wp2_with fail;refine HA.g (fun i:Qd=>Keep (fun j=>j=w.heap.size) p i) ?_;refine HA.t ?_ [0,1,2,3,4,5,6,7,8,9] q1.drew ?_;obtain ⟨W1,A⟩:∃W1,p.drew.drew=W1:=⟨_,rfl⟩;have g1:W1.heap[w.heap.size]?=some (.cells OS 152 (0,0)):=by rw [<-A];exact G0.o
 have q2:Keep (fun j=>j=w.heap.size) p W1:=by rw [<-A];exact q0.drew.drew
 have a1:aq w W1:=by rw [<-A];exact (a8.o.drew).drew
 rw [A];clear A;have D:=MP (v0:=(OH Z)) (v1:=(OH Y)) (v2:=(OH J)) (v3:=(.bool H)) (v4:=(.bool L)) (v5:=(OH Q)) (v6:=(OH V)) (v7:=(OH T)) (v8:=(OH R)) (v9:=(OH I)) (v10:=(OH O)) (v11:=(OH U)) g1;obtain ⟨W9,C⟩:∃W9,((((((((((((W1.setCell (ar w.heap.size 0) (OH Z)).setCell (ar w.heap.size 1) (OH Y)).setCell (ar w.heap.size 2) (OH J)).setCell (ar w.heap.size 3) (.bool H)).setCell (ar w.heap.size 4) (.bool L)).setCell (ar w.heap.size 5) (OH Q)).setCell (ar w.heap.size 6) (OH V)).setCell (ar w.heap.size 7) (OH T)).setCell (ar w.heap.size 8) (OH R)).setCell (ar w.heap.size 9) (OH I)).setCell (ar w.heap.size 10) (OH O)).setCell (ar w.heap.size 11) (OH U))=W9:=⟨_,rfl⟩;have k9:Keep (fun j=>j=w.heap.size) W1 W9:=by rw [<-C];exact Keep.setCell (S:=fun j=>j=w.heap.size) (Keep.setCell (S:=fun j=>j=w.heap.size) (Keep.setCell (S:=fun j=>j=w.heap.size) (Keep.setCell (S:=fun j=>j=w.heap.size) (Keep.setCell (S:=fun j=>j=w.heap.size) (Keep.setCell (S:=fun j=>j=w.heap.size) (Keep.setCell (S:=fun j=>j=w.heap.size) (Keep.setCell (S:=fun j=>j=w.heap.size) (Keep.setCell (S:=fun j=>j=w.heap.size) (Keep.setCell (S:=fun j=>j=w.heap.size) (Keep.setCell (S:=fun j=>j=w.heap.size) (Keep.setCell (S:=fun j=>j=w.heap.size) (Keep.refl _ _) _ (.inr rfl) _) _ (.inr rfl) _) _ (.inr rfl) _) _ (.inr rfl) _) _ (.inr rfl) _) _ (.inr rfl) _) _ (.inr rfl) _) _ (.inr rfl) _) _ (.inr rfl) _) _ (.inr rfl) _) _ (.inr rfl) _) _ (.inr rfl) _
 rw [C] at D;have u0:=lB g1;have lu:=NE g1;refine HA.s 10 W9 (q2.trans k9) ?_ (he:=by subst C;go_simp);refine HA.t ?_ [11] (q2.trans k9) ?_;refine HA.d ?_;obtain ⟨⟨r0,r1,r2,r3,r4,r5,r6,r7,r8,r9,ab,a6⟩,rf⟩:=lB D;have HB:=aa (a1.trans (k9.toBelow a1.size (fun j hj=>ap)));have aP:=NE D;clear D k9 g1 u0 lu q0 q1 q2 tb C d0 d1 d2 d3 d4 d5 d6 d7 d8 d9 aG a3;go_wp2_with fail;exact NX (v:=.tuple #[.agg #[OH Z,OH Y,OH J,.bool H,.bool L,OH Q,OH V,OH T,OH R,OH I,OH O,OH U],.bool true]) (by simp [results,results218,go_sem,r0,r1,r2,r3,r4,r5,r6,r7,r8,r9,ab,a6]) rfl ⟨rfl,HB.o⟩
theorem jD {H:Nat->Prop} {w:Qd} {b x:Nat} {i:Inp} {a:MAd} {m:Mst} (h:aV H w b i x a m) {y:Itm} (v:(cK i x m.st)[m.nx]?=some y):Calls prog 218 #[(au b)] w fun e B=>e=.returned (.tuple #[.agg (bj y).toArray,.bool true])/\aq w B:=by
 have hl:m.nx<(cK i x m.st).length:=(Oe.1 v).1;obtain ⟨u,p,e,hc⟩:=CV (aQ h.it (er _ w)) v;have hb:=h.blk;rw [e] at hb;have o:∀f,f<12->w.cell? (ar u (p+m.nx*12+f))=(bj y)[f]?:=fun f o=>by rw [Oy];exact hc f o
 rcases y with ⟨C,st,n,A⟩
 cases A with
 | none=>
  exact CO b m.nx _ _ u p _ _ _ _ _ _ _ _ _ _ _ _ _ _ _ _ _ _ _ _ _ _ _ _ _ _ _ _ _ w hb hl ⟨o 0 ap,o 1 ap,o 2 ap,o 3 ap,o 4 ap,o 5 ap,o 6 ap,o 7 ap,o 8 ap,o 9 ap,o 10 ap,o 11 ap⟩
 | some A=>
  exact CO b m.nx _ _ u p _ _ _ _ _ _ _ _ _ _ _ _ _ _ _ _ _ _ _ _ _ _ _ _ _ _ _ _ _ w hb hl ⟨o 0 ap,o 1 ap,o 2 ap,o 3 ap,o 4 ap,o 5 ap,o 6 ap,o 7 ap,o 8 ap,o 9 ap,o 10 ap,o 11 ap⟩
theorem wZ {H:Nat->Prop} {w:Qd} {b x:Nat} {i:Inp} {a:MAd} {m:Mst} (h:aV H w b i x a m) (hn:(cK i x m.st).length<=m.nx):Calls prog 218 #[(au b)] w fun e C=>e=.returned (.tuple #[.agg OS,.bool false])/\aq w C:=by
 obtain ⟨il,D⟩:∃il,(cK i x m.st).length=il:=⟨_,rfl⟩;have hb:=h.blk;rw [D] at hb hn;obtain ⟨y,u⟩:∃y,w.alloc (.cells OS 152)=y:=⟨_,rfl⟩;have g0:y.heap[w.heap.size]?=some (.cells OS 152 (0,0)):=by rw [<-u];exact NG w _
 have B:aq w y:=by rw [<-u];exact (br w).alloc (NF _) _
 have tb:=fun C q=>Lq (sb (sb hb y B) C q);obtain ⟨n,I⟩:∃n,m.nx=n:=⟨_,rfl⟩;rw [I] at tb hn;have a2:(il:Int)<=n:=ap;have V:=br y;obtain ⟨Q,O,G0⟩:=af u B g0;clear u B g0 hb h D I;go_enter func218,ntmps218;go_wp2_with fail;rw [Q.o];refine HA.g (fun C:Qd=>aq y C) ?_;refine HA.t ?_ [0,1,2,3,4,5,6,7,8,9,10,11,12,13] V.drew ?_;refine HA.d ?_
 try simp only [Exit.then]
 obtain ⟨W1,p⟩:∃W1,y.drew=W1:=⟨_,rfl⟩;have g1:W1.heap[w.heap.size]?=some (.cells OS 152 (0,0)):=by rw [<-p];exact G0.o
 have J:aq w W1:=by rw [<-p];exact O.o.drew
 rw [p];clear p V tb;obtain ⟨⟨u0,u1,u2,u3,u4,u5,u6,u7,u8,u9,a1,a0⟩,uf⟩:=lB g1;have lu:=NE g1;have N:=MP (v0:=OH 0) (v1:=OH 0) (v2:=OH 0) (v3:=.bool false) (v4:=.bool false) (v5:=OH 0) (v6:=OH 0) (v7:=OH 0) (v8:=OH 0) (v9:=OH 0) (v10:=OH 0) (v11:=OH 0) g1;have U:=aa N;have kk:Keep (fun j=>j=w.heap.size) W1 (((((((((((((W1.setCell (ar w.heap.size 0) (OH 0)).setCell (ar w.heap.size 1) (OH 0)).setCell (ar w.heap.size 2) (OH 0)).setCell (ar w.heap.size 3) (.bool false)).setCell (ar w.heap.size 4) (.bool false)).setCell (ar w.heap.size 5) (OH 0)).setCell (ar w.heap.size 6) (OH 0)).setCell (ar w.heap.size 7) (OH 0)).setCell (ar w.heap.size 8) (OH 0)).setCell (ar w.heap.size 9) (OH 0)).setCell (ar w.heap.size 10) (OH 0)).setCell (ar w.heap.size 11) (OH 0))):=Keep.setCell (S:=fun j=>j=w.heap.size) (Keep.setCell (S:=fun j=>j=w.heap.size) (Keep.setCell (S:=fun j=>j=w.heap.size) (Keep.setCell (S:=fun j=>j=w.heap.size) (Keep.setCell (S:=fun j=>j=w.heap.size) (Keep.setCell (S:=fun j=>j=w.heap.size) (Keep.setCell (S:=fun j=>j=w.heap.size) (Keep.setCell (S:=fun j=>j=w.heap.size) (Keep.setCell (S:=fun j=>j=w.heap.size) (Keep.setCell (S:=fun j=>j=w.heap.size) (Keep.setCell (S:=fun j=>j=w.heap.size) (Keep.setCell (S:=fun j=>j=w.heap.size) (Keep.refl _ _) _ (.inr rfl) _) _ (.inr rfl) _) _ (.inr rfl) _) _ (.inr rfl) _) _ (.inr rfl) _) _ (.inr rfl) _) _ (.inr rfl) _) _ (.inr rfl) _) _ (.inr rfl) _) _ (.inr rfl) _) _ (.inr rfl) _) _ (.inr rfl) _;obtain ⟨KK,L⟩:=ae kk J;clear N kk g1 J;go_wp2_with fail;obtain ⟨W9,A⟩:∃W9,((((((((((((W1.setCell (ar w.heap.size 0) (OH 0)).setCell (ar w.heap.size 1) (OH 0)).setCell (ar w.heap.size 2) (OH 0)).setCell (ar w.heap.size 3) (.bool false)).setCell (ar w.heap.size 4) (.bool false)).setCell (ar w.heap.size 5) (OH 0)).setCell (ar w.heap.size 6) (OH 0)).setCell (ar w.heap.size 7) (OH 0)).setCell (ar w.heap.size 8) (OH 0)).setCell (ar w.heap.size 9) (OH 0)).setCell (ar w.heap.size 10) (OH 0)).setCell (ar w.heap.size 11) (OH 0))=W9:=⟨_,rfl⟩;rw [A];have Y:=U.o;rw [A] at Y;obtain ⟨⟨r0,r1,r2,r3,r4,r5,r6,r7,r8,r9,R,T⟩,rf⟩:=lB Y;have Z:=KK.o;rw [A] at Z;have HB:=L.o.trans (Z.toBelow L.o.size (fun j hj=>ap));exact NX (v:=.tuple #[.agg OS,.bool false]) (by simp [results,results218,go_sem,r0,r1,r2,r3,r4,r5,r6,r7,r8,r9,R,T]) rfl ⟨rfl,HB⟩
theorem Ez {H:Nat->Prop} {w:Qd} {b x:Nat} {i:Inp} {a:MAd} {m:Mst} (h:aV H w b i x a m) (hn:m.op.length<=60):Calls prog 219 #[(au b)] w fun e C=>∃v,e=.returned v/\C.ownsRow w.heap.size 3 1 v m.op.length (aA .i64 (dU m.op))/\aq w C:=by
 obtain ⟨A,c,u,_⟩:=aC h.oO;have hc:=mG A (dU m.op) c w (by have:=h.oO;rw [u] at this;exact Rd.own this) (by rw [lL];omega);rw [lL] at hc;have B:=Lq h.blk;rw [u] at B;obtain ⟨n,p⟩:∃n,m.op.length=n:=⟨_,rfl⟩;rw [p] at hc B ⊢;have L:=aa hc;clear h hc p hn u;go_enter func219,ntmps219;go_wp2_with fail;refine L.o.mono ?_;rintro e N ⟨v,rfl,D,y⟩;obtain ⟨J,I⟩:=ae D y;clear D y;go_wp2_with fail;go_ret;exact ⟨_,rfl,J.o,I.o⟩
def StL (base:Nat) (w:Qd) (l:Qg) (v:Value):Prop:=∃rows:List (Qc),w.ownsRow base 141 2 v l.length (List.flatten rows)/\rows.length=l.length/\(∀r∈rows,r.length=2)/\∀j x,l[j]?=some x->dZ w base (bZ rows j) x
theorem StL.form {base:Nat} {w:Qd} {l:Qg} {v:Value} (h:StL base w l v):∃A c,v=.slice A l.length c/\l.length<=c:=by
 obtain ⟨rows,h1,_⟩:=h;exact aC h1
theorem StL.below {base:Nat} {w i:Qd} {l:Qg} {v:Value} (h:StL base w l v) (hb:aq w i):StL base i l v:=by
 obtain ⟨rows,h1,o,u,p⟩:=h;exact ⟨rows,ay h1 hb,o,u,fun j x y=>(p j x y).keep (S:=fun _=>False) (Keep.below hb) (fun _ h=>h.elim)⟩
theorem StL.rd {base:Nat} {w:Qd} {l:Qg} {A:N_} {n c:Nat} (h:StL base w l (.slice A n c)):de rEx 2 w A l:=by
 obtain ⟨rows,h1,i,p,o⟩:=h;obtain ⟨y,v,e,_⟩:=aC h1;injection e with e1 e2 e3
 subst e2;exact ⟨rows,Rd.own h1,i,p,fun j x u=>(o j x u).rd⟩
theorem StL.nil (base:Nat) (w:Qd):StL base w [] (OJ):=⟨[],NV _ _ _ _,rfl,by simp,by simp⟩
theorem StL.push {base:Nat} {w u:Qd} {l:Qg} {x:Ex} {v v' o i:Value} {rows:List (Qc)} (h1:w.ownsRow base 141 2 v l.length (List.flatten rows)) (A:rows.length=l.length) (I:∀r∈rows,r.length=2) (D:∀j x,l[j]?=some x->dZ w base (bZ rows j) x) (H:dZ w base [o,i] x) (B:u.ownsRow base 141 2 v' (l.length+1) (List.flatten rows++[o,i])) (hg:w.grownBy u v.ownBlock):StL base u (l++[x]) v':=by
 refine ⟨rows++[[o,i]],?_,by simp [A],?_,?_⟩
 ·rw [Od,Oo,List.flatten_cons,List.flatten_nil,List.append_nil];exact B
 ·intro r hr;rcases Ov.1 hr with hr | hr
  ·exact I r hr
  ·rw [List.mem_singleton.1 hr];rfl
 ·intro j y p;rcases NY j l.length with h | h
  ·rw [Og h] at p;have e:bZ (rows++[[o,i]]) j=bZ rows j:=by simp [bZ,Og (show j<rows.length by omega)]
   rw [e];exact (D j y p).pushed h1 hg (by decide)
  ·have C:j=l.length:=by have:=(Oe.1 p).1;simp at this;omega
   subst C;simp at p;subst p;have e:bZ (rows++[[o,i]]) l.length=[o,i]:=by rw [<-A];simp [bZ]
   rw [e];exact H.pushed h1 hg (by decide)
theorem vN.rd {H:Nat->Prop} {w:Qd} {b x:Nat} {i:Inp} {a:MAd} {m:Mst} (h:aV H w b i x a m):de rEx 2 w (some (ar a.rb 0)) m.rc:=by
 obtain ⟨rows,h1,o,u,p⟩:=h.re;exact ⟨rows,Rd.own h1,o,u,fun j x v=>cQ (p j x v) (er _ w)⟩
theorem Ll {l:Qg} {k:Nat} {x:Ex} (h:l[k]?=some x):l.take (k+1)=l.take k++[x]:=by
 obtain ⟨hk,e⟩:=Oe.1 h;rw [List.take_succ_eq_append_getElem hk,e]
theorem Ew {H:Nat->Prop} {w:Qd} {b x:Nat} {i:Inp} {a:MAd} {m:Mst} (h:aV H w b i x a m) (hn:∀y∈m.rc,y.1.length=i.start.length/\y.2.length=i.start.length) (hi:i.start.length<=60) (hl:m.rc.length<=100):Calls prog 220 #[(au b)] w fun e w'=>∃v,e=.returned v/\StL w.heap.size w' m.rc v/\aq w w':=by
 have tb:=Lq h.blk;have lb:=NE h.blk;have hr:=vN.rd h;obtain ⟨N,hN⟩:∃N,m.rc.length=N:=⟨_,rfl⟩;obtain ⟨n,Q⟩:∃n,i.start.length=n:=⟨_,rfl⟩;rw [hN] at tb hl;rw [Q] at hn hi;obtain ⟨Hr,HN,Hn⟩:=af hr hN hn;clear hr h hN hn Q;go_enter func220,ntmps220;go_wp2_with fail;clear tb
 go_loopw [3,13] (fun v y wr=>∃k:Nat,k<=N/\y=OH k/\StL w.heap.size wr (m.rc.take k) v/\aq w wr) (fun _ y _=>N-(intOf y).toNat)
 ·exact ⟨0,NJ _,rfl,StL.nil _ _,NI _ _⟩
 case round=>
  obtain ⟨k,hk,rfl,hs,q⟩:=hrel;by_cases a4:k<N
  ·have a6:(k:Int)<N:=ap;have aR:IntKind.i64.wrap ((k:Int)+1)=((k+1:Nat):Int):=by rw [NK _ ap];push_cast;rfl
   obtain ⟨y,hx⟩:∃x,m.rc[k]?=some x:=⟨_,Of (by rw [HN.o];exact a4)⟩;have u:=Hn.o y (List.mem_of_getElem? hx);have a0:=Ll hx;obtain ⟨bb,o,A1,c1,A2,c2,e,T,p1,p2,r1,r2⟩:=fL Hr.o hx;injection e with e
   injection e with e1 e2
   subst e1;subst e2;rw [u.1] at p1;rw [u.2] at p2;have q1:=(q.cell (p:=(ar a.rb (0+k*2))) T).trans p1;have q2:=(q.cell (p:=(ar a.rb (0+k*2+1))) T).trans p2;rw [Oz] at q1 q2;obtain ⟨W1,B⟩:∃W1,wr.alloc (.cells #[.slice A1 n c1,.slice A2 n c2] 141)=W1:=⟨_,rfl⟩;have g1:W1.heap[wr.heap.size]?=some (.cells #[.slice A1 n c1,.slice A2 n c2] 141 (0,0)):=by rw [<-B];exact NG wr _
   have k1:aq wr W1:=by rw [<-B];exact (br wr).alloc (NF _) _
   have qW:aq w W1:=q.trans (k1.mono q.size);have a1:=kv A1 A2 n c1 c2 y.1 y.2 W1 (r1.hr.below qW) (r2.hr.below qW) u.1 u.2 ap;have C:=NR r1.hw r2.hw;have V:=hs.below k1;have lr:=q.size;have tg:=bx2 g1;obtain ⟨aP,aM,QW,av,ao,O,D⟩:=aj a1 B qW V a0 u C;clear a1 B qW V a0 u C g1 k1 r1 r2 p1 p2 hx q;have b0:a.rb<wr.heap.size:=ap;have J:(m.rc.take k).length=k:=by rw [Oi,HN.o];omega
   have A:=aa J;obtain ⟨Av,cv,e,_⟩:=hs.form;rw [J] at e;subst e;clear hs J;go_wp2_with fail;rw [aM.o];refine aP.o.mono ?_;rintro e w3 ⟨B1,d1,B2,d2,rfl,aG,ad,o1,o2,Z,k3⟩;have a2:=av.o.below k3;obtain ⟨rows,u1,u2,u3,u4⟩:=a2;have I:=QW.o.trans (k3.mono QW.o.size);have hu:=FW (base:=w.heap.size) (x:=y) o1 o2 QW.o.size O.o.1 O.o.2 ap D.o.1 D.o.2;rw [A.o] at u1 u2;obtain ⟨L,a9,ab,a8,Hu,a7⟩:=ai u1 u2 u3 u4 hu I;have a3:=I.size;clear u1 u2 u3 u4 hu I Z o1 o2 k3 aG ad tg q1 q2;go_wp2_with (at_builtin;refine aW Jb _ rfl (.tmp 17) (.tmp 20) rfl w.heap.size (.slice Av k cv) k _ rfl L.o [.slice B1 n d1,.slice B2 n d2] rfl rfl (by simp [Value.oneCell']) ap (by unfold maxLen;omega) a3 ?_);intro g6 c6 w6 R U Y;have hp:=StL.push (x:=y) (v':=.slice (some (ar g6 0)) (k+1) c6) (by rw [A.o];exact L.o) (by rw [A.o];exact a9.o) ab.o a8.o Hu.o (by rw [A.o];exact R) Y;rw [<-ao.o] at hp;obtain ⟨Hp,a5⟩:=ae hp (a7.o.trans U);clear hp R U Y;go_wp2_with fail;go_roundw
   ·exact ⟨k+1,by omega,by go_num,Hp.o,a5.o⟩
   ·simp [intOf];omega
  ·have a6:¬((k:Int)<N):=ap;rw [List.take_of_length_le (by rw [HN.o];omega)] at hs;obtain ⟨Hs,Hq⟩:=ae hs q;clear hs q;go_wp2_with fail;go_ret;exact ⟨_,rfl,Hs.o,Hq.o⟩
def fO (i:Inp):Mst:=⟨i.start,List.replicate i.start.length 0,List.replicate i.start.length 0,[(i.start,List.replicate i.start.length 0)],0,0,[]⟩
theorem BJ {T:Qf} {B b:Nat} {w:Qd} {sz:Qa} (h:cI T (fZ B w) b sz):cI T w.drew b sz:=(ns h (Agr.refl B w)).below ((br w).drew)
structure Nd (sz:Qa) (L wk bh mi sn bu ch wi ca n Q:Nat) (A:N_) (c:Nat) (sh ra mo:Int) (D:N_) (cd:Nat) (T:N_) (ct:Nat) (R:N_) (cr:Nat) (data:Qg) (ps draws:Qa) (w:Qd):Prop where
 inp:∀N,N=data.length->∀w',aq w w'->Calls prog 43 #[.agg #[.slice A L c,OH sh,OH ra,OH mo,OH (wk:Nat),OH (bh:Nat),OH (mi:Nat),OH (sn:Nat),OH (bu:Nat),OH (ch:Nat),OH (wi:Nat),OH (ca:Nat),.slice D N cd,.slice T n ct,.slice R Q cr]] w' fun e w''=>e=.returned (OH 0)/\aq w' w''
 snew:∀w',aq w w'->Calls prog 77 #[.slice A L c] w' fun e w''=>∃F,e=.returned (.tuple #[(au F),OH 0])/\cI 212 (fZ w.heap.size w'') F sz/\aq w' w''
 samp:∀N,N=data.length->∀w',aq w w'->Calls prog 81 #[OH (N:Nat),OH (bh:Nat),OH (sn:Nat),.slice R Q cr] w' fun e w''=>∃S,e=.returned (.tuple #[(au S),OH 0])/\gi (fZ w.heap.size w'') S data.length bh sn draws/\aq w' w''
 cnt:∀F w',cI 212 w' F sz->Calls prog 79 #[(au F)] w' fun e w''=>e=.returned (OH (n:Nat))/\w'=w''
 chk:∀w',aq w w'->Calls prog 76 #[.agg #[.slice A L c,OH sh,OH ra,OH mo,OH (wk:Nat),OH (bh:Nat),OH (mi:Nat),OH (sn:Nat),OH (bu:Nat),OH (ch:Nat),OH (wi:Nat),OH (ca:Nat)]] w' fun e w''=>e=.returned (OH 0)/\aq w' w''
 dat:de rEx 2 w D data
 dl:data.length<=1048576
 st:Rd w T (aA .i64 ps)
 sl:ps.length=n
def Win (h:Nat) (i:Qd) (ms:List Nat) (Q:Qd->Prop):Prop:=∃lo u,h<=lo/\Q (fZ lo u)/\aq u i/\∀k∈ms,k<lo\/u.heap.size<=k
theorem ms5 {a b c d e lo h:Nat} (h1:a<lo\/h<=a) (i:b<lo\/h<=b) (u:c<lo\/h<=c) (o:d<lo\/h<=d) (p:e<lo\/h<=e):∀k∈[a,b,c,d,e],k<lo\/h<=k:=by
 intro k hk;simp only [List.mem_cons,List.not_mem_nil,or_false] at hk;rcases hk with rfl | rfl | rfl | rfl | rfl<;>assumption
structure Nc (sz:Qa) (x L wk bh mi sn bu ch wi ca N n:Nat) (A:N_) (c:Nat) (sh ra mo:Int) (data:Qg) (ps draws:Qa) (its:List Itm) (w w':Qd) (b:Nat) (a:MAd):Prop where
 blk:w'.heap[b]?=some (.cells #[OH (x:Nat),OH (wk:Nat),OH (mi:Nat),(au a.F),.slice a.E N a.ce,(au a.S),(au a.PP),.slice a.BA (Pln.buks ⟨wk,mi,bu,ch,wi,n⟩).length a.bc,OH ra,OH mo,OH sh,.slice (some (ar a.bp 0)) n a.cp,.slice (some (ar a.bm 0)) n a.cm,.slice (some (ar a.bg 0)) n a.cg,.slice (some (ar a.rb 0)) 1 a.rc,.slice a.IA its.length a.ic,OH 0,OH 0,OJ] 179 (0,0))
 fo:Win w.heap.size w' [b,a.bp,a.bm,a.bg,a.rb] fun V=>cI 212 V a.F sz
 sa:Win w.heap.size w' [b,a.bp,a.bm,a.bg,a.rb] fun V=>gi V a.S data.length bh sn draws
 pl:Win w.heap.size w' [b,a.bp,a.bm,a.bg,a.rb] fun V=>fk V a.PP ⟨wk,mi,bu,ch,wi,n⟩ (.slice A L c) (OH sh) (OH ra) (OH mo) (OH (bh:Nat)) (OH (sn:Nat)) (OH (ca:Nat))
 ex:Win w.heap.size w' [b,a.bp,a.bm,a.bg,a.rb] fun V=>de rEx 2 V a.E data
 bu:Win w.heap.size w' [b,a.bp,a.bm,a.bg,a.rb] fun V=>Rd V a.BA (aT (Pln.buks ⟨wk,mi,bu,ch,wi,n⟩))
 it:Win w.heap.size w' [b,a.bp,a.bm,a.bg,a.rb] fun V=>Rd V a.IA (cC its)
 re:∃A1 c1 A2 c2,n<=c1/\n<=c2/\w'.heap[a.rb]?=some (.cells #[.slice A1 n c1,.slice A2 n c2] 141 (0,0))/\(Win w.heap.size w' [b,a.bp,a.bm,a.bg,a.rb] fun V=>Rd V A1 (aA .i64 ps))/\(Win w.heap.size w' [b,a.bp,a.bm,a.bg,a.rb] fun V=>Rd V A2 (aA .i64 (List.replicate n 0)))
 oP:w'.ownsRow 0 2 1 (.slice (some (ar a.bp 0)) n a.cp) n (aA .i64 ps)
 oM:w'.ownsRow 0 2 1 (.slice (some (ar a.bm 0)) n a.cm) n (aA .i64 (List.replicate n 0))
 oG:w'.ownsRow 0 2 1 (.slice (some (ar a.bg 0)) n a.cg) n (aA .i64 (List.replicate n 0))
 lo:w.heap.size<=b/\w.heap.size<=a.bp/\w.heap.size<=a.bm/\w.heap.size<=a.bg/\w.heap.size<=a.rb
 dj:a.bp≠a.bm/\a.bp≠a.bg/\a.bm≠a.bg
 ov:a.ov=OJ
 rc:a.rc=1
 k:aq w w'
theorem EA (sz:Qa) (x L H bh mi sn bu ch wi ca N n Q:Nat) (A:N_) (c:Nat) (sh ra O:Int) (D:N_) (cd:Nat) (T:N_) (ct:Nat) (R:N_) (cr:Nat) (data:Qg) (ps draws:Qa) (w:Qd) (a9:Ending->Qd->Prop) (h:Nd sz L H bh mi sn bu ch wi ca n Q A c sh ra O D cd T ct R cr data ps draws w) (hN:N=data.length) (hx:x<H) (hp:cW ⟨H,mi,bu,ch,wi,n⟩) (hn:1<=n) (cj:bu<=1048576) (cc:wi<=1048576) (J:List Itm) (a8:∀P C,fk C P ⟨H,mi,bu,ch,wi,n⟩ (.slice A L c) (OH sh) (OH ra) (OH O) (OH (bh:Nat)) (OH (sn:Nat)) (OH (ca:Nat))->Calls prog 87 #[(au P),OH (x:Nat),OH 0] C fun e bn=>∃v,e=.returned v/\bn.ownsRow C.heap.size 152 12 v J.length (cC J)/\aq C bn) (a7:∀C b a,Nc sz x L H bh mi sn bu ch wi ca N n A c sh ra O data ps draws J w C b a->a9 (.returned (.tuple #[(au b),OH 0])) C):Calls prog 44 #[.agg #[.slice A L c,OH sh,OH ra,OH O,OH (H:Nat),OH (bh:Nat),OH (mi:Nat),OH (sn:Nat),OH (bu:Nat),OH (ch:Nat),OH (wi:Nat),OH (ca:Nat),.slice D N cd,.slice T n ct,.slice R Q cr],OH (x:Nat)] w a9:=by
 obtain ⟨W0,a4⟩:∃W0,w.alloc (.cells #[.slice A L c,OH sh,OH ra,OH O,OH (H:Nat),OH (bh:Nat),OH (mi:Nat),OH (sn:Nat),OH (bu:Nat),OH (ch:Nat),OH (wi:Nat),OH (ca:Nat),.slice D N cd,.slice T n ct,.slice R Q cr] 29)=W0:=⟨_,rfl⟩;have g0:W0.heap[w.heap.size]?=some (.cells #[.slice A L c,OH sh,OH ra,OH O,OH (H:Nat),OH (bh:Nat),OH (mi:Nat),OH (sn:Nat),OH (bu:Nat),OH (ch:Nat),OH (wi:Nat),OH (ca:Nat),.slice D N cd,.slice T n ct,.slice R Q cr] 29 (0,0)):=by rw [<-a4];exact NG w _
 have aG:aq w W0:=by rw [<-a4];exact (br w).alloc (NF _) _
 have bv:=h.inp N hN W0 aG;have cL:¬((H:Int)<=x):=ap;have b0:=hp.n;dsimp only at b0;have t0:=fun C q=>lA (sb g0 C q);obtain ⟨cl,be,bV,Hh,HN,bl,b6,Hl⟩:=ak a4 aG bv h hN a7 a8 h.sl;have cs:n<=1048576:=ap;have q0:=br W0;clear a4 g0 aG bv h hN a7 a8;go_enter func44,ntmps44;go_wp2_with fail;rw [cl.o];refine bV.o.mono ?_;rintro e w1 ⟨rfl,k1⟩;have q1:=bt q0 k1;obtain ⟨W2,a3⟩:∃W2,w1.alloc (.cells #[.slice A L c,OH sh,OH ra,OH O,OH (H:Nat),OH (bh:Nat),OH (mi:Nat),OH (sn:Nat),OH (bu:Nat),OH (ch:Nat),OH (wi:Nat),OH (ca:Nat)] 24)=W2:=⟨_,rfl⟩;have g2:W2.heap[w1.heap.size]?=some (.cells #[.slice A L c,OH sh,OH ra,OH O,OH (H:Nat),OH (bh:Nat),OH (mi:Nat),OH (sn:Nat),OH (bu:Nat),OH (ch:Nat),OH (wi:Nat),OH (ca:Nat)] 24 (0,0)):=by rw [<-a3];exact NG w1 _
 have k2:aq w1 W2:=by rw [<-a3];exact (br w1).alloc (NF _) _
 have q2:=bt q1 k2;have t2:=fun C q=>lB (sb g2 C q);have u2:=fun C (q:aq W2 C)=>t0 C (bt q2 q);obtain ⟨bG,Q2⟩:=ae a3 (be.o.trans (q2.mono be.o.size));clear a3 g2 k1 k2;go_wp2_with fail;rw [bG.o];have cn:=br W2;clear q0 q1 q2 t0;refine (Hh.o.snew _ Q2.o).mono ?_;rintro e w3 ⟨F,rfl,hF,k3⟩;have q3:=bt cn k3;obtain ⟨Q3,HF⟩:=ae (Q2.o.trans (k3.mono Q2.o.size)) hF;clear hF k3;go_wp2_with fail;refine (Hh.o.samp N HN.o _ Q3.o).mono ?_;rintro e w4 ⟨S,rfl,hS,k4⟩;have q4:=bt q3 k4;obtain ⟨Q4,HS,K4⟩:=af (Q3.o.trans (k4.mono Q3.o.size)) hS k4;have b4:=HF.o.below (Dk k4);have av:=aa b4;clear hS k4 b4;go_wp2_with fail;refine HA.g (fun C:Qd=>aq W2 C) ?_;refine HA.t ?_ [0,1] q4.drew ?_;refine HA.c 2 (Hh.o.cnt F _ (BJ av.o)) ?_;rintro e w5 ⟨rfl,rfl⟩;refine ⟨_,rfl,q4.drew,fun _=>?_⟩;have aP:=Ea ⟨H,mi,bu,ch,wi,n⟩ (.slice A L c) (OH sh) (OH ra) (OH O) (OH (bh:Nat)) (OH (sn:Nat)) (OH (ca:Nat)) w4.drew hp hn cj cc (fun C q=>Hh.o.chk C (Q4.o.drew.trans (q.mono Q4.o.size)));dsimp only at aP;refine HA.c 3 aP ?_;rintro e w6 ⟨PP,rfl,cA,b3,k6⟩;have q6:=bt q4.drew k6;refine ⟨_,rfl,q6,fun _=>?_⟩;refine HA.t ?_ [4,5,6,7,8] q6 ?_;refine HA.d ?_
 try simp only [Exit.then]
 have K6:=aa (show aq w4 w6 from (br w4).drew.trans k6);obtain ⟨Q6,ao⟩:=ae (Q4.o.trans (K6.o.mono Q4.o.size)) b3;clear aP b3 k6 q4 q3;have b8:=zY T n ct ps w6 (Hh.o.st.below Q6.o) Hh.o.sl ap;have bz:=aa b8;clear b8;go_wp2_with fail;refine bz.o.mono ?_;rintro e w7 ⟨Ap,cp,Am,cm,rfl,cv,c7,oP,oM,bs,k7⟩;obtain ⟨bp,cO,e1,bw,b1⟩:=oP.form ap;obtain ⟨bm,cw,e2,bf,bd⟩:=oM.form ap;injection e1 with e1 _ e1c
 injection e2 with e2 _ e2c
 subst e1;subst e2;subst e1c;subst e2c;obtain ⟨W8,a5⟩:∃W8,w7.alloc (.cells #[.slice (some (ar bp 0)) n cp,.slice (some (ar bm 0)) n cm] 141)=W8:=⟨_,rfl⟩;have g8:W8.heap[w7.heap.size]?=some (.cells #[.slice (some (ar bp 0)) n cp,.slice (some (ar bm 0)) n cm] 141 (0,0)):=by rw [<-a5];exact NG w7 _
 have k8:aq w7 W8:=by rw [<-a5];exact (br w7).alloc (NF _) _
 have a6:=bt k7 k8;have q8:=bt q6 a6;have t8:=fun C q=>bx2 (sb g8 C q);have v8:=fun C (q:aq W8 C)=>u2 C (bt q8 q);have x8:=fun C (q:aq W8 C)=>t2 C (bt q8 q);have aR:bp≠bm:=fun e=>bs bp rfl (by rw [e];rfl);obtain ⟨bO,Q8,K8,OP,OM,c6⟩:=ai a5 (Q6.o.trans (a6.mono Q6.o.size)) a6 (ay oP k8) (ay oM k8) aR;have b7:=br W8;have p1:w6.heap.size<=bp:=bw;have p2:bp<W8.heap.size:=NQ b1 k8.size;have p3:w6.heap.size<=bm:=bf;have p4:bm<W8.heap.size:=NQ bd k8.size;clear a5 g8 k7 k8 a6 oP oM bs q6 q8 u2 t2 cv c7 aR;go_wp2_with fail;rw [bO.o];refine HA.g (fun C:Qd=>aq W8 C) ?_;refine HA.t ?_ [0,1,2,3,4,5,6,7,9,10,11,13,14,15,16,17,18,19,21,22,25,28,29] b7.drew ?_;have c8:de rEx 2 W8.drew D data:=Hh.o.dat.below dE (Q8.o.drew);have b2:=zq D data cd W8.drew c8 Hh.o.dl;rw [<-HN.o] at b2;refine HA.c 8 b2 ?_;rintro e w9 ⟨E,ce,rfl,hE,k9⟩;have q9:=bt b7.drew k9;refine ⟨_,rfl,q9,fun _=>?_⟩;have bo:fk w9 PP ⟨H,mi,bu,ch,wi,n⟩ (.slice A L c) (OH sh) (OH ra) (OH O) (OH (bh:Nat)) (OH (sn:Nat)) (OH (ca:Nat)):=(ao.o.agr (Agr.refl _ w6)).below (bt K8.o q9);refine HA.c 12 (Ii _ PP _ _ _ _ _ _ _ w9 hp bo) ?_;rintro e x0 ⟨v10,rfl,ab,a0⟩;have q0:=bt q9 a0;obtain ⟨BA,bc,rfl,_⟩:=aC ab;refine ⟨_,rfl,q0,fun _=>?_⟩;have b9:cI 212 x0 F sz:=(ns av.o (Agr.refl _ w4)).below (bt (bt (bt K6.o K8.o) q9) a0);refine HA.t ?_ [20] q0 ?_;refine HA.c 23 (Hh.o.cnt F x0 b9) ?_;rintro e cy ⟨rfl,rfl⟩;refine ⟨_,rfl,q0,fun _=>?_⟩;have ci:w.heap.size<=w4.heap.size:=Q4.o.size;have cx:w4.heap.size<=w6.heap.size:=K6.o.size;have cP:w6.heap.size<=W8.heap.size:=K8.o.size;have cM:W8.heap.size<=w9.heap.size:=k9.size;have cb:w9.heap.size<=x0.heap.size:=a0.size
 -- BRANCHES
 obtain ⟨x9,aM⟩:∃x9,x9=x0:=⟨_,rfl⟩;have y:aq x9 x0:=by rw [aM];exact br _
 rw [<-aM] at ab a0 cb;clear aM;have q:=q0;clear q0;obtain ⟨U,rfl⟩:∃U,U=x0:=⟨_,rfl⟩
 repeat' first
  | (refine HA.three 24 27 30 ?_ ?_ ?_)
  | (refine HA.two 24 26 ?_ ?_)
  | (refine HA.two 27 30 ?_ ?_)
  | (refine HA.two 24 30 ?_ ?_)
  | (refine HA.two 24 27 ?_ ?_)
  | (refine HA.sole 24 ?_)
  | (refine HA.sole 26 ?_)
  | (refine HA.sole 27 ?_)
  | (refine HA.sole 30 ?_)
  | (obtain ⟨V,bi,gG,p⟩:=m6 mL U rfl n ap (by unfold maxLen;omega);refine HAS.v (i:=24) V (.slice (some (ar U.heap.size 0)) n n) (bt q p) ?_;clear bi;rw [fp] at gG;(try have:=u.size);(try have:=B.size);(try have:=NE I);(try have:G<U.heap.size:=(gq oG _ rfl).2);have:=y.size;(try replace oG:=ay oG p);(try replace I:=sb I _ p);(try replace u:=bt u p);(try replace B:=bt B p);replace y:=bt y p;replace q:=bt q p;have oG:=gG;have tG:U.heap.size<V.heap.size:=(gq oG _ rfl).2;obtain ⟨G,hG⟩:∃G,U.heap.size=G:=⟨_,rfl⟩;rw [hG] at oG ⊢;clear gG p;obtain ⟨U,rfl⟩:∃U,U=V:=⟨_,rfl⟩)
  | (refine HAS.c (i:=26) (kv (some (ar bp 0)) (some (ar bm 0)) n cp cm ps (List.replicate n 0) U (Rd.own (ay OP.o q)) (Rd.own (ay OM.o q)) Hl.o (Ol ..) cs) ?_;rintro e V ⟨A1,c1,A2,c2,rfl,bA,bM,o1,o2,_,p⟩;(try have:=u.size);(try have:=B.size);(try have:=NE I);(try have:G<U.heap.size:=(gq oG _ rfl).2);have:=y.size;(try replace oG:=ay oG p);(try replace I:=sb I _ p);(try replace u:=bt u p);(try replace B:=bt B p);replace y:=bt y p;replace q:=bt q p;refine ⟨_,rfl,q,fun _=>?_⟩;obtain ⟨a2,c9⟩:∃s,U.heap.size=s:=⟨_,rfl⟩;rw [c9] at o1 o2;have bX:=p.size;obtain ⟨Y,hw⟩:∃Y,Y=V:=⟨_,rfl⟩;have u:aq Y V:=(by rw [hw];exact br _);rw [<-hw] at o1 o2 bX;clear hw p;obtain ⟨U,rfl⟩:∃U,U=V:=⟨_,rfl⟩)
  | (have p:=(br U).alloc (NF _) (.cells #[.slice A1 n c1,.slice A2 n c2] 141);have nR:=NG U (.cells #[.slice A1 n c1,.slice A2 n c2] 141);refine HAS.v (i:=27) (U.alloc (.cells #[.slice A1 n c1,.slice A2 n c2] 141)) (.slice (some (ar U.heap.size 0)) 1 1) (bt q p) ?_;obtain ⟨V,hv⟩:∃V,U.alloc (.cells #[.slice A1 n c1,.slice A2 n c2] 141)=V:=⟨_,rfl⟩;rw [hv] at nR p ⊢;clear hv;(try have:=u.size);(try have:=B.size);(try have:=NE I);(try have:G<U.heap.size:=(gq oG _ rfl).2);have:=y.size;(try replace oG:=ay oG p);(try replace I:=sb I _ p);(try replace u:=bt u p);(try replace B:=bt B p);replace y:=bt y p;replace q:=bt q p;have I:=nR;have tR:=NE I;obtain ⟨Z,hR⟩:∃r,U.heap.size=r:=⟨_,rfl⟩;rw [hR] at I ⊢;clear nR p;obtain ⟨U,rfl⟩:∃U,U=V:=⟨_,rfl⟩)
  | (refine HAS.c (i:=30) (b6.o PP U ((ao.o.agr (Agr.refl _ w6)).below (bt K8.o q))) ?_;rintro e V ⟨v,rfl,oS,p⟩;obtain ⟨IA,ic,rfl,_⟩:=aC oS;(try have:=u.size);(try have:=B.size);(try have:=NE I);(try have:G<U.heap.size:=(gq oG _ rfl).2);have:=y.size;(try replace oG:=ay oG p);(try replace I:=sb I _ p);(try replace u:=bt u p);(try replace B:=bt B p);replace y:=bt y p;replace q:=bt q p;refine ⟨_,rfl,q,fun _=>?_⟩;obtain ⟨ad,co⟩:∃s,U.heap.size=s:=⟨_,rfl⟩;rw [co] at oS;have bI:=p.size;obtain ⟨a1,hw⟩:∃a1,a1=V:=⟨_,rfl⟩;have B:aq a1 V:=(by rw [hw];exact br _);rw [<-hw] at oS bI;clear hw p;obtain ⟨U,rfl⟩:∃U,U=V:=⟨_,rfl⟩)
  | (refine HA.t ?_ [31] q ?_)
  | fail
 all_goals
  have gB:=NG U (Obj.cells #[OH (x:Nat),OH (H:Nat),OH (mi:Nat),(au F),.slice E N ce,(au S),(au PP),.slice BA (Pln.buks ⟨H,mi,bu,ch,wi,n⟩).length bc,OH ra,OH O,OH sh,.slice (some (ar bp 0)) n cp,.slice (some (ar bm 0)) n cm,.slice (some (ar G 0)) n n,.slice (some (ar Z 0)) 1 1,.slice IA J.length ic,OH 0,OH 0,OJ] 179);have p:=(br U).alloc (NF _) (Obj.cells #[OH (x:Nat),OH (H:Nat),OH (mi:Nat),(au F),.slice E N ce,(au S),(au PP),.slice BA (Pln.buks ⟨H,mi,bu,ch,wi,n⟩).length bc,OH ra,OH O,OH sh,.slice (some (ar bp 0)) n cp,.slice (some (ar bm 0)) n cm,.slice (some (ar G 0)) n n,.slice (some (ar Z 0)) 1 1,.slice IA J.length ic,OH 0,OH 0,OJ] 179);refine HA.v 32 (U.alloc (Obj.cells #[OH (x:Nat),OH (H:Nat),OH (mi:Nat),(au F),.slice E N ce,(au S),(au PP),.slice BA (Pln.buks ⟨H,mi,bu,ch,wi,n⟩).length bc,OH ra,OH O,OH sh,.slice (some (ar bp 0)) n cp,.slice (some (ar bm 0)) n cm,.slice (some (ar G 0)) n n,.slice (some (ar Z 0)) 1 1,.slice IA J.length ic,OH 0,OH 0,OJ] 179)) ((au U.heap.size)) (bt q p) ?_;obtain ⟨V,hv⟩:∃V,U.alloc (Obj.cells #[OH (x:Nat),OH (H:Nat),OH (mi:Nat),(au F),.slice E N ce,(au S),(au PP),.slice BA (Pln.buks ⟨H,mi,bu,ch,wi,n⟩).length bc,OH ra,OH O,OH sh,.slice (some (ar bp 0)) n cp,.slice (some (ar bm 0)) n cm,.slice (some (ar G 0)) n n,.slice (some (ar Z 0)) 1 1,.slice IA J.length ic,OH 0,OH 0,OJ] 179)=V:=⟨_,rfl⟩;rw [hv] at gB p ⊢;clear hv;refine HA.t ?_ [33] (bt q p) ?_;refine HA.d ?_
  try simp only [Exit.then]
  (try have:=u.size);(try have:=B.size);(try have:=NE I);(try have:G<U.heap.size:=(gq oG _ rfl).2);have:=y.size
  obtain ⟨bb,hb⟩:∃b,U.heap.size=b:=⟨_,rfl⟩;rw [hb] at gB ⊢;have z8:=bt q p;have z6:=bt K8.o z8;have zz:=bt K6.o z6;have z0:=bt y p;have z9:=bt a0 z0;have b5:=bt u p;have cf:=bt B p;have mF:∀k∈[bb,bp,bm,G,Z],k<w.heap.size\/w4.heap.size<=k:=by apply ms5<;>omega
  have mP:∀k∈[bb,bp,bm,G,Z],k<w4.heap.size\/w6.heap.size<=k:=by apply ms5<;>omega
  have mE:∀k∈[bb,bp,bm,G,Z],k<W8.heap.size\/w9.heap.size<=k:=by apply ms5<;>omega
  have mB:∀k∈[bb,bp,bm,G,Z],k<w9.heap.size\/x9.heap.size<=k:=by apply ms5<;>omega
  have mI:∀k∈[bb,bp,bm,G,Z],k<ad\/a1.heap.size<=k:=by apply ms5<;>omega
  have mS:∀k∈[bb,bp,bm,G,Z],k<a2\/Y.heap.size<=k:=by apply ms5<;>omega
  have lS:w.heap.size<=a2/\w.heap.size<=ad/\w.heap.size<=W8.heap.size/\w.heap.size<=w9.heap.size:=ap;have l1:w.heap.size<=bb/\w.heap.size<=bp/\w.heap.size<=bm/\w.heap.size<=G/\w.heap.size<=Z:=ap;have l6:bp≠G/\bm≠G:=ap;have bN:=bl.o V bb ⟨F,E,ce,S,PP,BA,bc,bp,cp,bm,cm,G,n,Z,1,IA,ic,OJ⟩ ⟨gB,⟨_,w4,NF _,av.o,zz,mF⟩,⟨_,w4,NF _,HS.o,zz,mF⟩,⟨_,w6,ci,ao.o,z6,mP⟩,⟨W8.heap.size,w9,lS.2.2.1,hE,z9,mE⟩,⟨w9.heap.size,x9,lS.2.2.2,Rd.own (fD ab (NF _)),z0,mB⟩,⟨ad,a1,lS.2.1,Rd.own (fD oS (NF _)),cf,mI⟩,⟨A1,c1,A2,c2,bA,bM,sb I _ p,⟨a2,Y,lS.1,Rd.own (fD o1 (NF _)),b5,mS⟩,⟨a2,Y,lS.1,Rd.own (fD o2 (NF _)),b5,mS⟩⟩,aE (ay OP.o z8) (NJ _),aE (ay OM.o z8) (NJ _),aE (ay oG p) (NJ _),l1,⟨c6.o,l6.1,l6.2⟩,rfl,rfl,bt Q4.o zz⟩;go_wp2_with fail;exact bN
theorem kr {i:Nat} {p o:Qd} {ms:List Nat} {Q:Qd->Prop} {S:Nat->Prop} (h:Win i p ms Q) (C:∀{u v},Q u->Ext u v->Q v) (hk:Keep (fun k=>k<i) p o) (B:∀k,S k->k<i\/k∈ms):Q (aF S o):=by
 obtain ⟨lo,u,h1,y,x,A⟩:=h;refine C y (I6 (fun k hB hl=>(hk.block k (NQ hl x.size) ap).trans (x.block k hl)) fun k hB hl hs=>?_);rcases B k hs with h | h
 ·omega
 ·rcases A k h with h | h<;>omega
theorem Et {H:Nat->Prop} {i:Inp} {x L:Nat} {A:N_} {c:Nat} {w N B:Qd} {b:Nat} {a:MAd} (hr:Nc i.cfg.sizes x L i.cfg.workers.toNat i.cfg.batch.toNat i.cfg.micros.toNat i.cfg.steps.toNat i.cfg.bucket.toNat i.cfg.chunk.toNat i.cfg.window.toNat i.cfg.cap.toNat i.data.length i.start.length A c i.cfg.shift i.cfg.rate i.cfg.mom i.data i.start i.draws (cK i x 0) w N b a) (hg:jw i.cfg) (hw:W64 i.start) (hl:i.start.length<=1048576) (hx:x<(az i).W) (hk:Keep (fun k=>k<w.heap.size) N B) (hH:∀k,H k->k<w.heap.size):aV H B b i x a (fO i):=by
 have O:∀k,Mut b a k->k∈[b,a.bp,a.bm,a.bg,a.rb]:=by
  rintro k (rfl | rfl | rfl | rfl | rfl | h)
  ·simp
  ·simp
  ·simp
  ·simp
  ·simp
  ·rw [hr.ov] at h;exact absurd h (by simp [Value.ownBlock])
 have C:∀k,gE H b a k->k<w.heap.size\/k∈[b,a.bp,a.bm,a.bg,a.rb]:=fun k hk=>hk.elim (fun h=>.inr (O k h)) fun h=>.inl (hH k h);have a0:=hr.lo
 have I:∀k,k∈[b,a.bp,a.bm,a.bg,a.rb]->¬k<w.heap.size:=by
  intro k hk;simp only [List.mem_cons,List.not_mem_nil,or_false] at hk;rcases hk with rfl | rfl | rfl | rfl | rfl<;>omega
 have u:W64 (List.replicate i.start.length 0):=fun k hk=>by
  rw [dd _ _ hk];simp
 have p:∀{v:Value} {e size n:Nat} {xs:Qc},(∀k,v.ownBlock=some k->Mut b a k)->N.ownsRow 0 e size v n xs->B.ownsRow 0 e size v n xs:=fun hv h=>hk.own h fun k U Q=>I k (O k (hv k U)) Q;have D:∀{k:Nat} {o:Obj},Mut b a k->N.heap[k]?=some o->B.heap[k]?=some o:=fun hm hb=>(hk.block _ (NE hb) (I _ (O _ hm))).trans hb;obtain ⟨A1,c1,A2,c2,V,Z,gR,r1,r2⟩:=hr.re;have R:=D (.inr (.inr (.inr (.inr (.inl rfl))))) gR;have T:=hr.rc;have ew:((i.cfg.workers.toNat:Nat):Int)=i.cfg.workers:=by have:=hg.w;omega
 have em:((i.cfg.micros.toNat:Nat):Int)=i.cfg.micros:=by have:=hg.mi;omega
 have J:=D (.inl rfl) hr.blk;rw [ew,em] at J
 refine ⟨?_,kr hr.fo fA hk C,kr hr.ex (eO cQ) hk C,kr hr.sa iq hk C,⟨_,_,_,_,_,_,kr hr.pl ir hk C⟩,kr hr.bu aQ hk C,kr hr.it aQ hk C,?_,
  p (fun k e=>by cases e;exact .inr (.inl rfl)) hr.oP,p (fun k e=>by cases e;exact .inr (.inr (.inl rfl))) hr.oM,p (fun k e=>by cases e;exact .inr (.inr (.inr (.inl rfl)))) hr.oG,?_,hr.dj,fun k _ hm hh=>I k (O k hm) (hH k hh),
  ⟨rfl,hw⟩,⟨by simp [fO],u⟩,⟨by simp [fO],u⟩,?_,hx⟩
 ·have e0:bq i x (fO i)=0:=by simp [bq,fO]
  rw [e0,hr.ov];exact J
 ·refine ⟨[[.slice A1 i.start.length c1,.slice A2 i.start.length c2]],⟨rfl,.inr ⟨a.rb,1,_,by rw [T];first | done | rfl,NJ _,R,NF _,by unfold maxLen;omega,by simp,rfl⟩⟩,rfl,by simp,?_⟩;intro j y Y
  cases j with
  | succ j=>simp [fO] at Y
  | zero=>
   simp [fO] at Y;subst Y;exact ⟨A1,c1,A2,c2,by simp [bZ],⟨V,by dsimp only;omega,kr r1 aQ hk C,hw⟩,⟨by rw [Ol];exact Z,by rw [Ol];omega,kr r2 aQ hk C,u⟩⟩
 ·rw [hr.ov];exact NV _ _ _ _
 ·show (0<(cK i x 0).length)\/_
  unfold cK;by_cases h:0<i.cfg.steps.toNat
  ·rw [if_pos h];exact .inl (jH _ _ _)
  ·exact .inr ⟨rfl,by show i.cfg.steps.toNat<=0;omega⟩
def Nw (i:Inp) (x:Nat) (w:Qd) (e:Ending) (h:Qd):Prop:=∃b a,e=.returned (.tuple #[(au b),OH 0])/\aq w h/\(∀k,Mut b a k->w.heap.size<=k)/\
 ∀(H:Nat->Prop) w'',Keep (fun k=>k<w.heap.size) h w''->(∀k,H k->k<w.heap.size)->aV H w'' b i x a (fO i)
theorem EB (A:N_) (c:Nat) (D:N_) (B:Nat) (T:N_) (y:Nat) (R:N_) (u:Nat) (i:Inp) (x:Nat) (w:Qd) (h:fY w A c D T y R i) (hs:cq i) (I:x<(az i).W):Calls prog 44 #[.agg (aN A c D B T y R u i),OH (x:Nat)] w (Nw i x w):=by
 have hg:=hs.g.c;have ew:((i.cfg.workers.toNat:Nat):Int)=i.cfg.workers:=by have:=hg.w;omega
 have eb:((i.cfg.batch.toNat:Nat):Int)=i.cfg.batch:=by have:=hg.ba;have:=hg.w;omega
 have em:((i.cfg.micros.toNat:Nat):Int)=i.cfg.micros:=by have:=hg.mi;omega
 have es:((i.cfg.steps.toNat:Nat):Int)=i.cfg.steps:=by have:=hg.st;omega
 have eu:((i.cfg.bucket.toNat:Nat):Int)=i.cfg.bucket:=by have:=hg.bu;omega
 have Z:((i.cfg.chunk.toNat:Nat):Int)=i.cfg.chunk:=by have:=hg.ch;omega
 have ei:((i.cfg.window.toNat:Nat):Int)=i.cfg.window:=by have:=hg.wi;omega
 have ea:((i.cfg.cap.toNat:Nat):Int)=i.cfg.cap:=by have:=hg.ca;omega
 have hv:aN A c D B T y R u i=#[.slice A i.cfg.sizes.length c,OH i.cfg.shift,OH i.cfg.rate,OH i.cfg.mom,OH (i.cfg.workers.toNat:Nat),OH (i.cfg.batch.toNat:Nat),OH (i.cfg.micros.toNat:Nat),OH (i.cfg.steps.toNat:Nat),OH (i.cfg.bucket.toNat:Nat),OH (i.cfg.chunk.toNat:Nat),OH (i.cfg.window.toNat:Nat),OH (i.cfg.cap.toNat:Nat),.slice D i.data.length B,.slice T i.start.length y,.slice R i.draws.length u]:=by
  rw [ew,eb,em,es,eu,Z,ei,ea]
 have O:dx A c i.cfg=#[.slice A i.cfg.sizes.length c,OH i.cfg.shift,OH i.cfg.rate,OH i.cfg.mom,OH (i.cfg.workers.toNat:Nat),OH (i.cfg.batch.toNat:Nat),OH (i.cfg.micros.toNat:Nat),OH (i.cfg.steps.toNat:Nat),OH (i.cfg.bucket.toNat:Nat),OH (i.cfg.chunk.toNat:Nat),OH (i.cfg.window.toNat:Nat),OH (i.cfg.cap.toNat:Nat)]:=by
  rw [ew,eb,em,es,eu,Z,ei,ea]
 have C:=hs.g.s;unfold cnt at C
 have U:Nd i.cfg.sizes i.cfg.sizes.length i.cfg.workers.toNat i.cfg.batch.toNat i.cfg.micros.toNat i.cfg.steps.toNat i.cfg.bucket.toNat i.cfg.chunk.toNat i.cfg.window.toNat i.cfg.cap.toNat i.start.length i.draws.length A c i.cfg.shift i.cfg.rate i.cfg.mom D B T y R u i.data i.start i.draws w:=by
  constructor
  ·intro N Y o q;subst Y;have:=qK A c D B T y R u i o (h.below q);rw [qd.2 hs.g,hv] at this;exact this
  ·intro o q;refine (sq A i.cfg.sizes c o (h.c.hr.below q) h.c.hc h.c.hm).mono ?_;rintro e v ⟨hb,L⟩;rcases L with ⟨_,S,he,V,_⟩ | ⟨J,_⟩
   ·exact ⟨S,he,ns V (Db q.size),hb⟩
   ·exact absurd hg.z J
  ·intro N Y o q;subst Y;have gd:=hs.g.d;have gb:=hs.g.b;have g1:=hg.w;have g2:=hg.ba;have g3:=hg.st;unfold nc at gd;refine (wg R i.draws u i.data.length i.cfg.batch.toNat i.cfg.steps.toNat o (h.r.below q) h.rl h.ru ap ap gb.2 ap gd).mono ?_;rintro e v ⟨S,he,V,_,hb⟩;exact ⟨S,he,FJ V (Db q.size),hb⟩
  ·intro F o hF;have:=ky F i.cfg.sizes o hF;rw [<-C] at this;exact this
  ·intro o q;have:=qM A c i.cfg o (h.c.below q);rw [ix.2 hg,O] at this;exact this
  ·exact h.d
  ·exact h.dl
  ·exact h.t.hr
  ·rfl
 rw [hv];refine EA i.cfg.sizes x i.cfg.sizes.length _ _ _ _ _ _ _ _ i.data.length i.start.length i.draws.length A c _ _ _ D B T y R u i.data i.start i.draws w _ U rfl I hs.ok hs.n1 (by have:=hg.bu;omega) (by have:=hg.wi;omega) (cK i x 0) ?_ ?_
 ·intro P o hP;unfold cK;by_cases Q:0<i.cfg.steps.toNat
  ·rw [if_pos Q];exact uY (az i) P x 0 i.cfg.steps.toNat _ _ _ _ _ _ o hs.ok hs.n1 I Q hP
  ·rw [if_neg Q];refine (uX (az i) P x 0 i.cfg.steps.toNat _ _ _ _ _ _ o I ap hP).mono ?_;rintro e v ⟨rfl,rfl⟩;exact ⟨_,rfl,NV _ _ _ _,br _⟩
 ·intro o b a hr;refine ⟨b,a,rfl,hr.k,?_,fun H v hk hH=>Et hr hg h.t.hw h.tl I hk hH⟩;have p:=hr.lo;rintro k (rfl | rfl | rfl | rfl | rfl | hh)
  ·exact p.1
  ·exact p.2.1
  ·exact p.2.2.1
  ·exact p.2.2.2.1
  ·exact p.2.2.2.2
  ·rw [hr.ov] at hh;exact absurd hh (by simp [Value.ownBlock])
theorem kz (A:N_) (L c:Nat) (sh ra p u x mi sn bu ch wi ca:Int) (D:N_) (N V:Nat) (T:N_) (n Z:Nat) (R:N_) (Q O:Nat) (w:Qd):Calls prog 29 #[.agg #[.slice A L c,OH sh,OH ra,OH p,OH u,OH x,OH mi,OH sn,OH bu,OH ch,OH wi,OH ca,.slice D N V,.slice T (n:Nat) Z,.slice R Q O]] w fun e B=>e=.returned (.agg #[.slice A L c,OH sh,OH ra,OH p,OH u,OH x,OH mi,OH sn,OH bu,OH ch,OH wi,OH ca,OH (n:Nat)])/\aq w B:=by
 obtain ⟨i,h⟩:∃i,w.alloc (.cells #[.slice A L c,OH sh,OH ra,OH p,OH u,OH x,OH mi,OH sn,OH bu,OH ch,OH wi,OH ca,.slice D N V,.slice T (n:Nat) Z,.slice R Q O] 29)=i:=⟨_,rfl⟩;have I:i.heap[w.heap.size]?=some (.cells #[.slice A L c,OH sh,OH ra,OH p,OH u,OH x,OH mi,OH sn,OH bu,OH ch,OH wi,OH ca,.slice D N V,.slice T (n:Nat) Z,.slice R Q O] 29 (0,0)):=by rw [<-h];exact NG w _
 have H:aq w i:=by rw [<-h];exact (br w).alloc (NF _) _
 have y:i.heap.size=w.heap.size+1:=by rw [<-h];exact Array.size_push _
 have g1:(i.alloc (.cells #[.slice A L c,OH sh,OH ra,OH p,OH u,OH x,OH mi,OH sn,OH bu,OH ch,OH wi,OH ca,OH (n:Nat)] 64)).heap[w.heap.size+1]?=some (.cells #[.slice A L c,OH sh,OH ra,OH p,OH u,OH x,OH mi,OH sn,OH bu,OH ch,OH wi,OH ca,OH (n:Nat)] 64 (0,0)):=by rw [<-y];exact NG i _
 have HB:=aa (H.alloc H.size (.cells #[.slice A L c,OH sh,OH ra,OH p,OH u,OH x,OH mi,OH sn,OH bu,OH ch,OH wi,OH ca,OH (n:Nat)] 64));have t0:=fun B (q:aq i B)=>lA (sb I B q);obtain ⟨C,G1⟩:=ae h g1;have l0:=NE I;have p1:=br i;clear h I g1 H y;go_enter func29,ntmps29;go_wp2_with fail;rw [C.o];obtain ⟨⟨r0,r1,r2,r3,r4,r5,r6,r7,r8,r9,J,U,Y⟩,rf⟩:=xr G1.o;exact NX (v:=.agg #[.slice A L c,OH sh,OH ra,OH p,OH u,OH x,OH mi,OH sn,OH bu,OH ch,OH wi,OH ca,OH (n:Nat)]) (by simp [results,results29,go_sem,r0,r1,r2,r3,r4,r5,r6,r7,r8,r9,J,U,Y]) rfl ⟨rfl,HB.o⟩
def btB (x lo h:Int):Bool:=decide (lo<=x/\x<=h)
theorem nQ (x lo h:Int) (w:Qd):Calls prog 55 #[OH x,OH lo,OH h] w fun e i=>e=.returned (.bool (btB x lo h))/\w=i:=by
 by_cases h1:lo<=x
 ·by_cases o:x<=h
  ·go_enter func55,ntmps55;go_wp2;go_ret;exact ⟨df (by unfold btB;simp [h1,o]),rfl⟩
  ·go_enter func55,ntmps55;go_wp2;go_ret;exact ⟨df (by unfold btB;simp;omega),rfl⟩
 ·go_enter func55,ntmps55;go_wp2;go_ret;exact ⟨df (by unfold btB;simp;omega),rfl⟩
theorem Gx (A:N_) (sz:Qa) (c:Nat) (w:Qd) (hA:Rd w A (aA .i64 sz)) (hl:sz.length<=17592186043904):Calls prog 92 #[.slice A sz.length c] w fun e o=>e=.returned (OH (eH sz))/\∃n,o=w.drewN n:=by
 by_cases h:2<=sz.length/\sz.length<=16
 ·refine (yn A sz c w hA h).mono fun e o ⟨h1,p⟩=>⟨?_,p⟩;rcases h1 with ⟨i,rfl⟩ | ⟨i,rfl⟩
  ·refine bD ?_;unfold vE;by_cases hc:1048576<bR sz (sz.length-1)
   ·rw [if_pos hc,mY (fun hg=>by have:=hg.2;omega) i]
   ·rw [if_neg hc,ks ⟨i,by omega⟩]
  ·exact bD (ie i).symm
 ·exact (wO A sz c w hl h).mono fun e o ⟨h1,p⟩=>⟨by rw [h1,ie (fun hr=>h hr.1)],0,p.symm⟩
theorem F4 (a b c d e f:Int) {g:Bool} {l:Qa} (hl:[a,b,c,d,e,f]=l) {k:Nat} (hk:k<5) (h:okB (nth l k)=false):(okB a&&okB b&&okB c&&okB d&&okB e&&g)=false:=by
 subst hl
 match k,hk with
 | 0,_=>simp only [show nth [a,b,c,d,e,f] 0=a from rfl] at h;simp [h]
 | 1,_=>simp only [show nth [a,b,c,d,e,f] 1=b from rfl] at h;simp [h]
 | 2,_=>simp only [show nth [a,b,c,d,e,f] 2=c from rfl] at h;simp [h]
 | 3,_=>simp only [show nth [a,b,c,d,e,f] 3=d from rfl] at h;simp [h]
 | 4,_=>simp only [show nth [a,b,c,d,e,f] 4=e from rfl] at h;simp [h]
theorem Dy (a b c d e f:Int) (g:Bool) {l:Qa} (hl:[a,b,c,d,e,f]=l) (h:∀j,j<5->okB (nth l j)=true) (hg:g=true):(okB a&&okB b&&okB c&&okB d&&okB e&&g)=true:=by
 subst hl;have p:okB a=true:=h 0 ap;have h1:okB b=true:=h 1 ap;have i:okB c=true:=h 2 ap;have u:okB d=true:=h 3 ap;have o:okB e=true:=h 4 ap;simp [p,h1,i,u,o,hg]
theorem pR (A:N_) (c:Nat) (k:Cfg) (w:Qd) (h:lj w A c k):Calls prog 54 #[.agg (dx A c k)] w fun e J=>e=.returned (OH (cE k))/\aq w J:=by
 have Y:=fun J (q:aq w J)=>Gx A k.sizes c J (h.hr.below q) h.hl;have f6:=@Jw k;have f9:=@Ju k;have fs:=@Jt k;have f2:=@Jy k;have f7:=@Jv k;have f0:=@Jz k;unfold wkB shB pX baB sj at *;obtain ⟨R,D⟩:∃R,cE k=R:=⟨_,rfl⟩;rw [D] at f6 f9 fs f2 f7 f0 ⊢;clear D h;obtain ⟨sz,sh,ra,mo,B,ba,mi,st,bu,ch,wi,ca⟩:=k;dsimp only [dx] at *;obtain ⟨L,hL⟩:∃L,sz.length=L:=⟨_,rfl⟩;obtain ⟨sc,a2⟩:∃sc,eH sz=sc:=⟨_,rfl⟩;rw [hL,a2] at Y;rw [a2] at fs f2 f7 f0;rw [hL] at ⊢;obtain ⟨a6,F6,F9,Fs,F2,F7,F0⟩:=aj Y f6 f9 fs f2 f7 f0;clear Y f6 f9 fs f2 f7 f0 hL a2;go_enter func54,ntmps54;go_wp2_with fail;have hz:=NG w (.cells #[.slice A L c,OH sh,OH ra,OH mo,OH B,OH ba,OH mi,OH st,OH bu,OH ch,OH wi,OH ca] 24);have hB:=(NI _ w).alloc (NF _) (.cells #[.slice A L c,OH sh,OH ra,OH mo,OH B,OH ba,OH mi,OH st,OH bu,OH ch,OH wi,OH ca] 24);obtain ⟨W0,a3⟩:∃W0,W0=w.alloc (.cells #[.slice A L c,OH sh,OH ra,OH mo,OH B,OH ba,OH mi,OH st,OH bu,OH ch,OH wi,OH ca] 24):=⟨_,rfl⟩;rw [<-a3] at hz hB ⊢;clear a3;obtain ⟨⟨z0,z1,z2,z3,z4,z5,z6,z7,z8,z9,I,Q⟩,zf⟩:=lB hz;obtain ⟨y,HZ⟩:=ae hB hz;clear hB hz;refine (nQ B 1 64 _).mono ?_;rintro e J ⟨rfl,rfl⟩;obtain ⟨b1,u⟩:∃b1,btB B 1 64=b1:=⟨_,rfl⟩;have V:=aa (show decide (1<=B/\B<=64)=b1 from u);rw [u];clear u;rcases dI b1 with rfl | rfl
 ·go_wp2_with fail;go_ret;exact ⟨bD (F6.o V.o).symm,y.o⟩
 go_wp2_with fail;refine (nQ sh 1 62 _).mono ?_;rintro e J ⟨rfl,rfl⟩;obtain ⟨b2,a0⟩:∃b2,btB sh 1 62=b2:=⟨_,rfl⟩;have Z:=aa (show decide (1<=sh/\sh<=62)=b2 from a0);rw [a0];clear a0;rcases dI b2 with rfl | rfl
 ·go_wp2_with fail;go_ret;exact ⟨bD (F9.o V.o Z.o).symm,y.o⟩
 go_wp2_with fail;refine (a6.o _ y.o).mono ?_;rintro e J ⟨rfl,d,rfl⟩;have u:=NU y.o d;have N:(W0.drewN d).heap[w.heap.size]?=some (.cells #[.slice A L c,OH sh,OH ra,OH mo,OH B,OH ba,OH mi,OH st,OH bu,OH ch,OH wi,OH ca] 24 (0,0)):=HZ.o;generalize W0.drewN d=W1 at u N ⊢;clear z0 z1 z2 z3 z4 z5 z6 z7 z8 z9 I Q zf y HZ;obtain ⟨⟨z0,z1,z2,z3,z4,z5,z6,z7,z8,z9,I,Q⟩,zf⟩:=lB N;obtain ⟨y,HZ⟩:=ae u N;clear u N;by_cases h3:sc≠0
 ·have hq:(sc != 0)=true:=by rw [bne_iff_ne];exact h3
  have H3:=aa h3;clear h3;go_wp2_with fail;go_ret;exact ⟨bD (Fs.o V.o Z.o H3.o).symm,y.o⟩
 obtain rfl:sc=0:=ap;clear h3;have lz:w.heap.size<W1.heap.size:=NE HZ.o;by_cases h4:st<0
 ·go_wp2_with fail;go_ret;exact ⟨bD (F2.o V.o Z.o trivial (by rw [OB (show ¬(0<=st/\st<=1048576) by omega),Bool.and_false])).symm,y.o.alloc y.o.size _⟩
 by_cases a8:1048576<st
 ·go_wp2_with fail;go_ret;exact ⟨bD (F2.o V.o Z.o trivial (by rw [OB (show ¬(0<=st/\st<=1048576) by omega),Bool.and_false])).symm,y.o.alloc y.o.size _⟩
 have GS:=aa (show decide (0<=st/\st<=1048576)=true by rw [OD];omega);have a4:=dN W1 (aA .i64 [mi,bu,ch,wi,ca,st+1]) 3 _ rfl;have H:=(NW W1 (.cells (aA .i64 [mi,bu,ch,wi,ca,st+1]).toArray 3) _ (NE HZ.o)).trans HZ.o;obtain ⟨O,a1⟩:=ae a4 H;clear a4 H;go_wp2_with fail;clear z0 z1 z2 z3 z4 z5 z6 z7 z8 z9 I Q zf;have C:=aa (y.o.alloc y.o.size (.cells (aA .i64 [mi,bu,ch,wi,ca,st+1]).toArray 3));obtain ⟨l,hl⟩:∃l:Qa,[mi,bu,ch,wi,ca,st+1]=l:=⟨_,rfl⟩;have HL:=aa hl;change Code.wp _ _ _ _ (W1.alloc (.cells (aA .i64 [mi,bu,ch,wi,ca,st+1]).toArray 3));rw [hl] at O a1 C ⊢;clear hl y HZ lz;obtain ⟨p,hp⟩:∃p,W1.heap.size=p:=⟨_,rfl⟩;rw [hp] at O ⊢;generalize W1.alloc (.cells (aA .i64 l).toArray 3)=W2 at O a1 C ⊢;clear hp
 go_loopw [5] (fun i wr=>∃k:Nat,k<=5/\i=OH k/\an (∀j,j<k->okB (nth l j)=true)/\wr=W2) (fun i _=>5-(intOf i).toNat)
 ·exact ⟨0,NJ _,rfl,aa fun j hj=>ap,rfl⟩
 case round=>
  obtain ⟨k,hk,rfl,U,rfl⟩:=hrel;by_cases a5:k<5
  ·have T:k<l.length:=by rw [<-HL.o];simp only [List.length_cons,List.length_nil];omega
   obtain ⟨b',o,e1,hc⟩:=O.o.num T;have a7:(k:Int)<5:=ap;injection e1 with e1;injection e1 with e1 e2 _;subst e1;subst e2
   obtain ⟨x,hx⟩:∃x,nth l k=x:=⟨_,rfl⟩;rw [hx,Oz] at hc;have Hx:=aa hx;clear hx T;go_wp2_with fail;refine (nQ x 1 1048576 _).mono ?_;rintro e J ⟨rfl,rfl⟩;obtain ⟨b3,v⟩:∃b3,btB x 1 1048576=b3:=⟨_,rfl⟩;have G3:=aa (show okB x=b3 from v);rw [v];clear v;rcases dI b3 with rfl | rfl
   ·go_wp2_with fail;go_ret;exact ⟨bD (F2.o V.o Z.o trivial (F4 mi bu ch wi ca _ HL.o a5 (by rw [Hx.o];exact G3.o))).symm,C.o⟩
   go_wp2_with fail;go_roundw
   case rel=>exact ⟨k+1,by omega,by go_num,aa (p:=∀j,j<k+1->okB (nth l j)=true) fun j hj=>by
    rcases NY j k with h | h
    ·exact U.out j h
    ·obtain rfl:j=k:=ap
     rw [Hx.o];exact G3.o,trivial⟩
   case measure=>simp [intOf];omega
  ·obtain rfl:k=5:=ap;have hn:=Dy mi bu ch wi ca _ (decide (0<=st/\st<=1048576)) HL.o U.out GS.o;have Hn:=aa hn;clear hn;have H:=a1.o;obtain ⟨⟨z0,z1,z2,z3,z4,z5,z6,z7,z8,z9,I,Q⟩,zf⟩:=lB H;clear H;go_wp2_with fail;refine (nQ ba B 1048576 _).mono ?_;rintro e J ⟨rfl,rfl⟩;obtain ⟨b3,v⟩:∃b3,btB ba B 1048576=b3:=⟨_,rfl⟩;have G3:=aa (show decide (B<=ba/\ba<=1048576)=b3 from v);rw [v];clear v;rcases dI b3 with rfl | rfl
   ·go_wp2_with fail;go_ret;exact ⟨bD (F7.o V.o Z.o trivial Hn.o G3.o).symm,C.o⟩
   go_wp2_with fail;go_ret;exact ⟨bD (F0.o V.o Z.o trivial Hn.o G3.o).symm,C.o⟩
theorem oJ (n:Nat) (w:Qd) (hn:1<=n) (i:n<=1048576):Calls prog 94 #[OH n] w fun e h=>e=.returned (OH ((n-1:Nat):Int))/\w=h:=by
 have h1:(0:Int)<=(n:Int)-1:=ap;go_enter func94,ntmps94;go_wp2
 all_goals
  go_ret;exact ⟨bD ap,rfl⟩
theorem C4 {sn i t:Nat} (o:1<=i) (h:t*i<sn):t<(sn+i-1)/i:=by
 rw [Nat.lt_iff_add_one_le,Nat.le_div_iff_mul_le o,Ox];omega
theorem C3 {sn i t:Nat} (o:1<=i) (h:t<(sn+i-1)/i):t*i<sn:=by
 rw [Nat.lt_iff_add_one_le,Nat.le_div_iff_mul_le o,Ox] at h;omega
theorem yd (A:N_) (c n:Nat) (k:Cfg) (w:Qd) (h:lj w A c k) (hg:jw k) (hn:k.batch<=n/\(n:Int)<=1048576):Calls prog 93 #[.agg (dx A c k),OH n] w fun e H=>e=.returned (OH (epN n k.batch.toNat k.steps.toNat:Int))/\aq w H:=by
 have x:=fun H (q:aq w H)=>pR A c k H (h.below q);rw [ix.2 hg] at x;have g1:=hg.w;have g2:=hg.ba;have g3:=hg.st;clear h hg;obtain ⟨sz,sh,ra,mo,wk,ba,mi,st,bu,ch,wi,ca⟩:=k;dsimp only [dx] at *;obtain ⟨bt,rfl⟩:∃bt:Nat,ba=bt:=⟨ba.toNat,by omega⟩;obtain ⟨sn,rfl⟩:∃sn:Nat,st=sn:=⟨st.toNat,by omega⟩;rw [Int.toNat_natCast,Int.toNat_natCast];obtain ⟨L,hL⟩:∃L,sz.length=L:=⟨_,rfl⟩;rw [hL] at x ⊢;obtain ⟨p,u⟩:∃p,n/bt=p:=⟨_,rfl⟩;have v:1<=p:=by rw [<-u];exact Nat.div_pos ap ap
 have R:p<=n:=by rw [<-u];exact Nat.div_le_self _ _
 have hE:epN n bt sn=(sn+p-1)/p:=by unfold epN;rw [u,rO _ _ v]
 rw [hE];have Q:(sn+p-1)/p<=sn+p-1:=Nat.div_le_self _ _;have C:=fun t=>C4 (sn:=sn) (t:=t) v;have y:=fun t=>C3 (sn:=sn) (t:=t) v;obtain ⟨E,N⟩:∃E,(sn+p-1)/p=E:=⟨_,rfl⟩;rw [N] at Q C y ⊢;have a2:(n:Int).tdiv (bt:Int)=(p:Int):=by rw [<-u];rfl
 have a0:(n:Int)/(bt:Int)=(p:Int):=by rw [<-u];rfl
 have a4:¬(bt=0):=ap;obtain ⟨O,Y,V⟩:=af x C y;have J:btB (n:Int) (bt:Int) 1048576=true:=by unfold btB;rw [OA];omega
 have U:=aa J;clear x hL u hE N C y J;go_enter func93,ntmps93;go_wp2_with fail;have T:=NG w (.cells #[.slice A L c,OH sh,OH ra,OH mo,OH wk,OH bt,OH mi,OH sn,OH bu,OH ch,OH wi,OH ca] 24);have hB:=(NI _ w).alloc (NF _) (.cells #[.slice A L c,OH sh,OH ra,OH mo,OH wk,OH bt,OH mi,OH sn,OH bu,OH ch,OH wi,OH ca] 24);refine (O.o _ hB).mono ?_;rintro e w1 ⟨rfl,B⟩;have I:=(B.block _ (NE T)).trans T;have HB:=aa (hB.trans (B.mono hB.size));obtain ⟨⟨z0,z1,z2,z3,z4,z5,z6,z7,z8,z9,a3,a5⟩,zf⟩:=lB I;clear T hB B I;go_wp2_with fail;refine (nQ n bt 1048576 _).mono ?_;rintro e H ⟨rfl,rfl⟩;rw [U.o];go_wp2_with fail
 go_loopw [5,6] (fun t i wr=>∃k m:Nat,k<=E/\t=OH k/\i=OH m/\an (m=k*p)/\m<sn+p/\wr=w1) (fun _ i _=>sn-(intOf i).toNat)
 ·exact ⟨0,0,NJ _,rfl,rfl,aa ap,by omega,rfl⟩
 case round=>
  obtain ⟨k,m,hk,rfl,rfl,Z,hm,rfl⟩:=hrel;by_cases D:m<sn
  ·have a1:(m:Int)<sn:=ap;go_wp2_with fail;go_roundw
   ·exact ⟨k+1,m+p,Y.o k (by rw [<-Z.out];exact D),by go_num,by go_num,aa (by rw [Z.out,Ox]),by omega,trivial⟩
   ·simp [intOf];omega
  ·obtain rfl:k=E:=by
    rcases NY k E with h | h
    ·exact absurd (V.o k h) (by rw [<-Z.out];exact D)
    ·omega
   go_wp2_with fail;go_ret;exact ⟨rfl,HB.o⟩
theorem DU (A:N_) (c n:Nat) (k:Cfg) (w:Qd) (h:lj w A c k) (hg:jw k) (hn:k.batch<=n/\(n:Int)<=1048576):Calls prog 58 #[.agg (dx A c k),OH n] w fun e v=>e=.returned (OH (nc n k.batch.toNat k.steps.toNat:Int))/\aq w v:=by
 have i:=fun v (q:aq w v)=>yd A c n k v (h.below q) hg hn;have g1:=hg.w;have U:=hg.ba;have Y:=hg.st;have u:=fun v=>oJ n v ap ap;have p:=yH (n:=n) (b:=k.batch.toNat) (st:=k.steps.toNat) ap ap;unfold nc at p ⊢;clear h hg;obtain ⟨sz,sh,ra,H,I,ba,mi,st,bu,ch,wi,ca⟩:=k;dsimp only [dx] at *;obtain ⟨L,J⟩:∃L,sz.length=L:=⟨_,rfl⟩;rw [J] at i ⊢;obtain ⟨E,N⟩:∃E,epN n ba.toNat st.toNat=E:=⟨_,rfl⟩;obtain ⟨m,hm⟩:∃m,n-1=m:=⟨_,rfl⟩;rw [N] at i p ⊢;rw [hm] at u p ⊢;obtain ⟨y,D⟩:∃y,E*m=y:=⟨_,rfl⟩;rw [D] at p ⊢;have O:(E:Int)*(m:Int)=(y:Int):=by rw [<-D];push_cast;rfl
 obtain ⟨B,C⟩:=ae i u;clear i u J N hm D;go_enter func58,ntmps58;go_wp2_with fail;have R:=NG w (.cells #[.slice A L c,OH sh,OH ra,OH H,OH I,OH ba,OH mi,OH st,OH bu,OH ch,OH wi,OH ca] 24);have hB:=(NI _ w).alloc (NF _) (.cells #[.slice A L c,OH sh,OH ra,OH H,OH I,OH ba,OH mi,OH st,OH bu,OH ch,OH wi,OH ca] 24);refine (B.o _ hB).mono ?_;rintro e T ⟨rfl,x⟩;have Q:=aa (hB.trans (x.mono hB.size));clear R hB x;go_wp2_with fail;refine (C.o _).mono ?_;rintro e V ⟨rfl,rfl⟩;go_wp2_with fail;go_ret;exact ⟨rfl,Q.o⟩
theorem yi (a b c:Nat) (A:N_) (l:Qg) (w:Qd) (h:de rEx 2 w A l) (hl:l.length<=1048576):Calls prog 56 #[.slice A l.length c,OH a,OH b] w (qT l a b w):=by
 unfold qT;obtain ⟨n,hn⟩:∃n,l.length=n:=⟨_,rfl⟩;rw [hn] at hl ⊢;obtain ⟨H,V⟩:=ae h hn;clear h hn;go_enter func56,ntmps56;go_wp2_with fail
 go_loopw [8] (fun i wr=>∃k:Nat,k<=n/\i=OH k/\an (∀j x,j<k->l[j]?=some x->fu a b x)/\wr=w) (fun i _=>n-(intOf i).toNat)
 ·exact ⟨0,NJ _,rfl,aa fun j x L=>ap,rfl⟩
 case round=>
  obtain ⟨k,hk,rfl,u,rfl⟩:=hrel;by_cases N:k<n
  ·obtain ⟨x,I⟩:∃x,l[k]?=some x:=⟨_,Of (by rw [V.o];exact N)⟩;obtain ⟨b',o,A1,c1,A2,c2,rfl,a0,p1,p2,r1,r2⟩:=fL H.o I;have O:=aa I;obtain ⟨C,v⟩:∃C,x.1.length=C:=⟨_,rfl⟩;obtain ⟨D,B⟩:∃D,x.2.length=D:=⟨_,rfl⟩;rw [v] at p1;rw [B] at p2;have J:fu a b x↔C=a/\D=b:=by unfold fu;rw [v,B]
   have R:=aa J;have Y:(k:Int)<n:=ap;clear r1 r2 I v B J;by_cases T:C≠a
   ·have hq:((C:Int) != (a:Int))=true:=by rw [bne_iff_ne];omega
    go_wp2_with fail;go_ret2;exact ⟨NI _ _,k,.inr ⟨fun h=>T (R.o.1 (h x (List.mem_of_getElem? O.o))).1,rfl⟩⟩
   have Z:((C:Int) != (a:Int))=false:=by rw [bne_eq_false_iff_eq];omega
   by_cases Q:D≠b
   ·have hq:((D:Int) != (b:Int))=true:=by rw [bne_iff_ne];omega
    have E2:=aa Q;clear T Q;go_wp2_with fail;go_ret2;exact ⟨NI _ _,k,.inr ⟨fun h=>E2.o (R.o.1 (h x (List.mem_of_getElem? O.o))).2,rfl⟩⟩
   have a1:((D:Int) != (b:Int))=false:=by rw [bne_eq_false_iff_eq];omega
   have He:=aa (R.o.2 ⟨by omega,by omega⟩);clear T Q;go_wp2_with fail;go_roundw
   case rel=>exact ⟨k+1,by omega,by go_num,aa (p:=∀j x,j<k+1->l[j]?=some x->fu a b x) fun j y L U=>by
    rcases NY j k with h | h
    ·exact u.out j y h U
    ·obtain rfl:j=k:=ap
     have:=O.o;rw [U] at this;injection this with this;rw [this];exact He.o,trivial⟩
   case measure=>simp [intOf];omega
  ·obtain rfl:n=k:=ap;go_wp2_with fail;go_ret2
   exact ⟨NI _ _,0,.inl ⟨fun x I=>by
    obtain ⟨j,L,e⟩:=List.mem_iff_getElem.1 I
    exact u.out j x (by rw [<-V.o];exact L) (by rw [Of L,e]),rfl⟩⟩
def LE (q:Prop) (w:Qd) (e:Ending) (h:Qd):Prop:=(∃b:Bool,e=.returned (.bool b)/\(b=true->q))/\∃n,h=w.drewN n
theorem I5 {q:Prop} (h:q) (b:Bool) (w:Qd) (d:Nat):LE q w (.returned (.bool b)) (w.drewN d):=⟨⟨b,rfl,fun _=>h⟩,d,rfl⟩
theorem CY (q:Prop) (w:Qd) (d:Nat):LE q w (.returned (.bool false)) (w.drewN d):=⟨⟨false,rfl,fun h=>by cases h⟩,d,rfl⟩
theorem GL (c:Nat) (A:N_) (l:Qg) (w:Qd) (h:de rEx 2 w A l) (hl:l.length<=17592186043904):Calls prog 153 #[.slice A l.length c] w (LE (l.length<=60) w):=by
 obtain ⟨n,hn⟩:∃n,l.length=n:=⟨_,rfl⟩;rw [hn] at hl ⊢;obtain ⟨H,Hn⟩:=ae h hn;clear h hn;go_enter func153,ntmps153;go_wp2_with fail
 go_loopw [3,4] (fun v i wr=>∃k:Nat,∃x:Int,k<=n/\i=OH k/\v=OH x/\∃d,wr=w.drewN d) (fun _ i _=>n-(intOf i).toNat)
 ·exact ⟨0,0,NJ _,rfl,rfl,0,rfl⟩
 case round=>
  obtain ⟨k,x,hk,rfl,rfl,d,rfl⟩:=hrel;by_cases I:k<n
  ·have V:(k:Int)<n:=ap;by_cases R:k<100
   ·have p:(k:Int)<100:=ap;obtain ⟨y,U⟩:∃y,l[k]?=some y:=⟨_,Of (by rw [Hn.o];exact I)⟩;obtain ⟨Q,o,A1,c1,A2,c2,rfl,Y,T,O,Z,r2⟩:=fL H.o U;obtain ⟨J,C⟩:∃J,y.1.length=J:=⟨_,rfl⟩;obtain ⟨L,D⟩:∃L,y.2.length=L:=⟨_,rfl⟩;rw [C] at T;rw [D] at O;clear Z r2 U C D;have q1:(w.drewN d).cell? (ar Q (o+k*2))=some (.slice A1 J c1):=T;have q2:(w.drewN d).cell? (ar Q (o+k*2+1))=some (.slice A2 L c2):=O;generalize hW:w.drewN d=W at q1 q2 ⊢;have HW:=aa hW;clear hW;go_wp2_with fail
    go_region
    all_goals
     go_wp2_with fail;go_roundw
     ·exact ⟨k+1,_,by omega,by go_num,rfl,d+1,by rw [<-HW.o];rfl⟩
     ·simp [intOf];omega
   ·have p:¬((k:Int)<100):=ap;have u:¬((n:Int)<=60):=ap;have N:¬(n<=60):=ap;go_wp2_with fail
    all_goals
     go_ret;exact CY _ _ _
  ·obtain rfl:n=k:=ap;by_cases B:n<=60
   ·have u:(n:Int)<=60:=ap;have G:=aa B;go_wp2_with fail
    all_goals
     go_ret;exact I5 G.o _ _ _
   ·have u:¬((n:Int)<=60):=ap;go_wp2_with fail
    all_goals
     go_ret;exact CY _ _ _
theorem gD (A:N_) (c:Nat) (D:N_) (cd:Nat) (T:N_) (ct:Nat) (R:N_) (cr:Nat) (i:Inp) (w:Qd) (h:fY w A c D T ct R i):Calls prog 18 #[.agg (aN A c D cd T ct R cr i)] w fun e v=>e=.returned (OH (dF i))/\aq w v:=by
 have aG:=fun v (q:aq w v)=>pR A c i.cfg v (h.c.below q);have aP:=fun (hR:cU i.cfg.sizes) v (q:aq w v)=>jR A i.cfg.sizes i.cfg.sizes.length c v (h.c.hr.below q) hR (by have:=hR.1;omega) (NF _);have av:=fun a b v (q:aq w v)=>yi a b cd D i.data v (h.d.below dE q) h.dl;have H:=fun (hg:jw i.cfg) (hb:i.cfg.batch<=i.data.length/\(i.data.length:Int)<=1048576) v (q:aq w v)=>DU A c i.data.length i.cfg v (h.c.below q) hg hb;have fc:=@Mk i;have f7:=@Mn i;have Z:=@Mo i;have B:=@Mm i;have C:=@Mp i;have b5:=@ix i.cfg;have be:=h.c.hr;have c6:=h.dl;have cb:=h.tl;have hrl:=h.rl;unfold qT at av;unfold nm at f7 Z B C;unfold mb Mq inN wR cnt at Z B C;unfold qL at B C;obtain ⟨b2,a9⟩:∃b2,dF i=b2:=⟨_,rfl⟩;rw [a9] at fc f7 Z B C ⊢;clear a9 h;obtain ⟨⟨sz,sh,ra,O,U,ba,mi,st,bu,ch,wi,ca⟩,data,start,draws⟩:=i;dsimp only [aN,dx] at *;obtain ⟨L,hL⟩:∃L,sz.length=L:=⟨_,rfl⟩;obtain ⟨N,hN⟩:∃N,data.length=N:=⟨_,rfl⟩;obtain ⟨M,hM⟩:∃M,start.length=M:=⟨_,rfl⟩;obtain ⟨Q,hQ⟩:∃Q,draws.length=Q:=⟨_,rfl⟩;obtain ⟨cc,bw⟩:∃cc,cE ⟨sz,sh,ra,O,U,ba,mi,st,bu,ch,wi,ca⟩=cc:=⟨_,rfl⟩;rw [hL] at aG aP H Z B C ⊢;rw [hN] at av H f7 Z B C c6 ⊢;rw [hM] at Z B C cb ⊢;rw [hQ] at B C hrl ⊢;rw [bw] at aG fc f7 Z B C b5;obtain ⟨CN,b7⟩:∃CN,bR sz (L-1)=CN:=⟨_,rfl⟩;rw [b7] at aP Z B C;obtain ⟨ND,bf⟩:∃ND,nc N ba.toNat st.toNat=ND:=⟨_,rfl⟩;rw [bf] at H B C;obtain ⟨c9,c8,cl,cf,Fc,F7,F5,F8⟩:=ak aG aP av H fc f7 Z B;obtain ⟨F0,bX,bi,HL,cs⟩:=ah C b5 be hL b7;clear aG aP av H fc f7 Z B C b5 be hL hN hM hQ bw b7 bf;go_enter func18,ntmps18;go_wp2_with fail;have hz:=(NW (w.alloc (.cells #[.slice A L c,OH sh,OH ra,OH O,OH U,OH ba,OH mi,OH st,OH bu,OH ch,OH wi,OH ca,.slice D N cd,.slice T M ct,.slice R Q cr] 29)) (.cells #[.slice A L c,OH sh,OH ra,OH O,OH U,OH ba,OH mi,OH st,OH bu,OH ch,OH wi,OH ca] 24) w.heap.size (by simp)).trans (NG w _);have hy:=NG (w.alloc (.cells #[.slice A L c,OH sh,OH ra,OH O,OH U,OH ba,OH mi,OH st,OH bu,OH ch,OH wi,OH ca,.slice D N cd,.slice T M ct,.slice R Q cr] 29)) (.cells #[.slice A L c,OH sh,OH ra,OH O,OH U,OH ba,OH mi,OH st,OH bu,OH ch,OH wi,OH ca] 24);rw [show (w.alloc (.cells #[.slice A L c,OH sh,OH ra,OH O,OH U,OH ba,OH mi,OH st,OH bu,OH ch,OH wi,OH ca,.slice D N cd,.slice T M ct,.slice R Q cr] 29)).heap.size=w.heap.size+1 by simp] at hy;have hB:aq w ((w.alloc (.cells #[.slice A L c,OH sh,OH ra,OH O,OH U,OH ba,OH mi,OH st,OH bu,OH ch,OH wi,OH ca,.slice D N cd,.slice T M ct,.slice R Q cr] 29)).alloc (.cells #[.slice A L c,OH sh,OH ra,OH O,OH U,OH ba,OH mi,OH st,OH bu,OH ch,OH wi,OH ca] 24)):=((NI _ w).alloc (NF _) _).alloc (by simp) _;obtain ⟨W0,bl⟩:∃W0,W0=(w.alloc (.cells #[.slice A L c,OH sh,OH ra,OH O,OH U,OH ba,OH mi,OH st,OH bu,OH ch,OH wi,OH ca,.slice D N cd,.slice T M ct,.slice R Q cr] 29)).alloc (.cells #[.slice A L c,OH sh,OH ra,OH O,OH U,OH ba,OH mi,OH st,OH bu,OH ch,OH wi,OH ca] 24):=⟨_,rfl⟩;rw [<-bl] at hz hy hB ⊢;clear bl;refine (c9.o _ hB).mono ?_;rintro e w1 ⟨rfl,I⟩;have aR:=(I.block _ (NE hz)).trans hz;have ao:=(I.block _ (NE hy)).trans hy;have HB:=aa (hB.trans (I.mono hB.size));obtain ⟨⟨z0,z1,z2,z3,z4,z5,z6,z7,z8,z9,a6,ad,J,a7,a3⟩,zf⟩:=lA aR;obtain ⟨⟨y0,y1,y2,y3,y4,y5,y6,y7,y8,y9,a0,a2⟩,yf⟩:=lB ao;have lz:=NE aR;have ly:=NE ao;obtain ⟨HZ,HY⟩:=ae aR ao;clear hz hy hB I aR ao;by_cases h3:cc≠0
 ·have hq:(cc != 0)=true:=by rw [bne_iff_ne];exact h3
  have H3:=aa h3;clear h3;go_wp2_with fail;go_ret;exact ⟨bD (Fc.o H3.o).symm,HB.o⟩
 obtain rfl:cc=0:=ap;clear h3;have hg:=bX.o.1 rfl;have g1:=hg.w;have g2:=hg.ba;have g3:=hg.st;have gz:=hg.z;have HG:=aa hg;dsimp only at g1 g2 g3 gz;clear hg;have bo:=gz.1.1;rw [HL.o] at bo;have s0:=gz.1.at (k:=0) (by have:=HL.o;omega);have s1:=gz.1.at (k:=L-1) (by have:=HL.o;omega);obtain ⟨bz,oz,rfl,p0⟩:=bi.o.num (show 0<sz.length by have:=HL.o;omega);obtain ⟨_,_,e',p1⟩:=bi.o.num (show L-1<sz.length by have:=HL.o;omega);injection e' with e';injection e' with e1 e2 _;subst e1;subst e2
 rw [s0.2.2,Nat.add_zero] at p0;rw [s1.2.2] at p1;obtain ⟨n0,b8⟩:∃n0,szN sz 0=n0:=⟨_,rfl⟩;obtain ⟨n1,b6⟩:∃n1,szN sz (L-1)=n1:=⟨_,rfl⟩;have Z:=F5.o;have B:=F8.o;have C:=F0.o;rw [b8,b6] at Z B C;rw [b8] at p0 s0;rw [b6] at p1 s1;obtain ⟨F5,F8,F0,ci⟩:=ag Z B C gz;have bM:bz<w.heap.size:=aB p0;obtain ⟨P0,P1⟩:=ae p0 p1;clear Z B C gz b8 b6 p0 p1 s0 s1;obtain ⟨bt,rfl⟩:∃bt:Nat,ba=bt:=⟨ba.toNat,by omega⟩;go_wp2_with fail;refine (nQ N bt 1048576 _).mono ?_;rintro e v ⟨rfl,rfl⟩;obtain ⟨b1,I⟩:∃b1,btB (N:Int) bt 1048576=b1:=⟨_,rfl⟩;have G0:=aa (show decide ((bt:Int)<=N/\(N:Int)<=1048576)=b1 from I);rw [I];clear I;rcases dI b1 with rfl | rfl
 ·have cj:=of_decide_eq_false G0.o;go_wp2_with fail;go_ret;exact ⟨bD (F7.o trivial (by rw [OC];omega)).symm,HB.o⟩
 have cj:=of_decide_eq_true G0.o;have G1:=aa (show decide ((bt:Int)<=N/\N<=1048576)=true by rw [OD];omega);have p0:=(HB.o.cell (p:=(ar bz oz)) bM).trans P0.o;have p1:=(HB.o.cell (p:=⟨bz,oz+(L-1),none⟩) bM).trans P1.o;have bN:IntKind.i64.wrap ((L:Int)-1)=((L-1:Nat):Int):=by rw [NK _ ap];omega
 have cw:((L-1:Nat):Int)<L:=ap;have cv:L-1<L:=ap;have co:0<L:=ap;have cn:(0:Int)<L:=ap;go_wp2_with fail;have u:(fun v:Qd=>v.cell? (ar w.heap.size 12)=some (.slice D N cd)/\v.cell? (ar (w.heap.size+1) 0)=some (.slice (some (ar bz oz)) L c)/\v.cell? (ar bz oz)=some (OH n0)/\v.cell? ⟨bz,oz+(L-1),none⟩=some (OH n1)) w1.drew:=⟨J,y0,p0,p1⟩;refine HA.g (fun v:Qd=>v.cell? (ar w.heap.size 12)=some (.slice D N cd)/\v.cell? (ar (w.heap.size+1) 0)=some (.slice (some (ar bz oz)) L c)/\v.cell? (ar bz oz)=some (OH n0)/\v.cell? ⟨bz,oz+(L-1),none⟩=some (OH n1)) ?_;refine HA.t ?_ [0,1,2,3,4,5,6,7,8,9,10,11,12,13] u ?_;refine HA.o 14 (fun K hK=>?_);go_simp;refine (cl.o n0 n1 _ HB.o.drew).mono ?_;rintro e w3 ⟨a4,d,hd⟩;have bd:=NR (aw a4 u.1) (NR (aw a4 u.2.1) (NR (aw a4 u.2.2.1) (aw a4 u.2.2.2)));have Y:aq w1 w3:=(NI w1.heap.size w1).drew.trans a4;have a1:=(Y.block _ lz).trans HZ.o;have a5:=(Y.block _ ly).trans HY.o;obtain ⟨ab,bA,bh⟩:=af (HB.o.trans (Y.mono HB.o.size)) a1 a5
 obtain ⟨aM,rfl,b4⟩:∃aM,e=.returned (.tuple #[OH d,.bool aM])/\decide (∀x∈data,fu n0 n1 x)=aM:=by
  rcases hd with ⟨ha,rfl⟩ | ⟨ha,rfl⟩
  ·exact ⟨true,rfl,OA ha⟩
  ·exact ⟨false,rfl,OB ha⟩
 have a8:=aa b4;clear a4 Y a1 a5 hd b4 u;dsimp only;refine hK.out _ _ bd (fun u=>?_);clear hK K bd;refine HA.t ?_ [15,16,17,18,19] u ?_;refine HA.d ?_;clear u z0 z1 z2 z3 z4 z5 z6 z7 z8 z9 a6 ad J a7 a3 zf y0 y1 y2 y3 y4 y5 y6 y7 y8 y9 a0 a2 yf lz ly bN p0 p1;have a1:=bA.o;have a5:=bh.o;obtain ⟨⟨z0,z1,z2,z3,z4,z5,z6,z7,z8,z9,a6,ad,J,a7,a3⟩,zf⟩:=lA a1;obtain ⟨⟨y0,y1,y2,y3,y4,y5,y6,y7,y8,y9,a0,a2⟩,yf⟩:=lB a5;have lz:=NE a1;have ly:=NE a5;clear a1 a5;rcases dI aM with rfl | rfl
 ·go_wp2_with fail
  go_quiet (fail)
  go_wp2_with fail;go_ret;exact ⟨bD (F5.o trivial G1.o (by rw [a8.o];rfl)).symm,NU ab.o _⟩
 have b0:=fun v (q:aq w3 v)=>c8.o ci.o.1 v (ab.o.trans (q.mono ab.o.size));have b3:=aa b0;clear b0;by_cases h5:M≠CN
 ·have hq:((M:Int) != (CN:Int))=true:=by rw [bne_iff_ne];omega
  have H5:=aa h5;clear h5;go_wp2_with fail
  go_quiet ((go_at_call 57;refine Calls.quiet_of (b3.o _ ?_);exact am))
  go_wp2_with fail;go_ret;exact ⟨bD (F5.o trivial G1.o (by rw [a8.o,OB H5.o];rfl)).symm,NU ab.o _⟩
 have hq:((M:Int) != (CN:Int))=false:=by rw [bne_eq_false_iff_eq];omega
 have G2:=aa (show (decide (∀x∈data,fu n0 n1 x)&&decide (M=CN))=true by rw [a8.o,OA (show M=CN by omega)];rfl);clear h5;go_wp2_with fail
 go_quiet ((go_at_call 57;refine Calls.quiet_of (b3.o _ ?_);exact am))
 go_wp2_with fail;obtain ⟨V,hV⟩:∃V,V=w3.drewN nq:=⟨_,rfl⟩;have bI:aq w V:=by rw [hV];exact NU ab.o _
 have bb:V.heap[w.heap.size]?=some (.cells #[.slice (some (ar bz oz)) L c,OH sh,OH ra,OH O,OH U,OH bt,OH mi,OH st,OH bu,OH ch,OH wi,OH ca,.slice D N cd,.slice T M ct,.slice R Q cr] 29 (0,0)):=by rw [hV];exact bA.o
 have bG:V.heap[w.heap.size+1]?=some (.cells #[.slice (some (ar bz oz)) L c,OH sh,OH ra,OH O,OH U,OH bt,OH mi,OH st,OH bu,OH ch,OH wi,OH ca] 24 (0,0)):=by rw [hV];exact bh.o
 clear z0 z1 z2 z3 z4 z5 z6 z7 z8 z9 a6 ad J a7 a3 zf y0 y1 y2 y3 y4 y5 y6 y7 y8 y9 a0 a2 yf;rw [<-hV];clear hV;obtain ⟨⟨z0,z1,z2,z3,z4,z5,z6,z7,z8,z9,a6,ad,J,a7,a3⟩,zf⟩:=lA bb;obtain ⟨⟨y0,y1,y2,y3,y4,y5,y6,y7,y8,y9,a0,a2⟩,yf⟩:=lB bG;have b9:=aa bI;clear bI bb bG;have H:=cf.o HG.o ap V.drew b9.o.drew;have bn:=aa H;clear H;have u:(fun v:Qd=>v.cell? (ar w.heap.size 14)=some (.slice R Q cr)/\v.cell? (ar w.heap.size 12)=some (.slice D N cd)/\v.cell? (ar (w.heap.size+1) 0)=some (.slice (some (ar bz oz)) L c)/\v.cell? (ar (w.heap.size+1) 1)=some (OH sh)/\v.cell? (ar (w.heap.size+1) 2)=some (OH ra)/\v.cell? (ar (w.heap.size+1) 3)=some (OH O)/\v.cell? (ar (w.heap.size+1) 4)=some (OH U)/\v.cell? (ar (w.heap.size+1) 5)=some (OH bt)/\v.cell? (ar (w.heap.size+1) 6)=some (OH mi)/\v.cell? (ar (w.heap.size+1) 7)=some (OH st)/\v.cell? (ar (w.heap.size+1) 8)=some (OH bu)/\v.cell? (ar (w.heap.size+1) 9)=some (OH ch)/\v.cell? (ar (w.heap.size+1) 10)=some (OH wi)/\v.cell? (ar (w.heap.size+1) 11)=some (OH ca)) V.drew:=⟨a3,J,y0,y1,y2,y3,y4,y5,y6,y7,y8,y9,a0,a2⟩;refine HA.g (fun v:Qd=>v.cell? (ar w.heap.size 14)=some (.slice R Q cr)/\v.cell? (ar w.heap.size 12)=some (.slice D N cd)/\v.cell? (ar (w.heap.size+1) 0)=some (.slice (some (ar bz oz)) L c)/\v.cell? (ar (w.heap.size+1) 1)=some (OH sh)/\v.cell? (ar (w.heap.size+1) 2)=some (OH ra)/\v.cell? (ar (w.heap.size+1) 3)=some (OH O)/\v.cell? (ar (w.heap.size+1) 4)=some (OH U)/\v.cell? (ar (w.heap.size+1) 5)=some (OH bt)/\v.cell? (ar (w.heap.size+1) 6)=some (OH mi)/\v.cell? (ar (w.heap.size+1) 7)=some (OH st)/\v.cell? (ar (w.heap.size+1) 8)=some (OH bu)/\v.cell? (ar (w.heap.size+1) 9)=some (OH ch)/\v.cell? (ar (w.heap.size+1) 10)=some (OH wi)/\v.cell? (ar (w.heap.size+1) 11)=some (OH ca)) ?_;refine HA.t ?_ [0,1,2,3,4,5,6] u ?_;refine HA.o 7 (fun K hK=>?_);go_simp;refine bn.o.mono ?_;rintro e w4 ⟨rfl,y⟩;have bs:=aa (b9.o.trans ((NI V.heap.size V).drew.trans y |>.mono b9.o.size));have bv:=NR (aw y u.1) (NR (aw y u.2.1) (NR (aw y u.2.2.1) (NR (aw y u.2.2.2.1) (NR (aw y u.2.2.2.2.1) (NR (aw y u.2.2.2.2.2.1) (NR (aw y u.2.2.2.2.2.2.1) (NR (aw y u.2.2.2.2.2.2.2.1) (NR (aw y u.2.2.2.2.2.2.2.2.1) (NR (aw y u.2.2.2.2.2.2.2.2.2.1) (NR (aw y u.2.2.2.2.2.2.2.2.2.2.1) (NR (aw y u.2.2.2.2.2.2.2.2.2.2.2.1) (NR (aw y u.2.2.2.2.2.2.2.2.2.2.2.2.1) (aw y u.2.2.2.2.2.2.2.2.2.2.2.2.2)))))))))))));clear y u;dsimp only;refine hK.out _ _ bv (fun u=>?_);clear hK K bv;refine HA.t ?_ [8] u ?_;refine HA.d ?_;clear u z0 z1 z2 z3 z4 z5 z6 z7 z8 z9 a6 ad J a7 a3 zf y0 y1 y2 y3 y4 y5 y6 y7 y8 y9 a0 a2 yf;by_cases h8:ND<=Q
 ·have bO:¬((Q:Int)<ND):=ap;have c7:decide ((Q:Int)<ND)=false:=by simp;omega
  have bV:decide (Q<ND)=false:=by simp;omega
  have G8:=aa (OA h8);go_wp2_with fail;go_ret;exact ⟨bD (F0.o trivial G1.o G2.o G8.o).symm,bs.o⟩
 ·have bO:(Q:Int)<ND:=ap;have c7:decide ((Q:Int)<ND)=true:=by simp;omega
  have bV:decide (Q<ND)=true:=by simp;omega
  have G8:=aa (OB h8);go_wp2_with fail;go_ret;exact ⟨bD (F8.o trivial G1.o G2.o G8.o).symm,bs.o⟩
end Go.Proofs.YtgmajkppbhiopaaGreat
