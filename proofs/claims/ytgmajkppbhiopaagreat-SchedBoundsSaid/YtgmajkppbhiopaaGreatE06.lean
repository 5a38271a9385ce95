/- No condition. -/
import Derived.Test.YtgmajkppbhiopaaGreatE05
set_option linter.unusedSimpArgs false
set_option linter.unusedVariables false
set_option maxRecDepth 100000
set_option maxHeartbeats 4000000
namespace Go.Proofs.YtgmajkppbhiopaaGreat
open Go.RowKit
open Tryz
theorem jS (A B:Option Addr) (n c d:Nat) (ps ms:List Int) (w:World) (hA:Rd w A (aA .i64 ps)) (hB:Rd w B (aA .i64 ms)) (a0:ps.length=n) (a7:ms.length=n) (hn:n<=1048576):
  Calls prog 86 #[.agg #[.slice A n c,.slice B n d]] w fun e i=>∃A1 c1 x c2,e=.returned (.agg #[.slice A1 n c1,.slice x n c2])/\n<=c1/\n<=c2/\i.ownsRow w.heap.size 2 1 (.slice A1 n c1) n (aA .i64 ps)/\i.ownsRow w.heap.size 2 1 (.slice x n c2) n (aA .i64 ms)/\
   (∀j,(Value.slice A1 n c1).ownBlock=some j->(Value.slice x n c2).ownBlock≠some j)/\aq w i:=by
 have O:=fun i (k:aq w i)=>fw A ps c i (hA.below k) ap
 have T:=fun i (k:aq w i)=>fw B ms d i (hB.below k) ap
 rw [a0] at O
 rw [a7] at T
 obtain ⟨aR,b2⟩:=ae O T;clear O T a0 a7 hA hB
 go_enter func86,ntmps86
 go_wp2_with fail
 have hz:=LP (w.alloc (.cells #[.slice A n c,.slice B n d] 141)) (.cells #[MP,MP] 141)
 rw [show (w.alloc (.cells #[.slice A n c,.slice B n d] 141)).heap.size=w.heap.size+1 by simp] at hz
 have hy:=(L0 (w.alloc (.cells #[.slice A n c,.slice B n d] 141)) (.cells #[MP,MP] 141) w.heap.size (by simp)).trans (LP w _)
 have U:aq w ((w.alloc (.cells #[.slice A n c,.slice B n d] 141)).alloc (.cells #[MP,MP] 141)):=((LR _ w).alloc (LO _) _).alloc (by simp) _
 have Q:((w.alloc (.cells #[.slice A n c,.slice B n d] 141)).alloc (.cells #[MP,MP] 141)).heap.size=w.heap.size+2:=by simp
 obtain ⟨W0,a1⟩:∃W0,W0=(w.alloc (.cells #[.slice A n c,.slice B n d] 141)).alloc (.cells #[MP,MP] 141):=⟨_,rfl⟩
 rw [<-a1] at hz hy U Q ⊢
 obtain ⟨⟨y0,y1⟩,yf⟩:=bx2 hy
 obtain ⟨Hz,Y,D⟩:=af hz U Q;clear hz hy U Q a1
 have h:(fun i:World=>i.cell? (ar w.heap.size 0)=some (.slice A n c)/\i.cell? (ar w.heap.size 1)=some (.slice B n d)) W0.drew:=⟨y0,y1⟩
 refine XA.g 7 (fun i:World=>i.cell? (ar w.heap.size 0)=some (.slice A n c)/\i.cell? (ar w.heap.size 1)=some (.slice B n d)) ?_
 refine XA.t ?_ [0,1,3,4] h ?_
 refine XA.o 2 (fun K hK=>?_)
 go_simp
 refine (aR.o _ Y.o.drew).mono ?_
 rintro e w1 ⟨A1,c1,rfl,ab,C,u⟩
 have b0:=aa ab;clear ab
 have a3:=LW (aw u h.1) (aw u h.2)
 have a2:=(u.block (w.heap.size+1) (by simp [D.o])).trans Hz.o
 have Z:=Y.o.drew.trans (u.mono (by simp [D.o]))
 have b1:=u.size
 simp only [MB,D.o] at b1
 have C:=aE (base':=w.heap.size) C (by simp [D.o])
 obtain ⟨a4,aM,I⟩:=af C a2 Z;clear C a2 Z u h
 dsimp only
 refine hK.out _ _ a3 (fun h=>?_)
 clear hK K a3
 refine XA.o 5 (fun K hK=>?_)
 go_simp
 refine (b2.o _ I.o).mono ?_
 rintro e V ⟨x,c2,rfl,ad,y,p⟩
 have L:∀j,(Value.slice A1 n c1).ownBlock=some j->(Value.slice x n c2).ownBlock≠some j:=fun j h1 h2=>by have:=(a4.o.lt j h1).2;have:=(y.lt j h2).1;omega
 obtain ⟨ao,a9⟩:=ae ad L;clear ad L
 have a5:=LW (aw p h.1) (aw p h.2)
 have H:=(p.block (w.heap.size+1) ap).trans aM.o
 have a6:=I.o.trans (p.mono I.o.size)
 have b5:=p.size
 have y:=aE (base':=w.heap.size) y I.o.size
 have N:=ay a4.o p
 obtain ⟨⟨z0,z1⟩,zf⟩:=bx2 H
 have l2:w.heap.size+1<V.heap.size:=LN H
 obtain ⟨a8,J,R,b3⟩:=ag y N H a6;clear y N H a6 p h
 dsimp only
 refine hK.out _ _ a5 (fun h=>?_)
 clear hK K a5
 refine XA.t ?_ [6] h ?_
 refine XA.e ?_
 clear h
 simp only [Mm,Mn]
 go_wp2_with fail
 have e1:=MM V (w.heap.size+1) 0 _ _ (.slice A1 n c1) R.o
 have e2:=MM _ (w.heap.size+1) 1 _ _ (.slice x n c2) e1
 have e3:((V.setCell (ar (w.heap.size+1) 0) (.slice A1 n c1)).setCell (ar (w.heap.size+1) 1) (.slice x n c2)).heap[w.heap.size+1]?=some (.cells #[(.slice A1 n c1),(.slice x n c2)] 141 (0,0)):=by simpa using e2
 have hk:Keep (fun j=>j=w.heap.size+1) V ((V.setCell (ar (w.heap.size+1) 0) (.slice A1 n c1)).setCell (ar (w.heap.size+1) 1) (.slice x n c2)):=Keep.setCell (S:=fun j=>j=w.heap.size+1) (Keep.setCell (S:=fun j=>j=w.heap.size+1) (Keep.refl _ _) (ar (w.heap.size+1) 0) (.inr rfl) _) (ar (w.heap.size+1) 1) (.inr rfl) _
 obtain ⟨W9,aP⟩:∃W9,W9=(V.setCell (ar (w.heap.size+1) 0) (.slice A1 n c1)).setCell (ar (w.heap.size+1) 1) (.slice x n c2):=⟨_,rfl⟩
 rw [<-aP] at e3 hk ⊢
 obtain ⟨⟨x0,x1⟩,xf⟩:=bx2 e3
 have b4:=hk.own J.o (fun j hj e=>ax R.o (by decide) J.o (by rw [hj,e]))
 have aG:=hk.own a8.o (fun j hj e=>ax R.o (by decide) a8.o (by rw [hj,e]))
 have av:aq w W9:=b3.o.trans (hk.toBelow ap (fun j hj=>ap))
 exact L7 (v:=.agg #[.slice A1 n c1,.slice x n c2]) (by simp [results,results86,go_sem,x0,x1]) rfl ⟨A1,c1,x,c2,rfl,b0.o,ao.o,b4,aG,a9.o,av⟩
theorem Lu (ra p q:Int) (A B G:Option Addr) (n c d cg:Nat) (ps ms g:List Int) (w:World) (hA:Rd w A (aA .i64 ps)) (hB:Rd w B (aA .i64 ms)) (hG:Rd w G (aA .i64 g)) (a4:ps.length=n) (a3:ms.length=n) (aM:g.length=n) (hn:n<=1048576)
  (wr: -9223372036854775808<=ra/\ra<=9223372036854775807) (wo: -9223372036854775808<=p/\p<=9223372036854775807) (wm:W64 ms) (a9:∀a,G=some a->a.block<w.heap.size):
  Calls prog 278 #[.agg #[MO ra,MO p,MO q],.agg #[.slice A n c,.slice B n d],.slice G n cg] w fun e N=>∃A1 c1 i c2,e=.returned (.tuple #[.agg #[.slice A1 n c1,.slice i n c2],.bool true])/\n<=c1/\n<=c2/\
   N.ownsRow w.heap.size 2 1 (.slice A1 n c1) n (aA .i64 (rJ ra p q ps ms g))/\N.ownsRow w.heap.size 2 1 (.slice i n c2) n (aA .i64 (rK p q ms g))/\aq w N:=by
 have bd:=fun N (k:aq w N)=>jS A B n c d ps ms N (hA.below k) (hB.below k) a4 a3 hn
 have a5:=fun (A1 i:Option Addr) c1 c2 base N (k:aq w N) (hb:w.heap.size<=base) (h1:N.ownsRow base 2 1 (.slice A1 n c1) n (aA .i64 ps)) (h2:N.ownsRow base 2 1 (.slice i n c2) n (aA .i64 ms)) bf=>uC ra p q base n 0 n c1 c2 cg A1 i G ps ms g N h1 h2 bf (hG.below k) aM ap hn
  (fun a ha e=>by have:=(h1.lt _ e).1;have:=a9 a ha;omega) (fun a ha e=>by have:=(h2.lt _ e).1;have:=a9 a ha;omega) wr wo wm
 have e1:=Jz ra p q ps ms g
 have e2:=JA p q ms g
 rw [a4] at e1
 rw [a3] at e2
 rw [e1,e2,MH] at a5
 have hq:((n:Int) != (n:Int))=false:=by simp
 obtain ⟨bs,bn⟩:=ae bd a5;clear bd a5 e1 e2 hA hB hG a4 a3 aM wr wo wm a9
 go_enter func278,ntmps278
 go_wp2_with fail
 have a0:(((w.alloc (.cells #[MO ra,MO p,MO q] 172)).alloc (.cells #[.slice A n c,.slice B n d] 141)).alloc (.cells #[MP,MP] 141)).heap.size=w.heap.size+3:=by simp
 have a6:aq w (((w.alloc (.cells #[MO ra,MO p,MO q] 172)).alloc (.cells #[.slice A n c,.slice B n d] 141)).alloc (.cells #[MP,MP] 141)):=(((LR _ w).alloc (LO _) _).alloc (by simp) _).alloc (by simp;omega) _
 have a2:=(L0 ((w.alloc (.cells #[MO ra,MO p,MO q] 172)).alloc (.cells #[.slice A n c,.slice B n d] 141)) (.cells #[MP,MP] 141) w.heap.size (by simp;omega)).trans ((L0 (w.alloc (.cells #[MO ra,MO p,MO q] 172)) (.cells #[.slice A n c,.slice B n d] 141) w.heap.size (by simp)).trans (LP w _))
 have H:=LP (w.alloc (.cells #[MO ra,MO p,MO q] 172)) (.cells #[.slice A n c,.slice B n d] 141)
 rw [show (w.alloc (.cells #[MO ra,MO p,MO q] 172)).heap.size=w.heap.size+1 by simp] at H
 have H:=(L0 ((w.alloc (.cells #[MO ra,MO p,MO q] 172)).alloc (.cells #[.slice A n c,.slice B n d] 141)) (.cells #[MP,MP] 141) (w.heap.size+1) (by simp)).trans H
 have Q:=LP ((w.alloc (.cells #[MO ra,MO p,MO q] 172)).alloc (.cells #[.slice A n c,.slice B n d] 141)) (.cells #[MP,MP] 141)
 rw [show ((w.alloc (.cells #[MO ra,MO p,MO q] 172)).alloc (.cells #[.slice A n c,.slice B n d] 141)).heap.size=w.heap.size+1+1 by simp] at Q
 obtain ⟨W0,b2⟩:∃W0,W0=((w.alloc (.cells #[MO ra,MO p,MO q] 172)).alloc (.cells #[.slice A n c,.slice B n d] 141)).alloc (.cells #[MP,MP] 141):=⟨_,rfl⟩
 rw [<-b2] at a0 a6 a2 H Q ⊢
 obtain ⟨x,av,aG,a7,bz⟩:=ah a6 a2 H Q a0;clear a0 a6 a2 H Q b2
 refine (bs.o _ x.o).mono ?_
 rintro e w1 ⟨A1,c1,i,c2,rfl,be,b0,C,y,U,k1⟩
 have Z:=(k1.block _ (LN av.o)).trans av.o
 have a8:=(k1.block _ (LN aG.o)).trans aG.o
 have u:=(k1.block _ (LN a7.o)).trans a7.o
 have bw:=LN Z;have bA:=LN a8;have bI:=LN u
 have ad:=x.o.trans (k1.mono x.o.size)
 obtain ⟨⟨x0,x1,x2⟩,xf⟩:=bx3 Z
 obtain ⟨⟨y0,y1⟩,yf⟩:=bx2 a8
 obtain ⟨b5,b3,bv,bi,b9,ab,b4⟩:=aj u ad be b0 C y U;clear k1 Z a8 u ad be b0 C y U
 go_wp2_with fail
 have J:=b3.o.alloc b3.o.size (.cells #[.slice A1 n c1,.slice i n c2] 141)
 have a1:=LP w1 (.cells #[.slice A1 n c1,.slice i n c2] 141)
 have u:=(L0 w1 (.cells #[.slice A1 n c1,.slice i n c2] 141) _ (LN b5.o)).trans b5.o
 have C:=b9.o.alloc (.cells #[.slice A1 n c1,.slice i n c2] 141)
 have y:=ab.o.alloc (.cells #[.slice A1 n c1,.slice i n c2] 141)
 have b7:w1.heap.size<(w1.alloc (.cells #[.slice A1 n c1,.slice i n c2] 141)).heap.size:=by simp
 obtain ⟨V,hV⟩:∃V,V=w1.alloc (.cells #[.slice A1 n c1,.slice i n c2] 141):=⟨_,rfl⟩
 rw [<-hV] at J a1 u C y b7 ⊢
 clear hV
 refine (bn.o A1 i c1 c2 W0.heap.size V J x.o.size C y b4.o).mono ?_
 rintro e w3 ⟨rfl,ao,b6,R⟩
 have L:=C.lt
 have O:=y.lt
 have b8:∀j,j<W0.heap.size->¬((Value.slice A1 n c1).ownBlock=some j\/(Value.slice i n c2).ownBlock=some j):=fun j Y=>by
  rintro (h | h)
  ·have:=(L j h).1;omega
  ·have:=(O j h).1;omega
 have T:=(R.block _ b7 (by
  rintro (h | h)
  ·have:=(b9.o.lt _ h).2;omega
  ·have:=(ab.o.lt _ h).2;omega)).trans a1
 have D:=(R.block _ (LN u) (b8 _ (LN a7.o))).trans u
 have aP:=J.trans (R.toBelow J.size (fun j Y=>by
  rcases Y with h | h
  ·have:=(L j h).1;have:=x.o.size;omega
  ·have:=(O j h).1;have:=x.o.size;omega))
 have bG:=LN D
 obtain ⟨⟨z0,z1⟩,zf⟩:=bx2 T
 obtain ⟨⟨t0,t1⟩,tf⟩:=bx2 D
 obtain ⟨I,b1,aR,bb⟩:=ag D aP ao b6;clear D aP ao b6 R T a1 u C y J L O b8 x0 x1 x2 xf y0 y1 yf
 go_wp2_with fail
 have e1:=MM w3 (w.heap.size+1+1) 0 _ _ (.slice A1 n c1) I.o
 have e2:=MM _ (w.heap.size+1+1) 1 _ _ (.slice i n c2) e1
 have e3:((w3.setCell (ar (w.heap.size+1+1) 0) (.slice A1 n c1)).setCell (ar (w.heap.size+1+1) 1) (.slice i n c2)).heap[w.heap.size+1+1]?=some (.cells #[.slice A1 n c1,.slice i n c2] 141 (0,0)):=by simpa using e2
 have hk:Keep (fun j=>j=w.heap.size+1+1) w3 ((w3.setCell (ar (w.heap.size+1+1) 0) (.slice A1 n c1)).setCell (ar (w.heap.size+1+1) 1) (.slice i n c2)):=Keep.setCell (S:=fun j=>j=w.heap.size+1+1) (Keep.setCell (S:=fun j=>j=w.heap.size+1+1) (Keep.refl _ _) (ar (w.heap.size+1+1) 0) (.inr rfl) _) (ar (w.heap.size+1+1) 1) (.inr rfl) _
 obtain ⟨W9,bo⟩:∃W9,W9=(w3.setCell (ar (w.heap.size+1+1) 0) (.slice A1 n c1)).setCell (ar (w.heap.size+1+1) 1) (.slice i n c2):=⟨_,rfl⟩
 rw [<-bo] at e3 hk ⊢
 obtain ⟨⟨r0,r1⟩,rf⟩:=bx2 e3
 have bl:=hk.own aR.o (fun j Y e=>ax I.o (by decide) aR.o (by rw [Y,e]))
 have bh:=hk.own bb.o (fun j Y e=>ax I.o (by decide) bb.o (by rw [Y,e]))
 exact L7 (v:=.tuple #[.agg #[.slice A1 n c1,.slice i n c2],.bool true]) (by simp [results,results278,go_sem,r0,r1]) rfl ⟨A1,c1,i,c2,rfl,bv.o,bi.o,aE bl x.o.size,aE bh x.o.size,b1.o.trans (hk.toBelow b1.o.size (fun j Y=>ap))⟩
theorem yv (A:Option Addr) (n c:Nat) (ps:List Int) (w:World) (hA:Rd w A (aA .i64 ps)) (aG:ps.length=n) (hn:n<=1048576):
  Calls prog 83 #[.slice A n c] w fun e w'=>∃A1 c1 A2 c2,e=.returned (.agg #[.slice A1 n c1,.slice A2 n c2])/\n<=c1/\n<=c2/\w'.ownsRow w.heap.size 2 1 (.slice A1 n c1) n (aA .i64 ps)/\w'.ownsRow w.heap.size 2 1 (.slice A2 n c2) n (aA .i64 (List.replicate n 0))/\(∀j,(Value.slice A1 n c1).ownBlock=some j->(Value.slice A2 n c2).ownBlock≠some j)/\aq w w':=by
 have a3:=fun w' (k:aq w w')=>fw A ps c w' (hA.below k) ap
 rw [aG] at a3
 have aP:=aa a3
 have a8:=fun w'=>lV lE w' rfl n ap (by unfold maxLen;omega)
 simp only [eZ] at a8
 have aR:=aa a8;clear a3 aG hA a8
 go_enter func83,ntmps83
 go_wp2_with fail
 have hz:=LP w (.cells #[MP,MP] 141)
 have a6:aq w (w.alloc (.cells #[MP,MP] 141)):=(LR _ w).alloc (LO _) _
 obtain ⟨I,aM⟩:∃I,I=w.alloc (.cells #[MP,MP] 141):=⟨_,rfl⟩
 rw [<-aM] at hz a6 ⊢
 have av:=LN hz
 obtain ⟨HZ,B⟩:=ae hz a6;clear hz a6 aM
 have h:(fun _:World=>True) I.drew:=trivial
 refine jO 6 (fun _:World=>True) (by kernel_rfl) ?_
 refine wX 0 h ?_
 refine wX 2 h ?_
 refine wX 3 h ?_
 simp only [Mc,Md,Me,Act.put,Mf,Mg,Mh]
 refine cz (rs:=[1,4]) (by kernel_rfl) (by simp) ?_
 refine aQ.cons rfl (fun K O=>?_) (aQ.cons rfl (fun K O=>?_) aQ.nil)
 ·simp only [Mc,Md,Me]
  go_simp
  refine (aP.o _ B.o.drew).mono ?_
  rintro e J ⟨A1,c1,rfl,a0,D,u⟩
  have N:=B.o.drew.trans (u.mono B.o.size)
  have Q:=(u.block w.heap.size (by simpa using av)).trans HZ.o
  have a1:=aE (base':=w.heap.size) D (by have:=B.o.size;simpa using this)
  have a5:=u.size
  have Y:∀j,(Value.slice A1 n c1).ownBlock=some j->j<J.heap.size:=fun j y=>(D.lt j y).2
  have a2:=aa Y;clear Y
  simp only [MB] at a5
  obtain ⟨x,a9,b1,ab⟩:=ag N Q a1 a0;clear u N Q D a1 a0
  dsimp only
  refine O.out _ _ trivial (fun h=>?_)
  clear O K h
  refine cz (rs:=[4]) (by kernel_rfl) (by simp) ?_
  refine aQ.cons rfl (fun K O=>?_) aQ.nil
  simp only [Mc,Md,Me]
  obtain ⟨V,H,Z,p⟩:=aR.o J
  obtain ⟨L,T,i,U⟩:=ag (aE (base':=w.heap.size) Z x.o.size) (x.o.trans (p.mono x.o.size)) ((p.block w.heap.size ap).trans a9.o) (ay b1.o p)
  have C:=i.o
  obtain ⟨⟨z0,z1⟩,zf⟩:=bx2 C
  have b0:=LN C
  clear Z p C
  go_simp
  refine O.out _ _ trivial (fun h=>?_)
  clear O K H
  refine wX 5 h ?_
  simp only [Mc,Md,Me,Act.put,Mf,Mg,Mh]
  refine eF (by rfl) (by kernel_rfl) ?_
  simp only [Mm,Mn]
  go_wp2_with fail
  have e1:=MM V w.heap.size 0 _ _ (.slice A1 n c1) i.o
  have e2:=MM _ w.heap.size 1 _ _ (.slice (some (ar J.heap.size 0)) n n) e1
  have e3:((V.setCell (ar w.heap.size 0) (.slice A1 n c1)).setCell (ar w.heap.size 1) (.slice (some (ar J.heap.size 0)) n n)).heap[w.heap.size]?=some (.cells #[.slice A1 n c1,.slice (some (ar J.heap.size 0)) n n] 141 (0,0)):=by simpa using e2
  have hk:Keep (fun j=>j=w.heap.size) V ((V.setCell (ar w.heap.size 0) (.slice A1 n c1)).setCell (ar w.heap.size 1) (.slice (some (ar J.heap.size 0)) n n)):=Keep.setCell (S:=fun j=>j=w.heap.size) (Keep.setCell (S:=fun j=>j=w.heap.size) (Keep.refl _ _) (ar w.heap.size 0) (.inr rfl) _) (ar w.heap.size 1) (.inr rfl) _
  obtain ⟨W9,a4⟩:∃W9,W9=(V.setCell (ar w.heap.size 0) (.slice A1 n c1)).setCell (ar w.heap.size 1) (.slice (some (ar J.heap.size 0)) n n):=⟨_,rfl⟩
  rw [<-a4] at e3 hk ⊢
  obtain ⟨⟨r0,r1⟩,rf⟩:=bx2 e3
  have ad:=hk.own U.o (fun j y e=>ax i.o (by decide) U.o (by rw [y,e]))
  have a7:=hk.own L.o (fun j y e=>ax i.o (by decide) L.o (by rw [y,e]))
  exact L7 (v:=.agg #[.slice A1 n c1,.slice (some (ar J.heap.size 0)) n n]) (by simp [results,results83,go_sem,r0,r1]) rfl ⟨A1,c1,_,n,rfl,ab.o,LO _,ad,a7,fun j y e=>by
   have h1:=a2.o j y
   have h2:J.heap.size=j:=by simpa [Value.ownBlock] using e
   omega,T.o.trans (hk.toBelow T.o.size (fun j y=>ap))⟩
 ·simp only [Mc,Md,Me]
  obtain ⟨J,H,Z,p⟩:=aR.o I.drew
  have N:=B.o.drew.trans (p.mono B.o.size)
  have Q:=(p.block w.heap.size (by simpa using av)).trans HZ.o
  have R:=aE (base':=w.heap.size) Z (by have:=B.o.size;simpa using this)
  have a5:=p.size
  simp only [MB] at a5 R H
  obtain ⟨x,a9,ao⟩:=af N Q R;clear p N Q Z R
  go_simp
  refine O.out _ _ trivial (fun h=>?_)
  clear O K H
  refine cz (rs:=[1]) (by kernel_rfl) (by simp) ?_
  refine aQ.cons rfl (fun K O=>?_) aQ.nil
  simp only [Mc,Md,Me]
  go_simp
  refine (aP.o _ x.o).mono ?_
  rintro e V ⟨A1,c1,rfl,a0,D,u⟩
  have Y:∀j,(Value.slice A1 n c1).ownBlock=some j->J.heap.size<=j:=fun j y=>(D.lt j y).1
  have a2:=aa Y;clear Y;obtain ⟨U,T,i,L,ab⟩:=ah (aE (base':=w.heap.size) D x.o.size) (x.o.trans (u.mono x.o.size)) ((u.block w.heap.size ap).trans a9.o) (ay ao.o u) a0
  have C:=i.o
  obtain ⟨⟨z0,z1⟩,zf⟩:=bx2 C
  have b0:=LN C
  clear D u C a0
  dsimp only
  refine O.out _ _ trivial (fun h=>?_)
  clear O K
  refine wX 5 h ?_
  simp only [Mc,Md,Me,Act.put,Mf,Mg,Mh]
  refine eF (by rfl) (by kernel_rfl) ?_
  simp only [Mm,Mn]
  go_wp2_with fail
  have e1:=MM V w.heap.size 0 _ _ (.slice A1 n c1) i.o
  have e2:=MM _ w.heap.size 1 _ _ (.slice (some (ar I.heap.size 0)) n n) e1
  have e3:((V.setCell (ar w.heap.size 0) (.slice A1 n c1)).setCell (ar w.heap.size 1) (.slice (some (ar I.heap.size 0)) n n)).heap[w.heap.size]?=some (.cells #[.slice A1 n c1,.slice (some (ar I.heap.size 0)) n n] 141 (0,0)):=by simpa using e2
  have hk:Keep (fun j=>j=w.heap.size) V ((V.setCell (ar w.heap.size 0) (.slice A1 n c1)).setCell (ar w.heap.size 1) (.slice (some (ar I.heap.size 0)) n n)):=Keep.setCell (S:=fun j=>j=w.heap.size) (Keep.setCell (S:=fun j=>j=w.heap.size) (Keep.refl _ _) (ar w.heap.size 0) (.inr rfl) _) (ar w.heap.size 1) (.inr rfl) _
  obtain ⟨W9,a4⟩:∃W9,W9=(V.setCell (ar w.heap.size 0) (.slice A1 n c1)).setCell (ar w.heap.size 1) (.slice (some (ar I.heap.size 0)) n n):=⟨_,rfl⟩
  rw [<-a4] at e3 hk ⊢
  obtain ⟨⟨r0,r1⟩,rf⟩:=bx2 e3
  have ad:=hk.own U.o (fun j y e=>ax i.o (by decide) U.o (by rw [y,e]))
  have a7:=hk.own L.o (fun j y e=>ax i.o (by decide) L.o (by rw [y,e]))
  exact L7 (v:=.agg #[.slice A1 n c1,.slice (some (ar I.heap.size 0)) n n]) (by simp [results,results83,go_sem,r0,r1]) rfl ⟨A1,c1,_,n,rfl,ab.o,LO _,ad,a7,fun j y e=>by
   have h1:=a2.o j y
   have h2:I.heap.size=j:=by simpa [Value.ownBlock] using e
   have h3:=(ao.o.lt I.heap.size rfl).2
   omega,T.o.trans (hk.toBelow T.o.size (fun j y=>ap))⟩
theorem yw (S n b steps:Nat) (l:List Int) (w:World) (h:fO w S n b steps l):
  Calls prog 264 #[(au S)] w fun e i=>e=.returned (MO steps)/\w=i:=by
 obtain ⟨x,A,J,I,vs,h1,o,v,p,u⟩:=h
 obtain ⟨⟨D,C,y,B⟩,H⟩:=bx4 h1
 clear h1 o v p u
 go_enter func264,ntmps264
 go_wp2
 go_ret
 exact ⟨rfl,rfl⟩
theorem yB (S n b steps t:Nat) (l:List Int) (w:World) (h:fO w S n b steps l) (hn:n<=1048576) (A:1<=n/b) (L:steps<=1048576) (ht:t<steps):
  Calls prog 255 #[(au S),MO t] w fun e B=>e=.returned (.tuple #[MO ((t/(n/b):Nat):Int),MO ((t%(n/b):Nat):Int),.bool true])/\∃d,B=w.drewN d:=by
 have hs:=yw S n b steps l w h
 obtain ⟨Ab,cb,Ao,co,vs,h1,I,R,N,O⟩:=h
 have y:=Nat.div_le_self n b
 obtain ⟨nb,u⟩:∃nb,n/b=nb:=⟨_,rfl⟩
 rw [u] at h1 A y ⊢
 obtain ⟨⟨r0,r1,r2,r3⟩,rf⟩:=bx4 h1
 obtain ⟨v,i⟩:∃v,t/nb=v:=⟨_,rfl⟩
 obtain ⟨x,p⟩:∃x,t%nb=x:=⟨_,rfl⟩
 have D:(t:Int).tdiv (nb:Int)=(v:Int):=by rw [<-i];rfl
 have a0:(t:Int).tmod (nb:Int)=(x:Int):=by rw [<-p];rfl
 have T:v<=t:=by rw [<-i];exact Nat.div_le_self _ _
 have H:x<=t:=by rw [<-p];exact Nat.mod_le _ _
 have V:IntKind.i64.wrap (v:Int)=(v:Int):=LT _ ap
 have Z:IntKind.i64.wrap (x:Int)=(x:Int):=LT _ ap
 have U:¬(nb=0):=ap
 have Q:(t:Int)<steps:=ap
 have Y:¬((t:Int)<0):=ap
 have C:¬((steps:Int)<=t):=ap
 rw [i,p]
 have J:=aa hs;clear hs h1 I R N O u i p
 go_enter func255,ntmps255
 go_wp2_with fail
 refine J.o.mono ?_
 rintro e B ⟨rfl,rfl⟩
 go_wp2_with fail
 go_quiet (fail)
 go_wp2_with fail
 go_ret3
 exact ⟨rfl,_,rfl⟩
def dx (l:List Int) (n b t:Nat):List Int:=((fJ l n ((t/(n/b))*(n-1))).drop (t%(n/b)*b)).take b
theorem xK {n b steps t:Nat} (h:t<steps):t/(n/b)<epN n b steps:=by
 unfold epN du
 rw [if_neg ap]
 have:=Nat.div_le_div_right (c:=n/b) (show t<=steps-1 by omega)
 omega
theorem ip (l:List Int) {n b t:Nat} (h:1<=n/b):(dx l n b t).length=b:=by
 unfold dx
 have h1:=nU n b (t%(n/b)) (Nat.mod_lt _ h)
 rw [Mt,Mw,jd]
 omega
theorem DR (l:List Int) {n b t:Nat} (h:1<=n/b):∀k,k<b->0<=nth (dx l n b t) k/\nth (dx l n b t) k<n:=fun k hk=>by
 have h1:=nU n b (t%(n/b)) (Nat.mod_lt _ h)
 unfold dx
 rw [ff hk,fg]
 exact Fv l n _ _ ap
theorem dR.keep {w p:World} {base:Nat} {A:List Value} {e:Ex} (h:dR w base A e) {S:Nat->Prop} (k:Keep S w p) (y:∀j,S j->j<base):dR p base A e:=by
 obtain ⟨u,v,rfl,h1,x,B⟩:=h
 exact ⟨u,v,rfl,k.own h1 (fun i o hs=>by have:=y i hs;have:=(h1.lt i o).1;omega),k.own x (fun i o hs=>by have:=y i hs;have:=(x.lt i o).1;omega),B⟩
def tc (base:Nat) (w:World) (l:List Ex) (n:Nat) (v:Value):Prop:=∃rows,w.ownsRow base 91 2 v n (List.flatten rows)/\rows.length=n/\(∀r∈rows,r.length=2)/\(∀j x,j<n->l[j]?=some x->dR w base (cq rows j) x)
theorem iP.own {w wr:World} {l:List Ex} {k:Nat} {v:Value} (h:iP w wr l k v):tc w.heap.size wr l k v:=by
 obtain ⟨rows,h1,i,p,o,_⟩:=h
 exact ⟨rows,h1,i,p,o⟩
theorem tc.base {base base':Nat} {w:World} {l:List Ex} {n:Nat} {v:Value} (h:tc base w l n v) (hb:base'<=base):tc base' w l n v:=by
 obtain ⟨rows,h1,o,u,p⟩:=h
 exact ⟨rows,aE h1 hb,o,u,fun j x i y=>(p j x i y).base hb⟩
theorem tc.keep {base:Nat} {w o:World} {l:List Ex} {n:Nat} {v:Value} (h:tc base w l n v) {S:Nat->Prop} (k:Keep S w o) (p:∀j,S j->j<base):tc base o l n v:=by
 obtain ⟨rows,h1,u,B,y⟩:=h
 exact ⟨rows,k.own h1 (fun i C hs=>by have:=p i hs;have:=(h1.lt i C).1;omega),u,B,fun j x A D=>(y j x A D).keep k p⟩
theorem tc.rd {base:Nat} {w:World} {l:List Ex} {A:Option Addr} {n c:Nat} (h:tc base w l n (.slice A n c)) (hn:l.length=n):dA rEx 2 w A l:=by
 obtain ⟨rows,h1,u,p,o⟩:=h
 exact ⟨rows,Rd.own h1,by omega,p,fun j x i=>(o j x (by have:=(Mp.1 i).1;omega) i).rd⟩
theorem Fu (c d:Nat) (A B:Option Addr) (l:List Ex) (i:List Int) (w:World) (h:dA rEx 2 w A l) (hl:l.length<=1048576) (hB:Rd w B (aA .i64 i)) (U:i.length<=1048576):
  Calls prog 231 #[.slice A l.length c,.slice B i.length d] w fun e H=>aq w H/\
   (((∀k,k<i.length->jD l.length (nth i k))/\∃D x,e=.returned (.tuple #[.slice D i.length x,.bool true])/\tc w.heap.size H (dK l i) i.length (.slice D i.length x))\/((¬∀k,k<i.length->jD l.length (nth i k))/\e=.returned (.tuple #[MP,.bool false]))):=by
 have hm:=zA w.heap.size c d A B l i (w.alloc (.cells #[.slice A l.length c] 25)) (LP w _) (h.below eU ((LR _ w).alloc (LO _) _)) hl (hB.alloc _) U
 have p:=mJ l i
 unfold Ay at hm
 obtain ⟨n,hn⟩:∃n,i.length=n:=⟨_,rfl⟩
 obtain ⟨N,I⟩:∃N,l.length=N:=⟨_,rfl⟩
 rw [hn,I] at hm ⊢
 rw [hn] at p
 obtain ⟨Q,R⟩:=ae hm p;clear hm p hn I h hB
 go_enter func231,ntmps231
 go_wp2_with fail
 refine Q.o.mono ?_
 rintro e O ⟨hb,L⟩
 have u:aq w O:=((LR _ w).alloc (LO _) _).trans (hb.mono (by first | omega | (simp;done) | (simp;omega)))
 have J:=aa u;clear hb u
 rcases L with ⟨hg,v,rfl,y⟩ | ⟨hg,rfl⟩
 ·obtain ⟨D,x,rfl⟩:=y.form
  obtain ⟨C,T⟩:=ae hg y;clear hg y
  go_wp2_with fail
  go_ret2
  exact ⟨J.o,.inl ⟨C.o,_,_,rfl,T.o.own.base (by simp)⟩⟩
 ·have C:=aa hg;clear hg
  go_wp2_with fail
  go_ret2
  exact ⟨J.o,.inr ⟨C.o,rfl⟩⟩
abbrev Pl:=Nat×Nat×Int
def plW (k c m:Nat):List Pl:=(List.range m).map fun i=>(k,i/c,((i%c:Nat):Int))
def plB (k m:Nat):List Pl:=(List.range m).map fun i=>(k,i, -1)
def plK (sz:List Int) (k:Nat):List Pl:=plW k (szN sz k) (szN sz (k+1)*szN sz k)++plB k (szN sz (k+1))
def plL (sz:List Int) (n:Nat):List Pl:=(List.range n).flatMap (plK sz)
theorem I2 (k c m:Nat):(plW k c m).length=m:=by simp [plW]
theorem I4 (k m:Nat):(plB k m).length=m:=by simp [plB]
theorem wH (sz:List Int) (n:Nat):plL sz (n+1)=plL sz n++plK sz n:=by simp [plL,ME,List.flatMap_append]
theorem Ba (sz:List Int) (n:Nat):(plL sz n).length=bQ sz n:=by
 induction n with
 | zero=>rfl
 | succ n ih=>
  have:=ft sz n
  unfold dq at this
  rw [wH,Mo,ih]
  unfold plK
  rw [Mo,I2,I4]
  omega
def plV (l:List Pl):List Value:=l.flatMap fun p=>[MO (p.1:Int),MO (p.2.1:Int),MO p.2.2]
theorem rE (a b:List Pl):plV (a++b)=plV a++plV b:=by simp [plV,List.flatMap_append]
theorem AZ (p:Pl):plV [p]=[MO (p.1:Int),MO (p.2.1:Int),MO p.2.2]:=rfl
theorem Kb:∀(l:List Pl) (i:Nat) (p:Pl),l[i]?=some p->(plV l)[i*3]?=some (MO (p.1:Int))/\(plV l)[i*3+1]?=some (MO (p.2.1:Int))/\(plV l)[i*3+2]?=some (MO p.2.2):=by
 intro l
 induction l with
 | nil=>intro i p h;simp at h
 | cons a l ih=>
  intro i p h
  have o:plV (a::l)=[MO (a.1:Int),MO (a.2.1:Int),MO a.2.2]++plV l:=rfl
  rw [o]
  cases i with
  | zero=>
   simp at h
   subst h
   exact ⟨rfl,rfl,rfl⟩
  | succ i=>
   have:=ih i p (by simpa using h)
   rw [Ms (by simp;omega),Ms (by simp;omega),Ms (by simp;omega)]
   simp only [List.length_cons,List.length_nil]
   rw [show (i+1)*3-(0+1+1+1)=i*3 by omega,show (i+1)*3+1-(0+1+1+1)=i*3+1 by omega,show (i+1)*3+2-(0+1+1+1)=i*3+2 by omega]
   exact this
theorem Fq (k c r j:Nat) (h:j<c):plW k c (r*c+j+1)=plW k c (r*c+j)++[(k,r,(j:Int))]:=by
 unfold plW
 rw [ME,List.map_append]
 have h1:(r*c+j)/c=r:=by rw [Nat.add_comm,Nat.add_mul_div_right _ _ ap,Nat.div_eq_of_lt h,MH]
 have i:(r*c+j)%c=j:=by rw [Nat.add_comm,Nat.add_mul_mod_self_right,Nat.mod_eq_of_lt h]
 rw [List.map_singleton,h1,i]
theorem Fr (k r:Nat):plB k (r+1)=plB k r++[(k,r, -1)]:=by simp [plB,ME]
def gAt (sz ps:List Int) (q:Int) (x y:List Int) (p:Pl):Int:=
 if 0<=p.2.2 then fm (nth (fM sz ps q x y (sz.length-2-p.1)) p.2.1) (nth (di sz ps q x p.1) p.2.2.toNat) q else nth (fM sz ps q x y (sz.length-2-p.1)) p.2.1
theorem Jg (l:List Int) (n:Nat) (h:l.length=n):(List.range n).map (nth l)=l:=(fv h fun k _=>rfl).symm
theorem Ig {sz ps:List Int} {q:Int} {x y:List Int} (h:x.length=szN sz 0) {k:Nat} (hk:k+2<=sz.length):
  lp (szN sz (k+1)) (szN sz k) (fM sz ps q x y (sz.length-2-k)) (di sz ps q x k) q++fM sz ps q x y (sz.length-2-k)=(plK sz k).map (gAt sz ps q x y):=by
 unfold plK
 rw [List.map_append]
 congr 1
 ·unfold lp dB plW
  rw [List.map_map]
  refine List.map_congr_left fun i _=>?_
  unfold I7 gAt
  show _=if 0<=((i%szN sz k:Nat):Int) then fm (nth (fM sz ps q x y (sz.length-2-k)) (i/szN sz k)) (nth (di sz ps q x k) ((i%szN sz k:Nat):Int).toNat) q else nth (fM sz ps q x y (sz.length-2-k)) (i/szN sz k)
  rw [if_pos (Int.natCast_nonneg _),Int.toNat_natCast]
 ·unfold plB
  rw [List.map_map]
  have hl:=kz (sz:=sz) (ps:=ps) (q:=q) (x:=x) (y:=y) h (sz.length-2-k)
  rw [show sz.length-1-(sz.length-2-k)=k+1 by omega] at hl
  have:=Jg _ _ hl
  conv=>lhs;rw [<-this]
  refine List.map_congr_left fun i _=>?_
  unfold gAt
  simp
theorem Gr {sz ps:List Int} {q:Int} {x y:List Int} (i:x.length=szN sz 0):∀j,j+1<=sz.length->oZ sz ps q x y j=(((List.range (sz.length-1)).drop (sz.length-1-j)).flatMap (plK sz)).map (gAt sz ps q x y):=by
 intro j
 induction j with
 | zero=>intro _;rw [Nat.sub_zero,List.drop_eq_nil_of_le (by simp)];rfl
 | succ j ih=>
  intro o
  have h:(List.range (sz.length-1)).drop (sz.length-1-(j+1))=(sz.length-2-j)::(List.range (sz.length-1)).drop (sz.length-1-j):=by
   rw [show sz.length-1-(j+1)=sz.length-2-j by omega]
   rw [List.drop_eq_getElem_cons (by simp;omega),List.getElem_range]
   congr 2
   omega
  rw [h,List.flatMap_cons,List.map_append,<-ih ap,oZ,<-Mu]
  congr 1
  have:=Ig (sz:=sz) (ps:=ps) (q:=q) (x:=x) (y:=y) i (k:=sz.length-2-j) ap
  rw [show sz.length-2-j+1=sz.length-1-j by omega,show sz.length-2-(sz.length-2-j)=j by omega] at this
  exact this
theorem xz {sz ps:List Int} {q:Int} {x y:List Int} (h:x.length=szN sz 0) (hl:1<=sz.length):gS sz ps q x y=(plL sz (sz.length-1)).map (gAt sz ps q x y):=by
 unfold gS
 rw [Gr h _ ap,Nat.sub_self,Mn]
 rfl
theorem ur {sz ps:List Int} {q:Int} {x y:List Int} (h:x.length=szN sz 0) (hl:1<=sz.length):(gS sz ps q x y).length=bQ sz (sz.length-1):=by
 rw [xz h hl,List.length_map,Ba]
theorem I3 {sz:List Int} {n:Nat} {p:Pl} (h:p∈plL sz n):p.1<n/\p.2.1<szN sz (p.1+1)/\(p.2.2= -1\/(0<=p.2.2/\p.2.2.toNat<szN sz p.1)):=by
 unfold plL at h
 obtain ⟨k,hk,h⟩:=List.mem_flatMap.1 h
 have hk:=List.mem_range.1 hk
 unfold plK at h
 rcases MD.1 h with h | h
 ·unfold plW at h
  obtain ⟨i,o,rfl⟩:=List.mem_map.1 h
  have o:=List.mem_range.1 o
  have hc:0<szN sz k:=by
   rcases Nat.eq_zero_or_pos (szN sz k) with u | u
   ·rw [u,Nat.mul_zero] at o;omega
   ·exact u
  exact ⟨hk,Nat.div_lt_of_lt_mul (by rw [Nat.mul_comm];exact o),.inr ⟨by dsimp only;omega,by dsimp only;rw [Int.toNat_natCast];exact Nat.mod_lt _ hc⟩⟩
 ·unfold plB at h
  obtain ⟨i,o,rfl⟩:=List.mem_map.1 h
  exact ⟨hk,List.mem_range.1 o,.inl rfl⟩
theorem Bu {i:Inp} (h:dH i.cfg.sizes):1<=cnt i:=by
 unfold cnt
 have h1:=h.1.1
 have:=fF i.cfg.sizes (show 1<=i.cfg.sizes.length-1 by omega)
 have p:bQ i.cfg.sizes 1=0+(szN i.cfg.sizes 0+1)*szN i.cfg.sizes 1:=rfl
 have o:=(h.1.at (k:=1) ap).1
 have u:1*1<=(szN i.cfg.sizes 0+1)*szN i.cfg.sizes 1:=Nat.mul_le_mul ap o
 omega
def eg (i:Inp) (P:List Int) (l:List Ex):List Int:=l.foldl (fun a x=>fj a (gS i.cfg.sizes P i.cfg.shift x.1 x.2)) (List.replicate (cnt i) 0)
theorem vt (i:Inp) (P:List Int) (l:List Ex) (x:Ex):eg i P (l++[x])=fj (eg i P l) (gS i.cfg.sizes P i.cfg.shift x.1 x.2):=by simp [eg]
theorem iG (i:Inp) (P:List Int) (l:List Ex):(eg i P l).length=cnt i:=by
 have:∀(l:List Ex) (a:List Int),(l.foldl (fun a x=>fj a (gS i.cfg.sizes P i.cfg.shift x.1 x.2)) a).length=a.length:=by
  intro l
  induction l with
  | nil=>intro a;rfl
  | cons x l ih=>intro a;rw [List.foldl_cons,ih,iI]
 unfold eg
 rw [this,Mv]
theorem xA (i:Inp) (P:List Int) (l:List Ex):W64 (eg i P l):=by
 have:∀(l:List Ex) (a:List Int),W64 a->W64 (l.foldl (fun a x=>fj a (gS i.cfg.sizes P i.cfg.shift x.1 x.2)) a):=by
  intro l
  induction l with
  | nil=>intro a h;exact h
  | cons x l ih=>intro a _;exact ih _ (fx fun _ _=>fU _)
 refine this _ _ fun k hk=>?_
 rw [dE _ _ hk];simp
def iY (i:Inp) (h:List Int):Prop:=∀k,k<h.length->jD i.data.length (nth h k)
theorem Af {i:Inp} (hg:lL i) (k:Nat):iY i (dx i.draws i.data.length i.cfg.batch.toNat k):=fun j o=>by
 have h1:=hg.c.w;have p:=hg.c.ba;have u:=hg.b
 have h:1<=i.data.length/i.cfg.batch.toNat:=Nat.div_pos ap ap
 rw [ip _ h] at o
 exact DR _ h j o
theorem GE:dt prog 59 141 (.agg #[MP,MP]) 2 48:=⟨underlying59,info_parts (by kernel_rfl),rfl,by decide⟩
theorem En {n base:Nat} {w h:World} {x:Ex} {A1 i:Option Addr} {c1 c2:Nat} (h1:h.ownsRow w.heap.size 2 1 (.slice A1 n c1) n (aA .i64 x.1)) (p:h.ownsRow w.heap.size 2 1 (.slice i n c2) n (aA .i64 x.2)) (hb:base<=w.heap.size) (l1:x.1.length=n) (u:x.2.length=n) (hn:n<=1048576) (o:W64 x.1) (v:W64 x.2):dR h base [.slice A1 n c1,.slice i n c2] x:=
 ⟨_,_,rfl,by rw [l1];exact aE h1 hb,by rw [u];exact aE p hb,by omega,by omega,o,v⟩
theorem Ju {w:World} {b:Nat} {t:TypeId} {v0 v1 v2 v3 v4 v5 v6 v7 v8 v9 v10 v11 v o i y x p u:Value} (h:w.heap[b]?=some (.cells #[v0,v1,v2,v3,v4,v5,v6,v7,v8,v9,v10,v11,v,o,i,y,x,p,u] t (0,0))):(w.cell? (ar b 0)=some v0/\w.cell? (ar b 1)=some v1/\w.cell? (ar b 2)=some v2/\w.cell? (ar b 3)=some v3/\w.cell? (ar b 4)=some v4/\w.cell? (ar b 5)=some v5/\w.cell? (ar b 6)=some v6/\w.cell? (ar b 7)=some v7/\w.cell? (ar b 8)=some v8/\w.cell? (ar b 9)=some v9/\w.cell? (ar b 10)=some v10/\w.cell? (ar b 11)=some v11/\w.cell? (ar b 12)=some v/\w.cell? (ar b 13)=some o/\w.cell? (ar b 14)=some i/\w.cell? (ar b 15)=some y/\w.cell? (ar b 16)=some x/\w.cell? (ar b 17)=some p/\w.cell? (ar b 18)=some u)/\∀j,w.frozen? (ar b j)=false:=by
 have:=bx (vs:=[v0,v1,v2,v3,v4,v5,v6,v7,v8,v9,v10,v11,v,o,i,y,x,p,u]) h;simp only [Bx,Cs,Nat.reduceAdd,and_true] at this;exact ⟨this.1,this.2.2⟩
theorem fl {T:TypeId} {u v:World} {b:Nat} {sz:List Int} (h:cF T u b sz) (i:Ext u v):cF T v b sz:=by
 obtain ⟨A1,c1,p,c2,o,c3,y,h1,x,A⟩:=h
 exact ⟨A1,c1,p,c2,o,c3,sq (xs:=[_,_,_]) y i,aV h1 i,aV x i,aV A i⟩
theorem gE {u v:World} {S n batch steps:Nat} {l:List Int} (h:fO u S n batch steps l) (i:Ext u v):fO v S n batch steps l:=by
 obtain ⟨p,x,N,J,vs,h1,C,L,D,I⟩:=h
 exact ⟨p,x,N,J,vs,sq (xs:=[_,_,_]) h1 i,aV C i,aV L i,D,fun j B=>by
  obtain ⟨O,H,o,y,A⟩:=I j B
  exact ⟨O,H,o,y,aV A i⟩⟩
theorem cJ:Lt rEx:=fun ⟨A1,c1,p,c2,e,h,i⟩ o=>⟨A1,c1,p,c2,e,⟨h.hc,h.hl,aV h.hr o,h.hw⟩,⟨i.hc,i.hl,aV i.hr o,i.hw⟩⟩
theorem gF {u v:World} {P:Nat} {p:Pln} {o a1 x A B y i:Value} (h:eQ u P p o a1 x A B y i) (hb:Ext u v):eQ v P p o a1 x A B y i:=by
 obtain ⟨BA,bc,N,J,I,C,h1,D,L,H⟩:=h
 exact ⟨BA,bc,N,J,I,C,sq (xs:=[_,_,_,_,_,_,_,_,_,_,_,_,_,_]) h1 hb,aV D hb,aV L hb,aV H hb⟩
structure Mst where
 P:List Int
 M:List Int
 G:List Int
 rc:List Ex
 st:Nat
 nx:Nat
 op:List Nat
def aB (i:Inp):Pln:=⟨i.cfg.workers.toNat,i.cfg.micros.toNat,i.cfg.bucket.toNat,i.cfg.chunk.toNat,i.cfg.window.toNat,i.start.length⟩
def eJ (l:List Nat):List Int:=l.map fun j:Nat=>(j:Int)
theorem pQ (l:List Nat):(eJ l).length=l.length:=by simp [eJ]
structure cK (i:Inp):Prop where
 g:lL i
 n:i.start.length<=60
 w:i.cfg.workers<=8
 m:i.cfg.micros<=20
 s:i.cfg.steps<=6
 d:i.data.length<=40
theorem cK.ok {i:Inp} (h:cK i):db (aB i):=by
 have h1:=h.g.c.w;have v:=h.g.c.mi;have A:=h.g.c.bu;have x:=h.g.c.ch;have y:=h.g.c.wi
 have o:=h.n;have p:=h.w;have u:=h.m
 exact ⟨by simp only [aB];omega,by simp only [aB];omega,by simp only [aB];omega,by simp only [aB];omega,by simp only [aB];omega,by simp only [aB];omega,by simp only [aB];omega,by simp only [aB];omega⟩
theorem cK.n1 {i:Inp} (h:cK i):1<=(aB i).n:=by
 have:=Bu h.g.c.z
 have:=h.g.s
 simp only [aB];omega
def cR (i:Inp) (x st:Nat):List Itm:=if st<i.cfg.steps.toNat then aI (aB i) x st else []
structure MAd where
 F:Nat
 E:Option Addr
 ce:Nat
 S:Nat
 PP:Nat
 BA:Option Addr
 bc:Nat
 bp:Nat
 cp:Nat
 bm:Nat
 cm:Nat
 bg:Nat
 cg:Nat
 rb:Nat
 rc:Nat
 IA:Option Addr
 ic:Nat
 ov:Value
def bD (i:Inp) (x:Nat) (m:Mst):Nat:=m.st*(aI (aB i) x 0).length+m.nx
def Mut (b:Nat) (a:MAd) (k:Nat):Prop:=k=b\/k=a.bp\/k=a.bm\/k=a.bg\/k=a.rb\/a.ov.ownBlock=some k
abbrev fT (H:Nat->Prop) (b:Nat) (a:MAd):Nat->Prop:=fun k=>Mut b a k\/H k
def uF (V w:World) (v:Value) (l:List Ex):Prop:=∃rows:List (List Value),w.ownsRow 0 141 2 v l.length (List.flatten rows)/\rows.length=l.length/\(∀r∈rows,r.length=2)/\∀j x,l[j]?=some x->rEx V (cq rows j) x
structure aT (H:Nat->Prop) (w:World) (b:Nat) (i:Inp) (x:Nat) (a:MAd) (m:Mst):Prop where
 blk:w.heap[b]?=some (.cells #[MO (x:Nat),MO i.cfg.workers,MO i.cfg.micros,(au a.F),.slice a.E i.data.length a.ce,(au a.S),(au a.PP),.slice a.BA (aB i).buks.length a.bc,MO i.cfg.rate,MO i.cfg.mom,MO i.cfg.shift,.slice (some (ar a.bp 0)) i.start.length a.cp,.slice (some (ar a.bm 0)) i.start.length a.cm,.slice (some (ar a.bg 0)) i.start.length a.cg,.slice (some (ar a.rb 0)) m.rc.length a.rc,.slice a.IA (cR i x m.st).length a.ic,MO (m.nx:Nat),MO (bD i x m:Nat),a.ov] 179 (0,0))
 sh:cF 212 (aF (fT H b a) w) a.F i.cfg.sizes
 ex:dA rEx 2 (aF (fT H b a) w) a.E i.data
 sa:fO (aF (fT H b a) w) a.S i.data.length i.cfg.batch.toNat i.cfg.steps.toNat i.draws
 pl:∃a0 a1 a2 a3 a5 a11,eQ (aF (fT H b a) w) a.PP (aB i) a0 a1 a2 a3 a5 (MO (i.cfg.steps.toNat:Nat)) a11
 bu:Rd (aF (fT H b a) w) a.BA (aN (aB i).buks)
 it:Rd (aF (fT H b a) w) a.IA (cu (cR i x m.st))
 re:uF (aF (fT H b a) w) w (.slice (some (ar a.rb 0)) m.rc.length a.rc) m.rc
 oP:w.ownsRow 0 2 1 (.slice (some (ar a.bp 0)) i.start.length a.cp) i.start.length (aA .i64 m.P)
 oM:w.ownsRow 0 2 1 (.slice (some (ar a.bm 0)) i.start.length a.cm) i.start.length (aA .i64 m.M)
 oG:w.ownsRow 0 2 1 (.slice (some (ar a.bg 0)) i.start.length a.cg) i.start.length (aA .i64 m.G)
 oO:w.ownsRow 0 3 1 a.ov m.op.length (aA .i64 (eJ m.op))
 dj:a.bp≠a.bm/\a.bp≠a.bg/\a.bm≠a.bg
 hH:∀k,k<w.heap.size->Mut b a k->¬H k
 wP:m.P.length=i.start.length/\W64 m.P
 wM:m.M.length=i.start.length/\W64 m.M
 wG:m.G.length=i.start.length/\W64 m.G
 ox:m.nx<(cR i x m.st).length\/(m.nx=0/\i.cfg.steps.toNat<=m.st)
 xw:x<(aB i).W
theorem uF.ext {V i w o:World} {v:Value} {l:List Ex} (h:uF V w v l) (he:Ext V i) (p:∀e size n xs,w.ownsRow 0 e size v n xs->o.ownsRow 0 e size v n xs):uF i o v l:=by
 obtain ⟨rows,h1,u,A,y⟩:=h
 exact ⟨rows,p _ _ _ _ h1,u,A,fun j x B=>cJ (y j x B) he⟩
theorem aT.step {H H':Nat->Prop} {w u:World} {b x:Nat} {i:Inp} {a:MAd} {m:Mst} (h:aT H w b i x a m) (hk:Keep H w u) (hs:∀k,k<w.heap.size->H' k->H k) (hn:∀k,Mut b a k->¬H' k):aT H' u b i x a m:=by
 have he:Ext (aF (fT H b a) w) (aF (fT H' b a) u):=bE (hk.mono fun k _ h=>.inr h) (fun k hl D=>D.imp id (hs k hl))
 have hb:∀k,k<w.heap.size->Mut b a k->u.heap[k]?=w.heap[k]?:=fun k hl hm=>hk.block k hl (h.hH k hl hm)
 have o:∀(v:Value) e size n xs,(∀k,v.ownBlock=some k->Mut b a k)->w.ownsRow 0 e size v n xs->u.ownsRow 0 e size v n xs:=fun v e size n xs I o=>hk.own o fun k p=>h.hH k (o.lt k p).2 (I k p)
 have bp:∀k,(Value.slice (some (ar a.bp 0)) i.start.length a.cp).ownBlock=some k->Mut b a k:=fun k e=>by cases e;exact .inr (.inl rfl)
 have bm:∀k,(Value.slice (some (ar a.bm 0)) i.start.length a.cm).ownBlock=some k->Mut b a k:=fun k e=>by cases e;exact .inr (.inr (.inl rfl))
 have bg:∀k,(Value.slice (some (ar a.bg 0)) i.start.length a.cg).ownBlock=some k->Mut b a k:=fun k e=>by cases e;exact .inr (.inr (.inr (.inl rfl)))
 have rb:∀k,(Value.slice (some (ar a.rb 0)) m.rc.length a.rc).ownBlock=some k->Mut b a k:=fun k e=>by cases e;exact .inr (.inr (.inr (.inr (.inl rfl))))
 have ov:∀k,a.ov.ownBlock=some k->Mut b a k:=fun k e=>.inr (.inr (.inr (.inr (.inr e))))
 obtain ⟨B,a1,C,J,L,y,A⟩:=h.pl
 exact ⟨(hb b (LN h.blk) (.inl rfl)).trans h.blk,fl h.sh he,eA cJ h.ex he,gE h.sa he,⟨B,a1,C,J,L,y,gF A he⟩,aV h.bu he,aV h.it he,
  h.re.ext he (fun e size n xs=>o _ e size n xs rb),o _ _ _ _ _ bp h.oP,o _ _ _ _ _ bm h.oM,o _ _ _ _ _ bg h.oG,o _ _ _ _ _ ov h.oO,h.dj,fun k _ hm=>hn k hm,h.wP,h.wM,h.wG,h.ox,h.xw⟩
theorem aT.below {H:Nat->Prop} {w o:World} {b x:Nat} {i:Inp} {a:MAd} {m:Mst} (h:aT H w b i x a m) (hb:aq w o) (hn:∀k,Mut b a k->¬H k):aT H o b i x a m:=h.step (Keep.below hb) (fun _ _ h=>h) hn
def iX (i:Inp) (x k:Nat):List Itm:=(List.range k).flatMap fun t=>aI (aB i) x t
abbrev dQ (i:Inp) (x:Nat):List Itm:=iX i x i.cfg.steps.toNat
theorem jl (i:Inp) (x k:Nat):iX i x (k+1)=iX i x k++aI (aB i) x k:=by simp [iX,ME]
theorem pz {i:Inp} (h:db (aB i)) (x k:Nat):(iX i x k).length=k*(aI (aB i) x 0).length:=by
 induction k with
 | zero=>simp [iX]
 | succ k ih=>rw [jl,Mo,ih,jC h x k,MF]
theorem BF {i:Inp} (o:db (aB i)) {x st nx:Nat} {y:Itm} (p:(aI (aB i) x st)[nx]?=some y):∀{k:Nat},st<k->(iX i x k)[st*(aI (aB i) x 0).length+nx]?=some y
 | 0,h=>absurd h (Nat.not_lt_zero _)
 | k+1,h=>by
  have hl:=pz o x k
  have hn:=(Mp.1 p).1
  rw [jC o] at hn
  rw [jl]
  rcases Ma st k with u | u
  ·have h1:=MN (aI (aB i) x 0).length (Nat.succ_le_of_lt u)
   rw [MF] at h1
   rw [Mr ap]
   exact BF o p u
  ·obtain rfl:st=k:=ap
   rw [Ms ap,hl,Nat.add_sub_cancel_left]
   exact p
structure Cor where
 st:Nat
 bk:Nat
 ph:Nat
 rd:Nat
 ch:Nat
 at':Rg
def Acn.cor (a:Acn):Cor:=⟨a.st,a.bk,a.ph,a.rd,a.ch,a.at'⟩
def gh (l:List Itm):List Acn:=l.filterMap (·.a)
def gP (l:List Itm):List Cor:=((gh l).filter fun a=>a.send).map Acn.cor
def iD (l:List Itm):List Cor:=((gh l).filter fun a=> !a.send).map Acn.cor
theorem jG (l r:List Itm):gh (l++r)=gh l++gh r:=List.filterMap_append ..
theorem tw (l r:List Itm):gP (l++r)=gP l++gP r:=by simp [gP,jG]
theorem tH (l r:List Itm):iD (l++r)=iD l++iD r:=by simp [iD,jG]
theorem kH {α:Type} (l:List α) (f:α->List Itm):gh (l.flatMap f)=l.flatMap fun x=>gh (f x):=by
 induction l with
 | nil=>rfl
 | cons x l ih=>rw [List.flatMap_cons,jG,ih,List.flatMap_cons]
theorem dZ {α β:Type} {l:List α} {f g:α->List β} (h:∀x∈l,f x=g x):l.flatMap f=l.flatMap g:=by
 induction l with
 | nil=>rfl
 | cons x l ih=>rw [List.flatMap_cons,List.flatMap_cons,h x (by simp),ih fun y i=>h y (by simp [i])]
theorem pX {α:Type} (l:List α) (f:α->Itm) (h:∀x,(f x).a=none):gh (l.map f)=[]:=by
 induction l with
 | nil=>rfl
 | cons x l ih=>rw [List.map_cons,gh,List.filterMap_cons,h x];exact ih
theorem An (p:Pln) (w st ph r j:Nat):gh (bY p w st ph r j)=df st j (aL p.buks j) p.W p.ck w ph r:=by
 unfold bY gh
 rw [List.filterMap_map]
 generalize df st j (aL p.buks j) p.W p.ck w ph r=l
 induction l with
 | nil=>rfl
 | cons x l ih=>rw [List.filterMap_cons];show x::_=_;rw [ih]
def ye (p:Pln) (w st a n:Nat):List Acn:=(List.range 2).flatMap fun ph=>(List.range (p.W-1)).flatMap fun r=>(List.range n).flatMap fun j=>df st (a+j) (aL p.buks (a+j)) p.W p.ck w ph r
theorem Aq (p:Pln) (w st:Nat) (g:Rg):gh (dg p w st g)=ye p w st g.1 (g.2-g.1):=by
 unfold dg ye
 rw [jG,jG,pX _ _ (fun _=>rfl),pX _ _ (fun _=>rfl),List.append_nil,List.nil_append,kH]
 refine dZ fun ph _=>?_
 rw [kH]
 refine dZ fun r _=>?_
 rw [kH,List.range'_eq_map_range,List.flatMap_map]
 exact dZ fun j _=>An p w st ph r _
def yd (p:Pln) (w st:Nat):List Acn:=(List.range (du p.buks.length p.wi)).flatMap fun k=>ye p w st (k*p.wi) (min (k*p.wi+p.wi) p.buks.length-k*p.wi)
theorem uD (p:Pln) (w st:Nat):gh (aI p w st)=yd p w st:=by
 unfold aI yd
 rw [jG,jG,pX _ _ (fun _=>rfl),List.nil_append,kH]
 show _++[]=_
 rw [List.append_nil,Pln.grps,fp,List.flatMap_map]
 exact dZ fun k _=>Aq p w st _
theorem yc (i:Inp) (x k:Nat):gh (iX i x k)=(List.range k).flatMap fun st=>yd (aB i) x st:=by
 unfold iX
 rw [kH]
 exact dZ fun st _=>uD _ _ _
theorem ny {β:Type} (f:Nat->β) (a:Nat):∀m,((List.range m).flatMap fun i=>if i<a then [f i] else [])=(List.range (min m a)).map f
 | 0=>by simp
 | m+1=>by
  rw [ME,List.flatMap_append,ny f a m]
  by_cases h:m<a
  ·rw [show min (m+1) a=min m a+1 by omega,ME,List.map_append]
   simp [h,show min m a=m by omega]
  ·rw [show min (m+1) a=min m a by omega]
   simp [h]
theorem C0 (x y:List Rg) (f g:Nat->Rg->Acn) (o:∀i r,(f i r).send=true) (hg:∀i r,(g i r).send=false):(ju x y f g).filter (fun a=>a.send)=(List.range x.length).map fun i=>f i (aL x i):=by
 unfold ju
 rw [List.filter_flatMap]
 have:∀i:Nat,List.filter (fun a:Acn=>a.send) ((if i<x.length then [f i (aL x i)] else [])++(if i<y.length then [g i (aL y i)] else []))=if i<x.length then [f i (aL x i)] else []:=fun i=>by
  by_cases h1:i<x.length<;>by_cases h:i<y.length<;>simp [h1,h,o,hg]
 simp only [this]
 rw [ny (fun i=>f i (aL x i)),show min (max x.length y.length) x.length=x.length by omega]
theorem C3 (x y:List Rg) (f g:Nat->Rg->Acn) (o:∀i r,(f i r).send=true) (hg:∀i r,(g i r).send=false):(ju x y f g).filter (fun a=> !a.send)=(List.range y.length).map fun i=>g i (aL y i):=by
 unfold ju
 rw [List.filter_flatMap]
 have:∀i:Nat,List.filter (fun a:Acn=> !a.send) ((if i<x.length then [f i (aL x i)] else [])++(if i<y.length then [g i (aL y i)] else []))=if i<y.length then [g i (aL y i)] else []:=fun i=>by
  by_cases h1:i<x.length<;>by_cases h:i<y.length<;>simp [h1,h,o,hg]
 simp only [this]
 rw [ny (fun i=>g i (aL y i)),show min (max x.length y.length) y.length=y.length by omega]
theorem EB {W x ph r:Nat} (hr:r<W-1):er W x ph r=fI W ((x+1)%W) ph r:=by
 unfold er fI
 rw [Nat.mod_add_mod]
 congr 1
 omega
theorem yL (st bk:Nat) (b:Rg) (W c x ph r:Nat) (hr:r<W-1):((df st bk b W c x ph r).filter fun a=>a.send).map Acn.cor=((df st bk b W c ((x+1)%W) ph r).filter fun a=> !a.send).map Acn.cor:=by
 unfold df
 rw [C0 _ _ _ _ (fun _ _=>rfl) (fun _ _=>rfl),C3 _ _ _ _ (fun _ _=>rfl) (fun _ _=>rfl),<-EB hr,List.map_map,List.map_map]
 rfl
theorem wW (i:Inp) (x k:Nat):gP (iX i x k)=iD (iX i ((x+1)%(aB i).W) k):=by
 unfold gP iD
 rw [yc,yc]
 simp only [yd,ye,List.filter_flatMap,List.map_flatMap]
 refine dZ fun st _=>dZ fun g _=>dZ fun ph _=>dZ fun r hr=>dZ fun j _=>?_
 exact yL _ _ _ _ _ _ _ _ (List.mem_range.1 hr)
theorem CA {st bk:Nat} {b:Rg} {W c x ph r:Nat} {a:Acn} (h:a∈df st bk b W c x ph r):a.st=st/\a.bk=bk/\a.ph=ph/\a.rd=r/\a.ch<(df st bk b W c x ph r).length:=by
 rw [jq]
 unfold df ju at h
 obtain ⟨i,o,h⟩:=List.mem_flatMap.1 h
 rw [List.mem_range] at o
 rw [MD] at h
 rcases h with h | h<;>split at h
 ·simp only [List.mem_singleton] at h;subst h;exact ⟨rfl,rfl,rfl,rfl,by show i<_;omega⟩
 ·simp at h
 ·simp only [List.mem_singleton] at h;subst h;exact ⟨rfl,rfl,rfl,rfl,by show i<_;omega⟩
 ·simp at h
theorem sw:dt prog 185 187 (.agg #[MO 0,MO 0]) 2 16:=⟨underlying185,info_parts (by kernel_rfl),rfl,by decide⟩
def Ae (n s k:Nat):List Rg:=(List.range k).map fun j=>(j*s,min (j*s+s) n)
theorem DQ (n s k:Nat):Ae n s (k+1)=Ae n s k++[(k*s,min (k*s+s) n)]:=by simp [Ae,ME]
theorem Ij (n s k:Nat):(Ae n s k).length=k:=by simp [Ae]
theorem Ky (n s:Nat):fp n s=Ae n s (du n s):=rfl
theorem Jt {n s k:Nat} (hs:1<=s) (h:du n s<=k):n<=k*s:=by
 rcases Nat.eq_zero_or_pos n with rfl | hn
 ·omega
 ·rw [qL n s hs] at h
  have h1:=Nat.div_add_mod (n+s-1) s
  have i:=Nat.mod_lt (n+s-1) (show 0<s by omega)
  have p:s*((n+s-1)/s)<=s*k:=Nat.mul_le_mul_left s h
  have o:s*k=k*s:=Nat.mul_comm _ _
  omega
theorem rC (n s:Nat) (w:World) (hn:n<=1048576) (hs:1<=s) (a5:s<=1048576):
  Calls prog 148 #[MO n,MO s] w fun e V=>∃v,e=.returned v/\V.ownsRow w.heap.size 187 2 v (fp n s).length (aN (fp n s))/\aq w V:=by
 have a4:¬((s:Int)<1):=ap
 by_cases h0:n=0
 ·subst h0
  go_enter func148,ntmps148
  go_wp2
  go_ret
  exact ⟨_,rfl,LZ _ _ _ _,LR _ _⟩
 ·have a2:¬((n:Int)<1):=ap
  have hc:=fE n s
  have hl:=fun k (h:k<du n s)=>iV h
  have hg:=fun k (h:du n s<=k)=>Jt hs h
  rw [Ky,Ij]
  obtain ⟨m,hm⟩:∃m,du n s=m:=⟨_,rfl⟩
  rw [hm] at hc hl hg ⊢
  obtain ⟨Hl,Hg⟩:=ae hl hg;clear hm hl hg
  go_enter func148,ntmps148
  go_wp2_with fail
  go_loopw [5,6] (fun v x wr=>∃k:Nat,k<=m/\x=MO (min (k*s) n:Nat)/\wr.ownsRow w.heap.size 187 2 v k (aN (Ae n s k))/\aq w wr) (fun _ x _=>n-(intOf x).toNat)
  case atStart=>exact ⟨0,LS _,by simp,LZ _ _ _ _,LR _ _⟩
  case round=>
   obtain ⟨k,hk,rfl,L,hb⟩:=hrel
   by_cases T:k<m
   ·have U:=Hl.o k T
    have u:=DQ n s k
    have D:(k+1)*s=k*s+s:=MF k s
    obtain ⟨y,Z⟩:∃y,k*s=y:=⟨_,rfl⟩
    rw [Z] at U u D ⊢
    rw [show min y n=y by omega]
    have a3:(y:Int)<n:=ap
    obtain ⟨A,c,rfl,_⟩:=aD L
    obtain ⟨z,R⟩:∃z,min (y+s) n=z:=⟨_,rfl⟩
    rw [R] at u
    obtain ⟨N,I,Q,O,Y⟩:=ah u D L hb R
    have J:=hb.size
    clear u D L hb Z
    by_cases a0:(s:Int)<(n:Int)-y
    ·obtain rfl:z=y+s:=ap
     clear R
     go_wp2_with (at_builtin;refine aY sw _ rfl (.tmp 26) (.tmp 30) rfl w.heap.size (.slice A k c) k _ rfl Q.o [MO (y:Int),MO ((y:Int)+s)] rfl rfl (cG .i64 [_,_]) ap (by unfold maxLen;omega) J ?_)
     intro g6 c6 w6 i p H
     obtain ⟨C,B⟩:=ae i (O.o.trans p);clear i p H
     go_wp2_with fail
     go_roundw
     case rel=>exact ⟨k+1,by omega,by rw [I.o,Y.o];push_cast;rfl,by rw [N.o,ie];exact C.o,B.o⟩
     case measure=>simp [intOf];omega
    ·obtain rfl:z=n:=ap
     clear R
     go_wp2_with (at_builtin;refine aY sw _ rfl (.tmp 26) (.tmp 30) rfl w.heap.size (.slice A k c) k _ rfl Q.o [MO (y:Int),MO (z:Nat)] rfl rfl (cG .i64 [_,_]) ap (by unfold maxLen;omega) J ?_)
     intro g6 c6 w6 i p H
     obtain ⟨C,B⟩:=ae i (O.o.trans p);clear i p H
     go_wp2_with fail
     go_roundw
     case rel=>exact ⟨k+1,by omega,by rw [I.o,Y.o],by rw [N.o,ie];exact C.o,B.o⟩
     case measure=>simp [intOf];omega
   ·have a1:=Hg.o k ap
    obtain rfl:k=m:=ap
    rw [show min (k*s) n=n by omega]
    have a6:¬((n:Int)<n):=ap
    obtain ⟨Q,O⟩:=ae L hb;clear L hb
    go_wp2_with fail
    go_ret
    exact ⟨_,rfl,Q.o,O.o⟩
theorem we (n s:Nat) (w:World) (hn:n<=1048576) (hs:1<=s) (h:s<=1048576):
  Calls prog 102 #[MO n,MO s] w fun e p=>∃v,e=.returned v/\p.ownsRow w.heap.size 187 2 v (fp n s).length (aN (fp n s))/\aq w p:=by
 have hb:=rC n s w hn hs h
 have A:=aa hb;clear hb
 go_enter func102,ntmps102
 go_wp2_with fail
 refine A.o.mono ?_
 rintro e B ⟨v,rfl,u,i⟩
 obtain ⟨y,x⟩:=ae u i;clear u i
 go_wp2_with fail
 go_ret
 exact ⟨_,rfl,y.o,x.o⟩
def szs (k m:Nat):List Int:=(List.range k).map fun i=>(szE k m i:Int)
theorem mA (k m:Nat):(szs k m).length=k:=by simp [szs]
theorem AA {k m i:Nat} (h:i<k):nth (szs k m) i=(szE k m i:Int):=by rw [dE _ _ (by rw [mA];exact h)];simp [szs]
theorem Ed (k:Nat):List.replicate k (0:Int)=szs k 0:=by
 refine List.ext_getElem (by simp [mA]) fun i h1 h=>?_
 simp [szs,Ef]
theorem Ee {k m:Nat} (hk:0<k):(szs k m).set (m%k) ((szE k m (m%k):Int)+1)=szs k (m+1):=by
 refine List.ext_getElem (by simp [mA]) fun i h1 u=>?_
 have p:i<k:=by simpa [mA] using h1
 rw [List.getElem_set]
 have o:=Eg (m:=m) p
 by_cases h:m%k=i
 ·subst h
  rw [if_pos rfl]
  simp only [szs,List.getElem_map,List.getElem_range]
  rw [o,if_pos rfl]
  push_cast;rfl
 ·rw [if_neg h]
  simp only [szs,List.getElem_map,List.getElem_range]
  rw [o,if_neg (fun e=>h e.symm),Nat.add_zero]
theorem Eh (k m i:Nat):szE k m i<=m+1:=by
 unfold szE
 have:=Nat.div_le_self m k
 split<;>omega
def evK (n k m:Nat):List Rg:=(List.range m).map fun i=>(bdN n k i,bdN n k (i+1))
theorem GC (n k m:Nat):evK n k (m+1)=evK n k m++[(bdN n k m,bdN n k m+szE k n m)]:=by
 rw [<-pr];exact su n k m
theorem tE (n k:Nat) (w:World) (h1:1<=k) (h2:k<=1048576) (h3:n<=1048576):
  Calls prog 180 #[MO n,MO k] w fun e V=>∃v,e=.returned v/\V.ownsRow w.heap.size 187 2 v k (aN (fK n k))/\aq w V:=by
 have av:¬((n:Int)<0):=ap
 have aP:¬((k:Int)<1):=ap
 have aG:¬(k=0):=ap
 obtain ⟨W0,O,o0,Q⟩:=lV iA w rfl k ap (by unfold maxLen;omega)
 rw [eZ,Ed] at o0
 obtain ⟨a1,O0⟩:=ae Q o0;clear Q o0
 go_enter func180,ntmps180
 go_wp2_with fail
 clear O
 go_loopw [6] (fun y wr=>∃m:Nat,m<=n/\y=MO m/\wr.ownsRow w.heap.size 3 1 (.slice (some (ar w.heap.size 0)) k k) k (aA .i64 (szs k m))/\aq w wr) (fun y _=>n-(intOf y).toNat)
 case atStart=>exact ⟨0,LS _,rfl,O0.o,a1.o⟩
 case round=>
  obtain ⟨m,hm,rfl,J,hb⟩:=hrel
  by_cases u:m<n
  ·have I:(m:Int)<n:=ap
   have a9:(m:Int).tmod (k:Int)=((m%k:Nat):Int):=rfl
   have a3:(m:Int)%(k:Int)=((m%k:Nat):Int):=rfl
   have C:m%k<k:=Nat.mod_lt _ h1
   have h:=Ee (m:=m) h1
   have hc:=J.cellAt (m%k) ap
   rw [me _ _ _ (by rw [mA];exact C),AA C] at hc
   have x:=Eh k m (m%k)
   have hf:=fun j=>J.frozenAt j
   obtain ⟨r,hr⟩:∃r,m%k=r:=⟨_,rfl⟩
   rw [hr] at a9 a3 C h hc x
   have ad:(r:Int)<k:=ap
   obtain ⟨s,hs⟩:∃s,szE k m r=s:=⟨_,rfl⟩
   rw [hs] at h hc x
   have a8:IntKind.i64.wrap ((m:Int)+1)=((m+1:Nat):Int):=by rw [LT _ ap];push_cast;rfl
   have D:=(J.stored r (MO ((s:Int)+1))).1
   rw [wU,h] at D
   have U:=Keep.setCell (S:=fun j=>j=w.heap.size) (Keep.refl _ wr) (ar w.heap.size r) (.inr rfl) (MO ((s:Int)+1))
   obtain ⟨a0,N⟩:=ae D (hb.trans (U.toBelow hb.size (fun j hj=>ap)))
   clear J hb hr hs h D U
   go_wp2_with fail
   go_roundw
   case rel=>exact ⟨m+1,by omega,by go_num,a0.o,N.o⟩
   case measure=>simp [intOf];omega
  ·have I:¬((m:Int)<n):=ap
   obtain rfl:n=m:=ap
   obtain ⟨Ho,N⟩:=ae J hb;clear J hb
   go_wp2_with fail
   obtain ⟨R,rfl⟩:∃R:World,R=wr:=⟨_,rfl⟩
   go_loopw [7,8,9] (fun v z y wr=>∃m:Nat,m<=k/\y=MO m/\z=MO (bdN n k m:Nat)/\wr.ownsRow R.heap.size 187 2 v m (aN (evK n k m))/\aq R wr) (fun _ _ y _=>k-(intOf y).toNat)
   case atStart=>exact ⟨0,LS _,rfl,by simp [bdN],LZ _ _ _ _,LR _ _⟩
   case round=>
    obtain ⟨m,hm,rfl,rfl,i,q⟩:=hrel
    by_cases u:m<k
    ·have I:(m:Int)<k:=ap
     have a8:IntKind.i64.wrap ((m:Int)+1)=((m+1:Nat):Int):=by rw [LT _ ap];push_cast;rfl
     have hc:=Ho.o.cellAt m ap
     rw [me _ _ _ (by rw [mA];exact u),AA u] at hc
     have x:=Eh k n m
     have Z:=fN n k m h1 hm
     have ao:=fN n k (m+1) h1 u
     have h:=GC n k m
     have p:=pr n k m
     obtain ⟨s,hs⟩:∃s,szE k n m=s:=⟨_,rfl⟩
     rw [hs] at hc x h p
     have T:=aw q hc
     obtain ⟨b,hb⟩:∃b,bdN n k m=b:=⟨_,rfl⟩
     rw [hb] at Z h p ⊢
     obtain ⟨A,c,rfl,_⟩:=aD i
     obtain ⟨B,Y,ab,a6⟩:=ag i q h p
     have a4:=q.size
     have aM:=az T
     have d2:=fun V (q':aq wr V)=>aw q' T
     have Hc:=aa hc;clear i q h p hb hs hc
     go_wp2_with (at_builtin;refine aY sw _ rfl (.tmp 36) (.tmp 45) rfl R.heap.size (.slice A m c) m _ rfl B.o [MO (b:Nat),MO ((b:Int)+s)] rfl rfl (cG .i64 [_,_]) ap (by unfold maxLen;omega) a4 ?_)
     intro g6 c6 w6 L H a7
     obtain ⟨a5,a2⟩:=ae L (Y.o.trans H)
     have d6:=aw (Y.o.trans H) Hc.o
     clear L H a7
     go_wp2_with fail
     go_roundw
     case rel=>exact ⟨m+1,by omega,by go_num,by rw [a6.o];push_cast;rfl,by rw [ab.o,ie];exact a5.o,a2.o⟩
     case measure=>simp [intOf];omega
    ·have I:¬((m:Int)<k):=ap
     obtain rfl:k=m:=ap
     obtain ⟨B,Y⟩:=ae (aE (base':=w.heap.size) i N.o.size) (N.o.trans (q.mono N.o.size));clear i q
     go_wp2_with fail
     go_ret
     exact ⟨_,rfl,B.o,Y.o⟩
theorem Ew {d:Nat} {l:List Rg} {m:Nat} (h:m<l.length):shR d (l.take (m+1))=shR d (l.take m)++[((aL l m).1+d,(aL l m).2+d)]:=by
 rw [List.take_succ_eq_append_getElem h,cN _ _ h,shR,List.map_append];rfl
theorem tA (A:Option Addr) (l:List Rg) (n c d:Nat) (w:World) (hA:Rd w A (aN l)) (hn:l.length=n) (h1:n<=1048576) (h2:d<=1048576) (h3:∀r∈l,r.1<=1048576/\r.2<=1048576):
  Calls prog 193 #[.slice A n c,MO d] w fun e x=>∃v,e=.returned v/\x.ownsRow w.heap.size 187 2 v n (aN (shR d l))/\aq w x:=by
 obtain ⟨O,H3,Hn⟩:=af hA h3 hn;clear hA h3 hn
 go_enter func193,ntmps193
 go_wp2_with fail
 go_loopw [5,6] (fun v y wr=>∃m:Nat,m<=n/\y=MO m/\wr.ownsRow w.heap.size 187 2 v m (aN (shR d (l.take m)))/\aq w wr) (fun _ y _=>n-(intOf y).toNat)
 case atStart=>exact ⟨0,LS _,rfl,LZ _ _ _ _,LR _ _⟩
 case round=>
  obtain ⟨m,hm,rfl,B,q⟩:=hrel
  by_cases Z:m<n
  ·have a4:(m:Int)<n:=ap
   have a5:IntKind.i64.wrap ((m:Int)+1)=((m+1:Nat):Int):=by rw [LT _ ap];push_cast;rfl
   obtain ⟨Av,cv,rfl,_⟩:=aD B
   obtain ⟨v,hv⟩:∃v,Value.slice Av m cv=v:=⟨_,rfl⟩
   rw [hv] at B ⊢
   have I:m<l.length:=by rw [Hn.o];exact Z
   have D:=dY I
   obtain ⟨bb,bo,rfl,i⟩:=O.o _ _ D.1
   obtain ⟨J,a2,e',h⟩:=O.o _ _ D.2
   obtain ⟨rfl,rfl⟩:J=bb/\a2=bo:=by simpa using e'.symm
   rw [<-MG] at h
   have R:=H3.o (aL l m) (by rw [cN _ _ I];exact List.getElem_mem _)
   have p:=Ew (d:=d) I
   obtain ⟨C,H,Q⟩:∃C H,aL l m=(C,H):=⟨_,_,rfl⟩
   rw [Q] at i h R p
   dsimp only at i h R p
   have L:=az i
   have nb:¬v.ownBlock=some J:=fun e=>by have:=(B.lt _ e).1;simp only at L;omega
   have d0:=fun x (q':Keep (fun j=>v.ownBlock=some j) wr x)=>q'.cell (aw q i) nb
   have d1:=fun x (q':Keep (fun j=>v.ownBlock=some j) wr x)=>q'.cell (aw q h) nb
   have w1:IntKind.i64.wrap ((C:Int)+d)=(C:Int)+d:=LT _ ap
   have w2:IntKind.i64.wrap ((H:Int)+d)=(H:Int)+d:=LT _ ap
   have a3:=q.size
   obtain ⟨Y,Hq,a0⟩:=af B q p
   have U:Keep (fun j=>v.ownBlock=some j) wr wr.drew:=(Keep.refl _ _).drew
   clear B q p Q D e' i h nb L
   go_wp2_with fail
   refine HA.g (fun x:World=>Keep (fun j=>v.ownBlock=some j) wr x) ?_
   refine HA.t ?_ [0,1,2,3,4,5,6,7,8,9,10,11,12,13,14,15] U ?_
   refine HA.v 16 (wr.drew.alloc (.cells #[MO ((C:Int)+d),MO ((H:Int)+d)] 187)) (.slice (some (ar wr.heap.size 0)) 1 1) (U.alloc _) ?_
   refine HA.o 17 (fun K' hK=>?_)
   have hO:=(Y.o.drew).alloc (.cells #[MO ((C:Int)+d),MO ((H:Int)+d)] 187)
   refine bR sw (.tmp 13) (.tmp 29) rfl rfl w.heap.size v m _ rfl hO (some (ar wr.heap.size 0)) 1 1 [MO ((C:Int)+d),MO ((H:Int)+d)] rfl (fun k u hu=>⟨_,_,rfl,by rw [MH,LQ _ wr.heap.size k _ 187 (0,0) (LP wr.drew _)];simpa using hu⟩) rfl (by simp [Value.oneCell']) ap (by unfold maxLen;omega) (by simp;omega) ?_
   intro A5 c5 w5 N a1 T _
   have V:Keep (fun j=>v.ownBlock=some j) wr w5:=(U.alloc _).grown T (fun k hk=>.inr hk)
   refine hK.out _ _ V fun _=>?_
   refine HA.t ?_ [18] V ?_
   refine HA.d ?_
   obtain ⟨O5,Q5⟩:=ae N (Hq.o.trans (V.toBelow a3 (fun j hj=>(Y.o.lt j hj).1)));clear N a1 T d0 d1 w1 w2 U V hK K' hO
   go_wp2_with fail
   go_roundw
   case rel=>exact ⟨m+1,by omega,by go_num,by rw [a0.o,ie];simpa [aN] using O5.o,Q5.o⟩
   case measure=>simp [intOf];omega
  ·have a4:¬((m:Int)<n):=ap
   obtain rfl:n=m:=ap
   rw [List.take_of_length_le (by rw [Hn.o];exact LO _)] at B
   obtain ⟨Y,Hb⟩:=ae B q;clear B q
   go_wp2_with fail
   go_ret
   exact ⟨_,rfl,Y.o,Hb.o⟩
theorem Fa {l:List Rg} {m:Nat} (h:m<l.length):l.reverse.take (m+1)=l.reverse.take m++[aL l (l.length-1-m)]:=by
 rw [List.take_succ_eq_append_getElem (by simpa using h),List.getElem_reverse,<-cN l _ ap]
theorem zc (n s:Nat) (w:World) (hn:n<=1048576) (hs:1<=s) (a2:s<=1048576):
  Calls prog 138 #[MO n,MO s] w fun e w'=>∃v,e=.returned v/\w'.ownsRow w.heap.size 187 2 v (nI n s).length (aN (nI n s))/\aq w w':=by
 have hb:=rC n s w hn hs a2
 have p:nI n s=(fp n s).reverse:=rfl
 have C:(nI n s).length=(fp n s).length:=by rw [p,List.length_reverse]
 rw [C]
 have u:=fE n s
 rw [<-eD] at u
 obtain ⟨l,hl⟩:∃l,fp n s=l:=⟨_,rfl⟩
 rw [hl] at hb p u ⊢
 obtain ⟨N,hN⟩:∃N,l.length=N:=⟨_,rfl⟩
 rw [hN] at hb u ⊢
 rw [p]
 obtain ⟨Hb,HN⟩:=ae hb hN;clear hb p C hl hN
 go_enter func138,ntmps138
 go_wp2_with fail
 refine Hb.o.mono ?_
 rintro e L ⟨v1,rfl,o1,k1⟩
 obtain ⟨A,c,rfl,_⟩:=aD o1
 obtain ⟨O1,V⟩:=ae o1 k1;clear o1 k1
 go_wp2_with fail
 go_loopw [6,7] (fun v y wr=>∃m:Nat,m<=N/\y=MO ((N:Int)-1-m)/\wr.ownsRow L.heap.size 187 2 v m (aN (l.reverse.take m))/\aq L wr) (fun _ y _=>(intOf y+1).toNat)
 case atStart=>exact ⟨0,LS _,by go_num,LZ _ _ _ _,LR _ _⟩
 case round=>
  obtain ⟨m,hm,rfl,x,q⟩:=hrel
  by_cases O:m<N
  ·obtain ⟨j,hj⟩:∃j,N-1-m=j:=⟨_,rfl⟩
   have i:(N:Int)-1-m=(j:Int):=ap
   have a6:(0:Int)<=(j:Int):=ap
   have a3:j<N:=ap
   have a4:(j:Int)<N:=ap
   rw [i]
   have h:=Fa (l:=l) (m:=m) (by rw [HN.o];exact O)
   rw [HN.o,hj] at h
   obtain ⟨g,rfl⟩:∃g,A=some (ar g 0):=by
    obtain ⟨g,e,hv,_⟩:=O1.o.form ap
    simp only [MC] at hv
    exact ⟨g,hv.1⟩
   have J:=iw O1.o a3
   obtain ⟨Q,b2,I⟩:∃Q b2,aL l j=(Q,b2):=⟨_,_,rfl⟩
   rw [I] at J h
   have c0:=aw q J.1
   have c1:=aw q J.2
   dsimp only at c0 c1
   obtain ⟨Av,cv,rfl,_⟩:=aD x
   obtain ⟨Z,U,T,Hj,H⟩:=ah x q h hj i
   have Y:=q.size
   have a5:IntKind.i64.wrap ((j:Int)-1)=(j:Int)-1:=LT _ ap
   clear x q h hj I J i
   go_wp2_with (at_builtin;refine aY sw _ rfl (.tmp 18) (.tmp 23) rfl L.heap.size (.slice Av m cv) m _ rfl Z.o [MO (Q:Nat),MO (b2:Nat)] rfl rfl (cG .i64 [_,_]) ap (by unfold maxLen;omega) Y ?_)
   intro g6 c6 w6 B D a1
   obtain ⟨a0,R⟩:=ae B (U.o.trans D);clear B D a1
   go_wp2_with fail
   go_roundw
   case rel=>exact ⟨m+1,by omega,by have:=H.o;go_num,by rw [T.o,ie];exact a0.o,R.o⟩
   case measure=>have:=H.o;simp [intOf]
  ·have i:¬((0:Int)<=(N:Int)-1-m):=ap
   obtain rfl:N=m:=ap
   rw [List.take_of_length_le (by rw [List.length_reverse,HN.o];exact LO _)] at x
   obtain ⟨Z,U⟩:=ae (aE (base':=w.heap.size) x V.o.size) (V.o.trans (q.mono V.o.size));clear x q
   go_wp2_with fail
   go_ret
   exact ⟨_,rfl,Z.o,U.o⟩
theorem Cw (lo h k:Nat) (w:World) (h1:1<=k) (N:k<=1048576) (h3:lo<=h) (h4:h<=1048576):
  Calls prog 184 #[.agg #[MO lo,MO h],MO k] w fun e x=>∃v,e=.returned v/\x.ownsRow w.heap.size 187 2 v k (aN (dU (lo,h) k))/\aq w x:=by
 obtain ⟨u,i⟩:∃u,w.alloc (.cells #[MO lo,MO h] 187)=u:=⟨_,rfl⟩
 have O:u.heap[w.heap.size]?=some (.cells #[MO lo,MO h] 187 (0,0)):=by rw [<-i];exact LP w _
 have y:aq w u:=by rw [<-i];exact (br w).alloc (LO _) _
 have t0:=fun x q=>bx2 (sb O x q)
 obtain ⟨D,p⟩:=ae i y;clear i O y
 have J:an (dU (lo,h) k=shR lo (fK (h-lo) k)):=aa rfl
 have T:(h:Int)-lo=((h-lo:Nat):Int):=ap
 have V:IntKind.i64.wrap ((h-lo:Nat):Int)=((h-lo:Nat):Int):=LT _ ap
 go_enter func184,ntmps184
 have L:=br u
 go_wp2_with fail
 rw [D.o]
 refine HA.g (fun x:World=>aq u x) ?_
 refine HA.t ?_ [0,1,2,3,4,5,7,8] L.drew ?_
 refine HA.c 6 (tE (h-lo) k _ h1 N ap) ?_
 rintro e Y ⟨v2,rfl,H,Q⟩
 obtain ⟨A,c,rfl,_⟩:=aD H
 have C:=bt L.drew Q
 refine ⟨_,rfl,C,fun _=>?_⟩
 refine HA.c 9 (tA A (fK (h-lo) k) k c lo Y (Rd.own H) (fD _ _) N ap (xH h1 ap)) ?_
 rintro e Z ⟨v4,rfl,I,R⟩
 have B:=bt C R
 refine ⟨_,rfl,B,fun _=>?_⟩
 refine HA.t ?_ [10] B ?_
 refine HA.d ?_
 have hB:=aa (p.o.trans (B.mono p.o.size))
 rw [<-J.out] at I
 have U:=aa (aE (base':=w.heap.size) I (LU p.o.size C.size));clear I H Q R C B t0
 go_wp2_with fail
 go_ret
 exact ⟨_,rfl,U.o,hB.o⟩
theorem CP (lo h k:Nat) (w:World) (h1:1<=k) (U:k<=1048576) (h3:lo<=h) (h4:h<=1048576):
  Calls prog 183 #[.agg #[MO lo,MO h],MO k] w fun e x=>∃v,e=.returned v/\x.ownsRow w.heap.size 187 2 v (chR (lo,h) k).length (aN (chR (lo,h) k))/\aq w x:=by
 obtain ⟨u,i⟩:∃u,w.alloc (.cells #[MO lo,MO h] 187)=u:=⟨_,rfl⟩
 have Q:u.heap[w.heap.size]?=some (.cells #[MO lo,MO h] 187 (0,0)):=by rw [<-i];exact LP w _
 have y:aq w u:=by rw [<-i];exact (br w).alloc (LO _) _
 have t0:=fun x q=>bx2 (sb Q x q)
 obtain ⟨H,p⟩:=ae i y;clear i Q y
 have B:an (chR (lo,h) k=shR lo (fp (h-lo) k)):=aa rfl
 have V:(h:Int)-lo=((h-lo:Nat):Int):=ap
 have Z:IntKind.i64.wrap ((h-lo:Nat):Int)=((h-lo:Nat):Int):=LT _ ap
 have N:=fE (h-lo) k
 rw [<-eD] at N
 go_enter func183,ntmps183
 have O:=br u
 go_wp2_with fail
 rw [H.o]
 refine HA.g (fun x:World=>aq u x) ?_
 refine HA.t ?_ [0,1,2,3,4,5,7,8] O.drew ?_
 refine HA.c 6 (rC (h-lo) k _ ap h1 U) ?_
 rintro e w2 ⟨v2,rfl,I,R⟩
 obtain ⟨A,c,rfl,_⟩:=aD I
 have D:=bt O.drew R
 refine ⟨_,rfl,D,fun _=>?_⟩
 refine HA.c 9 (tA A (fp (h-lo) k) _ c lo w2 (Rd.own I) rfl ap ap (Bz ap)) ?_
 rintro e w4 ⟨v4,rfl,J,T⟩
 have C:=bt D T
 refine ⟨_,rfl,C,fun _=>?_⟩
 refine HA.t ?_ [10] C ?_
 refine HA.d ?_
 have hB:=aa (p.o.trans (C.mono p.o.size))
 have L:(chR (lo,h) k).length=(fp (h-lo) k).length:=by rw [B.out,kT]
 rw [<-B.out,<-L] at J
 have Y:=aa (aE (base':=w.heap.size) J (LU p.o.size D.size));clear J I R T D C t0
 go_wp2_with fail
 go_ret
 exact ⟨_,rfl,Y.o,hB.o⟩
theorem qI:dt prog 258 189 (.agg MU) 9 64:=⟨underlying258,info_parts (by kernel_rfl),rfl,by decide⟩
theorem EO (st bk lo C W c x ph r:Nat) (w:World) (h1:1<=W) (N:W<=1048576) (R:x<W) (Q:ph<2) (hr:r+1<W):
  Calls prog 171 #[.agg #[MO (st:Nat),MO (bk:Nat),MO (lo:Nat),MO (C:Nat),MO (W:Nat),MO (c:Nat)],MO x,MO ph,MO r,.bool true] w fun e u=>e=.returned (.tuple #[MO (er W x ph r:Nat),.bool true])/\aq w u:=by
 obtain ⟨s,hs⟩:∃s,x+(2*W+ph-r)=s:=⟨_,rfl⟩
 have U:(x:Int)-r+ph+2*W=(s:Int):=ap
 have D:er W x ph r=s%W:=by unfold er;rw [<-hs]
 rw [D]
 have A:(s:Int).tmod (W:Int)=((s%W:Nat):Int):=rfl
 have B:(s:Int)%(W:Int)=((s%W:Nat):Int):=rfl
 have J:¬(W=0):=ap
 have O:¬((W:Int)<=x):=ap
 have T:¬(1<(ph:Int)):=ap
 have V:¬((W:Int)-2<(r:Int)):=ap
 obtain ⟨q,I⟩:∃q,s%W=q:=⟨_,rfl⟩
 rw [I] at A B ⊢
 obtain ⟨i,h⟩:∃i,w.alloc (.cells #[MO (st:Nat),MO (bk:Nat),MO (lo:Nat),MO (C:Nat),MO (W:Nat),MO (c:Nat)] 261)=i:=⟨_,rfl⟩
 have H:i.heap[w.heap.size]?=some (.cells #[MO (st:Nat),MO (bk:Nat),MO (lo:Nat),MO (C:Nat),MO (W:Nat),MO (c:Nat)] 261 (0,0)):=by rw [<-h];exact LP w _
 have p:aq w i:=by rw [<-h];exact (br w).alloc (LO _) _
 have t0:=fun u q=>bx6 (sb H u q)
 obtain ⟨y,v⟩:=ae h p
 have L:=br i
 clear h H p hs I D
 go_enter func171,ntmps171
 go_wp2_with fail
 try rw [y.o]
 try go_wp2_with fail
 go_ret2
 exact ⟨rfl,v.o⟩
theorem IS (st bk lo C W c x ph r:Nat) (w:World) (h1:1<=W) (N:W<=1048576) (R:x<W) (Q:ph<2) (hr:r+1<W):
  Calls prog 171 #[.agg #[MO (st:Nat),MO (bk:Nat),MO (lo:Nat),MO (C:Nat),MO (W:Nat),MO (c:Nat)],MO x,MO ph,MO r,.bool false] w fun e u=>e=.returned (.tuple #[MO (fI W x ph r:Nat),.bool true])/\aq w u:=by
 obtain ⟨s,hs⟩:∃s,x+(2*W+ph-r-1)=s:=⟨_,rfl⟩
 have U:(x:Int)-r+ph-1+2*W=(s:Int):=ap
 have D:fI W x ph r=s%W:=by unfold fI;rw [<-hs]
 rw [D]
 have A:(s:Int).tmod (W:Int)=((s%W:Nat):Int):=rfl
 have B:(s:Int)%(W:Int)=((s%W:Nat):Int):=rfl
 have J:¬(W=0):=ap
 have O:¬((W:Int)<=x):=ap
 have T:¬(1<(ph:Int)):=ap
 have V:¬((W:Int)-2<(r:Int)):=ap
 obtain ⟨q,I⟩:∃q,s%W=q:=⟨_,rfl⟩
 rw [I] at A B ⊢
 obtain ⟨i,h⟩:∃i,w.alloc (.cells #[MO (st:Nat),MO (bk:Nat),MO (lo:Nat),MO (C:Nat),MO (W:Nat),MO (c:Nat)] 261)=i:=⟨_,rfl⟩
 have H:i.heap[w.heap.size]?=some (.cells #[MO (st:Nat),MO (bk:Nat),MO (lo:Nat),MO (C:Nat),MO (W:Nat),MO (c:Nat)] 261 (0,0)):=by rw [<-h];exact LP w _
 have p:aq w i:=by rw [<-h];exact (br w).alloc (LO _) _
 have t0:=fun u q=>bx6 (sb H u q)
 obtain ⟨y,v⟩:=ae h p
 have L:=br i
 clear h H p hs I D
 go_enter func171,ntmps171
 go_wp2_with fail
 try rw [y.o]
 try go_wp2_with fail
 go_ret2
 exact ⟨rfl,v.o⟩
theorem AH {b:Rg} {k:Nat} (h1:1<=k) (hb:b.1<=b.2):∀r∈dU b k,r.1<=r.2/\r.2<=b.2:=by
 intro r hr
 simp only [dU,shR,fK,List.map_map,List.mem_map,List.mem_range,Function.comp] at hr
 obtain ⟨i,h,rfl⟩:=hr
 have c:=fN (b.2-b.1) k (i+1) h1 ap
 have d:=pt (b.2-b.1) k (show i<=i+1 by omega)
 exact ⟨by simp only;omega,by simp only;omega⟩
theorem AU (st bk lo h W c s:Nat) (w:World) (h1:1<=W) (h2:W<=1048576) (hs:s<W) (Y:lo<=h) (h4:h<=1048576) (h5:1<=c) (h6:c<=1048576):
  Calls prog 172 #[.agg #[MO (st:Nat),MO (bk:Nat),MO (lo:Nat),MO (h:Nat),MO (W:Nat),MO (c:Nat)],MO s] w fun e y=>∃v,e=.returned v/\y.ownsRow w.heap.size 187 2 v (chR (aL (dU (lo,h) W) s) c).length (aN (chR (aL (dU (lo,h) W) s) c))/\aq w y:=by
 obtain ⟨x,i⟩:∃x,w.alloc (.cells #[MO (st:Nat),MO (bk:Nat),MO (lo:Nat),MO (h:Nat),MO (W:Nat),MO (c:Nat)] 261)=x:=⟨_,rfl⟩
 have V:x.heap[w.heap.size]?=some (.cells #[MO (st:Nat),MO (bk:Nat),MO (lo:Nat),MO (h:Nat),MO (W:Nat),MO (c:Nat)] 261 (0,0)):=by rw [<-i];exact LP w _
 have C:aq w x:=by rw [<-i];exact (br w).alloc (LO _) _
 have t0:=fun y q=>bx6 (sb V y q)
 have J:=AH (b:=(lo,h)) h1 Y
 have N:=nZ (lo,h) W
 have a0:(s:Int)<W:=ap
 obtain ⟨L,u⟩:=ae i C
 have U:=br x
 clear i V C
 go_enter func172,ntmps172
 go_wp2_with fail
 rw [L.o]
 refine HA.g (fun y:World=>aq x y) ?_
 refine HA.t ?_ [0,1,2,3,5,8,9] U.drew ?_
 refine HA.c 4 (Cw lo h W _ h1 h2 Y h4) ?_
 rintro e T ⟨v2,rfl,O,Z⟩
 have A:=bt U.drew Z
 obtain ⟨g,c2,rfl,_⟩:=O.form ap
 have Q:=iw O hs
 have p:=J (aL (dU (lo,h) W) s) (by rw [cN _ _ (by rw [N];exact hs)];exact List.getElem_mem _)
 try dsimp only at p
 obtain ⟨D,I,B⟩:∃D I,aL (dU (lo,h) W) s=(D,I):=⟨_,_,rfl⟩
 rw [B] at Q p
 try dsimp only at Q p
 obtain ⟨d0,d1⟩:=Q
 refine ⟨_,rfl,A,fun _=>?_⟩
 refine HA.v 6 T (.pointer (some (ar g (s*2)))) A ?_
 refine HA.v 7 T (.agg #[MO (D:Nat),MO (I:Nat)]) A ?_
 refine HA.c 10 (CP D I c T h5 h6 p.1 ap) ?_
 rintro e w4 ⟨v4,rfl,R,k4⟩
 have H:=bt A k4
 refine ⟨_,rfl,H,fun _=>?_⟩
 refine HA.t ?_ [11] H ?_
 refine HA.d ?_
 have hB:=aa (u.o.trans (H.mono u.o.size))
 rw [<-B] at R
 have O4:=aa (aE (base':=w.heap.size) R (LU u.o.size A.size));clear R O Z k4 A H t0
 go_wp2_with fail
 go_ret
 exact ⟨_,rfl,O4.o,hB.o⟩
theorem yJ (st bk lo H W c x ph r:Nat) (w:World) (h1:1<=W) (h2:W<=1048576) (hx:x<W) (hp:ph<2) (hr:r+1<W) (h3:lo<=H) (h4:H<=1048576) (h5:1<=c) (h6:c<=1048576):
  Calls prog 149 #[.agg #[MO (st:Nat),MO (bk:Nat),MO (lo:Nat),MO (H:Nat),MO (W:Nat),MO (c:Nat)],MO x,MO ph,MO r] w fun e p=>∃v,e=.returned v/\p.ownsRow w.heap.size 189 9 v (df st bk (lo,H) W c x ph r).length (ep (df st bk (lo,H) W c x ph r))/\aq w p:=by
 obtain ⟨W0,aM⟩:∃W0,w.alloc (.cells #[MO (st:Nat),MO (bk:Nat),MO (lo:Nat),MO (H:Nat),MO (W:Nat),MO (c:Nat)] 261)=W0:=⟨_,rfl⟩
 have h0:W0.heap[w.heap.size]?=some (.cells #[MO (st:Nat),MO (bk:Nat),MO (lo:Nat),MO (H:Nat),MO (W:Nat),MO (c:Nat)] 261 (0,0)):=by rw [<-aM];exact LP w _
 have bO:aq w W0:=by rw [<-aM];exact (br w).alloc (LO _) _
 have t0:=fun p q=>bx6 (sb h0 p q)
 obtain ⟨cb,bh,H0⟩:=af aM bO h0
 have q0:=br W0
 clear aM h0 bO
 go_enter func149,ntmps149
 go_wp2_with fail
 rw [cb.o]
 refine (EO st bk lo H W c x ph r W0 h1 h2 hx hp hr).mono ?_
 rintro e w1 ⟨rfl,k1⟩
 have q1:=bt q0 k1
 go_wp2_with fail
 refine (IS st bk lo H W c x ph r w1 h1 h2 hx hp hr).mono ?_
 rintro e w2 ⟨rfl,k2⟩
 have q2:=bt q1 k2
 have bV:er W x ph r<W:=Nat.mod_lt _ h1
 have bG:fI W x ph r<W:=Nat.mod_lt _ h1
 go_wp2_with fail
 refine (AU st bk lo H W c _ w2 h1 h2 bV h3 h4 h5 h6).mono ?_
 rintro e w3 ⟨v3,rfl,o3,k3⟩
 have q3:=bt q2 k3
 obtain ⟨A3,c3,rfl,_⟩:=aD o3
 go_wp2_with fail
 refine (AU st bk lo H W c _ w3 h1 h2 bG h3 h4 h5 h6).mono ?_
 rintro e w4 ⟨v4,rfl,o4,k4⟩
 have q4:=bt q3 k4
 obtain ⟨A4,c4,rfl,_⟩:=aD o4
 have bo:=ay o3 k4
 have c9:(chR (aL (dU (lo,H) W) (er W x ph r)) c).length<=1048576:=sH h1 h3 h4
 have c7:(chR (aL (dU (lo,H) W) (fI W x ph r)) c).length<=1048576:=sH h1 h3 h4
 have HR:an (df st bk (lo,H) W c x ph r=ju (chR (aL (dU (lo,H) W) (er W x ph r)) c) (chR (aL (dU (lo,H) W) (fI W x ph r)) c) (fun i s=>(⟨true,false,st,bk,ph,r,i,s⟩:Acn)) (fun i s=>(⟨false,ph==0,st,bk,ph,r,i,s⟩:Acn))):=aa rfl
 obtain ⟨X,hX⟩:∃X,chR (aL (dU (lo,H) W) (er W x ph r)) c=X:=⟨_,rfl⟩
 obtain ⟨Y,hY⟩:∃Y,chR (aL (dU (lo,H) W) (fI W x ph r)) c=Y:=⟨_,rfl⟩
 rw [hX] at bo c9 HR ⊢
 rw [hY] at o4 c7 HR ⊢
 obtain ⟨so,b5⟩:∃so,er W x ph r=so:=⟨_,rfl⟩
 obtain ⟨si,b6⟩:∃si,fI W x ph r=si:=⟨_,rfl⟩
 rw [b5] at bV ⊢
 rw [b6] at bG ⊢
 obtain ⟨M,hM⟩:∃M:Nat,max X.length Y.length=M:=⟨_,rfl⟩
 obtain ⟨O3,O4,Q4,HM⟩:=ag bo o4 q4 hM;clear o3 bo o4 q0 q1 q2 q3 q4 k1 k2 k3 k4 hX hY b5 b6 hM t0
 go_wp2_with fail
 go_loopw [15,16] (fun v y wr=>∃m:Nat,m<=M/\y=MO m/\wr.ownsRow w4.heap.size 189 9 v (jv X Y (fun i s=>(⟨true,false,st,bk,ph,r,i,s⟩:Acn)) (fun i s=>(⟨false,ph==0,st,bk,ph,r,i,s⟩:Acn)) m).length (ep (jv X Y (fun i s=>(⟨true,false,st,bk,ph,r,i,s⟩:Acn)) (fun i s=>(⟨false,ph==0,st,bk,ph,r,i,s⟩:Acn)) m))/\aq w4 wr) (fun _ y _=>M-(intOf y).toNat)
 case atStart=>exact ⟨0,LS _,rfl,LZ _ _ _ _,LR _ _⟩
 case round=>
  obtain ⟨m,hm,rfl,ho,q⟩:=hrel
  have cd:=wK X Y (fun i s=>(⟨true,false,st,bk,ph,r,i,s⟩:Acn)) (fun i s=>(⟨false,ph==0,st,bk,ph,r,i,s⟩:Acn)) m
  have ci:M<=1048576:=by have:=HM.o;omega
  obtain ⟨Av,cv,rfl,_⟩:=aD ho
  obtain ⟨v,hv⟩:∃v,Value.slice Av (jv X Y (fun i s=>(⟨true,false,st,bk,ph,r,i,s⟩:Acn)) (fun i s=>(⟨false,ph==0,st,bk,ph,r,i,s⟩:Acn)) m).length cv=v:=⟨_,rfl⟩
  rw [hv] at ho ⊢
  clear hv
  have aR:((ph:Int)==0)=(ph==0):=by rw [Bool.eq_iff_iff];simp
  have cf:IntKind.i64.wrap ((m:Int)+1)=((m+1:Nat):Int):=by rw [LT _ ap];push_cast;rfl
  have uJ:=fun p (q':aq wr p)=>bx6 (sb H0.o p (bt Q4.o (q.trans (q'.mono q.size))))
  obtain ⟨A,b0⟩:∃A,wr.alloc (.cells #[MO (st:Nat),MO (bk:Nat),MO (ph:Nat),MO (r:Nat),MO (m:Nat)] 77)=A:=⟨_,rfl⟩
  have gT:A.heap[wr.heap.size]?=some (.cells #[MO (st:Nat),MO (bk:Nat),MO (ph:Nat),MO (r:Nat),MO (m:Nat)] 77 (0,0)):=by rw [<-b0];exact LP wr _
  have kt:aq wr A:=by rw [<-b0];exact (br wr).alloc (LO _) _
  have qr:=br wr
  obtain ⟨Ho,HT,HQ,B,C,bb⟩:=ai ho gT q (q.trans (kt.mono q.size)) (ay ho kt) b0;clear ho q gT kt b0
  by_cases h1:m<X.length
  ·have cc:(m:Int)<X.length:=ap
   obtain ⟨gx,rfl⟩:∃gx,A3=some (ar gx 0):=by
    obtain ⟨g,e,hv,_⟩:=O3.o.form ap
    simp only [MC] at hv
    exact ⟨g,hv.1⟩
   have px:=iw O3.o h1
   have be:aL X m=((aL X m).1,(aL X m).2):=rfl
   obtain ⟨b1,bX⟩:∃b,(aL X m).1=b:=⟨_,rfl⟩
   obtain ⟨b2,bM⟩:∃b,(aL X m).2=b:=⟨_,rfl⟩
   rw [bX,bM] at px be
   obtain ⟨aG,aP,bN⟩:=af px.1 px.2 be;clear px bX bM be
   by_cases h2:m<Y.length
   ·have bv:(m:Int)<Y.length:=ap
    obtain ⟨gy,rfl⟩:∃gy,A4=some (ar gy 0):=by
     obtain ⟨g,e,hv,_⟩:=O4.o.form ap
     simp only [MC] at hv
     exact ⟨g,hv.1⟩
    have py:=iw O4.o h2
    have Q:aL Y m=((aL Y m).1,(aL Y m).2):=rfl
    obtain ⟨b3,a3⟩:∃b,(aL Y m).1=b:=⟨_,rfl⟩
    obtain ⟨b4,ao⟩:∃b,(aL Y m).2=b:=⟨_,rfl⟩
    rw [a3,ao] at py Q
    obtain ⟨a2,a8,b9⟩:=af py.1 py.2 Q;clear py a3 ao Q
    go_wp2_with fail
    rw [bb.o]
    clear uJ qr
    have R:=fun p (q:Keep (fun j=>v.ownBlock=some j) A p)=>(q.block _ (LN HT.o) (fun e=>ax HT.o (by decide) C.o e.symm)).trans HT.o
    have bf:=fun p q=>bx5 (R p q)
    have U:∀g,g<w4.heap.size->¬v.ownBlock=some g:=fun g hg e=>by
     have h:=(C.o.lt g e).1
     omega
    have bd:=fun p (q:Keep (fun j=>v.ownBlock=some j) A p)=>q.cell (aw B.o aG.o) (U _ (az aG.o))
    have bz:=fun p (q:Keep (fun j=>v.ownBlock=some j) A p)=>q.cell (aw B.o aP.o) (U _ (az aP.o))
    have I:Keep (fun j=>v.ownBlock=some j) A A.drew:=(Keep.refl _ _).drew
    have L:=aa R;clear R U
    refine HA.g (fun p:World=>Keep (fun j=>v.ownBlock=some j) A p) ?_
    refine HA.t ?_ [0,1,2,3,4,5,6] I ?_
    obtain ⟨a5,O⟩:∃a:Acn,a=⟨true,false,st,bk,ph,r,m,(b1,b2)⟩:=⟨_,rfl⟩
    refine HA.v 7 (A.drew.alloc (.cells (aX a5).toArray 189)) (.slice (some (ar A.heap.size 0)) 1 1) (I.alloc _) ?_ (he:=by subst O;go_simp;simp [aX,aR];try rfl)
    refine HA.o 8 (fun K' hK=>?_)
    have a0:=(C.o.drew).alloc (.cells (aX a5).toArray 189)
    have a7:=B.o.size
    refine bR qI (.tmp 66) (.tmp 73) rfl rfl w4.heap.size v _ _ rfl a0 (some (ar A.heap.size 0)) 1 1 (aX a5) rfl (fun k u hu=>⟨_,_,rfl,by rw [MH,LQ _ A.heap.size k (aX a5).toArray 189 (0,0) (LP A.drew _)];simpa using hu⟩) rfl (by simp [aX,Value.oneCell']) ap (by unfold maxLen;omega) (by simp;omega) ?_
    intro A5 c5 N a1 bs av _
    have q5:Keep (fun j=>v.ownBlock=some j) A N:=(I.alloc _).grown av (fun k hk=>.inr hk)
    refine hK.out _ _ q5 fun _=>?_
    refine HA.t ?_ [9] q5 ?_
    refine HA.d ?_
    try simp only [Exit.then]
    obtain ⟨O5,T5,Q5,b7⟩:=ag a1 (L.o N q5) (B.o.trans (q5.toBelow B.o.size (fun j hj=>(C.o.lt j hj).1))) O;clear a1 bs av bf bd bz I q5 hK K' a0 O L a7
    go_wp2_with fail
    obtain ⟨v5,bI⟩:∃v,Value.slice A5 ((jv X Y (fun i s=>(⟨true,false,st,bk,ph,r,i,s⟩:Acn)) (fun i s=>(⟨false,ph==0,st,bk,ph,r,i,s⟩:Acn)) m).length+1) c5=v:=⟨_,rfl⟩
    rw [bI] at O5 ⊢
    clear bI
    have T:=fun p (q:Keep (fun j=>v5.ownBlock=some j) N p)=>(q.block _ (LN T5.o) (fun e=>ax T5.o (by decide) O5.o e.symm)).trans T5.o
    have bi:=fun p q=>bx5 (T p q)
    have V:∀g,g<w4.heap.size->¬v5.ownBlock=some g:=fun g hg e=>by
     have h:=(O5.o.lt g e).1
     omega
    have bn:=fun p (q:Keep (fun j=>v5.ownBlock=some j) N p)=>q.cell (aw Q5.o a2.o) (V _ (az a2.o))
    have b8:=fun p (q:Keep (fun j=>v5.ownBlock=some j) N p)=>q.cell (aw Q5.o a8.o) (V _ (az a8.o))
    have D:Keep (fun j=>v5.ownBlock=some j) N N.drew:=(Keep.refl _ _).drew
    have J:=aa T;clear T V
    refine HA.g (fun p:World=>Keep (fun j=>v5.ownBlock=some j) N p) ?_
    refine HA.t ?_ [0,1,2,3,4,5,6,7,8] D ?_
    obtain ⟨a6,Z⟩:∃a:Acn,a=⟨false,ph==0,st,bk,ph,r,m,(b3,b4)⟩:=⟨_,rfl⟩
    refine HA.v 9 (N.drew.alloc (.cells (aX a6).toArray 189)) (.slice (some (ar N.heap.size 0)) 1 1) (D.alloc _) ?_ (he:=by subst Z;go_simp;simp [aX,aR];try rfl)
    refine HA.o 10 (fun K' hK=>?_)
    have ad:=(O5.o.drew).alloc (.cells (aX a6).toArray 189)
    have ab:=Q5.o.size
    refine bR qI (.tmp 79) (.tmp 88) rfl rfl w4.heap.size v5 _ _ rfl ad (some (ar N.heap.size 0)) 1 1 (aX a6) rfl (fun k u hu=>⟨_,_,rfl,by rw [MH,LQ _ N.heap.size k (aX a6).toArray 189 (0,0) (LP N.drew _)];simpa using hu⟩) rfl (by simp [aX,Value.oneCell']) ap (by unfold maxLen;omega) (by simp;omega) ?_
    intro A6 c6 w6 a4 bl a9 _
    have q6:Keep (fun j=>v5.ownBlock=some j) N w6:=(D.alloc _).grown a9 (fun k hk=>.inr hk)
    refine hK.out _ _ q6 fun _=>?_
    refine HA.t ?_ [11] q6 ?_
    refine HA.d ?_
    try simp only [Exit.then]
    obtain ⟨O6,T6,Q6,bw⟩:=ag a4 (J.o w6 q6) (Q5.o.trans (q6.toBelow Q5.o.size (fun j hj=>(O5.o.lt j hj).1))) Z;clear a4 bl a9 bi bn b8 D q6 hK K' ad Z J ab
    go_wp2_with fail
    go_roundw
    case rel=>exact ⟨m+1,by have:=HM.o;omega,by go_num,by rw [<-mL];simp only [iM,h1,h2,if_true,if_false,Bool.not_true,Bool.not_false,Bool.false_and,Bool.true_and];have:=O6.o;rw [b7.o,bw.o] at this;simpa [ep,bN.o,b9.o,Mo] using this,Q6.o⟩
    case measure=>have:=HM.o;simp [intOf];omega
   ·have bv:¬((m:Int)<Y.length):=ap
    go_wp2_with fail
    rw [bb.o]
    clear uJ qr
    have R:=fun p (q:Keep (fun j=>v.ownBlock=some j) A p)=>(q.block _ (LN HT.o) (fun e=>ax HT.o (by decide) C.o e.symm)).trans HT.o
    have bf:=fun p q=>bx5 (R p q)
    have U:∀g,g<w4.heap.size->¬v.ownBlock=some g:=fun g hg e=>by
     have h:=(C.o.lt g e).1
     omega
    have bd:=fun p (q:Keep (fun j=>v.ownBlock=some j) A p)=>q.cell (aw B.o aG.o) (U _ (az aG.o))
    have bz:=fun p (q:Keep (fun j=>v.ownBlock=some j) A p)=>q.cell (aw B.o aP.o) (U _ (az aP.o))
    have I:Keep (fun j=>v.ownBlock=some j) A A.drew:=(Keep.refl _ _).drew
    have L:=aa R;clear R U
    refine HA.g (fun p:World=>Keep (fun j=>v.ownBlock=some j) A p) ?_
    refine HA.t ?_ [0,1,2,3,4,5,6] I ?_
    obtain ⟨a5,O⟩:∃a:Acn,a=⟨true,false,st,bk,ph,r,m,(b1,b2)⟩:=⟨_,rfl⟩
    refine HA.v 7 (A.drew.alloc (.cells (aX a5).toArray 189)) (.slice (some (ar A.heap.size 0)) 1 1) (I.alloc _) ?_ (he:=by subst O;go_simp;simp [aX,aR];try rfl)
    refine HA.o 8 (fun K' hK=>?_)
    have a0:=(C.o.drew).alloc (.cells (aX a5).toArray 189)
    have a7:=B.o.size
    refine bR qI (.tmp 66) (.tmp 73) rfl rfl w4.heap.size v _ _ rfl a0 (some (ar A.heap.size 0)) 1 1 (aX a5) rfl (fun k u hu=>⟨_,_,rfl,by rw [MH,LQ _ A.heap.size k (aX a5).toArray 189 (0,0) (LP A.drew _)];simpa using hu⟩) rfl (by simp [aX,Value.oneCell']) ap (by unfold maxLen;omega) (by simp;omega) ?_
    intro A5 c5 N a1 bs av _
    have q5:Keep (fun j=>v.ownBlock=some j) A N:=(I.alloc _).grown av (fun k hk=>.inr hk)
    refine hK.out _ _ q5 fun _=>?_
    refine HA.t ?_ [9] q5 ?_
    refine HA.d ?_
    try simp only [Exit.then]
    obtain ⟨O5,T5,Q5,b7⟩:=ag a1 (L.o N q5) (B.o.trans (q5.toBelow B.o.size (fun j hj=>(C.o.lt j hj).1))) O;clear a1 bs av bf bd bz I q5 hK K' a0 O L a7
    go_wp2_with fail
    go_roundw
    case rel=>exact ⟨m+1,by have:=HM.o;omega,by go_num,by rw [<-mL];simp only [iM,h1,h2,if_true,if_false,Bool.not_true,Bool.not_false,Bool.false_and,Bool.true_and];have:=O5.o;rw [b7.o] at this;simpa [ep,bN.o,Mo] using this,Q5.o⟩
    case measure=>have:=HM.o;simp [intOf];omega
  ·have cc:¬((m:Int)<X.length):=ap
   by_cases h2:m<Y.length
   ·have bv:(m:Int)<Y.length:=ap
    obtain ⟨gy,rfl⟩:∃gy,A4=some (ar gy 0):=by
     obtain ⟨g,e,hv,_⟩:=O4.o.form ap
     simp only [MC] at hv
     exact ⟨g,hv.1⟩
    have py:=iw O4.o h2
    have Q:aL Y m=((aL Y m).1,(aL Y m).2):=rfl
    obtain ⟨b3,a3⟩:∃b,(aL Y m).1=b:=⟨_,rfl⟩
    obtain ⟨b4,ao⟩:∃b,(aL Y m).2=b:=⟨_,rfl⟩
    rw [a3,ao] at py Q
    obtain ⟨a2,a8,b9⟩:=af py.1 py.2 Q;clear py a3 ao Q
    go_wp2_with fail
    rw [bb.o]
    clear uJ qr
    have T:=fun p (q:Keep (fun j=>v.ownBlock=some j) A p)=>(q.block _ (LN HT.o) (fun e=>ax HT.o (by decide) C.o e.symm)).trans HT.o
    have bi:=fun p q=>bx5 (T p q)
    have V:∀g,g<w4.heap.size->¬v.ownBlock=some g:=fun g hg e=>by
     have h:=(C.o.lt g e).1
     omega
    have bn:=fun p (q:Keep (fun j=>v.ownBlock=some j) A p)=>q.cell (aw B.o a2.o) (V _ (az a2.o))
    have b8:=fun p (q:Keep (fun j=>v.ownBlock=some j) A p)=>q.cell (aw B.o a8.o) (V _ (az a8.o))
    have D:Keep (fun j=>v.ownBlock=some j) A A.drew:=(Keep.refl _ _).drew
    have J:=aa T;clear T V
    refine HA.g (fun p:World=>Keep (fun j=>v.ownBlock=some j) A p) ?_
    refine HA.t ?_ [0,1,2,3,4,5,6,7,8] D ?_
    obtain ⟨a6,Z⟩:∃a:Acn,a=⟨false,ph==0,st,bk,ph,r,m,(b3,b4)⟩:=⟨_,rfl⟩
    refine HA.v 9 (A.drew.alloc (.cells (aX a6).toArray 189)) (.slice (some (ar A.heap.size 0)) 1 1) (D.alloc _) ?_ (he:=by subst Z;go_simp;simp [aX,aR];try rfl)
    refine HA.o 10 (fun K' hK=>?_)
    have ad:=(C.o.drew).alloc (.cells (aX a6).toArray 189)
    have ab:=B.o.size
    refine bR qI (.tmp 79) (.tmp 88) rfl rfl w4.heap.size v _ _ rfl ad (some (ar A.heap.size 0)) 1 1 (aX a6) rfl (fun k u hu=>⟨_,_,rfl,by rw [MH,LQ _ A.heap.size k (aX a6).toArray 189 (0,0) (LP A.drew _)];simpa using hu⟩) rfl (by simp [aX,Value.oneCell']) ap (by unfold maxLen;omega) (by simp;omega) ?_
    intro A6 c6 w6 a4 bl a9 _
    have q6:Keep (fun j=>v.ownBlock=some j) A w6:=(D.alloc _).grown a9 (fun k hk=>.inr hk)
    refine hK.out _ _ q6 fun _=>?_
    refine HA.t ?_ [11] q6 ?_
    refine HA.d ?_
    try simp only [Exit.then]
    obtain ⟨O6,T6,Q6,bw⟩:=ag a4 (J.o w6 q6) (B.o.trans (q6.toBelow B.o.size (fun j hj=>(C.o.lt j hj).1))) Z;clear a4 bl a9 bi bn b8 D q6 hK K' ad Z J ab
    go_wp2_with fail
    go_roundw
    case rel=>exact ⟨m+1,by have:=HM.o;omega,by go_num,by rw [<-mL];simp only [iM,h1,h2,if_true,if_false,Bool.not_true,Bool.not_false,Bool.false_and,Bool.true_and];have:=O6.o;rw [bw.o] at this;simpa [ep,b9.o,Mo] using this,Q6.o⟩
    case measure=>have:=HM.o;simp [intOf];omega
   ·have bv:¬((m:Int)<Y.length):=ap
    have c8:m=M:=by have:=HM.o;omega
    have hb:=aE (base':=w.heap.size) Ho.o (LU bh.o.size Q4.o.size)
    have bA:df st bk (lo,H) W c x ph r=jv X Y (fun i s=>(⟨true,false,st,bk,ph,r,i,s⟩:Acn)) (fun i s=>(⟨false,ph==0,st,bk,ph,r,i,s⟩:Acn)) m:=by
     rw [HR.out,c8,<-HM.o];rfl
    rw [<-bA] at hb
    obtain ⟨Hb,Hq⟩:=ae hb (bh.o.trans ((bt Q4.o (HQ.o)).mono bh.o.size));clear hb bA uJ
    go_wp2_with fail
    go_ret
    exact ⟨_,rfl,Hb.o,Hq.o⟩
theorem yq (S n b steps t:Nat) (l:List Int) (w:World) (h:fO w S n b steps l) (hb:1<=b) (hn:n<=1048576) (y:1<=n/b) (V:steps<=1048576) (ht:t<steps):
  Calls prog 247 #[(au S),MO t] w fun e w'=>∃A c,e=.returned (.slice A b c)/\b<=c/\Rd w' A (aA .i64 (dx l n b t))/\aq w w':=by
 have u:=yB S n b steps t l w h hn y V ht
 obtain ⟨Ab,cb,Ao,co,vs,h1,Q,h3,h4,h5⟩:=h
 have a0:=Nat.div_le_self n b
 have he:=xK (n:=n) (b:=b) ht
 have hm:=Nat.mod_lt t y
 have I:=nU n b _ hm
 have N:=BR n b _ hb hm
 have i:=Ad (n-n%b) b hm
 rw [N] at i
 obtain ⟨A1,c1,k1,k2,R⟩:=h5 _ he
 have D:dx l n b t=((fJ l n ((t/(n/b))*(n-1))).drop (t%(n/b)*b)).take b:=rfl
 rw [D]
 have a1:epN n b steps<=steps:=fE _ _
 obtain ⟨pl,B⟩:∃pl,fJ l n ((t/(n/b))*(n-1))=pl:=⟨_,rfl⟩
 have a2:pl.length=n:=by rw [<-B];exact jd _ _ _
 rw [B] at R ⊢
 obtain ⟨E,hE⟩:∃E,epN n b steps=E:=⟨_,rfl⟩
 rw [hE] at he h1 h4 a1
 obtain ⟨U,C⟩:∃U,t/(n/b)=U:=⟨_,rfl⟩
 obtain ⟨T,O⟩:∃T,t%(n/b)=T:=⟨_,rfl⟩
 rw [C] at u he k1
 rw [O] at u hm I i ⊢
 obtain ⟨nb,x⟩:∃nb,n/b=nb:=⟨_,rfl⟩
 rw [x] at h1 Q y hm a0 i
 obtain ⟨lo,J⟩:∃lo,T*b=lo:=⟨_,rfl⟩
 rw [J] at I i ⊢
 obtain ⟨bb,ob,rfl,q0⟩:=Q _ _ i.1
 obtain ⟨_,_,e2,q1⟩:=Q _ _ i.2
 injection e2 with e2;injection e2 with i1 i2 _;subst i1;subst i2
 obtain ⟨bo,oo,rfl,q2⟩:=h3 _ _ k1
 obtain ⟨bg,og,rfl,q3⟩:=R.num (show 0<pl.length by omega)
 rw [<-MG] at q1
 have a8:(T:Int)<nb:=ap
 have aP:(U:Int)<E:=ap
 have a5:(lo:Int)<=((lo+b:Nat):Int):=ap
 have ad:((lo+b:Nat):Int)<=c1:=ap
 have a9:lo<=lo+b:=ap
 have ao:lo+b<=c1:=ap
 have aM:¬(c1=lo):=ap
 have b1:bo<w.heap.size:=az q2
 have b2:bb<w.heap.size:=az q0
 obtain ⟨⟨r0,r1,r2,r3⟩,rf⟩:=bx4 h1
 have b3:S<w.heap.size:=LN h1
 obtain ⟨H1,Y,K3⟩:=af h1 u R;clear u R h1 Q h3 h4 h5 hE C O x J B a2 i k1 q3 N D
 go_enter func247,ntmps247
 go_wp2_with fail
 refine Y.o.mono ?_
 rintro e w' ⟨rfl,d,rfl⟩
 have p:aq w (w.drewN d):=LY (LR _ _) d
 have v:(w.drewN d).heap.size=w.heap.size:=by simp
 generalize w.drewN d=w1 at p v ⊢
 have ab:=aw p q0
 have a7:=aw p q1
 have b0:=aw p q2
 have H:=(p.block _ b3).trans H1.o
 obtain ⟨⟨y0,y1,y2,y3⟩,yf⟩:=bx4 H
 rw [<-v] at b1 b2 b3
 obtain ⟨L,Z⟩:=ae p v;clear q0 q1 q2 r0 r1 r2 r3 rf p v H
 go_wp2_with fail
 have av:(lo:Int)+b<=c1:=ap
 have aG:((lo:Int)+b).toNat=lo+b:=ap
 have a4:(0:Int)<=(lo:Int)+b:=ap
 have aR:(lo:Int)<=(lo:Int)+b:=ap
 have a3:lo+b-lo=b:=ap
 have a6:¬(lo+b=lo):=ap
 go_quiet (fail)
 go_wp2_with fail
 go_ret
 refine ⟨_,_,rfl,LO _,?_,LY (L.o.alloc (by have:=Z.o;omega) _) _⟩
 have:=((((K3.o.below L.o).alloc (.cells #[MO (lo:Int),MO ((lo:Int)+b)] 148)).drewN nq).drop lo).take b
 rwa [dm,de] at this
def cU (l:List Int) (k i:Nat):List Int:=(l.drop (bdN l.length k i)).take (bdN l.length k (i+1)-bdN l.length k i)
theorem jt (l:List Int) {k i:Nat} (hk:1<=k) (h:i<k):(cU l k i).length=bdN l.length k (i+1)-bdN l.length k i:=by
 have h1:=fN l.length k (i+1) hk h
 simp only [cU,Mt,Mw]
 omega
def ij (l:List Int) (W x mi a:Nat):List Int:=cU (cU l W x) mi a
def yh (L:List Int) (m:Nat) (w:World) (e:Ending) (h:World):Prop:=∃i o,e=.returned (.slice i m o)/\m<=o/\Rd h i (aA .i64 L)/\aq w h
theorem tQ (A:Option Addr) (l:List Int) (c k i:Nat) (w:World) (hA:Rd w A (aA .i64 l)) (hc:l.length<=c) (hl:l.length<=1048576) (hn:0<l.length) (hk:1<=k) (I:k<=1048576) (H:i<k):
  Calls prog 248 #[.slice A l.length c,MO i,MO k] w (yh (cU l k i) (cU l k i).length w):=by
 have p:=xG l.length k w hk I hl
 obtain ⟨b,o,rfl,_⟩:=hA.num hn
 have u:=jt l hk H
 have D:cU l k i=(l.drop (bdN l.length k i)).take (bdN l.length k (i+1)-bdN l.length k i):=rfl
 have h1:=pt l.length k (Nat.le_succ i)
 have N:=fN l.length k (i+1) hk H
 have hg:=dY (l:=fK l.length k) (j:=i) (by rw [fD];exact H)
 have hr:aL (fK l.length k) i=(bdN l.length k i,bdN l.length k (i+1)):=by
  rw [cN _ _ (by rw [fD];exact H)];simp [fK]
 rw [hr] at hg
 rw [u]
 obtain ⟨P,hP⟩:∃P,cU l k i=P:=⟨_,rfl⟩
 obtain ⟨lo,C⟩:∃lo,bdN l.length k i=lo:=⟨_,rfl⟩
 obtain ⟨h,x⟩:∃h,bdN l.length k (i+1)=h:=⟨_,rfl⟩
 simp only [Nat.succ_eq_add_one] at h1
 rw [hP] at D ⊢
 rw [C,x] at D h1 hg ⊢
 rw [x] at N
 obtain ⟨V,Q⟩:∃V,aN (fK l.length k)=V:=⟨_,rfl⟩
 rw [Q] at p hg
 obtain ⟨n,B⟩:∃n,l.length=n:=⟨_,rfl⟩
 rw [B] at p hc hl hn N ⊢
 have Z:(i:Int)<k:=ap
 have a0:¬(i:Int)<0:=ap
 obtain ⟨J,HA,O,R⟩:=ag p hA hg D;clear p hA hg D hr u hP C x B Q
 go_enter func248,ntmps248
 go_wp2_with fail
 refine J.o.mono ?_
 rintro e w1 ⟨v,rfl,ov,L⟩
 obtain ⟨g,cv,rfl,_⟩:=ov.form ap
 have c0:=ov.cellAt (i*2) ap
 have c1:=ov.cellAt (i*2+1) ap
 rw [O.o.1] at c0
 rw [O.o.2] at c1
 have lg:=(ov.lt g rfl).2
 have y:=aa L;clear ov L
 by_cases U:h=lo
 ·subst U
  go_wp2_with fail
  go_ret
  refine ⟨_,0,by rw [Nat.sub_self];rfl,by omega,?_,y.o.alloc y.o.size _⟩
  rw [R.o,Nat.sub_self,List.take_zero]
  exact Rd.nil _ _
 ·have T:¬(h:Int)=lo:=ap
  have Y:¬h-lo=0:=ap
  go_wp2_with fail
  go_ret
  refine ⟨_,_,rfl,LO _,?_,y.o.alloc y.o.size _⟩
  have:=(((HA.o.below y.o).alloc (.cells #[MO (lo:Int),MO (h:Int)] 148)).drop lo).take (h-lo)
  rwa [dm,de,<-R.o] at this
theorem Dq (S n b steps t W x mi a:Nat) (l:List Int) (w:World) (h:fO w S n b steps l) (hb:1<=b) (a5:b<=n) (hn:n<=1048576) (a1:steps<=1048576) (ht:t<steps) (hW:1<=W) (a7:W<=b) (hx:x<W) (hm:1<=mi) (a2:mi<=1048576) (ha:a<mi):
  Calls prog 232 #[(au S),MO t,MO x,MO W,MO a,MO mi] w (yh (ij (dx l n b t) W x mi a) (ij (dx l n b t) W x mi a).length w):=by
 have T:1<=n/b:=Nat.div_pos a5 hb
 have y:=ip l (t:=t) T
 have hv:=fun i (q:aq w i)=>yq S n b steps t l i (h.below q) hb hn T a1 ht
 obtain ⟨B,hB⟩:∃B,dx l n b t=B:=⟨_,rfl⟩
 rw [hB] at y hv ⊢
 have hP:=jt B hW hx
 have V:bdN B.length W x+1<=bdN B.length W (x+1):=by
  rw [pr]
  have:1<=B.length/W:=Nat.div_pos ap ap
  unfold szE
  omega
 have p:=fun A c i (hA:Rd i A (aA .i64 B)) (hc:B.length<=c)=>tQ A B c W x i hA hc ap ap hW ap hx
 obtain ⟨Q,Z⟩:∃Q,cU B W x=Q:=⟨_,rfl⟩
 have J:ij B W x mi a=cU Q mi a:=by unfold ij;rw [Z]
 rw [Z] at hP p
 have H:Q.length<=1048576:=by have:=fN B.length W (x+1) hW hx;omega
 have u:=fun A c i (hA:Rd i A (aA .i64 Q)) (hc:Q.length<=c)=>tQ A Q c mi a i hA hc H ap hm a2 ha
 have R:=jt Q hm ha
 have Y:=fN Q.length mi (a+1) hm ha
 rw [J]
 obtain ⟨M,hM⟩:∃M,cU Q mi a=M:=⟨_,rfl⟩
 rw [hM] at u R ⊢
 have C:=fun A c i (hA:Rd i A (aA .i64 M))=>lA A M c i hA ap
 rw [y] at p
 obtain ⟨qn,D⟩:∃qn,Q.length=qn:=⟨_,rfl⟩
 rw [D] at p u
 obtain ⟨U,O⟩:∃U,M.length=U:=⟨_,rfl⟩
 rw [O] at u C ⊢
 obtain ⟨Hv,a0,a3,a4⟩:=ag hv p u C;clear hv p u C h R Y hP V y H O D hM J Z hB
 go_enter func232,ntmps232
 go_wp2_with fail
 refine (Hv.o w (br w)).mono ?_
 rintro e w1 ⟨A1,c1,rfl,I,r1,k1⟩
 obtain ⟨H1,K1⟩:=ae (a0.o A1 c1 w1 r1 I) k1;clear I r1 k1
 go_wp2_with fail
 refine H1.o.mono ?_
 rintro e w2 ⟨A2,c2,rfl,N,r2,k2⟩
 obtain ⟨H2,K2⟩:=ae (a3.o A2 c2 w2 r2 N) (bt K1.o k2);clear N r2 k2
 go_wp2_with fail
 refine H2.o.mono ?_
 rintro e w3 ⟨A3,c3,rfl,a6,r3,k3⟩
 obtain ⟨H3,K3⟩:=ae (a4.o A3 c3 w3 r3) (bt K2.o k3);clear a6 r3 k3
 go_wp2_with fail
 refine H3.o.mono ?_
 rintro e w4 ⟨v,rfl,o4,k4⟩
 obtain ⟨A4,c4,rfl,L⟩:=aD o4
 have HP:=aa (⟨A4,c4,rfl,L,Rd.own o4,bt K3.o k4⟩:yh M U w (.returned (.slice A4 U c4)) w4);clear o4 k4 L
 go_wp2_with fail
 go_ret
 exact HP.o
section
variable {P:Program} {ops:Array Oper} {Q:Exit->Act->World->Prop} {S:World->Prop}
theorem HA.sole {L:List Nat} {a:Act} {w:World} (i:Nat) (p:HAS P ops Q S i L a w) (hr:cZ ops L=[i]:=by decide +kernel):HA P ops Q S L a w:=by
 obtain ⟨o,u,h⟩:=p
 exact HA.one i u hr h
end
theorem IY {w u i h:World} {U V:Nat} {x y:Array Value} {t:TypeId} (ne:U≠V) (A:w.heap.size<=U) (o:w.heap.size<=V) (hb:aq w u) (B:i.heap[U]?=some (.cells x t (0,0))) (C:Keep (fun j=>j=U) u i)
  (D:h.heap[V]?=some (.cells y t (0,0))) (p:Keep (fun j=>j=V) i h):h.heap[U]?=some (.cells x t (0,0))/\h.heap[V]?=some (.cells y t (0,0))/\U≠V/\w.heap.size<=U/\w.heap.size<=V/\aq w h:=
 have v:=hb.trans (C.toBelow hb.size (fun j e=>by rw [e];exact A))
 ⟨(p.block U (LN B) ne).trans B,D,ne,A,o,v.trans (p.toBelow v.size (fun j e=>by rw [e];exact o))⟩
theorem Il {w h:World} {B U:Nat} {W1:World} (q:Below B W1 w) (k:Keep (fun j=>j=U) w h) (hB:B<=w.heap.size) (i:B<=U):Below B W1 h:=q.trans (k.toBelow hB (fun j e=>by rw [e];exact i))
theorem KW {w:World} {b:Nat} {t:TypeId} {H y u D v C B A p x i o v0 v1 v2 v3 v4 v5 v6 v7 v8 v9 v10 v11:Value} (h:w.heap[b]?=some (.cells #[H,y,u,D,v,C,B,A,p,x,i,o] t (0,0))):
  ((((((((((((w.setCell (ar b 0) v0).setCell (ar b 1) v1).setCell (ar b 2) v2).setCell (ar b 3) v3).setCell (ar b 4) v4).setCell (ar b 5) v5).setCell (ar b 6) v6).setCell (ar b 7) v7).setCell (ar b 8) v8).setCell (ar b 9) v9).setCell (ar b 10) v10).setCell (ar b 11) v11).heap[b]?=some (.cells #[v0,v1,v2,v3,v4,v5,v6,v7,v8,v9,v10,v11] t (0,0)):=ss (ss (ss (ss (ss (ss (ss (ss (ss (ss (ss (ss h rfl) rfl) rfl) rfl) rfl) rfl) rfl) rfl) rfl) rfl) rfl) (by simp)
theorem pP (x:Itm):(bq x).length=12:=by
 rcases x with ⟨k,s,n,a⟩
 cases a<;>rfl
theorem Bp {w:World} {A:Option Addr} {l:List Itm} (h:Rd w A (cu l)) {i:Nat} {y:Itm} (x:l[i]?=some y):∃b o,A=some (ar b o)/\∀f,f<12->w.cell? ⟨b,o+(i*12+f),none⟩=(bq y)[f]?:=by
 have B:=qH pP x 0 ap
 obtain ⟨b,o,e,_⟩:=h _ ((bq y)[0]'(by rw [pP];omega)) (B.trans (Mq _))
 refine ⟨b,o,e,fun f u=>?_⟩
 have h1:=qH pP x f u
 have v:(bq y)[f]?=some ((bq y)[f]'(by rw [pP];exact u)):=Mq _
 obtain ⟨C,D,p,c⟩:=h _ _ (h1.trans v)
 rw [e] at p
 injection p with p
 injection p with e1 e2 _
 subst e1;subst e2
 rw [c,v]
theorem Bf (b nx il ic u x:Nat) (c0 c1 c2 c3 c4 c5 c6 c7 c8 c9 a4 ao a7 av a2 a9 a5:Value) (Z Y J:Int) (H L:Bool) (Q V T R I O U:Int) (w:World)
  (hb:w.heap[b]?=some (.cells #[c0,c1,c2,c3,c4,c5,c6,c7,c8,c9,a4,ao,a7,av,a2,.slice (some (ar u x)) il ic,MO (nx:Nat),a9,a5] 179 (0,0))) (hx:nx<il)
  (hc:w.cell? (ar u (x+nx*12))=some (MO Z)/\w.cell? (ar u (x+nx*12+1))=some (MO Y)/\w.cell? (ar u (x+nx*12+2))=some (MO J)/\w.cell? (ar u (x+nx*12+3))=some (.bool H)/\w.cell? (ar u (x+nx*12+4))=some (.bool L)/\w.cell? (ar u (x+nx*12+5))=some (MO Q)/\w.cell? (ar u (x+nx*12+6))=some (MO V)/\w.cell? (ar u (x+nx*12+7))=some (MO T)/\w.cell? (ar u (x+nx*12+8))=some (MO R)/\w.cell? (ar u (x+nx*12+9))=some (MO I)/\w.cell? (ar u (x+nx*12+10))=some (MO O)/\w.cell? (ar u (x+nx*12+11))=some (MO U)):
  Calls prog 218 #[(au b)] w fun e i=>e=.returned (.tuple #[.agg #[MO Z,MO Y,MO J,.bool H,.bool L,MO Q,MO V,MO T,MO R,MO I,MO O,MO U],.bool true])/\aq w i:=by
 obtain ⟨p,B⟩:∃p,w.alloc (.cells MT 152)=p:=⟨_,rfl⟩
 have g0:p.heap[w.heap.size]?=some (.cells MT 152 (0,0)):=by rw [<-B];exact LP w _
 have h:aq w p:=by rw [<-B];exact (br w).alloc (LO _) _
 have hs:=LN hb
 have kb:=fun i (q:Keep (fun j=>j=w.heap.size) p i)=>(q.block b (by have:=h.size;omega) ap).trans (sb hb p h)
 have tb:=fun i q=>Ju (kb i q)
 obtain ⟨h0,h1,h2,h3,h4,h5,h6,h7,h8,h9,N,a0⟩:=hc
 have aR:u<w.heap.size:=az h0
 have y:¬u=w.heap.size:=ap
 have d0:=fun i (q:Keep (fun j=>j=w.heap.size) p i)=>q.cell (aw h h0) y
 have d1:=fun i (q:Keep (fun j=>j=w.heap.size) p i)=>q.cell (aw h h1) y
 have d2:=fun i (q:Keep (fun j=>j=w.heap.size) p i)=>q.cell (aw h h2) y
 have d3:=fun i (q:Keep (fun j=>j=w.heap.size) p i)=>q.cell (aw h h3) y
 have d4:=fun i (q:Keep (fun j=>j=w.heap.size) p i)=>q.cell (aw h h4) y
 have d5:=fun i (q:Keep (fun j=>j=w.heap.size) p i)=>q.cell (aw h h5) y
 have d6:=fun i (q:Keep (fun j=>j=w.heap.size) p i)=>q.cell (aw h h6) y
 have d7:=fun i (q:Keep (fun j=>j=w.heap.size) p i)=>q.cell (aw h h7) y
 have d8:=fun i (q:Keep (fun j=>j=w.heap.size) p i)=>q.cell (aw h h8) y
 have d9:=fun i (q:Keep (fun j=>j=w.heap.size) p i)=>q.cell (aw h h9) y
 have aG:=fun i (q:Keep (fun j=>j=w.heap.size) p i)=>q.cell (aw h N) y
 have a3:=fun i (q:Keep (fun j=>j=w.heap.size) p i)=>q.cell (aw h a0) y
 have q0:Keep (fun j=>j=w.heap.size) p p:=Keep.refl _ _
 have aM:(nx:Int)<il:=ap
 have b2:¬((il:Int)<=nx):=ap
 obtain ⟨ad,a8,G0⟩:=af B h g0;clear B h g0 kb hb h0 h1 h2 h3 h4 h5 h6 h7 h8 h9 N a0
 go_enter func218,ntmps218
 go_wp2_with fail
 rw [ad.o]
 refine HA.g (fun i:World=>Keep (fun j=>j=w.heap.size) p i) ?_
 refine HA.t ?_ [0,1,2,3,4,5,6,7,8,9,10,11,12,13] q0.drew ?_
 refine HA.d ?_
 try simp only [Exit.then]
 have q1:=q0.drew
 go_wp2_with fail
 refine HA.g (fun i:World=>Keep (fun j=>j=w.heap.size) p i) ?_
 refine HA.t ?_ [0,1,2,3,4,5,6,7,8,9] q1.drew ?_
 obtain ⟨W1,A⟩:∃W1,p.drew.drew=W1:=⟨_,rfl⟩
 have g1:W1.heap[w.heap.size]?=some (.cells MT 152 (0,0)):=by rw [<-A];exact G0.o
 have q2:Keep (fun j=>j=w.heap.size) p W1:=by rw [<-A];exact q0.drew.drew
 have a1:aq w W1:=by rw [<-A];exact (a8.o.drew).drew
 rw [A]
 clear A
 have D:=KW (v0:=(MO Z)) (v1:=(MO Y)) (v2:=(MO J)) (v3:=(.bool H)) (v4:=(.bool L)) (v5:=(MO Q)) (v6:=(MO V)) (v7:=(MO T)) (v8:=(MO R)) (v9:=(MO I)) (v10:=(MO O)) (v11:=(MO U)) g1
 obtain ⟨W9,C⟩:∃W9,((((((((((((W1.setCell (ar w.heap.size 0) (MO Z)).setCell (ar w.heap.size 1) (MO Y)).setCell (ar w.heap.size 2) (MO J)).setCell (ar w.heap.size 3) (.bool H)).setCell (ar w.heap.size 4) (.bool L)).setCell (ar w.heap.size 5) (MO Q)).setCell (ar w.heap.size 6) (MO V)).setCell (ar w.heap.size 7) (MO T)).setCell (ar w.heap.size 8) (MO R)).setCell (ar w.heap.size 9) (MO I)).setCell (ar w.heap.size 10) (MO O)).setCell (ar w.heap.size 11) (MO U))=W9:=⟨_,rfl⟩
 have k9:Keep (fun j=>j=w.heap.size) W1 W9:=by rw [<-C];exact Keep.setCell (S:=fun j=>j=w.heap.size) (Keep.setCell (S:=fun j=>j=w.heap.size) (Keep.setCell (S:=fun j=>j=w.heap.size) (Keep.setCell (S:=fun j=>j=w.heap.size) (Keep.setCell (S:=fun j=>j=w.heap.size) (Keep.setCell (S:=fun j=>j=w.heap.size) (Keep.setCell (S:=fun j=>j=w.heap.size) (Keep.setCell (S:=fun j=>j=w.heap.size) (Keep.setCell (S:=fun j=>j=w.heap.size) (Keep.setCell (S:=fun j=>j=w.heap.size) (Keep.setCell (S:=fun j=>j=w.heap.size) (Keep.setCell (S:=fun j=>j=w.heap.size) (Keep.refl _ _) _ (.inr rfl) _) _ (.inr rfl) _) _ (.inr rfl) _) _ (.inr rfl) _) _ (.inr rfl) _) _ (.inr rfl) _) _ (.inr rfl) _) _ (.inr rfl) _) _ (.inr rfl) _) _ (.inr rfl) _) _ (.inr rfl) _) _ (.inr rfl) _
 rw [C] at D
 have u0:=kl g1
 have lu:=LN g1
 refine HA.s 10 W9 (q2.trans k9) ?_ (he:=by subst C;go_simp)
 refine HA.t ?_ [11] (q2.trans k9) ?_
 refine HA.d ?_
 obtain ⟨⟨r0,r1,r2,r3,r4,r5,r6,r7,r8,r9,ab,a6⟩,rf⟩:=kl D
 have HB:=aa (a1.trans (k9.toBelow a1.size (fun j hj=>ap)))
 have aP:=LN D
 clear D k9 g1 u0 lu q0 q1 q2 tb C d0 d1 d2 d3 d4 d5 d6 d7 d8 d9 aG a3
 go_wp2_with fail
 exact L7 (v:=.tuple #[.agg #[MO Z,MO Y,MO J,.bool H,.bool L,MO Q,MO V,MO T,MO R,MO I,MO O,MO U],.bool true]) (by simp [results,results218,go_sem,r0,r1,r2,r3,r4,r5,r6,r7,r8,r9,ab,a6]) rfl ⟨rfl,HB.o⟩
theorem ub {H:Nat->Prop} {w:World} {b x:Nat} {i:Inp} {a:MAd} {m:Mst} (h:aT H w b i x a m) {y:Itm} (v:(cR i x m.st)[m.nx]?=some y):
  Calls prog 218 #[(au b)] w fun e B=>e=.returned (.tuple #[.agg (bq y).toArray,.bool true])/\aq w B:=by
 have hl:m.nx<(cR i x m.st).length:=(Mp.1 v).1
 obtain ⟨u,p,e,hc⟩:=Bp (aV h.it (eC _ w)) v
 have hb:=h.blk
 rw [e] at hb
 have o:∀f,f<12->w.cell? (ar u (p+m.nx*12+f))=(bq y)[f]?:=fun f o=>by rw [MG];exact hc f o
 rcases y with ⟨C,st,n,A⟩
 cases A with
 | none=>
  exact Bf b m.nx _ _ u p _ _ _ _ _ _ _ _ _ _ _ _ _ _ _ _ _ _ _ _ _ _ _ _ _ _ _ _ _ w hb hl ⟨o 0 ap,o 1 ap,o 2 ap,o 3 ap,o 4 ap,o 5 ap,o 6 ap,o 7 ap,o 8 ap,o 9 ap,o 10 ap,o 11 ap⟩
 | some A=>
  exact Bf b m.nx _ _ u p _ _ _ _ _ _ _ _ _ _ _ _ _ _ _ _ _ _ _ _ _ _ _ _ _ _ _ _ _ w hb hl ⟨o 0 ap,o 1 ap,o 2 ap,o 3 ap,o 4 ap,o 5 ap,o 6 ap,o 7 ap,o 8 ap,o 9 ap,o 10 ap,o 11 ap⟩
theorem Bg {H:Nat->Prop} {w:World} {b x:Nat} {i:Inp} {a:MAd} {m:Mst} (h:aT H w b i x a m) (hn:(cR i x m.st).length<=m.nx):
  Calls prog 218 #[(au b)] w fun e C=>e=.returned (.tuple #[.agg MT,.bool false])/\aq w C:=by
 obtain ⟨O,D⟩:∃O,(cR i x m.st).length=O:=⟨_,rfl⟩
 have hb:=h.blk
 rw [D] at hb hn
 obtain ⟨y,u⟩:∃y,w.alloc (.cells MT 152)=y:=⟨_,rfl⟩
 have g0:y.heap[w.heap.size]?=some (.cells MT 152 (0,0)):=by rw [<-u];exact LP w _
 have B:aq w y:=by rw [<-u];exact (br w).alloc (LO _) _
 have tb:=fun C q=>Ju (sb (sb hb y B) C q)
 obtain ⟨n,I⟩:∃n,m.nx=n:=⟨_,rfl⟩
 rw [I] at tb hn
 have a2:(O:Int)<=n:=ap
 have Y:=br y
 obtain ⟨R,Q,G0⟩:=af u B g0;clear u B g0 hb h D I
 go_enter func218,ntmps218
 go_wp2_with fail
 rw [R.o]
 refine HA.g (fun C:World=>aq y C) ?_
 refine HA.t ?_ [0,1,2,3,4,5,6,7,8,9,10,11,12,13] Y.drew ?_
 refine HA.d ?_
 try simp only [Exit.then]
 obtain ⟨W1,p⟩:∃W1,y.drew=W1:=⟨_,rfl⟩
 have g1:W1.heap[w.heap.size]?=some (.cells MT 152 (0,0)):=by rw [<-p];exact G0.o
 have J:aq w W1:=by rw [<-p];exact Q.o.drew
 rw [p]
 clear p Y tb
 obtain ⟨⟨u0,u1,u2,u3,u4,u5,u6,u7,u8,u9,a1,a0⟩,uf⟩:=kl g1
 have lu:=LN g1
 have N:=KW (v0:=MO 0) (v1:=MO 0) (v2:=MO 0) (v3:=.bool false) (v4:=.bool false) (v5:=MO 0) (v6:=MO 0) (v7:=MO 0) (v8:=MO 0) (v9:=MO 0) (v10:=MO 0) (v11:=MO 0) g1
 have V:=aa N
 have kk:Keep (fun j=>j=w.heap.size) W1 (((((((((((((W1.setCell (ar w.heap.size 0) (MO 0)).setCell (ar w.heap.size 1) (MO 0)).setCell (ar w.heap.size 2) (MO 0)).setCell (ar w.heap.size 3) (.bool false)).setCell (ar w.heap.size 4) (.bool false)).setCell (ar w.heap.size 5) (MO 0)).setCell (ar w.heap.size 6) (MO 0)).setCell (ar w.heap.size 7) (MO 0)).setCell (ar w.heap.size 8) (MO 0)).setCell (ar w.heap.size 9) (MO 0)).setCell (ar w.heap.size 10) (MO 0)).setCell (ar w.heap.size 11) (MO 0))):=Keep.setCell (S:=fun j=>j=w.heap.size) (Keep.setCell (S:=fun j=>j=w.heap.size) (Keep.setCell (S:=fun j=>j=w.heap.size) (Keep.setCell (S:=fun j=>j=w.heap.size) (Keep.setCell (S:=fun j=>j=w.heap.size) (Keep.setCell (S:=fun j=>j=w.heap.size) (Keep.setCell (S:=fun j=>j=w.heap.size) (Keep.setCell (S:=fun j=>j=w.heap.size) (Keep.setCell (S:=fun j=>j=w.heap.size) (Keep.setCell (S:=fun j=>j=w.heap.size) (Keep.setCell (S:=fun j=>j=w.heap.size) (Keep.setCell (S:=fun j=>j=w.heap.size) (Keep.refl _ _) _ (.inr rfl) _) _ (.inr rfl) _) _ (.inr rfl) _) _ (.inr rfl) _) _ (.inr rfl) _) _ (.inr rfl) _) _ (.inr rfl) _) _ (.inr rfl) _) _ (.inr rfl) _) _ (.inr rfl) _) _ (.inr rfl) _) _ (.inr rfl) _
 obtain ⟨KK,L⟩:=ae kk J;clear N kk g1 J
 go_wp2_with fail
 obtain ⟨W9,A⟩:∃W9,((((((((((((W1.setCell (ar w.heap.size 0) (MO 0)).setCell (ar w.heap.size 1) (MO 0)).setCell (ar w.heap.size 2) (MO 0)).setCell (ar w.heap.size 3) (.bool false)).setCell (ar w.heap.size 4) (.bool false)).setCell (ar w.heap.size 5) (MO 0)).setCell (ar w.heap.size 6) (MO 0)).setCell (ar w.heap.size 7) (MO 0)).setCell (ar w.heap.size 8) (MO 0)).setCell (ar w.heap.size 9) (MO 0)).setCell (ar w.heap.size 10) (MO 0)).setCell (ar w.heap.size 11) (MO 0))=W9:=⟨_,rfl⟩
 rw [A]
 have Z:=V.o
 rw [A] at Z
 obtain ⟨⟨r0,r1,r2,r3,r4,r5,r6,r7,r8,r9,T,U⟩,rf⟩:=kl Z
 have k9:=KK.o
 rw [A] at k9
 have HB:=L.o.trans (k9.toBelow L.o.size (fun j hj=>ap))
 exact L7 (v:=.tuple #[.agg MT,.bool false]) (by simp [results,results218,go_sem,r0,r1,r2,r3,r4,r5,r6,r7,r8,r9,T,U]) rfl ⟨rfl,HB⟩
theorem Dj {H:Nat->Prop} {w:World} {b x:Nat} {i:Inp} {a:MAd} {m:Mst} (h:aT H w b i x a m) (hn:m.op.length<=60):
  Calls prog 219 #[(au b)] w fun e C=>∃v,e=.returned v/\C.ownsRow w.heap.size 3 1 v m.op.length (aA .i64 (eJ m.op))/\aq w C:=by
 obtain ⟨A,c,u,_⟩:=aD h.oO
 have hc:=lA A (eJ m.op) c w (by have:=h.oO;rw [u] at this;exact Rd.own this) (by rw [pQ];omega)
 rw [pQ] at hc
 have B:=Ju h.blk
 rw [u] at B
 obtain ⟨n,p⟩:∃n,m.op.length=n:=⟨_,rfl⟩
 rw [p] at hc B ⊢
 have L:=aa hc;clear h hc p hn u
 go_enter func219,ntmps219
 go_wp2_with fail
 refine L.o.mono ?_
 rintro e N ⟨v,rfl,D,y⟩
 obtain ⟨J,I⟩:=ae D y;clear D y
 go_wp2_with fail
 go_ret
 exact ⟨_,rfl,J.o,I.o⟩
def StL (base:Nat) (w:World) (l:List Ex) (v:Value):Prop:=∃rows:List (List Value),w.ownsRow base 141 2 v l.length (List.flatten rows)/\rows.length=l.length/\(∀r∈rows,r.length=2)/\∀j x,l[j]?=some x->dR w base (cq rows j) x
theorem StL.form {base:Nat} {w:World} {l:List Ex} {v:Value} (h:StL base w l v):∃A c,v=.slice A l.length c/\l.length<=c:=by
 obtain ⟨rows,h1,_⟩:=h
 exact aD h1
theorem StL.below {base:Nat} {w i:World} {l:List Ex} {v:Value} (h:StL base w l v) (hb:aq w i):StL base i l v:=by
 obtain ⟨rows,h1,o,u,p⟩:=h
 exact ⟨rows,ay h1 hb,o,u,fun j x y=>(p j x y).keep (S:=fun _=>False) (Keep.below hb) (fun _ h=>h.elim)⟩
theorem StL.nil (base:Nat) (w:World):StL base w [] (MP):=⟨[],LZ _ _ _ _,rfl,by simp,by simp⟩
theorem StL.push {base:Nat} {w u:World} {l:List Ex} {x:Ex} {v v' o i:Value} {rows:List (List Value)} (h1:w.ownsRow base 141 2 v l.length (List.flatten rows)) (A:rows.length=l.length) (I:∀r∈rows,r.length=2) (D:∀j x,l[j]?=some x->dR w base (cq rows j) x)
  (H:dR w base [o,i] x) (B:u.ownsRow base 141 2 v' (l.length+1) (List.flatten rows++[o,i])) (hg:w.grownBy u v.ownBlock):StL base u (l++[x]) v':=by
 refine ⟨rows++[[o,i]],?_,by simp [A],?_,?_⟩
 ·rw [Mo,My,List.flatten_cons,List.flatten_nil,List.append_nil];exact B
 ·intro r hr
  rcases MD.1 hr with hr | hr
  ·exact I r hr
  ·rw [List.mem_singleton.1 hr];rfl
 ·intro j y p
  rcases Ma j l.length with h | h
  ·rw [Mr h] at p
   have e:cq (rows++[[o,i]]) j=cq rows j:=by simp [cq,Mr (show j<rows.length by omega)]
   rw [e];exact (D j y p).pushed h1 hg (by decide)
  ·have C:j=l.length:=by have:=(Mp.1 p).1;simp at this;omega
   subst C
   simp at p
   subst p
   have e:cq (rows++[[o,i]]) l.length=[o,i]:=by rw [<-A];simp [cq]
   rw [e];exact H.pushed h1 hg (by decide)
theorem uF.rd {H:Nat->Prop} {w:World} {b x:Nat} {i:Inp} {a:MAd} {m:Mst} (h:aT H w b i x a m):dA rEx 2 w (some (ar a.rb 0)) m.rc:=by
 obtain ⟨rows,h1,o,u,p⟩:=h.re
 exact ⟨rows,Rd.own h1,o,u,fun j x v=>cJ (p j x v) (eC _ w)⟩
theorem Jp {l:List Ex} {k:Nat} {x:Ex} (h:l[k]?=some x):l.take (k+1)=l.take k++[x]:=by
 obtain ⟨hk,e⟩:=Mp.1 h
 rw [List.take_succ_eq_append_getElem hk,e]
theorem Dh {H:Nat->Prop} {w:World} {b x:Nat} {i:Inp} {a:MAd} {m:Mst} (h:aT H w b i x a m) (hn:∀y∈m.rc,y.1.length=i.start.length/\y.2.length=i.start.length) (hi:i.start.length<=60) (hl:m.rc.length<=100):
  Calls prog 220 #[(au b)] w fun e w'=>∃v,e=.returned v/\StL w.heap.size w' m.rc v/\aq w w':=by
 have tb:=Ju h.blk
 have lb:=LN h.blk
 have hr:=uF.rd h
 obtain ⟨N,hN⟩:∃N,m.rc.length=N:=⟨_,rfl⟩
 obtain ⟨n,Q⟩:∃n,i.start.length=n:=⟨_,rfl⟩
 rw [hN] at tb hl
 rw [Q] at hn hi
 obtain ⟨Hr,HN,Hn⟩:=af hr hN hn;clear hr h hN hn Q
 go_enter func220,ntmps220
 go_wp2_with fail
 clear tb
 go_loopw [3,13] (fun v y wr=>∃k:Nat,k<=N/\y=MO k/\StL w.heap.size wr (m.rc.take k) v/\aq w wr) (fun _ y _=>N-(intOf y).toNat)
 case atStart=>exact ⟨0,LS _,rfl,StL.nil _ _,LR _ _⟩
 case round=>
  obtain ⟨k,hk,rfl,hs,q⟩:=hrel
  by_cases a4:k<N
  ·have a6:(k:Int)<N:=ap
   have aR:IntKind.i64.wrap ((k:Int)+1)=((k+1:Nat):Int):=by rw [LT _ ap];push_cast;rfl
   obtain ⟨y,hx⟩:∃x,m.rc[k]?=some x:=⟨_,Mq (by rw [HN.o];exact a4)⟩
   have u:=Hn.o y (List.mem_of_getElem? hx)
   have a0:=Jp hx
   obtain ⟨bb,o,A1,c1,A2,c2,e,T,p1,p2,r1,r2⟩:=iH Hr.o hx
   injection e with e
   injection e with e1 e2
   subst e1;subst e2
   rw [u.1] at p1
   rw [u.2] at p2
   have q1:=(q.cell (p:=(ar a.rb (0+k*2))) T).trans p1
   have q2:=(q.cell (p:=(ar a.rb (0+k*2+1))) T).trans p2
   rw [MH] at q1 q2
   obtain ⟨W1,B⟩:∃W1,wr.alloc (.cells #[.slice A1 n c1,.slice A2 n c2] 141)=W1:=⟨_,rfl⟩
   have g1:W1.heap[wr.heap.size]?=some (.cells #[.slice A1 n c1,.slice A2 n c2] 141 (0,0)):=by rw [<-B];exact LP wr _
   have k1:aq wr W1:=by rw [<-B];exact (br wr).alloc (LO _) _
   have qW:aq w W1:=q.trans (k1.mono q.size)
   have a1:=jS A1 A2 n c1 c2 y.1 y.2 W1 (r1.hr.below qW) (r2.hr.below qW) u.1 u.2 ap
   have C:=LW r1.hw r2.hw
   have V:=hs.below k1
   have lr:=q.size
   have tg:=bx2 g1
   obtain ⟨aP,aM,QW,av,ao,O,D⟩:=aj a1 B qW V a0 u C;clear a1 B qW V a0 u C g1 k1 r1 r2 p1 p2 hx q
   have b0:a.rb<wr.heap.size:=ap
   have J:(m.rc.take k).length=k:=by rw [Mt,HN.o];omega
   have A:=aa J
   obtain ⟨Av,cv,e,_⟩:=hs.form
   rw [J] at e
   subst e
   clear hs J
   go_wp2_with fail
   rw [aM.o]
   refine aP.o.mono ?_
   rintro e w3 ⟨B1,d1,B2,d2,rfl,aG,ad,o1,o2,Z,k3⟩
   have a2:=av.o.below k3
   obtain ⟨rows,u1,u2,u3,u4⟩:=a2
   have I:=QW.o.trans (k3.mono QW.o.size)
   have hu:=En (base:=w.heap.size) (x:=y) o1 o2 QW.o.size O.o.1 O.o.2 ap D.o.1 D.o.2
   rw [A.o] at u1 u2
   obtain ⟨L,a9,ab,a8,Hu,a7⟩:=ai u1 u2 u3 u4 hu I
   have a3:=I.size
   clear u1 u2 u3 u4 hu I Z o1 o2 k3 aG ad tg q1 q2
   go_wp2_with (at_builtin;refine aY GE _ rfl (.tmp 17) (.tmp 20) rfl w.heap.size (.slice Av k cv) k _ rfl L.o [.slice B1 n d1,.slice B2 n d2] rfl rfl (by simp [Value.oneCell']) ap (by unfold maxLen;omega) a3 ?_)
   intro g6 c6 w6 R U Y
   have hp:=StL.push (x:=y) (v':=.slice (some (ar g6 0)) (k+1) c6) (by rw [A.o];exact L.o) (by rw [A.o];exact a9.o) ab.o a8.o Hu.o (by rw [A.o];exact R) Y
   rw [<-ao.o] at hp
   obtain ⟨Hp,a5⟩:=ae hp (a7.o.trans U);clear hp R U Y
   go_wp2_with fail
   go_roundw
   case rel=>exact ⟨k+1,by omega,by go_num,Hp.o,a5.o⟩
   case measure=>simp [intOf];omega
  ·have a6:¬((k:Int)<N):=ap
   rw [List.take_of_length_le (by rw [HN.o];omega)] at hs
   obtain ⟨Hs,Hq⟩:=ae hs q;clear hs q
   go_wp2_with fail
   go_ret
   exact ⟨_,rfl,Hs.o,Hq.o⟩
end Go.Proofs.YtgmajkppbhiopaaGreat
