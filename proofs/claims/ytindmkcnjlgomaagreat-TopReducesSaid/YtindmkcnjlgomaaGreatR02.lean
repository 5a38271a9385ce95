/- No condition. -/
import Derived.Test.YtindmkcnjlgomaaGreatR01
import Derived.Deep.DeepCutAuto
import Derived.IntWalk
import Derived.RegionTactic
set_option linter.unusedSimpArgs false
set_option linter.unusedVariables false
set_option maxRecDepth 100000
set_option maxHeartbeats 4000000
namespace Go.Proofs.YtindmkcnjlgomaaGreat
open Go.RowKit Go.Shelf
open Tryz
attribute [local go_sem] Oper.semAt_some
def lC (g o c:Nat) {r:Nat} (k:Fin r):N2:=#[H8 (k.1:Int),.slice (some (aq g (o+k.1*c))) c c]
def fM (n₀ h:Nat) (W i:N5):Prop:=Below n₀ W i/\(h<W.heap.size->i.heap[h]?=W.heap[h]?)
theorem wY {r k:Nat} (h:k<r):(List.finRange r).take (k+1)=(List.finRange r).take k++[⟨k,h⟩]:=by
 rw [List.take_add_one];simp [h]
theorem AF (n l Bm n₀ g o r c V d:Nat) (hr:r<=1048576) (hc:1<=c/\c<=1048576) (a2:V=r*c) (hd:V<=d) (J Jx:List (Fin r)->N5->Prop) (B:Nat) (hJ:AbidesFrom B J) (hY:∀p x W,J p W->p.length<r->YieldAt Fence.wide (n-1) prog l (lC g o c x) W λe O=> (e=.returned (.bool true)/\J (p++[x]) O/\fM n₀ Bm W O)\/(e=.returned (.bool false)/\Jx (p++[x]) O)) (W:N5) (L:W.heap[Bm]?=some (.cells #[H8 r,H8 c,.slice (some (aq g o)) V d] 344 (0,0))) (h0:J [] W):
  CallsIn Fence.wide n prog 255 #[.func (.yield l) #[] #[],(ar Bm)] W λe O=>(∃v,e=.returned v)/\
   ((∃ys,ys=List.finRange r/\J ys O)\/(∃p,True/\Jx p O)):=by
 obtain ⟨⟨e0,e1,e2⟩,ef⟩:=bx3 L;obtain ⟨a7,a4⟩:=ab L a2;clear L a2;refine callsIn_of_wp func255 rfl trivial ?_ rfl;simp only [ntmps255,List.size_toArray,List.length_cons,List.length_nil,Nat.reduceAdd,Nat.reduceSub,Array.replicate_succ,Array.replicate_zero,List.push_toArray,List.append_toArray,List.nil_append,List.cons_append]
 gi_wp2
 gi_loopw [6] (λi wr=>∃k:Nat,k<=r/\i=H8 k/\J ((List.finRange r).take k) wr/\wr.heap[Bm]?=some (.cells #[H8 r,H8 c,.slice (some (aq g o)) V d] 344 (0,0)))
  (λi _=>r-(intOf i).toNat)
 ·exact ⟨0,Gc _,rfl,h0,a7.o⟩
 case round=>
  obtain ⟨k,hk,rfl,u,H⟩:=hrel;clear e0 e1 e2 ef;by_cases D:k<r
  ·have Y:((List.finRange r).take k).length<r:=by simp;omega
   obtain ⟨⟨e0,e1,e2⟩,ef⟩:=bx3 H;have Q:=Dy r c k g o V d wr hr hc D a4.o hd;obtain ⟨I,a1,a5⟩:=ae u H Q;clear u H Q
   gi_wp2_with fail
   refine ⟨trivial,(λh=>by cases h),?_⟩;refine (callsIn_wide.2 a5.o).mono ?_;rintro e w3 ⟨rfl,N⟩;have a0:=hJ _ _ _ none I.o (iV N) (λ_ h=>by cases h);have A:=(N.block _ (F1 a1.o)).trans a1.o;obtain ⟨fn,tmps,a3,ad,hy,hR⟩:=hY _ ⟨k,D⟩ w3 a0 Y;unfold lC at hy;dsimp only at hy;have y:=aa A;clear a0 A N
   gi_wp2
   refine ⟨(λh=>by cases h),?_⟩;refine hR.mono ?_;rintro e w5 (⟨rfl,R,U⟩ | ⟨rfl,T⟩)
   ·have Z:=(U.2 (F1 y.o)).trans y.o;obtain ⟨a6,a8⟩:=ab Z R;clear Z R U
    gi_wp2
    go_roundw
    ·exact ⟨k+1,by omega,by go_num,by rw [wY D];exact a8.o,a6.o⟩
    ·simp [intOf];omega
   ·gi_wp2
    refine Gm (results_none rfl _ _ _) rfl ?_;exact ⟨⟨_,rfl⟩,.inr ⟨_,trivial,T⟩⟩
  ·obtain rfl:k=r:=ao;have C:(List.finRange k).take k=List.finRange k:=List.take_of_length_le (by simp);rw [C] at u;have I:=aa u;clear u C
   gi_wp2
   go_end0
   exact ⟨⟨_,rfl⟩,.inl ⟨_,rfl,I.o⟩⟩
theorem j7 (n p n₀ g o r c i d:Nat) (hr:r<=1048576) (hc:1<=c/\c<=1048576) (u:i=r*c) (v:i<=d) (w:N5) (h:w.heap[p]?=some (.cells #[H8 r,H8 c,.slice (some (aq g o)) i d] 344 (0,0))):
  SeqStopsK Fence.wide n prog 255 #[(ar p)] (lC (r:=r) g o c) (fM n₀ p) (λy=>y=List.finRange r) (λ_=>True) r w:=λl J C W x A _ D B=>
 AF n l p n₀ g o r c i d hr hc u v J C _ A D W ((x.block _ (F1 h)).trans h) B
theorem iL {n₀ i:Nat} {A B C:N5} (h:fM n₀ i A B) (k:fM n₀ i B C):fM n₀ i A C:=
 ⟨h.1.trans k.1,λhb=>(k.2 (Gf hb h.1.size)).trans (h.2 hb)⟩
theorem iM {n₀ i:Nat} {w:N5} (hn:n₀<=w.heap.size) (hb:i<w.heap.size) (W:N5) (l:Nat) (o p:Obj) (hl:w.heap.size<=l) (h:W.heap[l]?=some o) (v:o.isCells=false) (u:o.isWalk=false):fM n₀ i W (W.putObj l p):=
 ⟨belowK_b hn W l o p hl h v u,λ_=>(belowK_b (n₀:=i+1) ao W l o p hl h v u).block i ao⟩
attribute [local go_sem] Oper.semAt_some
def kK (h:N1) (c k:Nat):N1:=cY c λj=>nth h (k*c+j)
def By (h:N1) (r c:Nat) (xs:N1) (q:Int):N1:=cY r λk=>rA (kK h c k) xs q
theorem iA (h:N1) (c k:Nat):(kK h c k).length=c:=aZ _ _
theorem lL {r c k:Nat} (hk:k<r):k*c+c<=r*c:=by
 have:=HU c (show k+1<=r by omega)
 rwa [GW] at this
theorem eB (l:N1) (m j:Nat):nth (l.drop m) j=nth l (m+j):=by simp [nth,List.getD_eq_getElem?_getD,List.getElem?_drop]
theorem eA {l:N1} {m j:Nat} (h:j<m):nth (l.take m) j=nth l j:=by simp [nth,List.getD_eq_getElem?_getD,List.getElem?_take,h]
theorem DM {h:N1} {r c k:Nat} (hk:k<r) (hl:h.length=r*c):(h.drop (k*c)).take c=kK h c k:=by
 have:=lL (c:=c) hk;refine dR (by rw [GL,GO];omega) λj i=>?_;rw [eA i,eB]
theorem wO {W:N5} {g o:Nat} {i:N1} {r c k:Nat} (h:Rd W (some (aq g o)) (az .i64 i)) (hk:k<r) (hl:i.length=r*c):Rd W (some (aq g (o+k*c))) (az .i64 (kK i c k)):=by
 have:=(h.drop (k*c)).take c
 rwa [dQ,dz,DM hk hl] at this
theorem sP {i:N1} {r c k:Nat} (h:W64 i) (hk:k<r) (hl:i.length=r*c):W64 (kK i c k):=eh λj o=>h _ (by have:=lL (c:=c) hk;omega)
theorem BI (r c k:Nat) (g o:Nat) (h:N1) (B:N0) (xs:N1) (e:Nat) (q:Int) (W:N5) (hk:k<r) (hc:1<=c/\c<=1048576) (p:h.length=r*c) (x:Rd W (some (aq g o)) (az .i64 h)) (y:W64 h) (hB:Rd W B (az .i64 xs)) (i:xs.length=c) (v:W64 xs):Calls prog 261 #[.slice (some (aq g (o+k*c))) c c,.slice B c e,H8 q] W λe u=>e=.returned (.tuple #[H8 (rA (kK h c k) xs q),.bool true])/\ap W u:=by
 have:=D4 (some (aq g (o+k*c))) B (kK h c k) xs c e q W (wO x hk p) hB (by rw [iA,i]) (by rw [iA];omega) (sP y hk p) v
 rwa [iA,i] at this
theorem Bw (h:N1) (r c:Nat) (xs:N1) (q:Int):((List.finRange r).map λk=>rA (kK h c k.1) xs q)=By h r c xs q:=by
 refine dR (by simp) λk hk=>?_;rw [dh _ _ (by simpa using hk)];simp
theorem BG (r c:Nat) (g o y d:Nat) (R:N1) (B:N0) (xs:N1) (e:Nat) (q:Int) (w:N5) (hr:1<=r/\r<=1048576) (hc:1<=c/\c<=1048576) (a3:y=r*c) (hd:y<=d) (hm:y<=17592186043904) (bd:R.length=y) (hA:Rd w (some (aq g o)) (az .i64 R)) (wm:W64 R) (hB:Rd w B (az .i64 xs)) (b0:xs.length=c) (wx:W64 xs):Calls prog 253 #[.agg #[H8 r,H8 c,.slice (some (aq g o)) y d],.slice B c e,H8 q] w λe w'=>∃A' c',e=.returned (.tuple #[.slice A' r c',.bool true])/\w'.ownsRow w.heap.size 2 1 (.slice A' r c') r (az .i64 (By R r c xs q))/\ap w w':=by
 have aP:=λw'=>jN r c (some (aq g o)) y d w' hr hc a3 hm;have b6:=λcs w'=>nF cs w';obtain ⟨bv,bw,a4,bn,bo,HA,HB,WM⟩:=aj aP b6 a3 bd b0 hA hB wm;have WX:=aa wx;clear aP b6 a3 bd b0 hA hB wm wx;refine (callsIn_wide (n:=3)).1 ?_;refine callsIn_of_wp_marks func253 rfl trivial ?_ rfl;simp only [ntmps253,List.size_toArray,List.length_cons,List.length_nil,Nat.reduceAdd,Nat.reduceSub,Array.replicate_succ,Array.replicate_zero,List.push_toArray,List.append_toArray,List.nil_append,List.cons_append]
 gi_wp2_with fail
 refine ⟨trivial,?_⟩;refine (callsIn_wide.2 (bv.o _)).mono ?_;rintro e w1 ⟨rfl,rfl⟩
 gi_wp2_with fail
 refine ⟨trivial,?_⟩;refine (callsIn_wide.2 (bw.o _ _)).mono ?_;rintro e w2 ⟨rfl,rfl⟩
 gi_wp2_with fail
 obtain ⟨p,H⟩:∃p,p=((((w.alloc (.cells #[H8 r,H8 c,.slice (some (aq g o)) y d] 344)).alloc (.cells #[.slice B c e] 73)).alloc (.cells #[H8 q] 3)).alloc (.cells #[H8 r,H8 c,.slice (some (aq g o)) y d] 344)):=⟨_,rfl⟩;have Z:p.heap.size=w.heap.size+1+1+1+1:=by rw [H];simp
 have b4:Boxed p (w.heap.size+1) 73 (.slice B c e):=by
  rw [H];have:=((Boxed.new (w.alloc (.cells #[H8 r,H8 c,.slice (some (aq g o)) y d] 344)) 73 (.slice B c e)).alloc (.cells #[H8 q] 3)).alloc (.cells #[H8 r,H8 c,.slice (some (aq g o)) y d] 344);simpa using this
 have b5:Boxed p (w.heap.size+1+1) 3 (H8 q):=by
  rw [H];have:=(Boxed.new ((w.alloc (.cells #[H8 r,H8 c,.slice (some (aq g o)) y d] 344)).alloc (.cells #[.slice B c e] 73)) 3 (H8 q)).alloc (.cells #[H8 r,H8 c,.slice (some (aq g o)) y d] 344);simpa using this
 have J:ap w p:=by rw [H];exact ((((Gb _ w).alloc (F3 _) _).alloc (by simp) _).alloc (by simp;omega) _).alloc (by simp;omega) _
 rw [<-H,<-Z];have bO:=(Boxed.new p 73 (H9)).alloc (.cells #[H8 r,H8 c,.slice (some (aq g o)) y d] 344)
 have bM:((p.alloc (.cells #[H9] 73)).alloc (.cells #[H8 r,H8 c,.slice (some (aq g o)) y d] 344)).heap[p.heap.size+1]?=some (.cells #[H8 r,H8 c,.slice (some (aq g o)) y d] 344 (0,0)):=by
  have:=F4 (p.alloc (.cells #[H9] 73)) (.cells #[H8 r,H8 c,.slice (some (aq g o)) y d] 344);simpa using this
 obtain ⟨a8,u,b8⟩:=ae Z J bM;clear H;clear Z J bM
 refine' wpIn_rangeFunc_ownG (F:=Fence.wide) (n:=3) rfl ao (gf:=255) (lb:=#[(ar (p.heap.size+1))]) rfl trivial (enters_of func255 (by kernel_rfl) rfl)
  (j7 _ (p.heap.size+1) w.heap.size g o r c y d hr.2 hc a4.o hd _ b8.o) iL (iM (by have:=u.o.size;simp;omega) (by simp)) (Gb _ _) (λ_=>rfl)
  (λ(i:List (Fin r)) W=>((∃v,Boxed W p.heap.size 73 v/\W.ownsRow w.heap.size 2 1 v i.length (az .i64 (i.map λk=>rA (kK R c k.1) xs q))/\True)/\Boxed W (w.heap.size+1) 73 (.slice B c e)/\Boxed W (w.heap.size+1+1) 3 (H8 q)/\W.heap[p.heap.size+1]?=some (.cells #[H8 r,H8 c,.slice (some (aq g o)) y d] 344 (0,0)))/\ap w W)
  (λ_ _ _=>False)
  (OwnFrom.and (OwnFrom.and (Own.from (holdsRow_own w.heap.size p.heap.size 73 2 1 (λi:List (Fin r)=>i.length) (λi=>az .i64 (i.map λk=>rA (kK R c k.1) xs q)) (λ_ _=>True)) _) (OwnFrom.and (ez _ _ _ rfl) (OwnFrom.and (ez _ _ _ rfl) (ez _ _ _ rfl)))) (ownFrom_below (F3 _) (by have:=u.o.size;simp;omega)))
  (λ_ _ _ _ _ hs _ _=>hs)
  ⟨⟨⟨_,bO,Gj _ _ _ _,trivial⟩,(b4.alloc _).alloc _,(b5.alloc _).alloc _,b8.o⟩,(u.o.alloc (by have:=u.o.size;omega) _).alloc (by have:=u.o.size;simp;omega) _⟩
  _ ?assign ?body ?done ?stop
 case assign=>
  intro l x W K hK;unfold lC
  gi_wp2
  exact hK
 case body=>
  rintro l i x W ⟨⟨⟨v,hv,C,_⟩,N,O,Y⟩,Q⟩ b1;have bz:=N.cell;have bN:=O.cell;obtain ⟨Hv,a7,HM,L,H4,H5,bX⟩:=ai hv C Y Q N O b1;clear hv C Y Q N O b1
  gi_wp2_with fail
  refine ⟨trivial,?_⟩;refine (CallsIn.inRound l (callsIn_wide.2 (BI r c x.1 g o R B xs _ q W x.2 hc (bn.o.trans a4.o) (HA.o.below L.o) WM.o (HB.o.below L.o) bo.o WX.o))).mono ?_;rintro e w3 ⟨rfl,A⟩;have a1:Boxed w3 p.heap.size 73 v:=(A.block _ (Boxed.lt Hv.o)).trans Hv.o;have bA:=a1.cell;have I:=aA a7.o A;have a5:w.heap.size<=w3.heap.size:=Ge L.o.size A.size;have b3:w.heap.size<=p.heap.size:=u.o.size;have b7:i.length<r:=bX.o;have U:=(A.block _ (F1 HM.o)).trans HM.o;have V:=(A.block _ (F1 H4.o)).trans H4.o;have T:=(A.block _ (F1 H5.o)).trans H5.o;obtain ⟨ak,ax,ad,bI,b2,a0,bV,bs⟩:=aj U V T a1 A I a5 b3;have aM:=aa b7;clear a1 A I a5 b3 b7 U V T bz bN;obtain ⟨dv,a2⟩:∃dv,dv=rA (kK R c x.1) xs q:=⟨_,rfl⟩;have bG:=aa a2;rw [<-a2];clear a2
  gi_wp2_with (gi_at_builtin;refine jW iX w3 rfl (.tmp 34) (.tmp 36) rfl w.heap.size p.heap.size v i.length _ rfl bI.o (by decide) a0.o [H8 dv] rfl rfl (bS .i64 [dv]) (by have:=aM.o;have:=hr.2;omega) (by have:=aM.o;have:=hr.2;unfold maxLen;omega) bV.o bs.o ?_)
  intro g1 c1 w1 k1 k2 k3 k4 k5 k6;have c7:=k1.cell;have c6:=k1.frozen;obtain ⟨K2,K3,K4,K5,K6⟩:=ag k2 k3 k4 k5 k6;clear k1 k2 k3 k4 k5 k6 bA
  gi_wp2_with fail
  have bh:Below w.heap.size W (w1.setCell (aq p.heap.size 0) (.slice (some (aq g1 0)) (i.length+1) c1)):=(b2.o.mono L.o.size).trans K5.o;have bl:p.heap.size+1≠p.heap.size:=ao;have bi:w.heap.size+1≠p.heap.size:=by have:=a8.o;omega
  have bb:w.heap.size+1+1≠p.heap.size:=by have:=a8.o;omega
  have a6:=K6.o _ _ _ _ _ bl (by decide) ak.o;refine ⟨((KeepsOthers.of_grownBy (row:=none) (iV b2.o) (λ_ _ h=>by cases h)).trans K4.o).from _,⟨bh,λ_=>a6.trans HM.o.symm⟩,⟨⟨_,K2.o,?_,trivial⟩,K6.o _ _ _ _ _ bi (by decide) ax.o,K6.o _ _ _ _ _ bb (by decide) ad.o,a6⟩,L.o.trans bh⟩;have h:=K3.o;rw [bG.o] at h;simpa [az] using h
 case done=>
  rintro D ys W hD rfl ⟨⟨⟨v,hv,C,_⟩,N,O,Y⟩,Q⟩ hK;have hc:=hv.cell
  gi_wp2
  refine ⟨by simp,.inl ⟨_,_,rfl,run_takeDeferred hK,?_⟩⟩;obtain ⟨A',c',rfl,_⟩:=aE C;rw [List.length_finRange,Bw] at *;refine ⟨.tuple #[.slice A' r c',.bool true],by simp [results,results253,go_sem],A',c',rfl,ownsRow_putObj C _ hK rfl,Q.trans (belowK_b (w:=w) (F3 _) W D _ _ (by have:=u.o.size;simp at hD;omega) hK rfl rfl)⟩
 case stop=>
  rintro D c i W _ _ h _;exact h.elim
end Go.Proofs.YtindmkcnjlgomaaGreat
namespace Go.Proofs.YtindmkcnjlgomaaGreat
open Go.RowKit
open Tryz
def sA (l:N1):N1:=cY l.length λi=>max (nth l i) 0
def zL (sz ps:N1) (q:Int) (k:Nat) (v:N1):N1:=ij (By (wL sz ps k) (szN sz (k+1)) (szN sz k) v q) (bL sz ps k)
def eS (sz ps:N1) (q:Int) (x:N1):Nat->N1
 | 0=>x
 | k+1=>if k+1<sz.length-1 then sA (zL sz ps q k (eS sz ps q x k)) else zL sz ps q k (eS sz ps q x k)
theorem W64.nth {l:N1} (h:W64 l) (k:Nat): -9223372036854775808<=nth l k/\nth l k<=9223372036854775807:=by
 by_cases hk:k<l.length
 ·exact h k hk
 ·have:Go.Proofs.YtindmkcnjlgomaaGreat.nth l k=0:=by unfold Go.Proofs.YtindmkcnjlgomaaGreat.nth;simp [List.getD,List.getElem?_eq_none (show l.length<=k by omega)]
  omega
theorem zJ {ps:N1} (h:W64 ps) (sz:N1) (k:Nat):W64 (wL sz ps k):=eh λ_ _=>h.nth _
theorem Bv (h:N1) (r c:Nat) (xs:N1) (q:Int):(By h r c xs q).length=r:=aZ _ _
theorem iE (xs h:N1):(ij xs h).length=xs.length:=aZ _ _
theorem pp (xs h:N1):W64 (ij xs h):=eh λ_ _=>fj _
theorem yc (l:N1):(sA l).length=l.length:=aZ _ _
theorem yd {l:N1} (h:W64 l):W64 (sA l):=eh λk _=>by have:=h.nth k;omega
theorem tW (sz ps:N1) (q:Int) (k:Nat) (v:N1):(zL sz ps q k v).length=szN sz (k+1):=by unfold zL;rw [iE,Bv]
theorem zD (sz ps:N1) (q:Int) (k:Nat) (v:N1):W64 (zL sz ps q k v):=pp _ _
theorem jl {sz ps:N1} {q:Int} {x:N1} (h:x.length=szN sz 0) (k:Nat):(eS sz ps q x k).length=szN sz k:=by
 cases k with
 | zero=>exact h
 | succ k=>
  unfold eS
  split
  ·rw [yc,tW]
  ·rw [tW]
theorem rO {sz ps:N1} {q:Int} {x:N1} (h:W64 x) (k:Nat):W64 (eS sz ps q x k):=by
 cases k with
 | zero=>exact h
 | succ k=>
  unfold eS
  split
  ·exact yd (zD _ _ _ _ _)
  ·exact zD _ _ _ _ _
def mb (w:N5) (vals:N4) (n:Nat) (f:Nat->N1):Prop:=vals.length=n/\∀j,j<n->∃A c,vals[j]?=some (.slice A (f j).length c)/\(f j).length<=c/\Rd w A (az .i64 (f j))
theorem mb.below {w i:N5} {vals:N4} {n:Nat} {f:Nat->N1} (h:mb w vals n f) (hb:ap w i):mb i vals n f:=
 ⟨h.1,λj o=>by obtain ⟨A,c,u,p,v⟩:=h.2 j o;exact ⟨A,c,u,p,v.below hb⟩⟩
theorem m6:cW prog 63 73 (H9) 1 24:=⟨underlying63,info_parts (by kernel_rfl),rfl,by decide⟩
theorem ug (P base:Nat) (A B:N0) (n c m d:Nat) (xs:N4) (w:N5) (I:w.heap[P]?=some (.cells #[.slice A n c] 63 (0,0))) (Q:w.ownsRow base 73 1 (.slice A n c) n xs) (hn:n<=1000000) (u:base<=w.heap.size) (a0:base<=P):Calls prog 252 #[.slice B m d,(ar P)] w λe J=>(∃v,e=.returned v)/\∃O x,J.heap[P]?=some (.cells #[.slice O (n+1) x] 63 (0,0))/\J.ownsRow base 73 1 (.slice O (n+1) x) (n+1) (xs++[.slice B m d])/\
   Keep (λi=>i=P\/(Value.slice A n c).ownBlock=some i) w J:=by
 obtain ⟨p0,pf⟩:=bx1 I;have L:=F1 I;obtain ⟨T,R⟩:=ab I Q;clear I Q;go_enter func252,ntmps252;go_wp2_with (at_builtin;refine bJ m6 w rfl (.tmp 3) (.tmp 5) rfl base (.slice A n c) n xs rfl R.o [.slice B m d] rfl rfl (by simp [Value.oneCell']) ao (by unfold maxLen;omega) u ?_);intro g x H y N h;have p:=(h.block P L (aw T.o (by decide) R.o)).trans T.o;have h:Keep (λi=>i=P\/(Value.slice A n c).ownBlock=some i) w H:=(Keep.refl _ w).grown h (λk hk=>.inr (.inr hk));obtain ⟨q0,qf⟩:=bx1 p;obtain ⟨C,D,Y⟩:=ae p y h;clear p y N h;go_wp2_with fail;have h9:=HE H P 0 _ _ (.slice (some (aq g 0)) (n+1) x) C.o;have V:Keep (λi=>i=P) H (H.setCell (aq P 0) (.slice (some (aq g 0)) (n+1) x)):=Keep.setCell (S:=λi=>i=P) (Keep.refl _ _) (aq P 0) (.inr rfl) _;have o9:=V.own D.o (λi Z e=>aw C.o (by decide) D.o (by rw [Z,e]));have U:=Y.o.setCell (aq P 0) (.inr (.inl rfl)) (.slice (some (aq g 0)) (n+1) x)
 go_end0
 exact ⟨⟨_,rfl⟩,_,_,h9,o9,U⟩
theorem gT:cW prog 22 3 (H8 0) 1 8:=⟨underlying22,info_parts (by kernel_rfl),rfl,by decide⟩
theorem kl (A:N0) (zs:N1) (c:Nat) (w:N5) (B:Rd w A (az .i64 zs)) (hl:zs.length<=17592186043904):Calls prog 101 #[.slice A zs.length c] w λe y=>∃v,e=.returned v/\y.ownsRow w.heap.size 3 1 v zs.length (az .i64 zs)/\ap w y:=by
 have q:=λ(w:N5)=>Lib.run_eql_slice_nil (P:=prog) w 22 3 A zs.length c 0 0 underlying22
 cases A with
 | none=>
  have C:zs=[]:=by
   cases zs with
   | nil=>rfl
   | cons z l=>obtain ⟨b,o,h,_⟩:=B 0 _ rfl;cases h
  subst C;clear q;have q:=λ(w:N5)=>Lib.run_eql_slice_nil (P:=prog) w 22 3 none 0 c 0 0 underlying22;simp only [Option.isNone_none] at q;rw [List.length_nil];go_enter func101,ntmps101;go_wp2;go_ret;exact ⟨_,rfl,Gj _ _ _ _,Gb _ _⟩
 | some a=>
  go_enter func101,ntmps101;go_wp2_with (at_builtin;refine eH gT _ rfl (.tmp 5) (.tmp 6) rfl w.heap.size _ 0 [] rfl (fW w 3 1) _ zs.length c (az .i64 zs) rfl (B.alloc _) (by rw [aS];omega) (bS _ _) ao (by unfold maxLen;omega) (by simp) ?_);intro I H D i hb _ _;have u:=((Gb _ w).alloc (F3 _) (.cells #[] 3)).trans hb;obtain ⟨p,x⟩:=ab i u;clear i hb u;go_wp2;go_ret;exact ⟨_,rfl,p.o,x.o⟩
theorem jq (b:Nat) (sz:N1) (w:N5) (h:bF 199 w b sz) (hl:sz.length<=17592186043904):Calls prog 227 #[(ar b)] w λe x=>∃A c,e=.returned (.slice A sz.length c)/\x.ownsRow w.heap.size 3 1 (.slice A sz.length c) sz.length (az .i64 sz)/\ap w x:=by
 obtain ⟨A1,c1,Y,c2,V,c3,y,B,D,O⟩:=h;obtain ⟨⟨J,H,Q,C⟩,L⟩:=bx4 y;have hc:=kl A1 sz c1 w B hl;have I:=aa hc;clear hc y B D O;go_enter func227,ntmps227;go_wp2_with fail;refine I.o.mono ?_;rintro e R ⟨v,rfl,i,hb⟩;obtain ⟨U,T,rfl,u⟩:=aE i;obtain ⟨p,N⟩:=ab i hb;clear i hb u;clear J H Q C L;go_wp2;go_ret;exact ⟨_,_,rfl,p.o,N.o⟩
theorem gL (b:Nat) (sz:N1) (w:N5) (h:bF 199 w b sz):Calls prog 228 #[(ar b)] w λe o=>e=.returned (H8 ((sz.length-1:Nat):Int))/\w=o:=by
 obtain ⟨A1,c1,B,c2,y,c3,i,u,p,v⟩:=h;obtain ⟨⟨D,C,x,A⟩,H⟩:=bx4 i;clear i u p v;go_enter func228,ntmps228;go_wp2;go_ret;exact ⟨rfl,rfl⟩
theorem gM (b:Nat) (sz:N1) (w:N5) (h:bF 199 w b sz):Calls prog 67 #[(ar b)] w λe o=>e=.returned (H8 (bZ sz (sz.length-1):Int))/\w=o:=by
 obtain ⟨A1,c1,B,c2,y,c3,i,u,p,v⟩:=h;obtain ⟨⟨D,C,x,A⟩,H⟩:=bx4 i;clear i u p v;go_enter func67,ntmps67;go_wp2;go_ret;exact ⟨rfl,rfl⟩
theorem jZ (b:Nat) (sz:N1) (k:Nat) (w:N5) (h:bF 199 w b sz) (hl:sz.length<=17592186043904) (hk:k<sz.length-1):Calls prog 229 #[(ar b),H8 k] w λe p=>e=.returned (.agg #[H8 (bZ sz k:Int),H8 (db sz k:Int)])/\ap w p:=by
 have i:=λp (hb:ap w p)=>gL b sz p (h.below hb);have Q:=h.lt;obtain ⟨A1,c1,A2,c2,A3,c3,y,O,u,D⟩:=h;obtain ⟨n,hn⟩:∃n,sz.length-1=n:=⟨_,rfl⟩;rw [hn] at y u D hk i;obtain ⟨⟨Z,Y,r2,V⟩,rf⟩:=bx4 y;obtain ⟨H,C⟩:=zI sz hk;obtain ⟨b2,B,rfl,R⟩:=u _ _ H;obtain ⟨N,I,A,L⟩:=u _ _ C;injection A with A;injection A with e3 e4 _
 subst e3;subst e4;rw [show B+(k*2+1)=B+k*2+1 by omega] at L;have U:=aC R;have x:=aa i;have T:n<=17592186043904:=ao;clear i y O u D H C hn hl;go_enter func229,ntmps229;go_wp2_with fail;refine (x.o _ ?_).mono ?_
 ·exact am
 rintro e p ⟨rfl,rfl⟩;have J:(k:Int)<n:=ao;go_wp2_with fail;refine Gm (v:=.agg #[H8 (bZ sz k:Int),H8 (db sz k:Int)]) (by simp [results,results229,go_sem]) rfl ⟨rfl,?_⟩;exact am
theorem kz (b:Nat) (sz:N1) (k:Nat) (w:N5) (h:bF 199 w b sz) (hl:sz.length<=17592186043904) (hk:k<sz.length-1):Calls prog 230 #[(ar b),H8 k] w λe p=>e=.returned (.agg #[H8 (db sz k:Int),H8 (bZ sz (k+1):Int)])/\ap w p:=by
 have i:=λp (hb:ap w p)=>gL b sz p (h.below hb);have Q:=h.lt;obtain ⟨A1,c1,A2,c2,A3,c3,y,O,B,u⟩:=h;obtain ⟨n,hn⟩:∃n,sz.length-1=n:=⟨_,rfl⟩;rw [hn] at y B u hk i;obtain ⟨⟨Z,Y,r2,V⟩,rf⟩:=bx4 y;obtain ⟨H,D⟩:=CS sz hk;obtain ⟨b2,C,rfl,R⟩:=u _ _ H;obtain ⟨N,I,A,L⟩:=u _ _ D;injection A with A;injection A with e3 e4 _
 subst e3;subst e4;rw [show C+(k*2+1)=C+k*2+1 by omega] at L;have U:=aC R;have x:=aa i;have T:n<=17592186043904:=ao;clear i y O B u H D hn hl;go_enter func230,ntmps230;go_wp2_with fail;refine (x.o _ ?_).mono ?_
 ·exact am
 rintro e p ⟨rfl,rfl⟩;have J:(k:Int)<n:=ao;go_wp2_with fail;refine Gm (v:=.agg #[H8 (db sz k:Int),H8 (bZ sz (k+1):Int)]) (by simp [results,results230,go_sem]) rfl ⟨rfl,?_⟩;exact am
theorem Fq (b:Nat) (sz ps:N1) (q:Int) (A:N0) (m c:Nat) (w:N5) (h:iH 199 342 w b sz ps q) (p:cP sz) (hm:m≠szN sz 0):Calls prog 243 #[(ar b),.slice A m c] w λe I=>e=.returned (.tuple #[H9,.bool false])/\ap w I:=by
 obtain ⟨S,Ap,cp,Al,cl,rows,v,x,J,V,O,T,h6⟩:=h;obtain ⟨⟨Q,L,Z,D⟩,R⟩:=bx4 v;have y:=jq S sz w x (by have:=p.1.1.2;omega);have B:=p.1.at (k:=0) (by have:=p.1.1.1;omega);have i:0<sz.length:=by have:=p.1.1.1;omega
 have H:((m:Int) != (szN sz 0:Int))=true:=by simp;omega
 obtain ⟨N,Y⟩:=ab y B.2.2;clear y v x J V O T h6 p B hm;go_enter func243,ntmps243;go_wp2_with fail;refine N.o.mono ?_;rintro e w1 ⟨A1,c1,rfl,u,hb⟩;obtain ⟨g,c',C,_,_⟩:=u.form i;simp only [GT] at C;obtain ⟨rfl,_,rfl⟩:=C;have p0:=cL u i;rw [Y.o] at p0;have U:=aa hb;clear hb u Q L Z D R;go_wp2;go_ret2;exact ⟨rfl,U.o⟩
theorem yt (w:N5) (e:N6) (v:Value) (base:Nat) (hb:base<=w.heap.size):(w.alloc (.cells #[v] e)).ownsRow base e 1 (.slice (some (aq w.heap.size 0)) 1 1) 1 [v]:=
 ⟨by simp,.inr ⟨w.heap.size,1,#[v],rfl,hb,F4 w _,F3 _,by unfold maxLen;omega,by simp,by simp⟩⟩
def Fh (sz ps:N1) (q:Int) (x:N1) (P n₀:Nat) (k:Nat) (o w:N5):Prop:=
 ∃A c vals,w.heap[P]?=some (.cells #[.slice A (k+1) c] 63 (0,0))/\w.ownsRow n₀ 73 1 (.slice A (k+1) c) (k+1) vals/\
  (∀j,j<=k->∃i h,vals[j]?=some (.slice i (szN sz j) h)/\w.ownsRow n₀ 2 1 (.slice i (szN sz j) h) (szN sz j) (az .i64 (eS sz ps q x j)))/\Below n₀ o w
theorem zP (b:Nat) (sz ps:N1) (q:Int) (A:N0) (x:N1) (c:Nat) (w:N5) (h:iH 199 342 w b sz ps q) (hg:cP sz) (wp:W64 ps) (hA:Rd w A (az .i64 x)) (hx:x.length=szN sz 0) (wx:W64 x):Calls prog 243 #[.pointer (some ⟨b,0,none⟩),.slice A x.length c] w λe O=>∃A' c' vals,e=.returned (.tuple #[.slice A' sz.length c',.bool true])/\Rd O A' vals/\mb O vals sz.length (eS sz ps q x)/\sz.length<=c'/\ap w O:=by
 have cv:=h.lt;obtain ⟨S,Ap,cp,Al,cl,rows,h0,h1,h2,h3,h4,h5,h6⟩:=h;obtain ⟨⟨r0,r1,r2,r3⟩,rf⟩:=bx4 h0;have z0:=hg.1.at (k:=0) (by have:=hg.1.1.1;omega);have hs:=jq S sz w h1 (by have:=hg.1.1.2;omega);have B:=λO (k:ap w O)=>cT A x c O (hA.below k) ao;obtain ⟨n,hn⟩:∃n,sz.length-1=n:=⟨_,rfl⟩;have b4:sz.length=n+1:=by have:=hg.1.1.1;omega
 have f3:1<=n/\n<=15:=by have:=hg.1.1;omega
 obtain ⟨m,hm⟩:∃m,szN sz 0=m:=⟨_,rfl⟩;rw [hn] at r3 h4 h6;rw [hx,hm] at B ⊢;have b6:0<sz.length:=ao;have bi:((m:Int) != (m:Int))=false:=by simp
 have f9:m<=1048576:=by rw [<-hm];exact z0.2.1
 rw [hm] at z0;obtain ⟨Hs,Z0,ef,HG,Hn,b2,Hm,H0⟩:=aj hs z0.2.2 B hg hn b4 hm h0;obtain ⟨H3,H4,H5,H6,WP,WX,Hx,HA⟩:=aj h3 h4 h5 h6 wp wx hx hA;clear hs B h0 h1 h2 h3 h4 h5 h6 hg z0 hm hn b4 wp wx hx hA;go_enter func243,ntmps243;go_wp2_with fail;refine Hs.o.mono ?_;rintro e w1 ⟨A1,c1,rfl,ho,hb⟩;obtain ⟨g,c',hv,_,_⟩:=ho.form b6;simp only [GT] at hv;obtain ⟨rfl,_,rfl⟩:=hv;have p0:=cL ho b6;rw [Z0.o] at p0;have Hb:=aa hb;clear hb ho r0 r1 r2 r3 rf;go_wp2_with fail;refine (ef.o _ Hb.o).mono ?_;rintro e w2 ⟨A2,c2,rfl,f2,cr,cn⟩;have aM:=Hb.o.trans (cn.mono Hb.o.size);have ak:=(aM.block b cv).trans H0.o;obtain ⟨⟨r0,r1,r2,r3⟩,rf⟩:=bx4 ak;have er:=F1 ak;have dw:=Hx.o;rw [Hm.o] at dw;have b5:=Hb.o.size;obtain ⟨ds,ad,ey⟩:=ae (aG cr b5) aM ak;clear cr cn aM ak b5;rw [Hn.o] at r3;go_wp2_with fail
 go_loopw [37] (λi wr=>∃k:Nat,k<=n/\i=H8 k/\Fh sz ps q x (w2.heap.size+1) w.heap.size k w wr) (λi _=>n-(intOf i).toNat)
 case atStart=>
  refine ⟨0,Gc _,rfl,some ⟨w2.heap.size,0,none⟩,1,[.slice A2 m c2],?_,?_,?_,?_⟩
  ·have:=F4 (w2.alloc (.cells #[.slice A2 m c2] 73)) (.cells #[.slice (some ⟨w2.heap.size,0,none⟩) 1 1] 63);simpa using this
  ·exact (yt w2 73 (.slice A2 m c2) w.heap.size ad.o.size).alloc _
  ·intro j hj;obtain rfl:j=0:=ao;refine ⟨A2,c2,by rw [Hm.o];rfl,?_⟩;rw [Hm.o];exact (ds.o.alloc _).alloc _
  ·have aM:=ad.o;have f5:=ad.o.size;exact am
 case round=>
  obtain ⟨k,hk,rfl,Ao,co,vals,hP,ho,hv,hW⟩:=hrel;have dp:k<sz.length:=by have:=b2.o;omega
  have b3:=(hW.block b cv).trans H0.o;obtain ⟨⟨r0,r1,r2,r3⟩,rf⟩:=bx4 b3;obtain ⟨p0,pf⟩:=bx1 hP;obtain ⟨go,eu,d1,fb,_⟩:=ho.form ao;simp only [GT] at d1;obtain ⟨rfl,dO,rfl⟩:=d1;clear dO;have dT:=F1 hP;have eY:b<wr.heap.size:=F1 b3;have hz:=hW.size;obtain ⟨HP,Ho,Hv,HW,f7⟩:=ag hP ho hv hW b3;clear hP ho hv hW b3;rw [Hn.o] at r3;by_cases L:k<n
  ·have hR:=HG.o.1;have d6:k+1<sz.length:=by have:=b2.o;omega
   have z0:=hR.at dp;have z1:=hR.at d6;have d2:=HG.o.mul d6;obtain ⟨gl,ol,dl,Bl,el,ci,hd,cw,hrb⟩:=H6.o k L;have hrl:(bH rows k).length=4:=H5.o _ (by rw [pX (by rw [H4.o];exact L)];exact List.getElem_mem _);have B:∀t,t<4->(List.flatten rows)[k*4+t]?=(bH rows k)[t]?:=λt ht=>jA H5.o k t (by rw [H4.o];exact L) ht;have e0:=B 0 ao;have R:=B 1 ao;have e2:=B 2 ao;have e3:=B 3 ao;rw [ci] at e0 R e2 e3;simp only [Nat.add_zero,Gz,Gy] at e0 R e2 e3;obtain ⟨bl,oo,e5,q0⟩:=H3.o _ _ e0;obtain ⟨_,_,Y,q1⟩:=H3.o _ _ R;obtain ⟨_,_,T,q2⟩:=H3.o _ _ e2;obtain ⟨_,_,Z,q3⟩:=H3.o _ _ e3;subst e5;injection Y with Y;injection Y with i1 i2 _;subst i1;subst i2
   injection T with T;injection T with i1 i2 _;subst i1;subst i2
   injection Z with Z;injection Z with i1 i2 _;subst i1;subst i2
   have a8:bl<w.heap.size:=aC q0;have c6:=(HW.o.cell (p:=⟨bl,oo+k*4,none⟩) a8).trans q0;have bo:=(HW.o.cell (p:=⟨bl,oo+(k*4+1),none⟩) a8).trans q1;have bI:=(HW.o.cell (p:=⟨bl,oo+(k*4+2),none⟩) a8).trans q2;have bz:=(HW.o.cell (p:=⟨bl,oo+(k*4+3),none⟩) a8).trans q3;rw [<-GX] at bo bI bz;obtain ⟨Aj,cj,d4,cc⟩:=Hv.o k (F3 _);have pj:=(Rd.own Ho.o) k _ d4;obtain ⟨_,_,ej,pj⟩:=pj;injection ej with ej;injection ej with i1 i2 _;subst i1;subst i2
   rw [GY] at pj;have wv:=rO (sz:=sz) (ps:=ps) (q:=q) WX.o k;have a7:=jl (sz:=sz) (ps:=ps) (q:=q) Hx.o k;have a1:=λW (h:ap wr W)=>BG (szN sz (k+1)) (szN sz k) gl ol (szN sz (k+1)*szN sz k) dl (wL sz ps k) Aj (eS sz ps q x k) cj q W ⟨z1.1,z1.2.1⟩ ⟨z0.1,z0.2.1⟩ rfl hd ao (tY _ _ _) ((cw.below HW.o).below h) (zJ WP.o sz k) ((Rd.own cc).below h) a7 wv;obtain ⟨r,hr⟩:∃r,szN sz (k+1)=r:=⟨_,rfl⟩;obtain ⟨c0,aP⟩:∃c0,szN sz k=c0:=⟨_,rfl⟩;obtain ⟨nn,bM⟩:∃nn,szN sz (k+1)*szN sz k=nn:=⟨_,rfl⟩;rw [bM] at a1 bI d2 hd;rw [hr] at a1 c6 bz z1;rw [aP] at a1 bo z0;have bA:=pj;rw [aP] at bA;have bb:=hrb.below HW.o;obtain ⟨e6,Hr,ec,es,dc,eM⟩:=ah a1 hr aP bM bb a7;clear a1 hr aP bM hrb bb cw hd q0 q1 q2 q3 e0 R e2 e3 B hrl ci pj a7 d4 cc;go_wp2_with fail;obtain ⟨V,hV⟩:∃V,V=wr.alloc (.cells #[H8 r,H8 c0,.slice (some ⟨gl,ol,none⟩) nn dl,.slice Bl r el] 348):=⟨_,rfl⟩;have bn:V.heap[wr.heap.size]?=some (.cells #[H8 r,H8 c0,.slice (some ⟨gl,ol,none⟩) nn dl,.slice Bl r el] 348 (0,0)):=by rw [hV];exact F4 wr _
   have Q:ap wr V:=by rw [hV];exact (Gb _ _).alloc (F3 _) _
   rw [<-hV];clear hV;have v2:=av Q r2;have v3:=av Q r3;have vp:=av Q p0;have vj:=av Q bA;obtain ⟨⟨y0,y1,y2,y3⟩,yf⟩:=bx4 bn;have bX:b<V.heap.size:=aC v2;have ea:w2.heap.size+1<V.heap.size:=aC vp;have f8:wr.heap.size<V.heap.size:=aC y0;have f0:go<V.heap.size:=aC vj;obtain ⟨k1,a4⟩:∃k1,k+1=k1:=⟨_,rfl⟩;have ev:k<k1:=ao;rw [a4] at vp;have f6:=aa a4;clear a4;obtain ⟨H,f4⟩:=ab Q bn;clear Q bn r0 r1 r2 r3 rf p0 pf bA c6 bo bI bz
   go_region_held3 (λO=>O.cell? ⟨wr.heap.size,0,none⟩=some (H8 r)/\O.cell? ⟨wr.heap.size,1,none⟩=some (H8 c0)/\O.cell? ⟨wr.heap.size,2,none⟩=some (.slice (some ⟨gl,ol,none⟩) nn dl)/\O.cell? ⟨w2.heap.size+1,0,none⟩=some (.slice (some ⟨go,0,none⟩) k1 co)/\O.cell? ⟨go,k,none⟩=some (.slice Aj c0 cj)/\O.cell? ⟨b,2,none⟩=some (H8 q)) (simp [go_sem, *])
    ((go_at_call 253;refine (e6.o V.drew H.o.drew).mono ?_;rintro e w5 ⟨A5,c5,rfl,bO,y⟩;have g0:=av y y0;have g1:=av y y1;have g2:=av y y2;have g3:=av y y3;have g4:=av y vp;have g5:=av y vj;have g6:=av y v2;have g7:=av y v3;obtain ⟨b0,ax⟩:=ab bO y;clear bO y))
   go_wp2_with fail;have bh:ap wr w5:=(H.o.drew).trans (ax.o.mono (by have:=H.o.size;simp;omega))
   have bi:∀a b',A5=some a->Bl=some b'->a.block≠b'.block:=λa b' ha e8=>by
    obtain ⟨b1,o1,R,em⟩:=dc.o.num (k:=0) (by rw [CT,Hr.o];omega);rw [e8] at R;injection R with R
    subst R;have l1:b1<wr.heap.size:=aC em;have l2:=(b0.o.lt a.block (by rw [ha];rfl)).1;have l3:=H.o.size;simp at l2 ⊢;omega
   refine (rG _ A5 Bl _ (bL sz ps k) r c5 el w5 b0.o (dc.o.below bh) (by rw [CT,Hr.o]) ao bi).mono ?_;rintro e w6 ⟨rfl,a2,cf⟩;have c7:ij (By (wL sz ps k) r c0 (eS sz ps q x k) q) (bL sz ps k)=zL sz ps q k (eS sz ps q x k):=by unfold zL;rw [Hr.o,ec.o]
   rw [c7] at a2;have a2:=aG (base':=V.heap.size) a2 (by simp);have a6:∀i,(Value.slice A5 r c5).ownBlock=some i->V.heap.size<=i:=λi hi=>by have:=(b0.o.lt i hi).1;simpa using this
   have a5:ap V w6:=((Gb _ V).drew.trans (ax.o.mono (by simp))).trans (cf.toBelow (by have:=ax.o.size;simpa using this) a6);have u2:=(a5.cell (p:=⟨b,2,none⟩) bX).trans v2;have u3:=(a5.cell (p:=⟨b,3,none⟩) bX).trans v3;have up:=(a5.cell (p:=⟨w2.heap.size+1,0,none⟩) ea).trans vp;obtain ⟨cA,cs,en⟩:=ae a2 a5 a6;have d8:IntKind.i64.wrap ((k:Int)+1)=(k:Int)+1:=Gd _ ao;have ew:=aa d8;clear d8 a2 a5 cf c7 a6 bi b0 ax bh g0 g1 g2 g3 g4 g5 g6 g7 v2 v3 vp vj y0 y1 y2 y3 yf
   go_upto_if 67 with (fail)
   go_cut [] (λwx=>ap V wx/\wx.ownsRow V.heap.size 2 1 (.slice A5 r c5) r (az .i64 (eS sz ps q x (k+1))))
   case first=>
    by_cases bG:k+1<n
    ·have D:eS sz ps q x (k+1)=sA (zL sz ps q k (eS sz ps q x k)):=by
      have:=Hn.o
      show (if k+1<sz.length-1 then _ else _)=_
      rw [if_pos ao]
     have U:=tW sz ps q k (eS sz ps q x k);rw [Hr.o] at U;obtain ⟨z,hz⟩:∃z,zL sz ps q k (eS sz ps q x k)=z:=⟨_,rfl⟩;rw [hz] at U D;have N:=cA.o;rw [hz] at N;have b8:=fY z (λi=>max (nth z i) 0);unfold sA at D;rw [<-b8,U] at D;obtain ⟨dn,bw,bv⟩:=ae U N D;clear b8 U hz D N u2 u3 up;go_wp2_with fail;have b7:decide ((k:Int)+1<n)=true:=GZ ao;rw [b7];clear bG b7
     go_loopw [70] (λi wx=>∃j:Nat,j<=r/\i=H8 j/\wx.ownsRow V.heap.size 2 1 (.slice A5 r c5) r (az .i64 (gS z j (λi=>max (nth z i) 0)))/\ap V wx) (λi _=>r-(intOf i).toNat)
     ·exact ⟨0,Gc _,rfl,by rw [fu];exact bw.o,cs.o⟩
     case round=>
      obtain ⟨j,hj,rfl,v,C⟩:=hrel;by_cases L:j<r
      ·obtain ⟨g7,d7,d3,e9,_⟩:=v.form ao;simp only [GT] at d3;obtain ⟨rfl,ee,rfl⟩:=d3;clear ee;have bs:j<z.length:=by rw [dn.o];exact L
       have p1:=cL v L;rw [eQ _ bs,if_neg ao] at p1;have f1:=v.frozenAt j;have cb:=fX (l:=z) (k:=j) (λi=>max (nth z i) 0) bs;obtain ⟨HO,HB,dv⟩:=ae v C cb;clear v C cb bs;go_wp2_with fail;refine (AN _ _).mono ?_;rintro e w9 ⟨rfl,rfl⟩;go_wp2_with fail;go_roundw
       ·exact ⟨j+1,by omega,by go_num,by rw [<-dv.o];exact eD HO.o j _,HB.o.setCell (p:=⟨g7,j,none⟩) e9 _⟩
       ·simp [intOf];omega
      ·obtain rfl:j=r:=ao;obtain ⟨HO,HB⟩:=ab v C;clear v C;go_wp2_with fail;go_meet;exact ⟨HB.o,by rw [bv.o];exact HO.o⟩
    ·have D:eS sz ps q x (k+1)=zL sz ps q k (eS sz ps q x k):=by
      have:=Hn.o
      show (if k+1<sz.length-1 then _ else _)=_
      rw [if_neg ao]
     have bv:=aa D;clear D;go_wp2_with fail;go_meet;exact ⟨cs.o,by rw [bv.o];exact cA.o⟩
   case rest=>
    obtain ⟨C,N⟩:=hcut;have J:ap wr wc:=H.o.trans (C.mono H.o.size);have cx:=(J.block _ dT).trans HP.o;have bd:=aA Ho.o J;obtain ⟨eX,bw,bN,I,a3⟩:=ag C N cx bd J;clear C N cx bd J u2 u3 up;have cd:w.heap.size<=wc.heap.size:=by have:=a3.o.size;omega
    have d5:w.heap.size<=w2.heap.size+1:=by have:=ad.o.size;omega
    have bV:=ug (w2.heap.size+1) w.heap.size (some ⟨go,0,none⟩) A5 (k+1) co r c5 vals wc bN.o I.o ao cd d5;have eb:=aa bV;clear bV;go_wp2_with fail;refine eb.o.mono ?_;rintro e w8 ⟨⟨v8,rfl⟩,A8,c8,ei,dA,cS⟩
    have dk:ap w w8:=(HW.o.trans (a3.o.mono HW.o.size)).trans (cS.toBelow cd (λi hi=>by
     rcases hi with rfl | hi
     ·exact d5
     ·exact (I.o.lt i hi).1))
    have a0:∀{m:Nat} {u:Value} {ys:N4},wc.ownsRow w.heap.size 2 1 u m ys->w8.ownsRow w.heap.size 2 1 u m ys:=λh=>cS.own h (λi hi e=>by
     rcases e with rfl | e
     ·exact aw bN.o (by decide) h hi.symm
     ·exact lH I.o h (by decide) i e hi)
    have eo:=I.o.1;go_wp2_with fail;go_roundw
    case rel=>
     refine ⟨k+1,by omega,by go_num,A8,c8,vals++[.slice A5 r c5],ei,dA,λj hj=>?_,dk⟩;rcases Gn j (k+1) with e4 | e4
     ·obtain ⟨Aj,cj,h1,h2⟩:=Hv.o j ao;exact ⟨Aj,cj,by rw [GH ao];exact h1,a0 (aA h2 a3.o)⟩
     ·obtain rfl:j=k+1:=ao;refine ⟨A5,c5,?_,?_⟩
      ·rw [GK ao,Hr.o];simp [show vals.length=k+1 by omega]
      ·rw [Hr.o];exact a0 (aG bw.o (by have:=H.o.size;omega))
    case measure=>simp [intOf];omega
  ·obtain rfl:k=n:=ao;have b4:=b2.o
   have d0:mb wr vals sz.length (eS sz ps q x):=by
    refine ⟨?_,λj hj=>?_⟩
    ·have:=Ho.o.1;omega
    ·obtain ⟨Aj,cj,h1,h2⟩:=Hv.o j ao;have a7:=jl (sz:=sz) (ps:=ps) (q:=q) Hx.o j;obtain ⟨A',c',e,hc⟩:=aE h2;injection e with R e2 e3
     subst R;subst e3;rw [a7];exact ⟨_,_,h1,hc,Rd.own h2⟩
   have d9:sz.length<=co:=by
    obtain ⟨A',c',e,hc⟩:=aE Ho.o;injection e with R e2 e3
    omega
   have c9:=Rd.own Ho.o;obtain ⟨dG,e7,ek⟩:=ae c9 d0 d9;clear c9 d0 d9;clear b4;go_wp2_with fail;go_ret2;exact ⟨some ⟨go,0,none⟩,co,vals,(by rw [b2.o];rfl),dG.o,e7.o,ek.o,HW.o⟩
def mG (a y:N1):N1:=cY a.length λi=>wrap64 (nth a i-nth y i)
theorem yL (a y:N1):(mG a y).length=a.length:=aZ _ _
theorem yM (a y:N1):W64 (mG a y):=eh λ_ _=>fj _
theorem DN (b:Nat) (sz ps:N1) (q:Int) (A B:N0) (x y:N1) (c d:Nat) (w:N5) (h:iH 199 342 w b sz ps q) (hg:cP sz) (wp:W64 ps) (hA:Rd w A (az .i64 x)) (hx:x.length=szN sz 0) (wx:W64 x) (hB:Rd w B (az .i64 y)) (hy:y.length=szN sz (sz.length-1)):Calls prog 236 #[(ar b),.slice A x.length c,.slice B y.length d] w λe H=>∃A' c' D dc vals,e=.returned (.tuple #[.slice A' sz.length c',.slice D y.length dc,.bool true])/\Rd H A' vals/\mb H vals sz.length (eS sz ps q x)/\sz.length<=c'/\
   H.ownsRow w.heap.size 2 1 (.slice D y.length dc) y.length (az .i64 (mG (eS sz ps q x (sz.length-1)) y))/\ap w H:=by
 have ht:=zP b sz ps q A x c w h hg wp hA hx wx;have hv:=jl (sz:=sz) (ps:=ps) (q:=q) hx (sz.length-1);have hl:=hg.1.1;have ad:=(hg.1.at (k:=sz.length-1) ao).2.1;have I:((y.length:Int) != (szN sz (sz.length-1):Int))=false:=by simp;omega
 obtain ⟨n,hn⟩:∃n,sz.length=n:=⟨_,rfl⟩;obtain ⟨m,hm⟩:∃m,y.length=m:=⟨_,rfl⟩;rw [hn] at ht hl hv I hy ad ⊢;rw [<-hy,hm] at hv I ad;rw [hm];obtain ⟨a,ha⟩:∃a,eS sz ps q x (n-1)=a:=⟨_,rfl⟩;have L:=fY a (λi=>wrap64 (nth a i-nth y i));rw [ha] at hv ⊢;unfold mG;rw [<-L,hv];clear L;have Ha:=aa ha;clear ha;obtain ⟨Ht,Hv,HB,Hm⟩:=af ht hv hB hm;clear ht h hg wp hA hx wx hn hv hm hB hy;obtain ⟨b8,bh⟩:=hl;go_enter func236,ntmps236;go_wp2_with fail;refine Ht.o.mono ?_;rintro e w1 ⟨A',c',vals,rfl,hr,Y,hc,hb⟩;obtain ⟨Aj,cj,e1,e2,e3⟩:=Y.2 (n-1) ao;rw [Ha.o,Hv.o] at e1 e2;rw [Ha.o] at e3;have ak:=hr;obtain ⟨bo,oo,rfl,p0⟩:=hr _ _ e1;have a1:(n:Int)-1=((n-1:Nat):Int):=ao;have hw:IntKind.i64.wrap ((n:Int)-1)=((n-1:Nat):Int):=by rw [Gd _ ao];omega
 have hi:((n-1:Nat):Int)<n:=ao;have aP:n-1<n:=ao;have Q:=Hv.o;have Z:=cT Aj a cj w1 e3 ao;rw [Q] at Z;obtain ⟨b4,b6,Hb,b1,b5,Hc⟩:=ah Z Q hb Y ak hc;clear hr ak Y e1 e2 e3 hb Z Q hc;rw [a1] at hw;go_wp2_with fail;refine b4.o.mono ?_;rintro e w2 ⟨D,dc,rfl,b7,v,V⟩;have a5:=Hb.o.trans (V.mono Hb.o.size);have aM:=Hb.o.size;have a4:=aa v;have v:=aG v aM;obtain ⟨a2,a0,a7⟩:=ae a5 v V;clear a5 v V p0 hw a1 hi aP I;go_wp2_with fail
 go_loopw [42] (λi wr=>∃k:Nat,k<=m/\i=H8 k/\wr.ownsRow w.heap.size 2 1 (.slice D m dc) m (az .i64 (gS a k (λi=>wrap64 (nth a i-nth y i))))/\Keep (λi=>(Value.slice D m dc).ownBlock=some i) w2 wr) (λi _=>m-(intOf i).toNat)
 ·exact ⟨0,Gc _,rfl,by rw [fu];exact a0.o,Keep.refl _ _⟩
 case round=>
  obtain ⟨k,hk,rfl,u,O⟩:=hrel;by_cases R:k<m
  ·obtain ⟨g7,d7,a8,bd,_⟩:=u.form ao;simp only [GT] at a8;obtain ⟨rfl,b3,rfl⟩:=a8;clear b3;have T:k<a.length:=by rw [b6.o];exact R
   have p1:=cL u R;rw [eQ _ T,if_neg ao] at p1;have f1:=u.frozenAt k;have a3:=fX (l:=a) (k:=k) (λi=>wrap64 (nth a i-nth y i)) T;obtain ⟨C,oy,rfl,py⟩:=HB.o.num (show k<y.length by rw [Hm.o];exact R);have b0:C<w.heap.size:=aC py;have I:g7≠C:=ao;have a6:ap w wr:=a2.o.trans (O.toBelow a2.o.size (λi hi=>(a0.o.lt i hi).1));have b2:=(a6.cell (p:=(aq C (oy+k))) b0).trans py;obtain ⟨HO,HK,ax⟩:=ae u O a3;clear u O a3 T a6 py;go_wp2_with fail;have bb:(k:Int)<m:=ao;have J:(λH:N5=>H.cell? (aq g7 k)=some (H8 (nth a k))/\H.cell? (aq C (oy+k))=some (H8 (nth y k))) wr.drew:=⟨p1,b2⟩;refine XA.g 11 (λH:N5=>H.cell? (aq g7 k)=some (H8 (nth a k))/\H.cell? (aq C (oy+k))=some (H8 (nth y k))) ?_;refine XA.t ?_ [0,1,2,3,4,5,6,7,8,9] J ?_;refine XA.o 10 (λK O=>?_);go_simp;refine (vZ _ _ _).mono ?_;rintro e w9 ⟨rfl,rfl⟩;dsimp only;refine O.out _ _ J (λJ=>?_);clear O K J;refine XA.e ?_;simp only [GC,GD];go_wp2_with fail;go_roundw
   case rel=>
    refine ⟨k+1,by omega,by go_num,?_,?_⟩
    ·rw [<-ax.o];exact eD (bW HO.o 1) k _
    ·exact Keep.setCell (HK.o.drewN 1) (aq g7 k) (.inr rfl) _
   case measure=>simp [intOf];omega
  ·obtain rfl:k=m:=ao;have N:ap w1 wr:=a7.o.trans (O.toBelow a7.o.size (λi hi=>(a4.o.lt i hi).1));obtain ⟨HO,U⟩:=ab u N;clear u N O;go_wp2_with fail;go_ret3;exact ⟨_,_,_,_,vals,rfl,b5.o.below U.o,b1.o.below U.o,Hc.o,HO.o,Hb.o.trans (U.o.mono Hb.o.size)⟩
end Go.Proofs.YtindmkcnjlgomaaGreat
namespace Go.Proofs.YtindmkcnjlgomaaGreat
open Go.RowKit Go.Shelf
open Tryz
theorem rg {l n:Nat} {P:Program} {row:String} {args:N2} {w:N5} {R:Value->N5->Prop} (h:Rows P row args w R):RowsIn (Fence.wide.inRound l) n P row args w R:=
 λc i _=>let ⟨v,w',r,s⟩:=h c i;⟨v,w',r,(stepsIn_wide (P:=P)).2 s⟩
theorem rk {l n:Nat} {P:Program} {o:Oper} {a:Na} {w:N5} {K:Na->N5->Prop} {Q:Exit->Na->N5->Prop} (i:∀c,o.op≠.defer c) (h:o.wp P a w K Q):o.wpIn (Fence.wide.inRound l) n P a w K Q:=by
 unfold Oper.wp at h;unfold Oper.wpIn;refine ⟨λ_ _=>trivial,?_⟩;rw [Oper.semAt_plain _ _ _ i];generalize (execOp a.eval o).run P w=r at *
 cases r with
 | ok x w'=>
  cases x<;>simp only [Oper.upon,Oper.uponIn] at h ⊢<;>
   first
    | exact h
    | exact ⟨λp=>(by cases p),CallsIn.inRound l (callsIn_wide.2 h)⟩
    | exact ⟨λp=>(by cases p),rg h⟩
    | exact h.elim
 | halt x w'=>cases x<;>simp only [Oper.upon,Oper.uponIn] at h ⊢<;>exact h
theorem qM {l n:Nat} {P:Program} {ops:N9} {Q:Exit->Na->N5->Prop} (v:∀(i:Nat) (o:Oper),ops[i]?=some o->∀c,o.op≠.defer c) (u:¬LetsOut Q) {i:Nat} {K:Na->N5->Prop} {a:Na} {w:N5} (h:wpOp P ops Q i K a w):wpOpIn (Fence.wide.inRound l) n P ops Q i K a w:=by
 unfold wpOp at h;unfold wpOpIn
 split at h
 ·rename_i p;simp only [p];exact h
 ·rename_i o p
  simp only [p]
  split at h
  ·rename_i hw
   rw [if_pos hw];rcases h with h | ⟨_,h⟩
   ·exact rk (v i o p) h
   ·exact absurd h u
  ·rename_i hw
   rw [if_neg hw];exact ⟨λ_ _=>trivial,h⟩
theorem jX {l n:Nat} {P:Program} {y:Region.Mode} {ops:N9} {Q:Exit->Na->N5->Prop} (x:∀(i:Nat) (o:Oper),ops[i]?=some o->∀c,o.op≠.defer c) (v:¬LetsOut Q):∀(p:Nat) (u:Array Bool) (a:Na) (w:N5),
  wpAny P y ops Q p u a w->wpAnyIn (Fence.wide.inRound l) n P y ops Q p u a w
 | 0,_,_,_,h=>h
 | p+1,_,_,_,h=>⟨h.1,λi D=>wpOpIn_mono (λC B A=>jX x v p _ C B A) (qM x v (h.2 i D))⟩
def FY:Op->Bool
 | .defer _=>true
 | _=>false
theorem DK {ops:N9} (h:ops.all (λo=> !FY o.op)=true):∀(i:Nat) (o:Oper),ops[i]?=some o->∀c,o.op≠.defer c:=λi o p c e=>by
 have:=(Array.all_eq_true.1 h) i (Array.getElem?_eq_some_iff.1 p).1;rw [(Array.getElem?_eq_some_iff.1 p).2,e] at this
 cases this
theorem jt {l n:Nat} {P:Program} {ops:N9} {Q:Exit->Na->N5->Prop} (S:N5->Prop) {id:Nat} {a:Na} {w:N5} (hm:P.follows .mixedOrders=true) (i:ops.all (λo=> !FY o.op)=true) (p:¬LetsOut Q) (h:wpAnyH P .any ops Q S ops.size (Array.replicate ops.size false) a w.drew):(Code.region id ops true).wpIn (Fence.wide.inRound l) n P Q a w:=
 wpIn_region_any hm (jX (DK i) p _ _ _ _ (wpAny_of_held _ _ _ _ h))
attribute [local go_sem] Oper.semAt_some
theorem qi {W:N5} {base:Nat} {e:N6} {size n c G:Nat} {xs:N4} {o:Obj} (h:W.ownsRow base e size (.slice (some (aq G 0)) n c) n xs) (v:W.heap[G]?=some o):o.isCells=true:=by
 rcases h.2 with ⟨x,_⟩ | ⟨g,cap,u,p,_,i,_⟩
 ·cases x
 ·simp only [GT,Option.some.injEq,Addr.mk.injEq] at p;rw [<-p.1.1,v] at i
  cases i;rfl
def qD (i:N1) (c:Nat) (o:N1) (q:Int) (h:N1) (k:Nat):N1:=ij h (nD (kK i c k) (nth o k) q)
def kZ (h:N1) (r c:Nat) (i:N1) (q:Int):N1:=(List.range r).foldl (qD h c i q) (List.replicate c 0)
theorem zy (i:N1) (c:Nat) (o:N1) (q:Int) (h:N1) (k:Nat):(qD i c o q h k).length=h.length:=aZ _ _
theorem CR (o:N1) (r c:Nat) (p:N1) (q:Int):((List.finRange r).foldl (λi k=>qD o c p q i k.1) (List.replicate c 0))=kZ o r c p q:=by
 unfold kZ;have h:List.range r=(List.finRange r).map (·.1):=List.ext_getElem (by simp) (by simp);rw [h,List.foldl_map]
theorem uU (r c k:Nat) (g o:Nat) (h:N1) (y q:Int) (W:N5) (hk:k<r) (hc:1<=c/\c<=1048576) (i:h.length=r*c) (A:Rd W (some (aq g o)) (az .i64 h)) (B:W64 h) (x: -9223372036854775808<=y/\y<=9223372036854775807):Calls prog 248 #[.slice (some (aq g (o+k*c))) c c,H8 y,H8 q] W λe p=>∃v u,e=.returned (.slice v c u)/\p.ownsRow W.heap.size 2 1 (.slice v c u) c (az .i64 (nD (kK h c k) y q))/\ap W p:=by
 have:=xW (some (aq g (o+k*c))) (kK h c k) c y q W (wO A hk i) (by rw [iA];omega) (sP B hk i) x
 rwa [iA] at this
def De (r c:Nat) (g o v d:Nat) (p:N1) (B:N0) (u:N1) (e:Nat) (q:Int) (w:N5) (G N M:Nat) (h:List (Fin r)) (W:N5):Prop:= (W.ownsRow w.heap.size 2 1 (.slice (some (aq G 0)) c c) c (az .i64 (h.foldl (λi k=>qD p c u q i k.1) (List.replicate c 0)))/\Boxed W N 73 (.slice (some (aq G 0)) c c)/\Boxed W (w.heap.size+1) 73 (.slice B r e)/\Boxed W (w.heap.size+1+1) 3 (H8 q)/\W.heap[M]?=some (.cells #[H8 r,H8 c,.slice (some (aq g o)) v d] 344 (0,0)))/\ap w W
theorem zx (r c:Nat) (g o H d:Nat) (i:N1) (B:N0) (u:N1) (e:Nat) (q:Int) (w:N5) (G N M K:Nat) (A:w.heap.size<=K):OwnFrom K (De r c g o H d i B u e q w G N M):=by
 intro s W L row J h hr;obtain ⟨⟨y,v,I,x,C⟩,p⟩:=J;have D:=ownFrom_below (β:=Unit) (F3 _) A () W L row p h hr;exact ⟨⟨sD y h hr,cV rfl v h hr,cV rfl I h hr,cV rfl x h hr,cV rfl C h hr⟩,D⟩
theorem yP (r c:Nat) (g o Q d:Nat) (ms:N1) (B:N0) (ys:N1) (e:Nat) (q:Int) (w:N5) (hr:1<=r/\r<=1048576) (hc:1<=c/\c<=1048576) (b1:Q=r*c) (hd:Q<=d) (hm:Q<=17592186043904) (bG:ms.length=Q) (hA:Rd w (some (aq g o)) (az .i64 ms)) (wm:W64 ms) (hB:Rd w B (az .i64 ys)) (bN:ys.length=r) (wy:W64 ys):Calls prog 238 #[.agg #[H8 r,H8 c,.slice (some (aq g o)) Q d],.slice B r e,H8 q] w λe R=>∃A' c',e=.returned (.tuple #[.slice A' c c',.bool true])/\R.ownsRow w.heap.size 2 1 (.slice A' c c') c (az .i64 (kZ ms r c ys q))/\ap w R:=by
 have bd:=λR=>jN r c (some (aq g o)) Q d R hr hc b1 hm;have bw:=λcs R=>nF cs R;have bs:(8:Nat)*c<=281474976710656:=ao;have cA:=aa bs;clear bs;obtain ⟨cf,ci,b6,c7,cj,HA,HB,WM⟩:=aj bd bw b1 bG bN hA hB wm;have WY:=aa wy;clear bd bw b1 bG bN hA hB wm wy;refine (callsIn_wide (n:=3)).1 ?_;refine callsIn_of_wp_marks func238 rfl trivial ?_ rfl;simp only [ntmps238,List.size_toArray,List.length_cons,List.length_nil,Nat.reduceAdd,Nat.reduceSub,Array.replicate_succ,Array.replicate_zero,List.push_toArray,List.append_toArray,List.nil_append,List.cons_append]
 gi_wp2_with fail
 refine ⟨trivial,?_⟩;refine (callsIn_wide.2 (cf.o _)).mono ?_;rintro e w1 ⟨rfl,rfl⟩
 gi_wp2_with (gi_at_make;refine rM iX _ rfl (.tmp 22) (.tmp 22) rfl rfl c rfl rfl cA.o (by unfold maxLen;omega) ?_)
 intro w2 y U;rw [gr] at y;have ad:ap w w2:=Below.trans (((((Gb _ w).alloc (F3 _) _).alloc (by simp) _).alloc (by simp;omega) _).alloc (by simp;omega) _) (U.mono ao)
 have h3:w2.heap[w.heap.size]?=some (.cells #[H8 r,H8 c,.slice (some (aq g o)) Q d] 344 (0,0)):=by
  refine (U.block w.heap.size ao).trans ?_;refine (Gk _ _ _ (by first | (simp;done) | (simp;omega))).trans ((Gk _ _ _ (by first | (simp;done) | (simp;omega))).trans ((Gk _ _ _ (by simp)).trans (F4 w _)))
 have h4:Boxed w2 (w.heap.size+1) 73 (.slice B r e):=by
  refine (U.block (w.heap.size+1) ao).trans ?_;refine (Gk _ _ _ (by first | (simp;done) | (simp;omega))).trans ((Gk _ _ _ (by simp)).trans ?_);have:=F4 (w.alloc (.cells #[H8 r,H8 c,.slice (some (aq g o)) Q d] 344)) (.cells #[.slice B r e] 73);simpa using this
 have h5:Boxed w2 (w.heap.size+1+1) 3 (H8 q):=by
  refine (U.block (w.heap.size+1+1) ao).trans ?_;refine (Gk _ _ _ (by simp)).trans ?_;have:=F4 ((w.alloc (.cells #[H8 r,H8 c,.slice (some (aq g o)) Q d] 344)).alloc (.cells #[.slice B r e] 73)) (.cells #[H8 q] 3);simpa using this
 obtain ⟨G,hG⟩:∃G,w.heap.size+1+1+1+1=G:=⟨_,rfl⟩;rw [hG] at y U ⊢;obtain ⟨a0,bV,HG,H3,H4,H5⟩:=ah y ad hG h3 h4 h5;obtain ⟨⟨m0,m1,m2⟩,mf⟩:=bx3 h3;have c9:w.heap.size<w2.heap.size:=F1 h3;clear y U ad hG h3 h4 h5
 gi_wp2_with fail
 refine ⟨trivial,?_⟩;refine (callsIn_wide.2 (ci.o _ _)).mono ?_;rintro e w1 ⟨rfl,rfl⟩
 gi_wp2_with fail
 obtain ⟨H,C⟩:∃H,H=w2.alloc (.cells #[.slice (some (aq G 0)) c c] 73):=⟨_,rfl⟩;rw [<-C];have a7:H.heap.size=w2.heap.size+1:=by rw [C];simp
 have bO:Boxed H w2.heap.size 73 (.slice (some (aq G 0)) c c):=by rw [C];exact Boxed.new w2 _ _
 have b4:Boxed H (w.heap.size+1) 73 (.slice B r e):=by rw [C];exact H4.o.alloc _
 have b5:Boxed H (w.heap.size+1+1) 3 (H8 q):=by rw [C];exact H5.o.alloc _
 have r0:H.ownsRow w.heap.size 2 1 (.slice (some (aq G 0)) c c) c (az .i64 (List.replicate c 0)):=by rw [C];exact aG (a0.o.alloc _) (by have:=HG.o;omega)
 have a1:ap w H:=by rw [C];exact bV.o.alloc ao _
 have bM:(H.alloc (.cells #[H8 r,H8 c,.slice (some (aq g o)) Q d] 344)).heap[H.heap.size]?=some (.cells #[H8 r,H8 c,.slice (some (aq g o)) Q d] 344 (0,0)):=F4 H _;obtain ⟨N,hN⟩:∃N,N=w2.heap.size:=⟨_,rfl⟩;rw [<-hN] at bO a7 ⊢;rw [<-a7];obtain ⟨c8,O,bz,cc,c6,cv,cw,HN⟩:=aj a7 a1 bM bO b4 b5 r0 hN;have d9:=aa C;clear a7 a1 bM bO b4 b5 r0 hN C m0 m1 m2 mf c9;have cr:De r c g o Q d ms B ys e q w G N H.heap.size [] (H.alloc (.cells #[H8 r,H8 c,.slice (some (aq g o)) Q d] 344)):=⟨⟨cw.o.alloc _,cc.o.alloc _,c6.o.alloc _,cv.o.alloc _,bz.o⟩,O.o.alloc (by have:=O.o.size;omega) _⟩
 refine' wpIn_rangeFunc_ownG (F:=Fence.wide) (n:=3) rfl ao (gf:=255) (lb:=#[(ar H.heap.size)]) rfl trivial (enters_of func255 (by kernel_rfl) rfl)
  (j7 _ H.heap.size w.heap.size g o r c Q d hr.2 hc b6.o hd _ bz.o) iL (iM (by have:=O.o.size;simp;omega) (by simp)) (Gb _ _) (λ_=>rfl)
  (De r c g o Q d ms B ys e q w G N H.heap.size)
  (λ_ _ _=>False)
  (zx r c g o Q d ms B ys e q w G N H.heap.size _ (by have:=O.o.size;simp;omega))
  (λ_ _ _ _ _ hs _ _=>hs)
  cr
  _ ?assign ?body ?done ?stop
 case assign=>
  intro l x W K hK;unfold lC
  gi_wp2
  exact hK
 case body=>
  rintro l cl x W ⟨⟨L,Y,a4,a5,aP⟩,a6⟩ bl;have bn:=a4.cell;have bI:=a5.cell;have b8:=Y.cell;obtain ⟨T,HO,HM,a8,H4,H5,dc⟩:=ai L Y aP a6 a4 a5 bl;clear L aP a6 a4 a5 bl Y
  have d3:G<W.heap.size:=by
   obtain ⟨g6,d6,I,_,Z⟩:=T.o.form (by omega:0<c);simp only [GT,Option.some.injEq,Addr.mk.injEq] at I;rw [I.1.1];exact Z
  gi_wp2_with fail
  have a3:x.1<ys.length:=by rw [cj.o];exact x.2
  have bh:=λW' (k:ap W W')=>uU r c x.1 g o ms (nth ys x.1) q W' x.2 hc (c7.o.trans b6.o) ((HA.o.below a8.o).below k) WM.o (WY.o _ a3);have d7:(x.1:Int)<r:=by have:=x.2;omega
  obtain ⟨b2,o2,cx,p2⟩:=(HB.o.below a8.o).num a3;subst cx
  have d1:G<N:=by
   obtain ⟨g6,d6,I,_,Z⟩:=a0.o.form (by omega:0<c);simp only [GT,Option.some.injEq,Addr.mk.injEq] at I;have:=HN.o;have h7:G<w2.heap.size:=by rw [I.1.1];exact Z
   omega
  have bi:¬G=N:=ao;have bA:¬G=w.heap.size+1:=by have:=HG.o;omega
  have bv:¬G=w.heap.size+1+1:=by have:=HG.o;omega
  have d0:¬G=b2:=by
   obtain ⟨b3,o3,e3,p3⟩:=HB.o.num a3;have J:b3<w.heap.size:=aC p3;simp only [Option.some.injEq,Addr.mk.injEq] at e3;have:=HG.o;omega
  have cb:=aa bh;clear bh a3;refine jt (λR=>R.cell? (aq N 0)=some (.slice (some (aq G 0)) c c)/\R.cell? (aq (w.heap.size+1) 0)=some (.slice (some (aq b2 o2)) r e)/\R.cell? (aq (w.heap.size+1+1) 0)=some (H8 q)/\R.cell? (aq b2 (o2+x.1))=some (H8 (nth ys x.1))) (by kernel_rfl) (by kernel_rfl) (by rintro ⟨_,_,h⟩;exact h) ?_;have u:(λR:N5=>R.cell? (aq N 0)=some (.slice (some (aq G 0)) c c)/\R.cell? (aq (w.heap.size+1) 0)=some (.slice (some (aq b2 o2)) r e)/\R.cell? (aq (w.heap.size+1+1) 0)=some (H8 q)/\R.cell? (aq b2 (o2+x.1))=some (H8 (nth ys x.1))) W.drew:=⟨b8,bn,bI,p2⟩;clear b8 bn bI p2;refine wpAnyH_take (i:=0) (v:=?_) rfl (by kernel_rfl) (by kernel_rfl) (by kernel_rfl) (λ_ _ _ h=>h) (Or.inl ⟨by rfl,?_⟩) u ?_;rotate_left
  ·intro w9 p;(try dsimp only at p);obtain ⟨s1,s2,s3,s4⟩:=p;go_simp;(try with_reducible rfl)
  simp only [Gq,Gr,Gs,Act.put,Gt,Gu,Gv];refine wpAnyH_take (i:=1) (v:=?_) rfl (by kernel_rfl) (by kernel_rfl) (by kernel_rfl) (λ_ _ _ h=>h) (Or.inl ⟨by rfl,?_⟩) u ?_;rotate_left
  ·intro w9 p;(try dsimp only at p);obtain ⟨s1,s2,s3,s4⟩:=p;go_simp;(try with_reducible rfl)
  simp only [Gq,Gr,Gs,Act.put,Gt,Gu,Gv];refine wpAnyH_take (i:=2) (v:=?_) rfl (by kernel_rfl) (by kernel_rfl) (by kernel_rfl) (λ_ _ _ h=>h) (Or.inl ⟨by rfl,?_⟩) u ?_;rotate_left
  ·intro w9 p;(try dsimp only at p);obtain ⟨s1,s2,s3,s4⟩:=p;go_simp;(try with_reducible rfl)
  simp only [Gq,Gr,Gs,Act.put,Gt,Gu,Gv];refine wpAnyH_take (i:=3) (v:=?_) rfl (by kernel_rfl) (by kernel_rfl) (by kernel_rfl) (λ_ _ _ h=>h) (Or.inl ⟨by rfl,?_⟩) u ?_;rotate_left
  ·intro w9 p;(try dsimp only at p);obtain ⟨s1,s2,s3,s4⟩:=p;go_simp;(try with_reducible rfl)
  simp only [Gq,Gr,Gs,Act.put,Gt,Gu,Gv];refine wpAnyH_take (i:=4) (v:=?_) rfl (by kernel_rfl) (by kernel_rfl) (by kernel_rfl) (λ_ _ _ h=>h) (Or.inl ⟨by rfl,?_⟩) u ?_;rotate_left
  ·intro w9 p;(try dsimp only at p);obtain ⟨s1,s2,s3,s4⟩:=p;go_simp;(try with_reducible rfl)
  simp only [Gq,Gr,Gs,Act.put,Gt,Gu,Gv];refine wpAnyH_take (i:=5) (v:=?_) rfl (by kernel_rfl) (by kernel_rfl) (by kernel_rfl) (λ_ _ _ h=>h) (Or.inl ⟨by rfl,?_⟩) u ?_;rotate_left
  ·intro w9 p;(try dsimp only at p);obtain ⟨s1,s2,s3,s4⟩:=p;go_simp;(try with_reducible rfl)
  simp only [Gq,Gr,Gs,Act.put,Gt,Gu,Gv];refine wpAnyH_take (i:=6) (v:=?_) rfl (by kernel_rfl) (by kernel_rfl) (by kernel_rfl) (λ_ _ _ h=>h) (Or.inl ⟨by rfl,?_⟩) u ?_;rotate_left
  ·intro w9 p;(try dsimp only at p);obtain ⟨s1,s2,s3,s4⟩:=p;go_simp;(try with_reducible rfl)
  simp only [Gq,Gr,Gs,Act.put,Gt,Gu,Gv];refine wpAnyH_ready (rs:=[7]) (by kernel_rfl) (by simp) ?_;refine AllReadyH.cons rfl (λK hK=>?_) AllReadyH.nil;simp only [Gq,Gr,Gs];go_simp;refine (cb.o _ ?_).mono ?_
  ·exact (Gb _ W).drew
  rintro e w3 ⟨A',c',rfl,A,J⟩;dsimp only;refine hK.out _ _ ?_ (λp=>?_)
  ·exact ⟨av J u.1,av J u.2.1,av J u.2.2.1,av J u.2.2.2⟩
  clear hK K;have b0:=aA (w:=W.drew) T.o J
  have ax:∀a b,(some (aq G 0):N0)=some a->A'=some b->a.block≠b.block:=λa b ha hb=>by
   cases ha;subst hb
   have h1:=(A.form (by omega:0<c));obtain ⟨g5,d5,bo,cS,_⟩:=h1;simp only [GT,Option.some.injEq] at bo;rw [bo.1];have h2:=T.o.form (by omega:0<c);obtain ⟨g6,d6,I,_,Z⟩:=h2;simp only [GT,Option.some.injEq,Addr.mk.injEq] at I;have h7:G<W.heap.size:=by rw [I.1.1];exact Z
   show G≠g5
   have h8:W.heap.size<=g5:=cS;omega
  have ak:=rG w.heap.size (some (aq G 0)) A' _ _ c c c' w3 b0 (Rd.own A) (by unfold nD;rw [aZ,iA]) ao ax;refine wpAnyH_ready (rs:=[8]) (by kernel_rfl) (by simp) ?_;refine AllReadyH.cons rfl (λK hK=>?_) AllReadyH.nil;simp only [Gq,Gr,Gs,Act.put,Gt,Gu,Gv];obtain ⟨bb,d4,cn,cd⟩:=af ak b0 A J;clear ak b0 A J ax;go_simp;refine bb.o.mono ?_;rintro e w4 ⟨rfl,aM,a2⟩;dsimp only;refine hK.out _ _ ?_ (λd2=>?_)
  ·exact ⟨a2.cell p.1 (by simp [Value.ownBlock];exact bi),a2.cell p.2.1 (by simp [Value.ownBlock];exact bA),a2.cell p.2.2.1 (by simp [Value.ownBlock];exact bv),a2.cell p.2.2.2 (by simp [Value.ownBlock];exact d0)⟩
  refine wpAnyH_done (by kernel_rfl) ?_ _;have V:Keep (λi=>(Value.slice (some (aq G 0)) c c).ownBlock=some i) W w4:=((Keep.refl _ W).drew.trans (Keep.below cd.o)).trans a2;have d8:w.heap.size<=G:=by have:=HG.o;omega
  have bX:Below w.heap.size W w4:=V.toBelow a8.o.size (λk hk=>by simp [Value.ownBlock] at hk;omega);have co:¬G=H.heap.size:=by have:=c8.o;omega
  have b7:=(V.block _ (F1 HM.o) (by simp [Value.ownBlock];exact co)).trans HM.o;refine ⟨(jv V λk o hk ho=>?_).from _,⟨bX,λ_=>b7.trans HM.o.symm⟩,⟨⟨?_,?_,?_,?_,b7⟩,a8.o.trans bX⟩⟩
  ·simp only [Value.ownBlock,Option.some.injEq] at hk;subst hk;exact qi T.o ho
  ·rw [List.foldl_append];exact aM
  ·exact (V.block _ (F1 HO.o) (by simp [Value.ownBlock];exact bi)).trans HO.o
  ·exact (V.block _ (F1 H4.o) (by simp [Value.ownBlock];exact bA)).trans H4.o
  ·exact (V.block _ (F1 H5.o) (by simp [Value.ownBlock];exact bv)).trans H5.o
 case done=>
  rintro D zs W hD rfl ⟨⟨L,Y,a4,a5,aP⟩,a6⟩ hK;have hc:=Y.cell
  gi_wp2
  refine ⟨by simp,.inl ⟨_,_,rfl,run_takeDeferred hK,?_⟩⟩;rw [CR] at L;refine ⟨.tuple #[.slice (some (aq G 0)) c c,.bool true],by simp [results,results238,go_sem],_,_,rfl,ownsRow_putObj L _ hK rfl,a6.trans (belowK_b (w:=w) (F3 _) W D _ _ (by have:=O.o.size;simp at hD;omega) hK rfl rfl)⟩
 case stop=>
  rintro D c cl W _ _ h _;exact h.elim
end Go.Proofs.YtindmkcnjlgomaaGreat
namespace Go.Proofs.YtindmkcnjlgomaaGreat
open Go.RowKit
open Tryz
def DH (c:Nat) (h xs:N1) (q:Int) (i:Nat):Int:=gE (nth h (i/c)) (nth xs (i%c)) q
def iR (r c:Nat) (h xs:N1) (q:Int):N1:=cY (r*c) (DH c h xs q)
def jU (r c:Nat) (o xs:N1) (q:Int) (h:List Nat) (x j:Nat):N1:=cY (r*c) λi=>if i/c∈h\/(i/c=x/\i%c<j) then DH c o xs q i else 0
theorem kF (r c:Nat) (i xs:N1) (q:Int) (h:List Nat) (x j:Nat):(jU r c i xs q h x j).length=r*c:=aZ _ _
theorem yv (r c:Nat) (h xs:N1) (q:Int) (x:Nat):List.replicate (r*c) 0=jU r c h xs q [] x 0:=
 dR (by simp) λk hk=>by
  rw [dh _ _ (by simpa using hk)];simp
theorem Bg {r c:Nat} {B xs:N1} {q:Int} {o:List Nat} {x j:Nat} (N:x<r) (J:j<c):(jU r c B xs q o x j).set (x*c+j) (gE (nth B x) (nth xs j) q)=jU r c B xs q o x (j+1):=by
 have p:x*c+j<r*c:=by
  have:=HU c (show x+1<=r by omega);rw [GW] at this;omega
 have H:(x*c+j)/c=x:=by rw [Nat.add_comm,Nat.add_mul_div_right _ _ ao,Nat.div_eq_of_lt J,GY]
 have A:(x*c+j)%c=j:=by rw [Nat.add_comm,Nat.add_mul_mod_self_right,Nat.mod_eq_of_lt J]
 refine eG (by rw [List.length_set,kF,kF]) λi D=>?_;rw [List.length_set,kF] at D;rw [fB,kF];unfold jU;rw [bP _ D,bP _ D];by_cases h:i=x*c+j
 ·subst h;rw [if_pos ⟨rfl,p⟩,if_pos (.inr ⟨H,by omega⟩)];unfold DH;rw [H,A]
 ·rw [if_neg (λu=>h u.1)];have C:¬(i/c=x/\i%c=j):=λu=>h (by rw [<-u.1,<-u.2,Nat.mul_comm];exact (Nat.div_add_mod i c).symm);by_cases v:i/c∈o\/(i/c=x/\i%c<j)
  ·rw [if_pos v,if_pos (v.imp id λu=>⟨u.1,by omega⟩)]
  ·rw [if_neg v,if_neg];rintro (y | ⟨y,L⟩)
   ·exact v (.inl y)
   ·exact v (.inr ⟨y,by
     rcases Gn (i%c) j with I | I
     ·exact I
     ·exact absurd ⟨y,by omega⟩ C⟩)
theorem Bh {r c:Nat} {u xs:N1} {q:Int} {o:List Nat} {x:Nat} (hc:1<=c) (y:Nat):jU r c u xs q o x c=jU r c u xs q (o++[x]) y 0:=by
 unfold jU;refine eI λi B=>?_;have hm:i%c<c:=Nat.mod_lt _ ao;by_cases p:i/c∈o\/(i/c=x/\i%c<c)
 ·rw [if_pos p,if_pos];rcases p with h | ⟨h,_⟩
  ·exact .inl (GU.2 (.inl h))
  ·exact .inl (GU.2 (.inr (by simp [h])))
 ·rw [if_neg p,if_neg];rintro (v | ⟨_,A⟩)
  ·rcases GU.1 v with h | h
   ·exact p (.inl h)
   ·exact p (.inr ⟨by simpa using h,hm⟩)
  ·omega
theorem uN {r c:Nat} {o xs:N1} {q:Int} {h:List Nat} (x y:Nat):jU r c o xs q h x 0=jU r c o xs q h y 0:=by
 unfold jU;exact eI λi p=>by simp
theorem yw {r c:Nat} {h xs:N1} {q:Int} (hc:1<=c) (y:Nat):jU r c h xs q (List.range r) y 0=iR r c h xs q:=by
 unfold jU iR;refine eI λi o=>?_;rw [if_pos];refine .inl (List.mem_range.2 ?_);exact (Nat.div_lt_iff_lt_mul ao).2 o
def wW (v d:N1):N1:=cY d.length λi=>if 0<nth v i then nth d i else 0
theorem ze (v d:N1):(wW v d).length=d.length:=aZ _ _
theorem zg {v d:N1} (h:W64 d):W64 (wW v d):=eh λk hk=>by
 split
 ·exact h k hk
 ·omega
theorem qC (o:N1) (r c:Nat) (p:N1) (q:Int):(kZ o r c p q).length=c:=by
 unfold kZ
 have:∀(l:List Nat) (i:N1),i.length=c->(l.foldl (qD o c p q) i).length=c:=by
  intro l
  induction l with
  | nil=>intro i h;exact h
  | cons a l ih=>intro i h;exact ih _ (by rw [zy];exact h)
 exact this _ _ (by simp)
theorem zw (o:N1) (r c:Nat) (p:N1) (q:Int):W64 (kZ o r c p q):=by
 unfold kZ
 have:∀(l:List Nat) (i:N1),W64 i->W64 (l.foldl (qD o c p q) i):=by
  intro l
  induction l with
  | nil=>intro i h;exact h
  | cons a l ih=>intro i h;exact ih _ (pp _ _)
 exact this _ _ (λk hk=>by rw [dh _ _ hk];simp)
def jV (sz ps:N1) (q:Int) (x y:N1):Nat->N1
 | 0=>mG (eS sz ps q x (sz.length-1)) y
 | j+1=>wW (eS sz ps q x (sz.length-2-j)) (kZ (wL sz ps (sz.length-2-j)) (szN sz (sz.length-1-j)) (szN sz (sz.length-2-j)) (jV sz ps q x y j) q)
def kU (sz ps:N1) (q:Int) (x y:N1):Nat->N1
 | 0=>[]
 | j+1=>iR (szN sz (sz.length-1-j)) (szN sz (sz.length-2-j)) (jV sz ps q x y j) (eS sz ps q x (sz.length-2-j)) q++(jV sz ps q x y j++kU sz ps q x y j)
def fQ (sz ps:N1) (q:Int) (x y:N1):N1:=kU sz ps q x y (sz.length-1)
theorem uM (r c:Nat) (h xs:N1) (q:Int):(iR r c h xs q).length=r*c:=aZ _ _
theorem tB {sz ps:N1} {q:Int} {x y:N1} (h:x.length=szN sz 0) (j:Nat):(jV sz ps q x y j).length=szN sz (sz.length-1-j):=by
 cases j with
 | zero=>show (mG _ _).length=_;rw [yL,jl h];rfl
 | succ j=>show (wW _ _).length=_;rw [ze,qC,show sz.length-1-(j+1)=sz.length-2-j by omega]
theorem Cv (sz ps:N1) (q:Int) (x y:N1) (j:Nat):W64 (jV sz ps q x y j):=by
 cases j with
 | zero=>exact yM _ _
 | succ j=>exact zg (zw _ _ _ _ _)
theorem D3:cW prog 26 2 (H8 0) 1 8:=⟨underlying26,info_parts (by kernel_rfl),rfl,by decide⟩
theorem D1:cW prog 27 33 (.int .u64 0) 1 8:=⟨underlying27,info_parts (by kernel_rfl),rfl,by decide⟩
theorem uc (A:N0) (zs:N1) (c:Nat) (w:N5) (B:Rd w A (az .u64 zs)) (hl:zs.length<=17592186043904):Calls prog 134 #[.slice A zs.length c] w λe y=>∃v,e=.returned v/\y.ownsRow w.heap.size 33 1 v zs.length (az .u64 zs)/\ap w y:=by
 have q:=λ(w:N5)=>Lib.run_eql_slice_nil (P:=prog) w 27 33 A zs.length c 0 0 underlying27
 cases A with
 | none=>
  have C:zs=[]:=by
   cases zs with
   | nil=>rfl
   | cons z l=>obtain ⟨b,o,h,_⟩:=B 0 _ rfl;cases h
  subst C;clear q;have q:=λ(w:N5)=>Lib.run_eql_slice_nil (P:=prog) w 27 33 none 0 c 0 0 underlying27;simp only [Option.isNone_none] at q;rw [List.length_nil];go_enter func134,ntmps134;go_wp2;go_ret;exact ⟨_,rfl,Gj _ _ _ _,Gb _ _⟩
 | some a=>
  go_enter func134,ntmps134;go_wp2_with (at_builtin;refine eH D1 _ rfl (.tmp 5) (.tmp 6) rfl w.heap.size _ 0 [] rfl (fW w 33 1) _ zs.length c (az .u64 zs) rfl (B.alloc _) (by rw [aS];omega) (bS _ _) ao (by unfold maxLen;omega) (by simp) ?_);intro I H D i hb _ _;have u:=((Gb _ w).alloc (F3 _) (.cells #[] 33)).trans hb;obtain ⟨p,x⟩:=ab i u;clear i hb u;go_wp2;go_ret;exact ⟨_,rfl,p.o,x.o⟩
def U64 (l:N1):Prop:=∀k,k<l.length->0<=nth l k/\nth l k<=18446744073709551615
theorem Keep.below2 {S:Nat->Prop} {w i o:N5} (h:Keep S w i) (hb:Below w.heap.size i o):Keep S w o:=
 ⟨hb.os.trans h.os,hb.tape.trans h.tape,hb.output.trans h.output,Ge h.size hb.size,λk hk hn=>(hb.block k hk).trans (h.block k hk hn)⟩
structure bQ (w:N5) (b:Nat) (A:N0) (c:Nat) (l:N1) (i:Nat):Prop where
 blk:w.heap[b]?=some (.cells #[.slice A l.length c,H8 (i:Int)] 239 (0,0))
 rd:Rd w A (az .u64 l)
 ne:∀a,A=some a->a.block≠b
theorem bQ.lt {w:N5} {b c i:Nat} {A:N0} {l:N1} (h:bQ w b A c l i):b<w.heap.size:=F1 h.blk
theorem bQ.below {w o:N5} {b c i:Nat} {A:N0} {l:N1} (h:bQ w b A c l i) (hb:ap w o):bQ o b A c l i:=
 ⟨(hb.block b h.lt).trans h.blk,h.rd.below hb,h.ne⟩
theorem bQ.drewN {w:N5} {b c i:Nat} {A:N0} {l:N1} (h:bQ w b A c l i) (n:Nat):bQ (w.drewN n) b A c l i:=⟨h.blk,h.rd.drewN n,h.ne⟩
theorem Cy (A:N0) (l:N1) (c:Nat) (w:N5) (L:Rd w A (az .u64 l)) (hl:l.length<=17592186043904):Calls prog 108 #[.slice A l.length c] w λe I=>∃b u B,e=.returned ((ar b))/\bQ I b u B l 0/\(∀a,u=some a->w.heap.size<=a.block)/\w.heap.size<=b/\ap w I:=by
 have hc:=uc A l c w L hl;have O:=aa hc;clear hc L;go_enter func108,ntmps108;go_wp2_with fail;refine O.o.mono ?_;rintro e H ⟨v,rfl,x,hb⟩;obtain ⟨u,B,rfl,_⟩:=aE x;have h:=x.lt;obtain ⟨D,C,y⟩:=ae x hb h;clear x hb h;go_wp2;go_ret
 have p:∀a,u=some a->w.heap.size<=a.block/\a.block<H.heap.size:=λa i=>by
  subst i;rcases D.o.2 with ⟨hn,_⟩ | ⟨g,cap,N,J,_⟩
  ·cases hn
  ·simp only [GT,Option.some.injEq] at J;obtain ⟨rfl,_,_⟩:=J;exact y.o g rfl
 exact ⟨_,u,B,rfl,⟨F4 H _,(Rd.own D.o).alloc _,λa i Q=>by have:=(p a i).2;omega⟩,λa i=>(p a i).1,C.o.size,C.o.alloc C.o.size _⟩
theorem mq (b c i:Nat) (A:N0) (l:N1) (w:N5) (h:bQ w b A c l i) (x:i<=l.length) (hl:l.length<=17592186043904):Calls prog 153 #[(ar b)] w λe p=>e=.returned (H8 ((l.length-i:Nat):Int))/\∃d,p=w.drewN d:=by
 obtain ⟨o,u,v⟩:=h;obtain ⟨n,hn⟩:∃n,l.length=n:=⟨_,rfl⟩;rw [hn] at o x hl ⊢;obtain ⟨⟨y,C⟩,B⟩:=bx2 o;have hb:=F1 o;clear o u v hn;go_enter func153,ntmps153;go_wp2_with fail
 go_quiet (fail)
 go_wp2_with fail;go_ret;exact ⟨bE ao,_,rfl⟩
theorem rS (b c i m:Nat) (A:N0) (l:N1) (w:N5) (h:bQ w b A c l i) (I:i<l.length) (hl:l.length<=17592186043904) (N:U64 l) (hm:1<=m) (T:m<=1048576):Calls prog 155 #[(ar b),H8 m] w λe C=>e=.returned (.tuple #[H8 (nth l i%m),.bool true])/\bQ C b A c l (i+1)/\Keep (λj=>j=b) w C:=by
 have v:=mq b c i A l w h ao hl;obtain ⟨u,B,O⟩:=h;obtain ⟨bA,oA,rfl,p⟩:=B.num I;obtain ⟨x,Q⟩:∃x,nth l i=x:=⟨_,rfl⟩;have H:=N i I;rw [Q] at p H ⊢;obtain ⟨n,hn⟩:∃n,l.length=n:=⟨_,rfl⟩;obtain ⟨U,Z,J,Hn⟩:=af u B O hn;rw [hn] at u I hl v;obtain ⟨⟨x0,x1⟩,xf⟩:=bx2 u;have hb:=F1 u;have D:=aa v;clear u B O hn Q v N;have R:(((n-i:Nat):Int)==0)=false:=by rw [beq_eq_false_iff_ne];omega
 have a0:¬((m:Int)<1):=ao;have Y:(i:Int)<n:=ao
 have hw:wrap64 (x%(m:Int))=x%(m:Int):=by
  have u:=Int.emod_nonneg x (show (m:Int)≠0 by omega);have B:=Int.emod_lt_of_pos x (show (0:Int)<(m:Int) by omega);generalize x%(m:Int)=y at u B ⊢;unfold wrap64;omega
 have V:=aa hw;clear hw;go_enter func155,ntmps155;go_wp2_with fail;refine D.o.mono ?_;rintro e C ⟨rfl,d,rfl⟩;go_wp2_with fail
 go_quiet (fail)
 go_wp2_with fail;go_ret2;have L:Keep (λj=>j=b) w ((w.drewN (d+nq)).setCell (aq b 1) (H8 ((i:Int)+1))):=Keep.setCell (S:=λj=>j=b) ((Keep.refl _ w).drewN _) (aq b 1) (.inr rfl) _;refine ⟨by rw [V.o];rfl,⟨?_,L.rd Z.o (λa ha=>J.o a ha),J.o⟩,L⟩;have:=HE (w.drewN (d+nq)) b 1 _ _ (H8 ((i:Int)+1)) U.o;simpa using this
end Go.Proofs.YtindmkcnjlgomaaGreat
namespace Go.Proofs.YtindmkcnjlgomaaGreat
open Go.RowKit Go.ChangeShapes Go.WideShapes Go.ChangeAt
open Tryz
theorem uP:qI prog 26 1 (AT .i64):=uO underlying26 underlying2 (by kernel_rfl) (by kernel_rfl) (by kernel_rfl)
theorem EF {l:N1} (h:∀z∈l,(Lit.int .i64 z).wf=true):W64 l:=λk hk=>by
 have:=h _ (wF hk);simpa [Lit.wf,IntKind.min,IntKind.max,IntKind.signed,IntKind.bits] using this
end Go.Proofs.YtindmkcnjlgomaaGreat
namespace Go.Proofs.YtindmkcnjlgomaaGreat
open Go.RowKit
open Tryz
theorem Cu:cW prog 25 145 (.agg #[H9,H9]) 2 48:=⟨underlying25,info_parts (by kernel_rfl),rfl,by decide⟩
abbrev Ex:=N1×N1
structure dr (w:N5) (A:N0) (l:N1) (c:Nat):Prop where
 hc:l.length<=c
 hl:l.length<=17592186043904
 hr:Rd w A (az .i64 l)
 hw:W64 l
theorem dr.below {w i:N5} {A:N0} {l:N1} {c:Nat} (h:dr w A l c) (hb:ap w i):dr i A l c:=⟨h.hc,h.hl,h.hr.below hb,h.hw⟩
def rEx:eL Ex:=λw h e=>∃A c B d,h=[.slice A e.1.length c,.slice B e.2.length d]/\dr w A e.1 c/\dr w B e.2 d
theorem fI:C8 rEx:=λhb ⟨A,c,B,d,h,i,o⟩=>⟨A,c,B,d,h,i.below hb,o.below hb⟩
def cK (w:N5) (base:Nat) (h:N4) (e:Ex):Prop:=∃u v,h=[u,v]/\w.ownsRow base 2 1 u e.1.length (az .i64 e.1)/\w.ownsRow base 2 1 v e.2.length (az .i64 e.2)/\
 e.1.length<=17592186043904/\e.2.length<=17592186043904/\W64 e.1/\W64 e.2
theorem cK.rd {w:N5} {base:Nat} {o:N4} {e:Ex} (h:cK w base o e):rEx w o e:=by
 obtain ⟨u,v,rfl,p,i,H,C,D,y⟩:=h;obtain ⟨A,c,rfl,hc⟩:=aE p;obtain ⟨B,d,rfl,x⟩:=aE i;exact ⟨A,c,B,d,rfl,⟨hc,H,Rd.own p,D⟩,⟨x,C,Rd.own i,y⟩⟩
theorem cK.below {w i:N5} {base:Nat} {o:N4} {e:Ex} (h:cK w base o e) (hb:ap w i):cK i base o e:=by
 obtain ⟨u,v,rfl,x,p,y⟩:=h;exact ⟨u,v,rfl,aA x hb,aA p hb,y⟩
theorem cK.base {w:N5} {base base':Nat} {i:N4} {e:Ex} (h:cK w base i e) (hb:base'<=base):cK w base' i e:=by
 obtain ⟨u,v,rfl,p,o,x⟩:=h;exact ⟨u,v,rfl,aG p hb,aG o hb,x⟩
theorem ft {W x:N5} {i e h size n m:Nat} {v u:Value} {xs o:N4} {base base':Nat} (p:W.ownsRow base' i h u m o) (y:W.ownsRow base e size v n xs) (B:W.grownBy x v.ownBlock) (A:e≠i):x.ownsRow base' i h u m o:=by
 refine p.kept B ?_
 cases hub:u.ownBlock with
 | none=>exact .inl rfl
 | some k=>exact .inr λC=>lH y p A k C.symm hub
theorem cK.pushed {W A:N5} {e size n:Nat} {v:Value} {xs:N4} {base base':Nat} {o:N4} {x:Ex} (h:cK W base' o x) (i:W.ownsRow base e size v n xs) (y:W.grownBy A v.ownBlock) (p:e≠2):cK A base' o x:=by
 obtain ⟨u,v',rfl,B,C,D⟩:=h;exact ⟨u,v',rfl,ft B i y p,ft C i y p,D⟩
theorem oh (A:N0) (zs:N1) (c:Nat) (w:N5) (B:Rd w A (az .i64 zs)) (hl:zs.length<=17592186043904):Calls prog 117 #[.slice A zs.length c] w λe y=>∃v,e=.returned v/\y.ownsRow w.heap.size 2 1 v zs.length (az .i64 zs)/\ap w y:=by
 have q:=λ(w:N5)=>Lib.run_eql_slice_nil (P:=prog) w 26 2 A zs.length c 0 0 underlying26
 cases A with
 | none=>
  have C:zs=[]:=by
   cases zs with
   | nil=>rfl
   | cons z l=>obtain ⟨b,o,h,_⟩:=B 0 _ rfl;cases h
  subst C;clear q;have q:=λ(w:N5)=>Lib.run_eql_slice_nil (P:=prog) w 26 2 none 0 c 0 0 underlying26;simp only [Option.isNone_none] at q;rw [List.length_nil];go_enter func117,ntmps117;go_wp2;go_ret;exact ⟨_,rfl,Gj _ _ _ _,Gb _ _⟩
 | some a=>
  go_enter func117,ntmps117;go_wp2_with (at_builtin;refine eH D3 _ rfl (.tmp 5) (.tmp 6) rfl w.heap.size _ 0 [] rfl (fW w 2 1) _ zs.length c (az .i64 zs) rfl (B.alloc _) (by rw [aS];omega) (bS _ _) ao (by unfold maxLen;omega) (by simp) ?_);intro I H D i hb _ _;have u:=((Gb _ w).alloc (F3 _) (.cells #[] 2)).trans hb;obtain ⟨p,x⟩:=ab i u;clear i hb u;go_wp2;go_ret;exact ⟨_,rfl,p.o,x.o⟩
theorem vA (cs:N4) (x:Ex) (w:N5) (h:rEx w cs x):Calls prog 114 #[.agg cs.toArray] w λe C=>∃us:N4,e=.returned (.agg us.toArray)/\cK C w.heap.size us x/\ap w C:=by
 obtain ⟨A,c,B,d,rfl,h1,h2⟩:=h;obtain ⟨x,y⟩:=x;dsimp only at h1 h2 ⊢;have R:=λC (k:ap w C)=>oh A x c C (h1.hr.below k) h1.hl;have V:=λC (k:ap w C)=>oh B y d C (h2.hr.below k) h2.hl;obtain ⟨H1,H2⟩:=ab h1 h2;obtain ⟨n,hn⟩:∃n,x.length=n:=⟨_,rfl⟩;obtain ⟨m,hm⟩:∃m,y.length=m:=⟨_,rfl⟩;rw [hn] at R ⊢;rw [hm] at V ⊢;obtain ⟨b0,b3,Hn,Hm⟩:=af R V hn hm;clear R V hn hm h1 h2;go_enter func114,ntmps114;go_wp2_with fail;have hz:=F4 (w.alloc (.cells #[.slice A n c,.slice B m d] 145)) (.cells #[H9,H9] 145);rw [show (w.alloc (.cells #[.slice A n c,.slice B m d] 145)).heap.size=w.heap.size+1 by simp] at hz;have hy:=(Gk (w.alloc (.cells #[.slice A n c,.slice B m d] 145)) (.cells #[H9,H9] 145) w.heap.size (by simp)).trans (F4 w _);have Y:ap w ((w.alloc (.cells #[.slice A n c,.slice B m d] 145)).alloc (.cells #[H9,H9] 145)):=((Gb _ w).alloc (F3 _) _).alloc (by simp) _;have T:((w.alloc (.cells #[.slice A n c,.slice B m d] 145)).alloc (.cells #[H9,H9] 145)).heap.size=w.heap.size+2:=by simp
 obtain ⟨W0,a2⟩:∃W0,W0=(w.alloc (.cells #[.slice A n c,.slice B m d] 145)).alloc (.cells #[H9,H9] 145):=⟨_,rfl⟩;rw [<-a2] at hz hy Y T ⊢;obtain ⟨⟨y0,y1⟩,yf⟩:=bx2 hy;obtain ⟨Hz,a0,J⟩:=ae hz Y T;clear hz hy Y T a2;have i:(λC:N5=>C.cell? (aq w.heap.size 0)=some (.slice A n c)/\C.cell? (aq w.heap.size 1)=some (.slice B m d)) W0.drew:=⟨y0,y1⟩;refine XA.g 7 (λC:N5=>C.cell? (aq w.heap.size 0)=some (.slice A n c)/\C.cell? (aq w.heap.size 1)=some (.slice B m d)) ?_;refine XA.t ?_ [0,1,3,4] i ?_;refine XA.o 2 (λK hK=>?_);go_simp;refine (b0.o _ a0.o.drew).mono ?_;rintro e w1 ⟨u,rfl,H,D⟩;obtain ⟨A1,c1,rfl,_⟩:=aE H;have a4:=Gg (av D i.1) (av D i.2);have a3:=(D.block (w.heap.size+1) (by simp [J.o])).trans Hz.o;have a1:=a0.o.drew.trans (D.mono (by simp [J.o]));have b2:=D.size;simp only [GS,J.o] at b2;have H:=aG (base':=w.heap.size) H (by simp [J.o]);obtain ⟨b1,aM,N⟩:=ae H a3 a1;clear H a3 a1 D i;dsimp only;refine hK.out _ _ a4 (λi=>?_);clear hK K a4;refine XA.o 5 (λK hK=>?_);go_simp;refine (b3.o _ N.o).mono ?_;rintro e w2 ⟨v,rfl,I,p⟩;obtain ⟨Z,c2,rfl,_⟩:=aE I;have a5:=Gg (av p i.1) (av p i.2);have L:=(p.block (w.heap.size+1) ao).trans aM.o;have a6:=N.o.trans (p.mono N.o.size);have b6:=p.size;have I:=aG (base':=w.heap.size) I N.o.size;have Q:=aA b1.o p;obtain ⟨⟨z0,z1⟩,zf⟩:=bx2 L;have l2:w.heap.size+1<w2.heap.size:=F1 L;obtain ⟨a8,O,U,b4⟩:=af I Q L a6;clear I Q L a6 p i;dsimp only;refine hK.out _ _ a5 (λi=>?_);clear hK K a5;refine XA.t ?_ [6] i ?_;refine XA.e ?_;clear i;simp only [GC,GD];go_wp2_with fail;have e1:=HE w2 (w.heap.size+1) 0 _ _ (.slice A1 n c1) U.o;have e2:=HE _ (w.heap.size+1) 1 _ _ (.slice Z m c2) e1;have e3:((w2.setCell (aq (w.heap.size+1) 0) (.slice A1 n c1)).setCell (aq (w.heap.size+1) 1) (.slice Z m c2)).heap[w.heap.size+1]?=some (.cells #[(.slice A1 n c1),(.slice Z m c2)] 145 (0,0)):=by simpa using e2
 have hk:Keep (λj=>j=w.heap.size+1) w2 ((w2.setCell (aq (w.heap.size+1) 0) (.slice A1 n c1)).setCell (aq (w.heap.size+1) 1) (.slice Z m c2)):=Keep.setCell (S:=λj=>j=w.heap.size+1) (Keep.setCell (S:=λj=>j=w.heap.size+1) (Keep.refl _ _) (aq (w.heap.size+1) 0) (.inr rfl) _) (aq (w.heap.size+1) 1) (.inr rfl) _;obtain ⟨W9,aP⟩:∃W9,W9=(w2.setCell (aq (w.heap.size+1) 0) (.slice A1 n c1)).setCell (aq (w.heap.size+1) 1) (.slice Z m c2):=⟨_,rfl⟩;rw [<-aP] at e3 hk ⊢;obtain ⟨⟨x0,x1⟩,xf⟩:=bx2 e3;have b5:=hk.own O.o (λj hj e=>aw U.o (by decide) O.o (by rw [hj,e]));have ax:=hk.own a8.o (λj hj e=>aw U.o (by decide) a8.o (by rw [hj,e]));have ak:ap w W9:=b4.o.trans (hk.toBelow ao (λj hj=>ao));have a7:=H1.o;have ad:=H2.o;exact Gm (v:=.agg #[(.slice A1 n c1),(.slice Z m c2)]) (by simp [results,results114,go_sem,x0,x1]) rfl ⟨[(.slice A1 n c1),(.slice Z m c2)],rfl,⟨_,_,rfl,by rw [Hn.o];exact b5,by rw [Hm.o];exact ax,a7.hl,ad.hl,a7.hw,ad.hw⟩,ak⟩
theorem iC {w:N5} {A:N0} {l:N8} (h:cO rEx 2 w A l) {j:Nat} {x:Ex} (B:l[j]?=some x):
  ∃b o A1 c1 i c2,A=some (aq b o)/\b<w.heap.size/\w.cell? (aq b (o+j*2))=some (.slice A1 x.1.length c1)/\w.cell? (aq b (o+j*2+1))=some (.slice i x.2.length c2)/\dr w A1 x.1 c1/\dr w i x.2 c2:=by
 obtain ⟨b,o,C,rfl,hb,hl,⟨A1,c1,i,c2,rfl,p,u⟩,v,y⟩:=h.get (by decide) B;exact ⟨b,o,A1,c1,i,c2,rfl,hb,v,y 1 (by decide),p,u⟩
def fP (w wr:N5) (l:N8) (k:Nat) (v:Value):Prop:=∃rows,wr.ownsRow w.heap.size 145 2 v k (List.flatten rows)/\rows.length=k/\(∀r∈rows,r.length=2)/\ (∀j x,j<k->l[j]?=some x->cK wr w.heap.size (bH rows j) x)/\ap w wr
theorem fP.zero (w:N5) (l:N8):fP w w l 0 (H9):=⟨[],Gj _ _ _ _,rfl,by simp,λj x h=>ao,Gb _ _⟩
theorem fP.form {w wr:N5} {l:N8} {k:Nat} {v:Value} (h:fP w wr l k v):∃A c,v=.slice A k c:=by
 obtain ⟨rows,i,_⟩:=h;obtain ⟨A,c,e,_⟩:=aE i;exact ⟨A,c,e⟩
theorem fP.b {w wr:N5} {l:N8} {k:Nat} {v:Value} (h:fP w wr l k v):ap w wr:=by
 obtain ⟨rows,_,_,_,_,h⟩:=h;exact h
theorem fP.below {w wr i:N5} {l:N8} {k:Nat} {v:Value} (h:fP w wr l k v) (hb:ap wr i):fP w i l k v:=by
 obtain ⟨rows,A,p,B,y,o⟩:=h;exact ⟨rows,aA A hb,p,B,λj x u C=>(y j x u C).below hb,o.trans (hb.mono o.size)⟩
theorem fP.done {w wr:N5} {l:N8} {A:N0} {n c:Nat} (h:fP w wr l n (.slice A n c)) (hn:l.length=n):cO rEx 2 wr A l:=by
 obtain ⟨rows,p,v,u,o,y⟩:=h;exact ⟨rows,Rd.own p,by omega,u,λj x i=>(o j x (by have:=(GF.1 i).1;omega) i).rd⟩
theorem fP.doneT {w wr:N5} {l:N8} {A:N0} {n c:Nat} (h:fP w wr l n (.slice A n c)) (hn:l.length=n):cO rEx 2 (dY w.heap.size wr) A l:=by
 obtain ⟨rows,C,H,D,B,I⟩:=h
 exact ⟨rows,Rd.own (dI C (F3 _)),by omega,D,λj x i=>by
  obtain ⟨u,v,e,o,p,y⟩:=B j x (by have:=(GF.1 i).1;omega) i
  exact cK.rd ⟨u,v,e,dI o (F3 _),dI p (F3 _),y⟩⟩
theorem fP.push {w i A:N5} {l:N8} {k:Nat} {v v':Value} {p o:Value} {x:Ex} {rows:List (N4)} (C:i.ownsRow w.heap.size 145 2 v k (List.flatten rows)) (B:rows.length=k) (N:∀r∈rows,r.length=2) (I:∀j x,j<k->l[j]?=some x->cK i w.heap.size (bH rows j) x) (J:ap w i) (O:l[k]?=some x) (L:cK i w.heap.size [p,o] x) (H:A.ownsRow w.heap.size 145 2 v' (k+1) (List.flatten rows++[p,o])) (hb:Below w.heap.size i A) (D:i.grownBy A v.ownBlock):fP w A l (k+1) v':=by
 refine ⟨rows++[[p,o]],by rw [GQ,List.flatten_cons,List.flatten_nil,List.append_nil];exact H,by simp [B],?_,?_,J.trans hb⟩
 ·intro r hr;rcases GU.1 hr with hr | hr
  ·exact N r hr
  ·rw [List.mem_singleton.1 hr];rfl
 ·intro j y Q u;rcases Gn j k with h | h
  ·have e:bH (rows++[[p,o]]) j=bH rows j:=by simp [bH,GH (show j<rows.length by omega)]
   rw [e];exact (I j y h u).pushed C D (by decide)
  ·obtain rfl:j=k:=ao;rw [O] at u;injection u with u
   subst u;have e:bH (rows++[[p,o]]) j=[p,o]:=by rw [<-B];simp [bH]
   rw [e];exact L.pushed C D (by decide)
def qK (w:N5) (x:Ex) (e:Ending) (i:N5):Prop:=∃A1 c1 h c2,e=.returned (.tuple #[.agg #[.slice A1 x.1.length c1,.slice h x.2.length c2],.bool true])/\cK i w.heap.size [.slice A1 x.1.length c1,.slice h x.2.length c2] x/\ap w i
theorem zn (A:N0) (c:Nat) (B:N0) (d:Nat) (x:Ex) (w:N5) (C:dr w A x.1 c) (y:dr w B x.2 d):Calls prog 114 #[.agg #[.slice A x.1.length c,.slice B x.2.length d]] w λe i=>∃A1 c1 h c2,e=.returned (.agg #[.slice A1 x.1.length c1,.slice h x.2.length c2])/\cK i w.heap.size [.slice A1 x.1.length c1,.slice h x.2.length c2] x/\ap w i:=by
 refine (vA [.slice A x.1.length c,.slice B x.2.length d] x w ⟨A,c,B,d,rfl,C,y⟩).mono ?_;rintro e i ⟨H,rfl,⟨u,v,rfl,p,o,D⟩,hb⟩;obtain ⟨A1,c1,rfl,_⟩:=aE p;obtain ⟨h,c2,rfl,_⟩:=aE o;exact ⟨A1,c1,h,c2,rfl,⟨_,_,rfl,p,o,D⟩,hb⟩
theorem qz (n m:Nat) (A:N0) (c:Nat) (B:N0) (d:Nat) (x:Ex) (w:N5) (hn:x.1.length=n) (hm:x.2.length=m) (p:dr w A x.1 c) (o:dr w B x.2 d):Calls prog 114 #[.agg #[.slice A n c,.slice B m d]] w λe i=>∃A1 c1 h c2,e=.returned (.agg #[.slice A1 n c1,.slice h m c2])/\cK i w.heap.size [.slice A1 n c1,.slice h m c2] x/\ap w i:=by
 subst hn;subst hm;exact zn A c B d x w p o
theorem vC (A:N0) (c:Nat) (B:N0) (d:Nat) (x:Ex) (w:N5) (Z:dr w A x.1 c) (Y:dr w B x.2 d):Calls prog 113 #[.agg #[.slice A x.1.length c,.slice B x.2.length d]] w (qK w x):=by
 have h:=λn m (hn:x.1.length=n) (hm:x.2.length=m) V (k:ap w V)=>qz n m A c B d x V hn hm (Z.below k) (Y.below k);unfold qK;obtain ⟨n,hn⟩:∃n,x.1.length=n:=⟨_,rfl⟩;obtain ⟨m,hm⟩:∃m,x.2.length=m:=⟨_,rfl⟩;have h:=h n m hn hm;rw [hn,hm];have O:=aa h;clear h hn hm Z Y;go_enter func113,ntmps113;go_wp2_with fail;refine (O.o _ ?_).mono ?_
 ·exact am
 rintro e p ⟨A1,c1,i,c2,rfl,ho,y⟩;have I:p.heap[w.heap.size+1]?=some (.cells #[H9,H9] 145 (0,0)):=(y.block (w.heap.size+1) (by simp)).trans (by rw [<-show (w.alloc (.cells #[.slice A n c,.slice B m d] 145)).heap.size=w.heap.size+1 by simp];exact F4 (w.alloc (.cells #[.slice A n c,.slice B m d] 145)) (.cells #[H9,H9] 145));have C:ap w p:=(((Gb _ w).alloc (F3 _) _).alloc (by simp) _).trans (y.mono (by first | omega | (simp;done) | (simp;omega)));have D:=ho.base (base':=w.heap.size) (by first | omega | (simp;done) | (simp;omega));have lz:=F1 I;obtain ⟨⟨z0,z1⟩,zf⟩:=bx2 I;obtain ⟨N,H,R⟩:=ae I C D;clear I C D y ho;go_wp2_with fail;have e1:=HE p (w.heap.size+1) 0 _ _ (.slice A1 n c1) N.o;have e2:=HE _ (w.heap.size+1) 1 _ _ (.slice i m c2) e1;have e3:((p.setCell (aq (w.heap.size+1) 0) (.slice A1 n c1)).setCell (aq (w.heap.size+1) 1) (.slice i m c2)).heap[w.heap.size+1]?=some (.cells #[.slice A1 n c1,.slice i m c2] 145 (0,0)):=by simpa using e2
 have hk:Keep (λj=>j=w.heap.size+1) p ((p.setCell (aq (w.heap.size+1) 0) (.slice A1 n c1)).setCell (aq (w.heap.size+1) 1) (.slice i m c2)):=Keep.setCell (S:=λj=>j=w.heap.size+1) (Keep.setCell (S:=λj=>j=w.heap.size+1) (Keep.refl _ _) (aq (w.heap.size+1) 0) (.inr rfl) _) (aq (w.heap.size+1) 1) (.inr rfl) _;obtain ⟨T,Q⟩:∃T,T=(p.setCell (aq (w.heap.size+1) 0) (.slice A1 n c1)).setCell (aq (w.heap.size+1) 1) (.slice i m c2):=⟨_,rfl⟩;rw [<-Q] at e3 hk ⊢;obtain ⟨⟨x0,x1⟩,xf⟩:=bx2 e3
 have L:cK T w.heap.size [.slice A1 n c1,.slice i m c2] x:=by
  obtain ⟨u,v,e,U,k2,k3⟩:=R.o;exact ⟨u,v,e,hk.own U (λj J e=>aw N.o (by decide) U (by rw [J,e])),hk.own k2 (λj J e=>aw N.o (by decide) k2 (by rw [J,e])),k3⟩
 exact Gm (v:=.tuple #[.agg #[.slice A1 n c1,.slice i m c2],.bool true]) (by simp [results,results113,go_sem,x0,x1]) rfl ⟨A1,c1,i,c2,rfl,L,H.o.trans (hk.toBelow H.o.size (λj J=>ao))⟩
theorem yQ (A:N0) (l:N8) (c:Nat) (w:N5) (h:cO rEx 2 w A l) (hl:l.length<=1048576):Calls prog 112 #[.slice A l.length c,.func (.func 113) #[] #[]] w λe Y=>∃v,e=.returned (.tuple #[v,.bool true])/\fP w Y l l.length v:=by
 obtain ⟨n,hn⟩:∃n,l.length=n:=⟨_,rfl⟩;rw [hn] at hl ⊢;obtain ⟨H,Hn⟩:=ab h hn;clear h hn;go_enter func112,ntmps112;go_wp2_with fail
 go_loopw [6,13] (λv i wr=>∃k:Nat,k<=n/\i=H8 k/\fP w wr l k v) (λ_ i _=>n-(intOf i).toNat)
 ·exact ⟨0,Gc _,rfl,fP.zero w l⟩
 case round=>
  obtain ⟨k,hk,rfl,y⟩:=hrel;obtain ⟨Al,cl,rfl⟩:=y.form;by_cases a0:k<n
  ·obtain ⟨x,hx⟩:∃x,l[k]?=some x:=⟨_,GG (by rw [Hn.o];exact a0)⟩;have hb:=y.b;obtain ⟨b,o,A1,c1,A2,c2,rfl,a5,p1,p2,r1,r2⟩:=iC (H.o.below fI hb) hx;have p:=λY (q:ap wr Y)=>vC A1 c1 A2 c2 x Y (r1.below q) (r2.below q);unfold qK at p;obtain ⟨B,I⟩:∃B,x.1.length=B:=⟨_,rfl⟩;obtain ⟨C,R⟩:∃C,x.2.length=C:=⟨_,rfl⟩;rw [I] at p1 p;rw [R] at p2 p;obtain ⟨a1,Z,Hx⟩:=ae p y hx;clear p y hx r1 r2 I R hb;go_wp2_with fail;refine (a1.o _ ?_).mono ?_
   ·exact am
   rintro e w3 ⟨B1,d1,B2,V,rfl,ho,T⟩;have u:ap wr w3:=((Gb _ wr).alloc (F3 _) _).trans (T.mono (by first | omega | (simp;done) | (simp;omega)));have L:=(Z.o.below u).below ((Gb _ _).alloc (F3 _) (.cells #[.slice B1 B d1,.slice B2 C V] 145));have J:=(ho.base (base':=w.heap.size) (by have:=Z.o.b.size;first | omega | (simp;done) | (simp;omega))).below ((Gb _ _).alloc (F3 _) (.cells #[.slice B1 B d1,.slice B2 C V] 145));obtain ⟨a3,a4⟩:=ab L J;clear L J ho T u p1 p2;obtain ⟨rows,h1,h2,h3,h4,h5⟩:=a3.o;obtain ⟨R1,R2,R3,R4,R5⟩:=ag h1 h2 h3 h4 h5;clear h1 h2 h3 h4 h5;have Q:=aa (show (w3.alloc (.cells #[.slice B1 B d1,.slice B2 C V] 145)).heap.size=w3.heap.size+1 by simp);go_wp2_with (at_builtin;refine bJ Cu _ rfl (.tmp 25) (.tmp 27) rfl w.heap.size (.slice Al k cl) k _ rfl R1.o [.slice B1 B d1,.slice B2 C V] (congrArg (λb:Nat=>Value.slice (some (aq b 0)) 1 1) Q.o.symm) rfl (by simp [Value.oneCell']) ao (by unfold maxLen;omega) R5.o.size ?_);intro g6 c6 w6 D N O;have U:=fP.push R1.o R2.o R3.o R4.o R5.o Hx.o a4.o D N O;have a2:=aa U;clear D N O U;go_wp2_with fail;go_roundw
   ·exact ⟨k+1,by omega,by go_num,a2.o⟩
   ·simp [intOf];omega
  ·obtain rfl:n=k:=ao;have Z:=aa y;clear y;go_wp2_with fail;go_ret2;exact ⟨_,rfl,Z.o⟩
theorem tE (A:N0) (l:N8) (c:Nat) (w:N5) (h:cO rEx 2 w A l) (hl:l.length<=1048576):Calls prog 71 #[.slice A l.length c] w λe u=>∃p x,e=.returned (.slice p l.length x)/\cO rEx 2 (dY w.heap.size u) p l/\ap w u:=by
 have hm:=yQ A l c w h hl;obtain ⟨n,hn⟩:∃n,l.length=n:=⟨_,rfl⟩;rw [hn] at hm ⊢;obtain ⟨B,C⟩:=ab hm hn;clear hm hn h;go_enter func71,ntmps71;go_wp2_with fail;refine B.o.mono ?_;rintro e D ⟨v,rfl,i⟩;obtain ⟨p,x,rfl⟩:=i.form;have y:=aa i;clear i;go_wp2;go_ret;exact ⟨_,_,rfl,y.o.doneT C.o,y.o.b⟩
def cz (l:N8) (h:N1):N8:=h.map λi=>l.getD i.toNat ([],[])
theorem jP (l:N8) (h:N1):(cz l h).length=h.length:=by simp [cz]
theorem sC (l:N8) (i:N1) {k:Nat} (h:k<i.length):(cz l i)[k]?=some (l.getD (nth i k).toNat ([],[])):=by simp [cz,dh _ _ h,h]
theorem yn (P n c:Nat) (A:N0) (i:Int) (w:N5) (x:w.heap[P]?=some (.cells #[.slice A n c] 25 (0,0))) (C:i<0\/(n:Int)<=i):Calls prog 233 #[H8 i,(ar P)] w λe D=>e=.returned (.tuple #[.agg #[H9,H9],.bool false])/\ap w D:=by
 obtain ⟨L,Q⟩:=bx1 x;have I:=F1 x;clear x;rcases Int.lt_or_le i 0 with B | B
 ·have J:i<0:=B;clear C;go_enter func233,ntmps233;go_wp2_with fail;have p:=F4 w (.cells #[H9,H9] 145);obtain ⟨o,h⟩:∃o,o=w.alloc (.cells #[H9,H9] 145):=⟨_,rfl⟩;have hb:ap w o:=by rw [h];exact (Gb _ _).alloc (F3 _) _
  rw [<-h] at p ⊢;obtain ⟨⟨u,y⟩,H⟩:=bx2 p;exact Gm (v:=.tuple #[.agg #[H9,H9],.bool false]) (by simp [results,results233,go_sem,u,y]) rfl ⟨rfl,hb⟩
 ·have O:(n:Int)<=i:=ao;have N:¬i<0:=ao;clear C;go_enter func233,ntmps233;go_wp2_with fail;have p:=F4 w (.cells #[H9,H9] 145);obtain ⟨o,h⟩:∃o,o=w.alloc (.cells #[H9,H9] 145):=⟨_,rfl⟩;have hb:ap w o:=by rw [h];exact (Gb _ _).alloc (F3 _) _
  rw [<-h] at p ⊢;obtain ⟨⟨u,y⟩,H⟩:=bx2 p;exact Gm (v:=.tuple #[.agg #[H9,H9],.bool false]) (by simp [results,results233,go_sem,u,y]) rfl ⟨rfl,hb⟩
theorem uK (P c j:Nat) (A:N0) (l:N8) (x:Ex) (w:N5) (R:w.heap[P]?=some (.cells #[.slice A l.length c] 25 (0,0))) (h:cO rEx 2 w A l) (hx:l[j]?=some x):Calls prog 233 #[H8 j,(ar P)] w (qK w x):=by
 have I:=(GF.1 hx).1;obtain ⟨b,o,A1,c1,A2,c2,rfl,a0,p1,p2,r1,r2⟩:=iC h hx;have i:=λn m (hn:x.1.length=n) (hm:x.2.length=m) w' (k:ap w w')=>qz n m A1 c1 A2 c2 x w' hn hm (r1.below k) (r2.below k);unfold qK;obtain ⟨n,hn⟩:∃n,x.1.length=n:=⟨_,rfl⟩;obtain ⟨m,hm⟩:∃m,x.2.length=m:=⟨_,rfl⟩;have i:=i n m hn hm;rw [hn] at p1;rw [hm] at p2;rw [hn,hm];obtain ⟨N,hN⟩:∃N,l.length=N:=⟨_,rfl⟩;rw [hN] at R I;obtain ⟨p0,pf⟩:=bx1 R;have a3:=F1 R;have a2:(j:Int)<N:=ao;have a4:¬((j:Int)<0):=ao;have a1:¬((N:Int)<=j):=ao;have V:=aa i;clear i hn hm r1 r2 hx h hN R;go_enter func233,ntmps233;go_wp2_with fail;refine (V.o _ ?_).mono ?_
 ·exact am
 rintro e D ⟨B,y,C,p,rfl,ho,H⟩;have Q:D.heap[w.heap.size]?=some (.cells #[H9,H9] 145 (0,0)):=(H.block w.heap.size (by simp)).trans (F4 w _);have J:ap w D:=((Gb _ w).alloc (F3 _) _).trans (H.mono (by first | omega | (simp;done) | (simp;omega)));have L:=ho.base (base':=w.heap.size) (by first | omega | (simp;done) | (simp;omega));have lz:=F1 Q;obtain ⟨⟨z0,z1⟩,zf⟩:=bx2 Q;obtain ⟨U,O,Z⟩:=ae Q J L;clear Q J L H ho p0 pf p1 p2;go_wp2_with fail;have e1:=HE D w.heap.size 0 _ _ (.slice B n y) U.o;have e2:=HE _ w.heap.size 1 _ _ (.slice C m p) e1;have e3:((D.setCell (aq w.heap.size 0) (.slice B n y)).setCell (aq w.heap.size 1) (.slice C m p)).heap[w.heap.size]?=some (.cells #[.slice B n y,.slice C m p] 145 (0,0)):=by simpa using e2
 have hk:Keep (λj=>j=w.heap.size) D ((D.setCell (aq w.heap.size 0) (.slice B n y)).setCell (aq w.heap.size 1) (.slice C m p)):=Keep.setCell (S:=λj=>j=w.heap.size) (Keep.setCell (S:=λj=>j=w.heap.size) (Keep.refl _ _) (aq w.heap.size 0) (.inr rfl) _) (aq w.heap.size 1) (.inr rfl) _;obtain ⟨W9,Y⟩:∃W9,W9=(D.setCell (aq w.heap.size 0) (.slice B n y)).setCell (aq w.heap.size 1) (.slice C m p):=⟨_,rfl⟩;rw [<-Y] at e3 hk ⊢;obtain ⟨⟨x0,x1⟩,xf⟩:=bx2 e3
 have T:cK W9 w.heap.size [.slice B n y,.slice C m p] x:=by
  obtain ⟨u,v,e,k1,k2,k3⟩:=Z.o;exact ⟨u,v,e,hk.own k1 (λj I e=>aw U.o (by decide) k1 (by rw [I,e])),hk.own k2 (λj I e=>aw U.o (by decide) k2 (by rw [I,e])),k3⟩
 exact Gm (v:=.tuple #[.agg #[.slice B n y,.slice C m p],.bool true]) (by simp [results,results233,go_sem,x0,x1]) rfl ⟨B,y,C,p,rfl,T,O.o.trans (hk.toBelow O.o.size (λj I=>ao))⟩
def jh (n:Nat) (i:Int):Prop:=0<=i/\i<n
instance (n:Nat) (i:Int):Decidable (jh n i):=by unfold jh;exact inferInstance
def vQ (l:N8) (h:N1) (w:N5) (e:Ending) (i:N5):Prop:=ap w i/\ (((∀k,k<h.length->jh l.length (nth h k))/\∃v,e=.returned (.tuple #[v,.bool true])/\fP w i (cz l h) h.length v)\/((¬∀k,k<h.length->jh l.length (nth h k))/\e=.returned (.tuple #[H9,.bool false])))
theorem uY (P c d:Nat) (A B:N0) (l:N8) (u:N1) (w:N5) (hP:w.heap[P]?=some (.cells #[.slice A l.length c] 25 (0,0))) (h:cO rEx 2 w A l) (hl:l.length<=1048576) (hB:Rd w B (az .i64 u)) (hi:u.length<=1048576):Calls prog 232 #[.slice B u.length d,.func (.func 233) #[] #[(ar P)]] w (vQ l u w):=by
 obtain ⟨n,hn⟩:∃n,u.length=n:=⟨_,rfl⟩;unfold vQ;rw [hn] at hi ⊢;obtain ⟨N,hN⟩:∃N,l.length=N:=⟨_,rfl⟩;have T:=jP l u;have Y:=λk (hk:k<u.length)=>sC l u hk;rw [hn] at T Y;have aM:=hP;rw [hN] at hl hP ⊢;obtain ⟨H,Hn,HN,HB,HP,b5,b6,b0⟩:=aj h hn hN hB hP aM T Y;clear h hn hN hB hP aM T Y;go_enter func232,ntmps232;go_wp2_with fail
 go_loopw [6,13] (λv i wr=>∃k:Nat,k<=n/\i=H8 k/\fP w wr (cz l u) k v/\an (∀j,j<k->jh N (nth u j))) (λ_ i _=>n-(intOf i).toNat)
 ·exact ⟨0,Gc _,rfl,fP.zero w _,aa λj hj=>ao⟩
 case round=>
  obtain ⟨k,hk,rfl,L,Q⟩:=hrel;obtain ⟨Al,cl,rfl⟩:=L.form;by_cases R:k<n
  ·have hb:=L.b;obtain ⟨b,o,rfl,p⟩:=(HB.o.below hb).num (show k<u.length by rw [Hn.o];exact R);obtain ⟨i,C⟩:∃i,nth u k=i:=⟨_,rfl⟩;rw [C] at p;have I:=(hb.block P (F1 HP.o)).trans HP.o;by_cases U:jh N i
   ·obtain ⟨j,rfl⟩:∃j:Nat,i=(j:Int):=⟨i.toNat,by have:=U.1;omega⟩;have b3:j<N:=by have:=U.2;omega
    have J:=b0.o k R;rw [C,Int.toNat_natCast] at J;have a7:j<l.length:=by rw [HN.o];exact b3
    obtain ⟨x,hx⟩:∃x,l[j]?=some x:=⟨_,GG a7⟩;have a1:l.getD j ([],[])=x:=by simp [hx]
    rw [a1] at J;have y:=uK P c j A l x wr (by rw [HN.o];exact I) (H.o.below fI hb) hx;unfold qK at y;obtain ⟨n1,a2⟩:∃n1,x.1.length=n1:=⟨_,rfl⟩;obtain ⟨Z,ax⟩:∃Z,x.2.length=Z:=⟨_,rfl⟩;rw [a2,ax] at y;obtain ⟨V,O,Hx,Hg,Hi⟩:=ag y L J U C;clear y L hx a2 ax hb U C J a1 I a7;go_wp2_with fail;refine V.o.mono ?_;rintro e w3 ⟨B1,d1,B2,d2,rfl,ho,D⟩;have a4:=(O.o.below D).below ((Gb _ _).alloc (F3 _) (.cells #[.slice B1 n1 d1,.slice B2 Z d2] 145));have a3:=(ho.base (base':=w.heap.size) O.o.b.size).below ((Gb _ _).alloc (F3 _) (.cells #[.slice B1 n1 d1,.slice B2 Z d2] 145));obtain ⟨b2,b4⟩:=ab a4 a3;clear a4 a3 ho D p;obtain ⟨rows,h1,h2,h3,h4,h5⟩:=b2.o;obtain ⟨R1,R2,R3,R4,R5⟩:=ag h1 h2 h3 h4 h5;clear h1 h2 h3 h4 h5;have ak:=aa (show (w3.alloc (.cells #[.slice B1 n1 d1,.slice B2 Z d2] 145)).heap.size=w3.heap.size+1 by simp);go_wp2_with (at_builtin;refine bJ Cu _ rfl (.tmp 25) (.tmp 27) rfl w.heap.size (.slice Al k cl) k _ rfl R1.o [.slice B1 n1 d1,.slice B2 Z d2] (congrArg (λb:Nat=>Value.slice (some (aq b 0)) 1 1) ak.o.symm) rfl (by simp [Value.oneCell']) ao (by unfold maxLen;omega) R5.o.size ?_);intro g6 c6 w6 a0 a8 ad;have aP:=fP.push R1.o R2.o R3.o R4.o R5.o Hx.o b4.o a0 a8 ad;have b1:=aa aP;clear a0 a8 ad aP;go_wp2_with fail;go_roundw
    case rel=>exact ⟨k+1,by omega,by go_num,b1.o,aa (p:=∀j,j<k+1->jh N (nth u j)) λt ht=>by
     rcases Gn t k with h | h
     ·exact Q.out t h
     ·obtain rfl:t=k:=ao
      rw [Hi.o];exact Hg.o⟩
    case measure=>simp [intOf];omega
   ·have a5:i<0\/(N:Int)<=i:=by unfold jh at U;omega
    have y:=yn P N c A i wr I a5;obtain ⟨V,O,Hg,Hi⟩:=af y L U C;clear y L hb U a5 C I;go_wp2_with fail;refine V.o.mono ?_;rintro e w3 ⟨rfl,D⟩;have a6:=aa (O.o.b.trans (D.mono O.o.b.size));clear D p;go_wp2_with fail;go_ret2;exact ⟨a6.o.alloc a6.o.size _,.inr ⟨λh=>Hg.o (by have:=h k R;rwa [Hi.o] at this),rfl⟩⟩
  ·obtain rfl:n=k:=ao;have O:=aa L;clear L;go_wp2_with fail;go_ret2;exact ⟨O.o.b,.inl ⟨Q.out,_,rfl,O.o⟩⟩
def fL (a b:Nat) (x:Ex):Prop:=x.1.length=a/\x.2.length=b
instance (a b:Nat) (x:Ex):Decidable (fL a b x):=by unfold fL;exact inferInstance
theorem vD (y C n m a b c d:Nat) (A B:N0) (w:N5) (v:w.heap[y]?=some (.cells #[H8 a] 3 (0,0))) (u:w.heap[C]?=some (.cells #[H8 b] 3 (0,0))):Calls prog 104 #[.agg #[.slice A n c,.slice B m d],(ar y),(ar C)] w λe D=>e=.returned (.bool (!decide (n=a/\m=b)))/\ap w D:=by
 obtain ⟨J,N⟩:=bx1 v;obtain ⟨I,H⟩:=bx1 u;have l1:=F1 v;have L:=F1 u;clear v u;by_cases i:n=a
 ·by_cases p:m=b
  ·have o:((n:Int) != (a:Int))=false:=by rw [i];simp
   have x:((m:Int) != (b:Int))=false:=by rw [p];simp
   have h:(!decide (n=a/\m=b))=false:=by simp [i,p]
   rw [h];clear i p h;go_enter func104,ntmps104;go_wp2;go_ret;exact ⟨rfl,(Gb _ w).alloc (F3 _) _⟩
  ·have o:((n:Int) != (a:Int))=false:=by rw [i];simp
   have x:((m:Int) != (b:Int))=true:=by rw [bne_iff_ne];omega
   have h:(!decide (n=a/\m=b))=true:=by simp [p]
   rw [h];clear i p h;go_enter func104,ntmps104;go_wp2;go_ret;exact ⟨rfl,(Gb _ w).alloc (F3 _) _⟩
 ·have o:((n:Int) != (a:Int))=true:=by rw [bne_iff_ne];omega
  have h:(!decide (n=a/\m=b))=true:=by simp [i]
  rw [h];clear i h;go_enter func104,ntmps104;go_wp2;go_ret;exact ⟨rfl,(Gb _ w).alloc (F3 _) _⟩
def rK (l:N8) (a b:Nat) (w:N5) (e:Ending) (h:N5):Prop:=∃d:Int,e=.returned (H8 d)/\ -1<=d/\d<=1048576/\(d<0↔∀x∈l,fL a b x)/\ap w h
theorem tz (Z P2 a b c:Nat) (A:N0) (l:N8) (w:N5) (Y:w.heap[Z]?=some (.cells #[H8 a] 3 (0,0))) (T:w.heap[P2]?=some (.cells #[H8 b] 3 (0,0))) (h:cO rEx 2 w A l) (hl:l.length<=1048576):Calls prog 103 #[.slice A l.length c,.func (.func 104) #[] #[(ar Z),(ar P2)]] w (rK l a b w):=by
 unfold rK;have N:=λn m A c B d w' (k:ap w w')=>vD Z P2 n m a b c d A B w' ((k.block _ (F1 Y)).trans Y) ((k.block _ (F1 T)).trans T);obtain ⟨n,hn⟩:∃n,l.length=n:=⟨_,rfl⟩;rw [hn] at hl ⊢;obtain ⟨H,Hn,U⟩:=ae h hn N;clear h hn N Y T;go_enter func103,ntmps103;go_wp2_with fail
 go_loopw [5,8] (λ_ i wr=>∃k:Nat,k<=n/\i=H8 k/\an (∀j x,j<k->l[j]?=some x->fL a b x)/\ap w wr) (λ_ i _=>n-(intOf i).toNat)
 ·exact ⟨0,Gc _,rfl,aa λj x O=>ao,Gb _ _⟩
 case round=>
  obtain ⟨k,hk,rfl,v,hb⟩:=hrel;by_cases Q:k<n
  ·obtain ⟨x,I⟩:∃x,l[k]?=some x:=⟨_,GG (by rw [Hn.o];exact Q)⟩;obtain ⟨b',o,A1,c1,A2,c2,rfl,a0,p1,p2,r1,r2⟩:=iC (H.o.below fI hb) I;have hc:=U.o x.1.length x.2.length A1 c1 A2 c2 wr hb;by_cases J:fL a b x
   ·have L:(!decide (x.1.length=a/\x.2.length=b))=false:=by
     have:=J;unfold fL at this;simp [this.1,this.2]
    rw [L] at hc;obtain ⟨V,R,Hf,C⟩:=af hc I J hb;clear hc I J L r1 r2 hb;go_wp2_with fail;refine V.o.mono ?_;rintro e w1 ⟨rfl,u⟩;have D:=aa (C.o.trans (u.mono C.o.size));clear u p1 p2;go_wp2_with fail;go_roundw
    case rel=>exact ⟨k+1,by omega,by go_num,aa (p:=∀j x,j<k+1->l[j]?=some x->fL a b x) λj y O hy=>by
     rcases Gn j k with h | h
     ·exact v.out j y h hy
     ·obtain rfl:j=k:=ao
      have:=R.o;rw [hy] at this;injection this with this;rw [this];exact Hf.o,D.o⟩
    case measure=>simp [intOf];omega
   ·have L:(!decide (x.1.length=a/\x.2.length=b))=true:=by
     have:=J;unfold fL at this;simp only [Bool.not_eq_true',G7];exact this
    rw [L] at hc;obtain ⟨V,R,Hf,C⟩:=af hc I J hb;clear hc I J L r1 r2 hb;go_wp2_with fail;refine V.o.mono ?_;rintro e w1 ⟨rfl,u⟩;have D:=aa (C.o.trans (u.mono C.o.size));clear u p1 p2;go_wp2_with fail;go_ret;exact ⟨k,rfl,by omega,by omega,⟨λh=>ao,λh=>absurd (h x (List.mem_of_getElem? R.o)) Hf.o⟩,D.o⟩
  ·obtain rfl:n=k:=ao;have C:=aa hb;clear hb;go_wp2_with fail;go_ret;refine ⟨-1,rfl,by omega,by omega,⟨λ_ x I=>?_,λ_=>ao⟩,C.o⟩;obtain ⟨j,O⟩:=List.getElem?_of_mem I;exact v.out j x (by have:=(GF.1 O).1;have:=Hn.o;omega) O
def vR (l:N8) (a b:Nat) (w:N5) (e:Ending) (h:N5):Prop:=ap w h/\∃d:Int,((∀x∈l,fL a b x)/\e=.returned (.tuple #[H8 d,.bool true]))\/((¬∀x∈l,fL a b x)/\e=.returned (.tuple #[H8 d,.bool false]))
theorem vy (a b c:Nat) (A:N0) (l:N8) (w:N5) (h:cO rEx 2 w A l) (hl:l.length<=1048576):Calls prog 66 #[.slice A l.length c,H8 a,H8 b] w (vR l a b w):=by
 have v:∀(B y:Obj),ap w ((w.alloc B).alloc y):=λB y=>((Gb _ w).alloc (F3 _) _).alloc (by simp) _
 have u:=tz w.heap.size (w.heap.size+1) a b c A l ((w.alloc (.cells #[H8 a] 3)).alloc (.cells #[H8 b] 3)) ((Gk _ _ _ (by simp)).trans (F4 w _))
  (by have:=F4 (w.alloc (.cells #[H8 a] 3)) (.cells #[H8 b] 3);rwa [show (w.alloc (.cells #[H8 a] 3)).heap.size=w.heap.size+1 by simp] at this) (h.below fI (v _ _)) hl
 obtain ⟨n,hn⟩:∃n,l.length=n:=⟨_,rfl⟩;unfold rK at u;unfold vR;rw [hn] at u ⊢;obtain ⟨J,L⟩:=ab u v;clear u v h hn;go_enter func66,ntmps66;go_wp2_with fail;refine J.o.mono ?_;rintro e N ⟨d,rfl,D,C,p,hb⟩;obtain ⟨x,i⟩:=ab ((L.o (.cells #[H8 a] 3) (.cells #[H8 b] 3)).trans (hb.mono (by simp;omega))) p;clear hb p;by_cases I:d<0
 ·have H:decide (d<0)=true:=by simp;omega
  go_wp2_with fail
  all_goals
   go_ret2;exact ⟨x.o,_,.inl ⟨i.o.1 I,rfl⟩⟩
 ·have H:decide (d<0)=false:=by simp;omega
  go_wp2_with fail
  all_goals
   go_ret2;exact ⟨x.o,_,.inr ⟨λh=>by have:=i.o.2 h;omega,rfl⟩⟩
def be (n size:Nat):Nat:=if n=0 then 0 else (n-1)/size+1
theorem zk (n s:Nat) (hn:1<=n):((n:Int)-1)/(s:Int)=(((n-1)/s:Nat):Int):=by
 rw [show ((n:Int)-1)=((n-1:Nat):Int) by omega,<-Int.natCast_ediv]
theorem fF (n size:Nat):be n size<=n:=by
 unfold be
 split
 ·omega
 ·have:=Nat.div_le_self (n-1) size;omega
theorem fe {n size k:Nat} (h:k<be n size):k*size<n:=by
 unfold be at h
 split at h
 ·omega
 ·have i:k<=(n-1)/size:=ao;have o:=HU size i;have p:=Nat.div_mul_le_self (n-1) size;omega
def dS (n size k:Nat):N4:=(List.range k).flatMap λj=>[H8 ((j*size:Nat):Int),H8 ((min (j*size+size) n:Nat):Int)]
theorem fU (n size k:Nat):dS n size (k+1)=dS n size k++[H8 ((k*size:Nat):Int),H8 ((min (k*size+size) n:Nat):Int)]:=by simp [dS,GV,List.flatMap_append]
theorem mL (n size k:Nat):(dS n size k).length=k*2:=by
 induction k with
 | zero=>simp [dS]
 | succ k ih=>rw [fU,GE,ih];simp;omega
theorem vH (n size:Nat) {j k:Nat} (h:j<k):(dS n size k)[j*2]?=some (H8 ((j*size:Nat):Int))/\(dS n size k)[j*2+1]?=some (H8 ((min (j*size+size) n:Nat):Int)):=by
 induction k with
 | zero=>omega
 | succ k ih=>
  rw [fU];rcases Gn j k with i | i
  ·obtain ⟨o,p⟩:=ih i;have hl:=mL n size k;rw [GH ao,GH ao];exact ⟨o,p⟩
  ·obtain rfl:j=k:=ao;have hl:=mL n size j;rw [GK ao,GK ao,hl];simp
theorem vB (n batch:Nat) (hb:1<=batch) (hn:batch<=n):be (n-n%batch) batch=n/batch:=by
 have u:=Nat.div_add_mod n batch;have h:=Nat.div_pos hn hb;have o:n-n%batch=batch*(n/batch):=ao;have p:1<=batch*(n/batch):=Nat.mul_pos hb h;unfold be;rw [if_neg ao,o]
 have i:batch*(n/batch)-1=batch*(n/batch-1)+(batch-1):=by
  have:batch*(n/batch)=batch*(n/batch-1)+batch:=by rw [<-Nat.mul_succ];congr 1;omega
  omega
 rw [i,Nat.mul_add_div hb,show (batch-1)/batch=0 from Nat.div_eq_of_lt ao];omega
theorem xt (n batch j:Nat) (hb:1<=batch) (h:j<n/batch):min (j*batch+batch) (n-n%batch)=j*batch+batch:=by
 have o:=Nat.div_add_mod n batch;have i:(j+1)*batch<=(n/batch)*batch:=HU _ h;rw [GW] at i;have p:(n/batch)*batch=batch*(n/batch):=Nat.mul_comm _ _;omega
theorem nh (n batch j:Nat) (h:j<n/batch):j*batch+batch<=n:=by
 have o:=Nat.div_mul_le_self n batch;have i:(j+1)*batch<=(n/batch)*batch:=HU _ h;rw [GW] at i;omega
theorem xc (n size:Nat) (h:1<=size):be n size=(n+size-1)/size:=by
 unfold be
 split
 ·subst_vars;rw [GY,Nat.div_eq_of_lt ao]
 ·rw [show n+size-1=(n-1)+size by omega,Nat.add_div_right _ h]
theorem xn (n:Int) (w:N5):Calls prog 99 #[H8 n] w λe h=>e=.returned (.bool (!decide (1<=n/\n<=1048576)))/\w=h:=by
 by_cases i:n<1
 ·go_enter func99,ntmps99;go_wp2;go_ret;exact ⟨cB (by first | (simp;omega) | (simp;done)),rfl⟩
 ·by_cases o:1048576<n
  ·go_enter func99,ntmps99;go_wp2;go_ret;exact ⟨cB (by first | (simp;omega) | (simp;done)),rfl⟩
  ·go_enter func99,ntmps99;go_wp2;go_ret;exact ⟨cB (by first | (simp;omega) | (simp;done)),rfl⟩
def Em (sz:N1) (e:Ending):Prop:=∃d:Int,e=.returned (H8 d)/\ -1<=d/\(d<0↔∀k,k<sz.length->1<=nth sz k/\nth sz k<=1048576)
theorem qv (A:N0) (sz:N1) (c:Nat) (w:N5) (J:Rd w A (az .i64 sz)) (hl:sz.length<=17592186043904):Calls prog 133 #[.slice A sz.length c,.func (.func 99) #[] #[]] w λe C=>Em sz e/\w=C:=by
 obtain ⟨n,hn⟩:∃n,sz.length=n:=⟨_,rfl⟩;have hw:=λz=>xn z w;rw [hn] at hl ⊢;obtain ⟨HA,H,I⟩:=ae J hn hw;clear J hn hw;go_enter func133,ntmps133;go_wp2_with fail
 go_loop [5,8] (λ_ i=>∃k:Nat,k<=n/\i=H8 k/\an (∀j,j<k->1<=nth sz j/\nth sz j<=1048576)) (λ_ i=>n-(intOf i).toNat)
 ·exact ⟨0,Gc _,rfl,aa λj L=>ao⟩
 case round=>
  obtain ⟨k,hk,rfl,u⟩:=hrel;by_cases B:k<n
  ·obtain ⟨b,o,rfl,p⟩:=HA.o.num (show k<sz.length by rw [H.o];exact B);by_cases x:1<=nth sz k/\nth sz k<=1048576
   ·have y:(!decide (1<=nth sz k/\nth sz k<=1048576))=false:=by simp [x.1,x.2]
    have hw:=I.o (nth sz k);rw [y] at hw;obtain ⟨D,v⟩:=ab x hw;clear x hw y;go_wp2_with fail;refine v.o.mono ?_;rintro e C ⟨rfl,rfl⟩;go_wp2_with fail;go_round
    case rel=>exact ⟨k+1,by omega,by go_num,aa (p:=∀j,j<k+1->1<=nth sz j/\nth sz j<=1048576) λj L=>by
     rcases Gn j k with h | h
     ·exact u.out j h
     ·obtain rfl:j=k:=ao
      exact D.o⟩
    case measure=>simp [intOf];omega
   ·have y:(!decide (1<=nth sz k/\nth sz k<=1048576))=true:=by simp;omega
    have hw:=I.o (nth sz k);rw [y] at hw;obtain ⟨D,v⟩:=ab x hw;clear x hw y;go_wp2_with fail;refine v.o.mono ?_;rintro e C ⟨rfl,rfl⟩;go_wp2_with fail;go_ret;exact ⟨⟨k,rfl,by omega,λh=>ao,λh=>absurd (h k (by rw [H.o];exact B)) D.o⟩,rfl⟩
  ·obtain rfl:k=n:=ao;go_wp2_with fail;go_ret;exact ⟨⟨-1,rfl,by omega,λ_=>by rw [H.o];exact u.out,λ_=>ao⟩,rfl⟩
theorem rC (A:N0) (sz:N1) (c:Nat) (w:N5) (u:Rd w A (az .i64 sz)) (hl:sz.length<=17592186043904) (h:¬∀k,k<sz.length->1<=nth sz k/\nth sz k<=1048576):Calls prog 100 #[.slice A sz.length c,.func (.func 99) #[] #[]] w λe p=>e=.returned (.bool true)/\w=p:=by
 have v:=qv A sz c w u hl;obtain ⟨y,H⟩:=ab v h;clear v u h;go_enter func100,ntmps100;go_wp2_with fail;refine y.o.mono ?_;rintro e p ⟨⟨d,rfl,B,i⟩,rfl⟩
 have x:0<=d:=by
  rcases Int.lt_or_le d 0 with h | h
  ·exact absurd (i.1 h) H.o
  ·exact h
 clear i;go_wp2;go_ret;exact ⟨cB (by simp [x]),rfl⟩
theorem tF (A:N0) (sz:N1) (c:Nat) (w:N5) (u:Rd w A (az .i64 sz)) (hl:sz.length<=17592186043904) (h:∀k,k<sz.length->1<=nth sz k/\nth sz k<=1048576):Calls prog 100 #[.slice A sz.length c,.func (.func 99) #[] #[]] w λe p=>e=.returned (.bool false)/\w=p:=by
 have v:=qv A sz c w u hl;obtain ⟨x,H⟩:=ab v h;clear v u h;go_enter func100,ntmps100;go_wp2_with fail;refine x.o.mono ?_;rintro e p ⟨⟨d,rfl,y,i⟩,rfl⟩;have B:d<0:=i.2 H.o;clear i;go_wp2;go_ret;exact ⟨cB (by simp;omega),rfl⟩
theorem sL (m N:Nat) (P S:Nat) (v0 v1 v2:Value) (w:N5) (p:w.heap[P]?=some (.cells #[(ar S)] 151 (0,0))) (h:w.heap[S]?=some (.cells #[v0,v1,v2,H8 N] 199 (0,0))) (J:N<=17592202821632) (hm:m<=17592202821632):Calls prog 102 #[H8 m,(ar P)] w λe u=>e=.returned (.agg #[H8 N,H8 ((N+m:Nat):Int)])/\u.heap[S]?=some (.cells #[v0,v1,v2,H8 ((N+m:Nat):Int)] 199 (0,0))/\Keep (λi=>i=S) w u:=by
 obtain ⟨D,I⟩:=bx1 p;obtain ⟨⟨s0,s1,s2,C⟩,H⟩:=bx4 h;have A:=F1 p;have y:=F1 h;have B:=aa h;clear h p;rw [Int.natCast_add];go_enter func102,ntmps102;go_wp2_with fail
 go_region
 all_goals go_wp2_with fail
 refine Gm (v:=.agg #[H8 N,H8 ((N:Int)+(m:Int))]) (by simp [results,results102,go_sem]) rfl ⟨rfl,?_,?_⟩
 ·have x:(w.setCell (aq S 3) (H8 ((N:Int)+(m:Int)))).heap[S]?=some (.cells #[v0,v1,v2,H8 ((N:Int)+(m:Int))] 199 (0,0)):=HE w S 3 _ _ _ B.o;have l1:=F1 x;exact (Gk _ _ S (by simp at l1 ⊢;omega)).trans ((Gk _ _ S l1).trans x)
 ·exact (((Keep.setCell (S:=λi=>i=S) (Keep.refl _ w) (aq S 3) (.inr rfl) _).alloc _).alloc _).drew
end Go.Proofs.YtindmkcnjlgomaaGreat
