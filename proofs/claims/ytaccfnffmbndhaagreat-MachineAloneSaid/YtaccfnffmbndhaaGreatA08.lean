/- The iterator over the rows of a matrix. Loops over iterators: what a round that appends keeps. Matrix.Mul. The walks of Sampler's Steps, Epoch, view, Batch. What a plan says, in plain numbers; how many items there are. Dividing a number evenly: what the code reckons, and what the reference counts. No condition. -/
import Derived.Test.YtaccfnffmbndhaaGreatA07
import Derived.Test.YtaccfnffmbndhaaGreatA03
set_option linter.unusedSimpArgs false
set_option linter.unusedVariables false
namespace Go.Proofs.YtaccfnffmbndhaaGreat
open Go.RowKit Go.Shelf
attribute [local go_sem] Oper.semAt_some
def rowEnc (g o c:Nat) {r:Nat} (k:Fin r):Array Value:=#[.int .i64 (k.1:Int),.slice (some ⟨g,o + k.1 * c,none⟩) c c]
def RowsKeep (n₀ Bm:Nat) (W W':World):Prop:=Below n₀ W W' ∧ (Bm < W.heap.size → W'.heap[Bm]? = W.heap[Bm]?)
theorem finTake {r k:Nat} (h:k < r):(List.finRange r).take (k + 1) = (List.finRange r).take k ++ [⟨k,h⟩]:=by
  rw [List.take_add_one]
  simp [h]
set_option maxRecDepth 100000 in
set_option maxHeartbeats 2000000 in
theorem rows1_in (n l Bm n₀ g o r c nn d:Nat) (hr:r ≤ 1048576) (hc:1 ≤ c ∧ c ≤ 1048576) (hnn:nn = r * c) (hd:nn ≤ d) (J Jx:List (Fin r) → World → Prop) (B:Nat) (hJ:AbidesFrom B J)
    (hY:∀ pre x W,J pre W → pre.length < r → YieldAt Fence.wide (n - 1) Tryz.prog l (rowEnc g o c x) W fun e W' =>
      (e = .returned (.bool true) ∧ J (pre ++ [x]) W' ∧ RowsKeep n₀ Bm W W') ∨ (e = .returned (.bool false) ∧ Jx (pre ++ [x]) W'))
    (W:World) (hBm:W.heap[Bm]? = some (.cells #[.int .i64 r,.int .i64 c,.slice (some ⟨g,o,none⟩) nn d] 282 (0,0))) (h0:J [] W) :
    CallsIn Fence.wide n Tryz.prog 217 #[.func (.yield l) #[] #[],.pointer (some ⟨Bm,0,none⟩)] W fun e W' => (∃ v,e = .returned v) ∧
      ((∃ ys,ys = List.finRange r ∧ J ys W') ∨ (∃ pre,True ∧ Jx pre W')):=by
  obtain ⟨⟨e0,e1,e2⟩,ef⟩:=bx3 hBm
  have HBm:=Lib.hid hBm;have Hnn:=Lib.hid hnn;clear hBm hnn
  refine callsIn_of_wp Tryz.func217 rfl trivial ?_ rfl
  simp only [Tryz.ntmps217,List.size_toArray,List.length_cons,List.length_nil,Nat.reduceAdd,Nat.reduceSub,Array.replicate_succ,Array.replicate_zero,List.push_toArray,List.append_toArray,List.nil_append,List.cons_append]
  gi_wp2
  gi_loopw [6] (fun i wr => ∃ k:Nat,k ≤ r ∧ i = .int .i64 k ∧ J ((List.finRange r).take k) wr ∧ wr.heap[Bm]? = some (.cells #[.int .i64 r,.int .i64 c,.slice (some ⟨g,o,none⟩) nn d] 282 (0,0)))
    (fun i _ => r - (intOf i).toNat)
  case atStart => exact ⟨0,Nat.zero_le _,rfl,h0,HBm.out⟩
  case round =>
    obtain ⟨k,hk,rfl,hJs,hBk⟩:=hrel
    clear e0 e1 e2 ef
    by_cases hlt:k < r
    · have hlen:((List.finRange r).take k).length < r:=by simp;omega
      obtain ⟨⟨e0,e1,e2⟩,ef⟩:=bx3 hBk
      have hrw:=row_any r c k g o nn d wr hr hc hlt Hnn.out hd
      have HJs:=Lib.hid hJs;have HBk:=Lib.hid hBk;have Hrw:=Lib.hid hrw;clear hJs hBk hrw
      gi_wp2_with fail
      refine ⟨trivial,(fun h => by cases h),?_⟩
      refine (callsIn_wide.2 Hrw.out).mono ?_
      rintro e w3 ⟨rfl,hb3⟩
      have hJ3:=hJ _ _ _ none HJs.out (grown_none hb3) (fun _ h => by cases h)
      have hBk3:=(hb3.block _ (lt_of_block HBk.out)).trans HBk.out
      obtain ⟨fn,tmps,assign,body,hy,hR⟩:=hY _ ⟨k,hlt⟩ w3 hJ3 hlen
      unfold rowEnc at hy
      dsimp only at hy
      have HBk3:=Lib.hid hBk3;clear hJ3 hBk3 hb3
      gi_wp2
      refine ⟨(fun h => by cases h),?_⟩
      refine hR.mono ?_
      rintro e w5 (⟨rfl,hJ5,hk5⟩ | ⟨rfl,hJx5⟩)
      · have hB5:=(hk5.2 (lt_of_block HBk3.out)).trans HBk3.out
        have HB5:=Lib.hid hB5;have HJ5:=Lib.hid hJ5;clear hB5 hJ5 hk5
        gi_wp2
        go_roundw
        case rel => exact ⟨k + 1,by omega,by go_num,by rw [finTake hlt];exact HJ5.out,HB5.out⟩
        case measure => simp [intOf];omega
      · gi_wp2
        refine bodyPost_ret (results_none rfl _ _ _) rfl ?_
        exact ⟨⟨_,rfl⟩,.inr ⟨_,trivial,hJx5⟩⟩
    · obtain rfl:k = r:=by omega
      have hall:(List.finRange k).take k = List.finRange k:=List.take_of_length_le (by simp)
      rw [hall] at hJs
      have HJs:=Lib.hid hJs;clear hJs hall
      gi_wp2
      go_end0
      exact ⟨⟨_,rfl⟩,.inl ⟨_,rfl,HJs.out⟩⟩
theorem rows_stops (n Bm n₀ g o r c nn d:Nat) (hr:r ≤ 1048576) (hc:1 ≤ c ∧ c ≤ 1048576) (hnn:nn = r * c) (hd:nn ≤ d) (w:World)
    (hBm:w.heap[Bm]? = some (.cells #[.int .i64 r,.int .i64 c,.slice (some ⟨g,o,none⟩) nn d] 282 (0,0))) :
    SeqStopsK Fence.wide n Tryz.prog 217 #[.pointer (some ⟨Bm,0,none⟩)] (rowEnc (r:=r) g o c) (RowsKeep n₀ Bm) (fun ys => ys = List.finRange r) (fun _ => True) r w:=fun l J Jx W hW hJ _ hY h0 =>
  rows1_in n l Bm n₀ g o r c nn d hr hc hnn hd J Jx _ hJ hY W ((hW.block _ (lt_of_block hBm)).trans hBm) h0
end Go.Proofs.YtaccfnffmbndhaaGreat
namespace Go.Proofs.YtaccfnffmbndhaaGreat
open Go.RowKit Go.Shelf
theorem rowsKeep_t {n₀ Bm:Nat} {A B C:World} (h:RowsKeep n₀ Bm A B) (k:RowsKeep n₀ Bm B C):RowsKeep n₀ Bm A C:=
  ⟨h.1.trans k.1,fun hb => (k.2 (Nat.lt_of_lt_of_le hb h.1.size)).trans (h.2 hb)⟩
theorem rowsKeep_b {n₀ Bm:Nat} {w:World} (hn:n₀ ≤ w.heap.size) (hb:Bm < w.heap.size) (W:World) (l:Nat) (o o':Obj) (hl:w.heap.size ≤ l) (h:W.heap[l]? = some o) (h1:o.isCells = false) (h2:o.isWalk = false):RowsKeep n₀ Bm W (W.putObj l o'):=
  ⟨belowK_b hn W l o o' hl h h1 h2,fun _ => (belowK_b (n₀:=Bm + 1) (by omega) W l o o' hl h h1 h2).block Bm (by omega)⟩
end Go.Proofs.YtaccfnffmbndhaaGreat
namespace Go.Proofs.YtaccfnffmbndhaaGreat
open Go.RowKit Go.Shelf
attribute [local go_sem] Oper.semAt_some
def mrow (ms:List Int) (c k:Nat):List Int:=upTo c fun j => nth ms (k * c + j)
def mulL (ms:List Int) (r c:Nat) (xs:List Int) (q:Int):List Int:=upTo r fun k => dotL (mrow ms c k) xs q
theorem mrow_len (ms:List Int) (c k:Nat):(mrow ms c k).length = c:=upTo_len _ _
theorem mrow_room {r c k:Nat} (hk:k < r):k * c + c ≤ r * c:=by
  have:=Nat.mul_le_mul_right c (show k + 1 ≤ r by omega)
  rwa [Nat.succ_mul] at this
theorem nth_drop (l:List Int) (m j:Nat):nth (l.drop m) j = nth l (m + j):=by simp [nth,List.getD_eq_getElem?_getD,List.getElem?_drop]
theorem nth_take {l:List Int} {m j:Nat} (h:j < m):nth (l.take m) j = nth l j:=by simp [nth,List.getD_eq_getElem?_getD,List.getElem?_take,h]
theorem mrow_eq {ms:List Int} {r c k:Nat} (hk:k < r) (hl:ms.length = r * c):(ms.drop (k * c)).take c = mrow ms c k:=by
  have:=mrow_room (c:=c) hk
  refine eq_upTo (by rw [List.length_take,List.length_drop];omega) fun j hj => ?_
  rw [nth_take hj,nth_drop]
theorem mrow_rd {W:World} {g o:Nat} {ms:List Int} {r c k:Nat} (h:Rd W (some ⟨g,o,none⟩) (nums .i64 ms)) (hk:k < r) (hl:ms.length = r * c):Rd W (some ⟨g,o + k * c,none⟩) (nums .i64 (mrow ms c k)):=by
  have:=(h.drop (k * c)).take c
  rwa [nums_drop,nums_take,mrow_eq hk hl] at this
theorem mrow_W64 {ms:List Int} {r c k:Nat} (h:W64 ms) (hk:k < r) (hl:ms.length = r * c):W64 (mrow ms c k):=upTo_W64 fun j hj => h _ (by have:=mrow_room (c:=c) hk;omega)
theorem mdot_any (r c k:Nat) (g o:Nat) (ms:List Int) (B:Option Addr) (xs:List Int) (e:Nat) (q:Int) (W:World) (hk:k < r) (hc:1 ≤ c ∧ c ≤ 1048576) (hms:ms.length = r * c)
    (hA:Rd W (some ⟨g,o,none⟩) (nums .i64 ms)) (wm:W64 ms) (hB:Rd W B (nums .i64 xs)) (hxl:xs.length = c) (wx:W64 xs) :
    Calls Tryz.prog 227 #[.slice (some ⟨g,o + k * c,none⟩) c c,.slice B c e,.int .i64 q] W fun e w' => e = .returned (.tuple #[.int .i64 (dotL (mrow ms c k) xs q),.bool true]) ∧ Below W.heap.size W w':=by
  have:=dot_any (some ⟨g,o + k * c,none⟩) B (mrow ms c k) xs c e q W (mrow_rd hA hk hms) hB (by rw [mrow_len,hxl]) (by rw [mrow_len];omega) (mrow_W64 wm hk hms) wx
  rwa [mrow_len,hxl] at this
theorem mulL_fin (ms:List Int) (r c:Nat) (xs:List Int) (q:Int):((List.finRange r).map fun k => dotL (mrow ms c k.1) xs q) = mulL ms r c xs q:=by
  refine eq_upTo (by simp) fun k hk => ?_
  rw [nth_eq _ _ (by simpa using hk)]
  simp
set_option maxRecDepth 100000 in
set_option maxHeartbeats 2000000 in
theorem mmul_any (r c:Nat) (g o nn d:Nat) (ms:List Int) (B:Option Addr) (xs:List Int) (e:Nat) (q:Int) (w:World) (hr:1 ≤ r ∧ r ≤ 1048576) (hc:1 ≤ c ∧ c ≤ 1048576) (hnn:nn = r * c) (hd:nn ≤ d) (hm:nn ≤ 17592186043904)
    (hms:ms.length = nn) (hA:Rd w (some ⟨g,o,none⟩) (nums .i64 ms)) (wm:W64 ms) (hB:Rd w B (nums .i64 xs)) (hxl:xs.length = c) (wx:W64 xs) :
    Calls Tryz.prog 215 #[.agg #[.int .i64 r,.int .i64 c,.slice (some ⟨g,o,none⟩) nn d],.slice B c e,.int .i64 q] w fun e w' => ∃ A' c',e = .returned (.tuple #[.slice A' r c',.bool true]) ∧ w'.ownsRow w.heap.size 2 1 (.slice A' r c') r (nums .i64 (mulL ms r c xs q)) ∧ Below w.heap.size w w':=by
  have hrt:=fun w' => right_any r c (some ⟨g,o,none⟩) nn d w' hr hc hnn hm
  have hrw:=fun cs w' => rows_any cs w'
  have Hrt:=Lib.hid hrt;have Hrw:=Lib.hid hrw;have Hnn:=Lib.hid hnn;have Hms:=Lib.hid hms;have Hxl:=Lib.hid hxl;have HA:=Lib.hid hA;have HB:=Lib.hid hB;have WM:=Lib.hid wm;have WX:=Lib.hid wx;clear hrt hrw hnn hms hxl hA hB wm wx
  refine (callsIn_wide (n:=3)).1 ?_
  refine callsIn_of_wp_marks Tryz.func215 rfl trivial ?_ rfl
  simp only [Tryz.ntmps215,List.size_toArray,List.length_cons,List.length_nil,Nat.reduceAdd,Nat.reduceSub,Array.replicate_succ,Array.replicate_zero,List.push_toArray,List.append_toArray,List.nil_append,List.cons_append]
  gi_wp2_with fail
  refine ⟨trivial,?_⟩
  refine (callsIn_wide.2 (Hrt.out _)).mono ?_
  rintro e w1 ⟨rfl,rfl⟩
  gi_wp2_with fail
  refine ⟨trivial,?_⟩
  refine (callsIn_wide.2 (Hrw.out _ _)).mono ?_
  rintro e w2 ⟨rfl,rfl⟩
  gi_wp2_with fail
  obtain ⟨W0,hW0⟩:∃ W0,W0 = ((((w.alloc (.cells #[.int .i64 r,.int .i64 c,.slice (some ⟨g,o,none⟩) nn d] 282)).alloc (.cells #[.slice B c e] 64)).alloc (.cells #[.int .i64 q] 3)).alloc (.cells #[.int .i64 r,.int .i64 c,.slice (some ⟨g,o,none⟩) nn d] 282)):=⟨_,rfl⟩
  have hs0:W0.heap.size = w.heap.size + 1 + 1 + 1 + 1:=by rw [hW0];simp
  have b4:Boxed W0 (w.heap.size + 1) 64 (.slice B c e):=by
    rw [hW0]
    have:=((Boxed.new (w.alloc (.cells #[.int .i64 r,.int .i64 c,.slice (some ⟨g,o,none⟩) nn d] 282)) 64 (.slice B c e)).alloc (.cells #[.int .i64 q] 3)).alloc (.cells #[.int .i64 r,.int .i64 c,.slice (some ⟨g,o,none⟩) nn d] 282)
    simpa using this
  have b5:Boxed W0 (w.heap.size + 1 + 1) 3 (.int .i64 q):=by
    rw [hW0]
    have:=(Boxed.new ((w.alloc (.cells #[.int .i64 r,.int .i64 c,.slice (some ⟨g,o,none⟩) nn d] 282)).alloc (.cells #[.slice B c e] 64)) 3 (.int .i64 q)).alloc (.cells #[.int .i64 r,.int .i64 c,.slice (some ⟨g,o,none⟩) nn d] 282)
    simpa using this
  have hbel0:Below w.heap.size w W0:=by rw [hW0];exact ((((Below.refl _ w).alloc (Nat.le_refl _) _).alloc (by simp) _).alloc (by simp;omega) _).alloc (by simp;omega) _
  rw [← hW0,← hs0]
  have bO:=(Boxed.new W0 64 (.slice none 0 0)).alloc (.cells #[.int .i64 r,.int .i64 c,.slice (some ⟨g,o,none⟩) nn d] 282)
  have bM:((W0.alloc (.cells #[.slice none 0 0] 64)).alloc (.cells #[.int .i64 r,.int .i64 c,.slice (some ⟨g,o,none⟩) nn d] 282)).heap[W0.heap.size + 1]? = some (.cells #[.int .i64 r,.int .i64 c,.slice (some ⟨g,o,none⟩) nn d] 282 (0,0)):=by
    have:=heap_alloc_new (W0.alloc (.cells #[.slice none 0 0] 64)) (.cells #[.int .i64 r,.int .i64 c,.slice (some ⟨g,o,none⟩) nn d] 282)
    simpa using this
  have HS0:=Lib.hid hs0;have HBl0:=Lib.hid hbel0;have HbM:=Lib.hid bM;clear hW0
  clear hs0 hbel0 bM
  refine' wpIn_rangeFunc_ownG (F:=Fence.wide) (n:=3) rfl (by omega) (gf:=217) (lb:=#[.pointer (some ⟨W0.heap.size + 1,0,none⟩)]) rfl trivial (enters_of Tryz.func217 (by kernel_rfl) rfl)
    (rows_stops _ (W0.heap.size + 1) w.heap.size g o r c nn d hr.2 hc Hnn.out hd _ HbM.out) rowsKeep_t (rowsKeep_b (by have:=HBl0.out.size;simp;omega) (by simp)) (Below.refl _ _) (fun _ => rfl)
    (fun (pre:List (Fin r)) W => ((∃ v,Boxed W W0.heap.size 64 v ∧ W.ownsRow w.heap.size 2 1 v pre.length (nums .i64 (pre.map fun k => dotL (mrow ms c k.1) xs q)) ∧ True) ∧ Boxed W (w.heap.size + 1) 64 (.slice B c e) ∧ Boxed W (w.heap.size + 1 + 1) 3 (.int .i64 q) ∧ W.heap[W0.heap.size + 1]? = some (.cells #[.int .i64 r,.int .i64 c,.slice (some ⟨g,o,none⟩) nn d] 282 (0,0))) ∧ Below w.heap.size w W)
    (fun _ _ _ => False)
    (OwnFrom.and (OwnFrom.and (Own.from (holdsRow_own w.heap.size W0.heap.size 64 2 1 (fun pre:List (Fin r) => pre.length) (fun pre => nums .i64 (pre.map fun k => dotL (mrow ms c k.1) xs q)) (fun _ _ => True)) _) (OwnFrom.and (ownFrom_block _ _ _ rfl) (OwnFrom.and (ownFrom_block _ _ _ rfl) (ownFrom_block _ _ _ rfl)))) (ownFrom_below (Nat.le_refl _) (by have:=HBl0.out.size;simp;omega)))
    (fun _ _ _ _ _ hs _ _ => hs)
    ⟨⟨⟨_,bO,World.ownsRow_nil _ _ _ _,trivial⟩,(b4.alloc _).alloc _,(b5.alloc _).alloc _,HbM.out⟩,(HBl0.out.alloc (by have:=HBl0.out.size;omega) _).alloc (by have:=HBl0.out.size;simp;omega) _⟩
    _ ?assign ?body ?done ?stop
  case assign =>
    intro l x W K hK
    unfold rowEnc
    gi_wp2
    exact hK
  case body =>
    rintro l pre x W ⟨⟨⟨v,hv,hrow,_⟩,hx4,hx5,hxM⟩,hBl⟩ hlt
    have hc4:=hx4.cell
    have hc5:=hx5.cell
    have Hv:=Lib.hid hv;have Hrow:=Lib.hid hrow;have HM:=Lib.hid hxM;have HBl:=Lib.hid hBl;have H4:=Lib.hid hx4;have H5:=Lib.hid hx5;have Hlt:=Lib.hid hlt;clear hv hrow hxM hBl hx4 hx5 hlt
    gi_wp2_with fail
    refine ⟨trivial,?_⟩
    refine (CallsIn.inRound l (callsIn_wide.2 (mdot_any r c x.1 g o ms B xs _ q W x.2 hc (Hms.out.trans Hnn.out) (HA.out.below HBl.out) WM.out (HB.out.below HBl.out) Hxl.out WX.out))).mono ?_
    rintro e w3 ⟨rfl,hb3⟩
    have hv3:Boxed w3 W0.heap.size 64 v:=(hb3.block _ (Boxed.lt Hv.out)).trans Hv.out
    have hc3:=hv3.cell
    have hrow3:=own_below Hrow.out hb3
    have hs3:w.heap.size ≤ w3.heap.size:=Nat.le_trans HBl.out.size hb3.size
    have hsO:w.heap.size ≤ W0.heap.size:=HBl0.out.size
    have hpl:pre.length < r:=Hlt.out
    have hxM3:=(hb3.block _ (lt_of_block HM.out)).trans HM.out
    have hx43:=(hb3.block _ (lt_of_block H4.out)).trans H4.out
    have hx53:=(hb3.block _ (lt_of_block H5.out)).trans H5.out
    have HxM3:=Lib.hid hxM3;have Hx43:=Lib.hid hx43;have Hx53:=Lib.hid hx53
    have Hv3:=Lib.hid hv3;have Hb3:=Lib.hid hb3;have Hrow3:=Lib.hid hrow3;have Hs3:=Lib.hid hs3;have HsO:=Lib.hid hsO;have Hpl:=Lib.hid hpl;clear hv3 hb3 hrow3 hs3 hsO hpl hxM3 hx43 hx53 hc4 hc5
    obtain ⟨dv,hdv⟩:∃ dv,dv = dotL (mrow ms c x.1) xs q:=⟨_,rfl⟩
    have Hdv:=Lib.hid hdv
    rw [← hdv]
    clear hdv
    gi_wp2_with (gi_at_builtin;refine wpListIn_push et_vec w3 rfl (.tmp 34) (.tmp 36) rfl w.heap.size W0.heap.size v pre.length _ rfl Hv3.out (by decide) Hrow3.out [.int .i64 dv] rfl rfl (nums_cell .i64 [dv]) (by have:=Hpl.out;have:=hr.2;omega) (by have:=Hpl.out;have:=hr.2;unfold maxLen;omega) Hs3.out HsO.out ?_)
    intro g1 c1 w1 k1 k2 k3 k4 k5 k6
    have hc1:=k1.cell;have hf1:=k1.frozen
    have K2:=Lib.hid k2;have K3:=Lib.hid k3;have K4:=Lib.hid k4;have K5:=Lib.hid k5;have K6:=Lib.hid k6;clear k1 k2 k3 k4 k5 k6 hc3
    gi_wp2_with fail
    have hbW:Below w.heap.size W (w1.setCell ⟨W0.heap.size,0,none⟩ (.slice (some ⟨g1,0,none⟩) (pre.length + 1) c1)):=(Hb3.out.mono HBl.out.size).trans K5.out
    have hne1:W0.heap.size + 1 ≠ W0.heap.size:=by omega
    have hne2:w.heap.size + 1 ≠ W0.heap.size:=by have:=HS0.out;omega
    have hne3:w.heap.size + 1 + 1 ≠ W0.heap.size:=by have:=HS0.out;omega
    have hM1:=K6.out _ _ _ _ _ hne1 (by decide) HxM3.out
    refine ⟨((KeepsOthers.of_grownBy (row:=none) (grown_none Hb3.out) (fun _ _ h => by cases h)).trans K4.out).from _,⟨hbW,fun _ => hM1.trans HM.out.symm⟩,⟨⟨_,K2.out,?_,trivial⟩,K6.out _ _ _ _ _ hne2 (by decide) Hx43.out,K6.out _ _ _ _ _ hne3 (by decide) Hx53.out,hM1⟩,HBl.out.trans hbW⟩
    have h:=K3.out
    rw [Hdv.out] at h
    simpa [nums] using h
  case done =>
    rintro D ys W hD rfl ⟨⟨⟨v,hv,hrow,_⟩,hx4,hx5,hxM⟩,hBl⟩ hK
    have hc:=hv.cell
    gi_wp2
    refine ⟨by simp,.inl ⟨_,_,rfl,run_takeDeferred hK,?_⟩⟩
    obtain ⟨A',c',rfl,_⟩:=own_form hrow
    rw [List.length_finRange,mulL_fin] at *
    refine ⟨.tuple #[.slice A' r c',.bool true],by simp [results,Tryz.results215,go_sem],A',c',rfl,ownsRow_putObj hrow _ hK rfl,hBl.trans (belowK_b (w:=w) (Nat.le_refl _) W D _ _ (by have:=HBl0.out.size;simp at hD;omega) hK rfl rfl)⟩
  case stop =>
    rintro D c pre W _ _ h _
    exact h.elim
end Go.Proofs.YtaccfnffmbndhaaGreat
namespace Go.Proofs.YtaccfnffmbndhaaGreat
open Go.RowKit
theorem ssteps_any (S n b steps:Nat) (l:List Int) (w:World) (h:SampAt w S n b steps l) :
    Calls Tryz.prog 212 #[.pointer (some ⟨S,0,none⟩)] w fun e w' => e = .returned (.int .i64 steps) ∧ w = w':=by
  obtain ⟨Ab,cb,Ao,co,vs,h1,h2,h3,h4,h5⟩:=h
  obtain ⟨⟨r0,r1,r2,r3⟩,rf⟩:=bx4 h1
  clear h1 h2 h3 h4 h5
  go_enter Tryz.func212,Tryz.ntmps212
  go_wp2
  go_ret
  exact ⟨rfl,rfl⟩
theorem sepoch_any (S n b steps t:Nat) (l:List Int) (w:World) (h:SampAt w S n b steps l) (hn:n ≤ 1048576) (hnb:1 ≤ n / b) (hst:steps ≤ 1048576) (ht:t < steps) :
    Calls Tryz.prog 194 #[.pointer (some ⟨S,0,none⟩),.int .i64 t] w fun e w' => e = .returned (.tuple #[.int .i64 ((t / (n / b):Nat):Int),.int .i64 ((t % (n / b):Nat):Int),.bool true]) ∧ ∃ d,w' = w.drewN d:=by
  have hs:=ssteps_any S n b steps l w h
  obtain ⟨Ab,cb,Ao,co,vs,h1,h2,h3,h4,h5⟩:=h
  have hle:=Nat.div_le_self n b
  obtain ⟨nb,hnb'⟩:∃ nb,n / b = nb:=⟨_,rfl⟩
  rw [hnb'] at h1 hnb hle ⊢
  obtain ⟨⟨r0,r1,r2,r3⟩,rf⟩:=bx4 h1
  obtain ⟨e0,he0⟩:∃ e0,t / nb = e0:=⟨_,rfl⟩
  obtain ⟨p0,hp0⟩:∃ p0,t % nb = p0:=⟨_,rfl⟩
  have hq1:(t:Int).tdiv (nb:Int) = (e0:Int):=by rw [← he0];rfl
  have hq2:(t:Int).tmod (nb:Int) = (p0:Int):=by rw [← hp0];rfl
  have he1:e0 ≤ t:=by rw [← he0];exact Nat.div_le_self _ _
  have hp1:p0 ≤ t:=by rw [← hp0];exact Nat.mod_le _ _
  have hq3:IntKind.i64.wrap (e0:Int) = (e0:Int):=IntWalk.i64_in _ (by omega)
  have hq4:IntKind.i64.wrap (p0:Int) = (p0:Int):=IntWalk.i64_in _ (by omega)
  have hq5:¬ (nb = 0):=by omega
  have hti:(t:Int) < steps:=by omega
  have ht0:¬ ((t:Int) < 0):=by omega
  have hti2:¬ ((steps:Int) ≤ t):=by omega
  rw [he0,hp0]
  have Hs:=Lib.hid hs;clear hs h1 h2 h3 h4 h5 hnb' he0 hp0
  go_enter Tryz.func194,Tryz.ntmps194
  go_wp2_with fail
  refine Hs.out.mono ?_
  rintro e w' ⟨rfl,rfl⟩
  go_wp2_with fail
  go_quiet (fail)
  go_wp2_with fail
  go_ret3
  exact ⟨rfl,_,rfl⟩
def batchN (l:List Int) (n b t:Nat):List Int:=((permN l n ((t / (n / b)) * (n - 1))).drop (t % (n / b) * b)).take b
theorem epoch_lt {n b steps t:Nat} (ht:t < steps):t / (n / b) < epN n b steps:=by
  unfold epN cntQ
  rw [if_neg (by omega)]
  have:=Nat.div_le_div_right (c:=n / b) (show t ≤ steps - 1 by omega)
  omega
theorem batchN_len (l:List Int) {n b t:Nat} (hnb:1 ≤ n / b):(batchN l n b t).length = b:=by
  unfold batchN
  have h1:=whole_le n b (t % (n / b)) (Nat.mod_lt _ hnb)
  rw [List.length_take,List.length_drop,permN_len]
  omega
theorem batchN_bd (l:List Int) {n b t:Nat} (hnb:1 ≤ n / b):∀ k,k < b → 0 ≤ nth (batchN l n b t) k ∧ nth (batchN l n b t) k < n:=fun k hk => by
  have h1:=whole_le n b (t % (n / b)) (Nat.mod_lt _ hnb)
  unfold batchN
  rw [nth_take hk,nth_drop]
  exact permN_bd l n _ _ (by omega)
end Go.Proofs.YtaccfnffmbndhaaGreat
namespace Go.Proofs.YtaccfnffmbndhaaGreat
open Go.RowKit
abbrev Rg:=Nat × Nat
def rgVals (l:List Rg):List Value:=l.flatMap fun r => [.int .i64 (r.1:Int),.int .i64 (r.2:Int)]
theorem rgVals_app (a b:List Rg):rgVals (a ++ b) = rgVals a ++ rgVals b:=by simp [rgVals]
theorem rgVals_len:∀ l:List Rg,(rgVals l).length = l.length * 2
  | [] => rfl
  | r :: l => by have:=rgVals_len l;simp only [rgVals,List.flatMap_cons,List.length_append,List.length_cons,List.length_nil] at *;omega
theorem rgVals_at:∀ {l:List Rg} {j:Nat} {r:Rg},l[j]? = some r → (rgVals l)[j * 2]? = some (.int .i64 (r.1:Int)) ∧ (rgVals l)[j * 2 + 1]? = some (.int .i64 (r.2:Int))
  | [],_,_,h => by simp at h
  | x :: l,0,r,h => by simp only [List.getElem?_cons_zero,Option.some.injEq] at h;subst h;exact ⟨rfl,rfl⟩
  | x :: l,j + 1,r,h => by
    simp only [List.getElem?_cons_succ] at h
    have:=rgVals_at h
    have e:rgVals (x :: l) = [.int .i64 (x.1:Int),.int .i64 (x.2:Int)] ++ rgVals l:=by simp [rgVals]
    rw [e,List.getElem?_append_right (by simp;omega),List.getElem?_append_right (by simp;omega)]
    simp only [List.length_cons,List.length_nil]
    rw [show (j + 1) * 2 - (0 + 1 + 1) = j * 2 by omega,show (j + 1) * 2 + 1 - (0 + 1 + 1) = j * 2 + 1 by omega]
    exact this
def blkR (n s:Nat):List Rg:=(List.range (cntQ n s)).map fun j => (j * s,min (j * s + s) n)
theorem blkR_len (n s:Nat):(blkR n s).length = cntQ n s:=by simp [blkR]
theorem blkR_vals (n s:Nat):rgVals (blkR n s) = blkVals n s (cntQ n s):=by simp [rgVals,blkR,blkVals,List.flatMap_map]
def bdN (n k i:Nat):Nat:=i * (n / k) + min i (n % k)
def evenR (n k:Nat):List Rg:=(List.range k).map fun i => (bdN n k i,bdN n k (i + 1))
theorem evenR_len (n k:Nat):(evenR n k).length = k:=by simp [evenR]
def shR (d:Nat) (l:List Rg):List Rg:=l.map fun r => (r.1 + d,r.2 + d)
theorem shR_len (d:Nat) (l:List Rg):(shR d l).length = l.length:=by simp [shR]
def segR (b:Rg) (W:Nat):List Rg:=shR b.1 (evenR (b.2 - b.1) W)
theorem segR_len (b:Rg) (W:Nat):(segR b W).length = W:=by rw [segR,shR_len,evenR_len]
def chR (s:Rg) (c:Nat):List Rg:=shR s.1 (blkR (s.2 - s.1) c)
def bukR (n s:Nat):List Rg:=(blkR n s).reverse
theorem bukR_len (n s:Nat):(bukR n s).length = cntQ n s:=by rw [bukR,List.length_reverse,blkR_len]
def rgAt (l:List Rg) (j:Nat):Rg:=l.getD j (0,0)
structure Acn where
  send:Bool
  add:Bool
  st:Nat
  bk:Nat
  ph:Nat
  rd:Nat
  ch:Nat
  at':Rg
def segOut (W w ph r:Nat):Nat:=(w + (2 * W + ph - r)) % W
def segIn (W w ph r:Nat):Nat:=(w + (2 * W + ph - r - 1)) % W
def pairUp (x y:List Rg) (f g:Nat → Rg → Acn):List Acn:=
  (List.range (max x.length y.length)).flatMap fun i => (if i < x.length then [f i (rgAt x i)] else []) ++ (if i < y.length then [g i (rgAt y i)] else [])
theorem pairUp_len (x y:List Rg) (f g:Nat → Rg → Acn):(pairUp x y f g).length = x.length + y.length:=by
  have h:∀ m,((List.range m).flatMap fun i => (if i < x.length then [f i (rgAt x i)] else []) ++ (if i < y.length then [g i (rgAt y i)] else [])).length = min m x.length + min m y.length:=by
    intro m
    induction m with
    | zero => simp
    | succ m ih =>
      rw [List.range_succ,List.flatMap_append,List.length_append,ih]
      simp only [List.flatMap_cons,List.flatMap_nil,List.append_nil,List.length_append]
      by_cases h1:m < x.length <;> by_cases h2:m < y.length <;> simp [h1,h2] <;> omega
  unfold pairUp
  rw [h];omega
def roundL (st bk:Nat) (b:Rg) (W c w ph r:Nat):List Acn:=
  pairUp (chR (rgAt (segR b W) (segOut W w ph r)) c) (chR (rgAt (segR b W) (segIn W w ph r)) c) (fun i s => ⟨true,false,st,bk,ph,r,i,s⟩) (fun i s => ⟨false,ph == 0,st,bk,ph,r,i,s⟩)
structure Pln where
  W:Nat
  mi:Nat
  bu:Nat
  ck:Nat
  wi:Nat
  n:Nat
structure Itm where
  kind:Nat
  st:Nat
  n:Nat
  a:Option Acn
def Pln.buks (p:Pln):List Rg:=bukR p.n p.bu
def Pln.grps (p:Pln):List Rg:=blkR p.buks.length p.wi
def itemOf (st:Nat) (a:Acn):Itm:=⟨if a.send then 3 else 4,st,0,some a⟩
def roundI (p:Pln) (w st ph r j:Nat):List Itm:=(roundL st j (rgAt p.buks j) p.W p.ck w ph r).map (itemOf st)
def groupL (p:Pln) (w st:Nat) (g:Rg):List Itm:=
  (List.range' g.1 (g.2 - g.1)).map (fun j => ⟨2,st,j,none⟩) ++
  ((List.range 2).flatMap fun ph => (List.range (p.W - 1)).flatMap fun r => (List.range' g.1 (g.2 - g.1)).flatMap fun j => roundI p w st ph r j) ++
  (List.range' g.1 (g.2 - g.1)).map (fun j => ⟨5,st,j,none⟩)
def itemsL (p:Pln) (w st:Nat):List Itm:=
  (List.range p.mi).map (fun a => ⟨1,st,a,none⟩) ++ p.grps.flatMap (groupL p w st) ++ [⟨6,st,0,none⟩]
def sumN' (n:Nat) (f:Nat → Nat):Nat:=((List.range n).map f).sum
theorem sumN'_succ (n:Nat) (f:Nat → Nat):sumN' (n + 1) f = sumN' n f + f n:=by simp [sumN',List.range_succ]
theorem sumN'_congr {n:Nat} {f g:Nat → Nat} (h:∀ k,k < n → f k = g k):sumN' n f = sumN' n g:=by
  unfold sumN';congr 1;exact List.map_congr_left fun k hk => h k (List.mem_range.1 hk)
theorem sumN'_add (n:Nat) (f g:Nat → Nat):sumN' n (fun k => f k + g k) = sumN' n f + sumN' n g:=by
  induction n with
  | zero => rfl
  | succ n ih => rw [sumN'_succ,sumN'_succ,sumN'_succ,ih];omega
theorem sumN'_const (n c:Nat):sumN' n (fun _ => c) = n * c:=by
  induction n with
  | zero => simp [sumN']
  | succ n ih => rw [sumN'_succ,ih,Nat.succ_mul]
theorem sumN'_swap (n m:Nat) (f:Nat → Nat → Nat):sumN' n (fun i => sumN' m (f i)) = sumN' m (fun j => sumN' n (fun i => f i j)):=by
  induction n with
  | zero => simp only [sumN',List.range_zero,List.map_nil,List.sum_nil];rw [show (fun _:Nat => 0) = fun _ => 0 from rfl];exact (sumN'_const m 0).symm
  | succ n ih => rw [sumN'_succ,ih,← sumN'_add];exact sumN'_congr fun j _ => (sumN'_succ n (fun i => f i j)).symm
theorem sumN'_split (a b:Nat) (f:Nat → Nat):sumN' (a + b) f = sumN' a f + sumN' b (fun k => f (a + k)):=by
  induction b with
  | zero => simp [sumN']
  | succ b ih => rw [← Nat.add_assoc,sumN'_succ,ih,sumN'_succ];omega
theorem flat_range {β:Type} (n:Nat) (f:Nat → List β):((List.range n).flatMap f).length = sumN' n fun k => (f k).length:=by
  rw [List.length_flatMap];rfl
theorem flat_range' {β:Type} (a n:Nat) (f:Nat → List β):((List.range' a n).flatMap f).length = sumN' n fun k => (f (a + k)).length:=by
  rw [List.length_flatMap]
  unfold sumN'
  rw [List.range'_eq_map_range,List.map_map];rfl
theorem blkR_sum (n s:Nat) (hs:1 ≤ s) (f:Nat → Nat):((blkR n s).map fun g => sumN' (g.2 - g.1) fun k => f (g.1 + k)).sum = sumN' n f:=by
  have h:∀ m,m ≤ cntQ n s → (((List.range m).map fun j => (j * s,min (j * s + s) n)).map fun g:Rg => sumN' (g.2 - g.1) fun k => f (g.1 + k)).sum = sumN' (min (m * s) n) f:=by
    intro m
    induction m with
    | zero => intro _;simp [sumN']
    | succ m ih =>
      intro hm
      have h1:=cntQ_lt (n:=n) (size:=s) (k:=m) (by omega)
      rw [List.range_succ,List.map_append,List.map_append,List.sum_append,ih (by omega)]
      simp only [List.map_cons,List.map_nil,List.sum_cons,List.sum_nil,Nat.add_zero]
      rw [show min (m * s) n = m * s by omega,Nat.succ_mul]
      have:=sumN'_split (m * s) (min (m * s + s) n - m * s) f
      rw [show m * s + (min (m * s + s) n - m * s) = min (m * s + s) n by omega] at this
      exact this.symm
  have:=h (cntQ n s) (Nat.le_refl _)
  unfold blkR
  rw [this]
  congr 1
  rcases Nat.eq_zero_or_pos n with rfl | hn
  · simp
  · have:n ≤ cntQ n s * s:=by
      unfold cntQ
      rw [if_neg (by omega),Nat.succ_mul]
      have:=Nat.div_add_mod (n - 1) s
      have:=Nat.mod_lt (n - 1) (show 0 < s by omega)
      have:s * ((n - 1) / s) = (n - 1) / s * s:=Nat.mul_comm _ _
      omega
    omega
theorem roundL_len (st bk:Nat) (b:Rg) (W c w ph r:Nat):(roundL st bk b W c w ph r).length = (chR (rgAt (segR b W) (segOut W w ph r)) c).length + (chR (rgAt (segR b W) (segIn W w ph r)) c).length:=pairUp_len _ _ _ _
theorem groupL_len (p:Pln) (w st:Nat) (g:Rg):(groupL p w st g).length = sumN' (g.2 - g.1) fun k => 2 + sumN' 2 fun ph => sumN' (p.W - 1) fun r => (roundI p w st ph r (g.1 + k)).length:=by
  unfold groupL
  simp only [List.length_append,List.length_map,List.length_range',flat_range,flat_range']
  rw [sumN'_add,sumN'_const]
  have e:(sumN' 2 fun ph => sumN' (p.W - 1) fun r => sumN' (g.2 - g.1) fun k => (roundI p w st ph r (g.1 + k)).length) = sumN' (g.2 - g.1) fun k => sumN' 2 fun ph => sumN' (p.W - 1) fun r => (roundI p w st ph r (g.1 + k)).length:=by
    rw [sumN'_congr (g:=fun ph => sumN' (g.2 - g.1) fun k => sumN' (p.W - 1) fun r => (roundI p w st ph r (g.1 + k)).length) (fun ph _ => sumN'_swap _ _ _),sumN'_swap]
  rw [e];omega
theorem itemsL_len (p:Pln) (w st:Nat) (hw:1 ≤ p.wi):(itemsL p w st).length = p.mi + 1 + sumN' p.buks.length fun j => 2 + sumN' 2 fun ph => sumN' (p.W - 1) fun r => (roundI p w st ph r j).length:=by
  unfold itemsL
  simp only [List.length_append,List.length_map,List.length_range,List.length_flatMap,List.length_cons,List.length_nil]
  have:((p.grps.map fun a => (groupL p w st a).length)).sum = sumN' p.buks.length fun j => 2 + sumN' 2 fun ph => sumN' (p.W - 1) fun r => (roundI p w st ph r j).length:=by
    simp only [groupL_len]
    exact blkR_sum p.buks.length p.wi hw fun j => 2 + sumN' 2 fun ph => sumN' (p.W - 1) fun r => (roundI p w st ph r j).length
  rw [this];omega
end Go.Proofs.YtaccfnffmbndhaaGreat
namespace Go.Proofs.YtaccfnffmbndhaaGreat
theorem divmod_next (m k:Nat) (hk:0 < k):(m % k + 1 < k → (m + 1) / k = m / k ∧ (m + 1) % k = m % k + 1) ∧ (¬ m % k + 1 < k → (m + 1) / k = m / k + 1 ∧ (m + 1) % k = 0):=by
  have h1:=Nat.div_add_mod m k
  have h2:=Nat.mod_lt m hk
  constructor
  · intro h
    have e:m + 1 = (m % k + 1) + k * (m / k):=by omega
    rw [e,Nat.add_mul_div_left _ _ hk,Nat.add_mul_mod_self_left,Nat.div_eq_of_lt h,Nat.mod_eq_of_lt h]
    omega
  · intro h
    have e:m + 1 = k * (m / k + 1):=by rw [Nat.mul_succ];omega
    rw [e,Nat.mul_div_cancel_left _ hk,Nat.mul_mod_right]
    exact ⟨rfl,rfl⟩
def szE (k m i:Nat):Nat:=m / k + if i < m % k then 1 else 0
theorem szE_zero {k:Nat} (i:Nat):szE k 0 i = 0:=by simp [szE]
theorem szE_succ {k m i:Nat} (hi:i < k):szE k (m + 1) i = szE k m i + if i = m % k then 1 else 0:=by
  obtain ⟨h1,h2⟩:=divmod_next m k (by omega)
  have hm:=Nat.mod_lt m (show 0 < k by omega)
  unfold szE
  by_cases h:m % k + 1 < k
  · rw [(h1 h).1,(h1 h).2]
    split <;> split <;> split <;> omega
  · rw [(h2 h).1,(h2 h).2]
    split <;> split <;> split <;> omega
theorem bdN_succ (n k i:Nat):bdN n k (i + 1) = bdN n k i + szE k n i:=by
  unfold bdN szE
  rw [Nat.succ_mul]
  split <;> omega
theorem bdN_all (n k:Nat) (hk:0 < k):bdN n k k = n:=by
  unfold bdN
  have h1:=Nat.div_add_mod n k
  have h2:=Nat.mod_lt n hk
  omega
theorem bdN_mono (n k:Nat) {i j:Nat} (h:i ≤ j):bdN n k i ≤ bdN n k j:=by
  unfold bdN
  have:=Nat.mul_le_mul_right (n / k) h
  omega
theorem bdN_le (n k i:Nat) (hk:0 < k) (h:i ≤ k):bdN n k i ≤ n:=by
  have:=bdN_mono n k h
  rwa [bdN_all n k hk] at this
theorem evenR_succ (n k m:Nat):(List.range (m + 1)).map (fun i => (bdN n k i,bdN n k (i + 1))) = (List.range m).map (fun i => (bdN n k i,bdN n k (i + 1))) ++ [(bdN n k m,bdN n k (m + 1))]:=by
  rw [List.range_succ,List.map_append];rfl
end Go.Proofs.YtaccfnffmbndhaaGreat
