/- mat.Outer. 'copy(out[i:j], xs)', out a row that is known whole: all other blocks stay. The walk of Net.Gradient. Run.Gradient and Loss. Run.Gradient and Loss. Run.Step. serial.Train. What Train answers, of the program and of the reference. Whole numbers as floating point words of 64 bits: sums, differences and products are exact. The plain laws of marks and hashes. No condition. -/
import Derived.Test.YthamijnggdjaoaaGreatDoorT03
import Derived.Test.YthamijnggdjaoaaGreatDoorT08
import Derived.Test.YthamijnggdjaoaaGreatDoorT01
import Derived.Laws.CopyOwn
import Derived.WalkMore
import Derived.Deep.LoopGhost
import Derived.Test.YthamijnggdjaoaaGreatDoorT05
import Derived.Laws.ComplexArith
set_option linter.unusedSimpArgs false
set_option linter.unusedVariables false
namespace Go.Proofs.YthamijnggdjaoaaGreatDoor
open Go.RowKit Go.Shelf
attribute [local go_sem] Oper.semAt_some
def OutI (r c:Nat) (ys xs:List Int) (A B:Option Addr) (nn d e:Nat) (q:Int) (w:World) (G N M:Nat) (pre:List (Fin r)) (W:World):Prop:=
  (W.ownsRow w.heap.size 2 1 (.slice (some ⟨G,0,none⟩) nn nn) nn (nums .i64 (outS r c ys xs q (pre.map (·.1)) 0 0)) ∧ Boxed W w.heap.size 65 (.slice A r d) ∧ Boxed W (w.heap.size + 1) 65 (.slice B c e) ∧ Boxed W (w.heap.size + 1 + 1) 3 (.int .i64 q) ∧
    W.heap[w.heap.size + 1 + 1 + 1]? = some (.cells #[.int .i64 0,.int .i64 0,.slice none 0 0] 133 (0,0)) ∧ W.heap[N]? = some (.cells #[.int .i64 r,.int .i64 c,.slice (some ⟨G,0,none⟩) nn nn] 133 (0,0)) ∧
    W.heap[M]? = some (.cells #[.int .i64 r,.int .i64 c,.slice (some ⟨G,0,none⟩) nn nn] 133 (0,0))) ∧ Below w.heap.size w W
theorem outI_own (r c:Nat) (ys xs:List Int) (A B:Option Addr) (nn d e:Nat) (q:Int) (w:World) (G N M K:Nat) (hK:w.heap.size ≤ K):OwnFrom K (OutI r c ys xs A B nn d e q w G N M):=by
  intro s W W' row hs hg hr
  obtain ⟨⟨h1,h2,h3,h4,h5,h7,h8⟩,h6⟩:=hs
  have k6:=ownFrom_below (β:=Unit) (Nat.le_refl _) hK () W W' row h6 hg hr
  exact ⟨⟨own_turn h1 hg hr,block_turn rfl h2 hg hr,block_turn rfl h3 hg hr,block_turn rfl h4 hg hr,block_turn rfl h5 hg hr,block_turn rfl h7 hg hr,block_turn rfl h8 hg hr⟩,k6⟩
set_option maxRecDepth 100000 in
set_option maxHeartbeats 2000000 in
theorem outer_any (r c:Nat) (A B:Option Addr) (ys xs:List Int) (d e:Nat) (q:Int) (w:World) (hr:1 ≤ r ∧ r ≤ 1048576) (hc:1 ≤ c ∧ c ≤ 1048576) (hm:r * c ≤ 1048576)
    (hA:Rd w A (nums .i64 ys)) (wy:W64 ys) (hyl:ys.length = r) (hB:Rd w B (nums .i64 xs)) (hxl:xs.length = c) (wx:W64 xs) :
    Calls Tryz.prog 257 #[.slice A r d,.slice B c e,.int .i64 q] w fun e w' => ∃ A',e = .returned (.agg #[.int .i64 r,.int .i64 c,.slice A' (r * c) (r * c)]) ∧ w'.ownsRow w.heap.size 2 1 (.slice A' (r * c) (r * c)) (r * c) (nums .i64 (outerL r c ys xs q)) ∧ Below w.heap.size w w':=by
  obtain ⟨nn,hnn⟩:∃ nn,r * c = nn:=⟨_,rfl⟩
  have hpos:1 ≤ nn:=by rw [← hnn];exact Nat.mul_pos hr.1 hc.1
  have hnw:=fun w' => mnew_any r c w' hr hc hm
  have hrt:=fun A' w' => right_any r c A' nn nn w' hr hc hnn.symm (by omega)
  have hrw:=fun cs w' => rows_any cs w'
  rw [hnn] at hnw hm ⊢
  have Hnw:=Lib.hid hnw
  have Hrt:=Lib.hid hrt;have Hrw:=Lib.hid hrw;have Hnn:=Lib.hid hnn;have Hxl:=Lib.hid hxl;have Hyl:=Lib.hid hyl;have HA:=Lib.hid hA;have HB:=Lib.hid hB;have WX:=Lib.hid wx;have WY:=Lib.hid wy;clear hnw hrt hrw hnn hxl hyl hA hB wx wy
  refine (callsIn_wide (n:=3)).1 ?_
  refine callsIn_of_wp_marks Tryz.func257 rfl trivial ?_ rfl
  simp only [Tryz.ntmps257,List.size_toArray,List.length_cons,List.length_nil,Nat.reduceAdd,Nat.reduceSub,Array.replicate_succ,Array.replicate_zero,List.push_toArray,List.append_toArray,List.nil_append,List.cons_append]
  gi_wp2_with fail
  refine ⟨trivial,?_⟩
  refine (callsIn_wide.2 (Hnw.out _)).mono ?_
  rintro e w1 ⟨A',rfl,hown1,hb1⟩
  have hb01:Below w.heap.size w w1:=Below.trans (((((Below.refl _ w).alloc (Nat.le_refl _) _).alloc (by simp) _).alloc (by simp;omega) _).alloc (by simp;omega) _) (hb1.mono (by first | (simp;done) | (simp;omega)))
  have h2:Boxed w1 w.heap.size 65 (.slice A r d):=by
    refine (hb1.block w.heap.size (by first | (simp;done) | (simp;omega))).trans ?_
    refine (Below.heap_alloc _ _ _ (by first | (simp;done) | (simp;omega))).trans ((Below.heap_alloc _ _ _ (by first | (simp;done) | (simp;omega))).trans ((Below.heap_alloc _ _ _ (by simp)).trans (heap_alloc_new w _)))
  have h3:Boxed w1 (w.heap.size + 1) 65 (.slice B c e):=by
    refine (hb1.block (w.heap.size + 1) (by first | (simp;done) | (simp;omega))).trans ?_
    refine (Below.heap_alloc _ _ _ (by first | (simp;done) | (simp;omega))).trans ((Below.heap_alloc _ _ _ (by simp)).trans ?_)
    have:=heap_alloc_new (w.alloc (.cells #[.slice A r d] 65)) (.cells #[.slice B c e] 65)
    simpa using this
  have h4:Boxed w1 (w.heap.size + 1 + 1) 3 (.int .i64 q):=by
    refine (hb1.block (w.heap.size + 1 + 1) (by first | (simp;done) | (simp;omega))).trans ?_
    refine (Below.heap_alloc _ _ _ (by simp)).trans ?_
    have:=heap_alloc_new ((w.alloc (.cells #[.slice A r d] 65)).alloc (.cells #[.slice B c e] 65)) (.cells #[.int .i64 q] 3)
    simpa using this
  have h5:w1.heap[w.heap.size + 1 + 1 + 1]? = some (.cells #[.int .i64 0,.int .i64 0,.slice none 0 0] 133 (0,0)):=by
    refine (hb1.block (w.heap.size + 1 + 1 + 1) (by simp)).trans ?_
    have:=heap_alloc_new (((w.alloc (.cells #[.slice A r d] 65)).alloc (.cells #[.slice B c e] 65)).alloc (.cells #[.int .i64 q] 3)) (.cells #[.int .i64 0,.int .i64 0,.slice none 0 0] 133)
    simpa using this
  obtain ⟨G,dG,hvG,hG,hGl⟩:=hown1.form (by omega)
  simp only [Value.slice.injEq] at hvG
  obtain ⟨rfl,_,rfl⟩:=hvG
  have hG4:w.heap.size + 1 + 1 + 1 + 1 ≤ G:=by simpa using hG
  have hown1:=own_base hown1 (base':=w.heap.size) (by first | (simp;done) | (simp;omega))
  have Hown1:=Lib.hid hown1;have Hb01:=Lib.hid hb01;have H2:=Lib.hid h2;have H3:=Lib.hid h3;have H4:=Lib.hid h4;have H5:=Lib.hid h5;have HG4:=Lib.hid hG4;have HGl:=Lib.hid hGl;clear hown1 hb01 h2 h3 h4 h5 hG4 hGl hG hb1
  gi_wp2_with fail
  refine ⟨trivial,?_⟩
  refine (callsIn_wide.2 (Hrt.out _ _)).mono ?_
  rintro e w2 ⟨rfl,rfl⟩
  gi_wp2_with fail
  refine ⟨trivial,?_⟩
  refine (callsIn_wide.2 (Hrw.out _ _)).mono ?_
  rintro e w3 ⟨rfl,rfl⟩
  gi_wp2_with fail
  obtain ⟨W0,hW0⟩:∃ W0,W0 = (w1.alloc (.cells #[.int .i64 r,.int .i64 c,.slice (some ⟨G,0,none⟩) nn nn] 133)).alloc (.cells #[.int .i64 r,.int .i64 c,.slice (some ⟨G,0,none⟩) nn nn] 133):=⟨_,rfl⟩
  rw [← hW0]
  have hs0:W0.heap.size = w1.heap.size + 1 + 1:=by rw [hW0];simp
  have bN:W0.heap[w1.heap.size]? = some (.cells #[.int .i64 r,.int .i64 c,.slice (some ⟨G,0,none⟩) nn nn] 133 (0,0)):=by
    rw [hW0];exact (Below.heap_alloc _ _ _ (by simp)).trans (heap_alloc_new w1 _)
  have bM:(W0.alloc (.cells #[.int .i64 r,.int .i64 c,.slice (some ⟨G,0,none⟩) nn nn] 133)).heap[W0.heap.size]? = some (.cells #[.int .i64 r,.int .i64 c,.slice (some ⟨G,0,none⟩) nn nn] 133 (0,0)):=heap_alloc_new W0 _
  have hl:∀ b o,w1.heap[b]? = some o → (W0.alloc (.cells #[.int .i64 r,.int .i64 c,.slice (some ⟨G,0,none⟩) nn nn] 133)).heap[b]? = some o:=fun b o h => by
    have hb:=lt_of_block h
    rw [hW0];exact (Below.heap_alloc _ _ _ (by simp;omega)).trans ((Below.heap_alloc _ _ _ (by simp;omega)).trans ((Below.heap_alloc _ _ _ hb).trans h))
  have hbel0:Below w.heap.size w W0:=by rw [hW0];exact (Hb01.out.alloc Hb01.out.size _).alloc (by have:=Hb01.out.size;simp;omega) _
  have r0:W0.ownsRow w.heap.size 2 1 (.slice (some ⟨G,0,none⟩) nn nn) nn (nums .i64 (List.replicate nn 0)):=by rw [hW0];exact (Hown1.out.alloc _).alloc _
  rw [← Hnn.out,outS_zero r c ys xs q 0,Hnn.out] at r0
  obtain ⟨N,hN⟩:∃ N,N = w1.heap.size:=⟨_,rfl⟩
  rw [← hN] at bN hs0 ⊢
  rw [← hs0]
  have hI0:OutI r c ys xs A B nn d e q w G N W0.heap.size [] (W0.alloc (.cells #[.int .i64 r,.int .i64 c,.slice (some ⟨G,0,none⟩) nn nn] 133)):=⟨⟨r0.alloc _,hl _ _ H2.out,hl _ _ H3.out,hl _ _ H4.out,hl _ _ H5.out,(Below.heap_alloc W0 _ _ (lt_of_block bN)).trans bN,bM⟩,hbel0.alloc hbel0.size _⟩
  have HS0:=Lib.hid hs0;have HBl0:=Lib.hid hbel0;have HbM:=Lib.hid bM;have HN:=Lib.hid hN;have HI0:=Lib.hid hI0
  clear hs0 hbel0 bM bN r0 hN hW0 hl hI0
  refine' wpIn_rangeFunc_ownG (F:=Fence.wide) (n:=3) rfl (by omega) (gf:=248) (lb:=#[.pointer (some ⟨W0.heap.size,0,none⟩)]) rfl trivial (enters_of Tryz.func248 (by kernel_rfl) rfl)
    (rows_stops _ W0.heap.size w.heap.size G 0 r c nn nn hr.2 hc Hnn.out.symm (Nat.le_refl _) _ HbM.out) rowsKeep_t (rowsKeep_b (by have:=HBl0.out.size;simp;omega) (by simp)) (Below.refl _ _) (fun _ => rfl)
    (OutI r c ys xs A B nn d e q w G N W0.heap.size)
    (fun _ _ _ => False)
    (outI_own r c ys xs A B nn d e q w G N W0.heap.size _ (by have:=HBl0.out.size;simp;omega))
    (fun _ _ _ _ _ hs _ _ => hs)
    HI0.out
    _ ?assign ?body ?done ?stop
  case assign =>
    intro l x W K hK
    unfold rowEnc
    gi_wp2
    exact hK
  case body =>
    rintro l pre x W ⟨⟨hrow,hx2,hx3,hx4,hx5,hxN,hxM⟩,hBl⟩ hlt
    have hrow:W.ownsRow w.heap.size 2 1 (.slice (some ⟨G,0,none⟩) nn nn) nn (nums .i64 (outS r c ys xs q (pre.map (·.1)) x.1 0)):=by rw [outS_start x.1 0];exact hrow
    have Hrow:=Lib.hid hrow;have H2:=Lib.hid hx2;have H3:=Lib.hid hx3;have H4:=Lib.hid hx4;have H5:=Lib.hid hx5;have HxN:=Lib.hid hxN;have HxM:=Lib.hid hxM;have HBl:=Lib.hid hBl;have Hlt:=Lib.hid hlt
    clear hrow hx2 hx3 hx4 hx5 hxN hxM hBl hlt
    gi_wp2_with fail
    gi_loopw [26] (fun i wr => ∃ j:Nat,j ≤ c ∧ i = .int .i64 j ∧ wr.ownsRow w.heap.size 2 1 (.slice (some ⟨G,0,none⟩) nn nn) nn (nums .i64 (outS r c ys xs q (pre.map (·.1)) x.1 j)) ∧ Keep (fun i => i = G) W wr) (fun i _ => c - (intOf i).toNat)
    case atStart => exact ⟨0,Nat.zero_le _,rfl,Hrow.out,Keep.refl _ _⟩
    case round =>
      obtain ⟨j,hj,rfl,hown,hK⟩:=hrel
      by_cases hlt:j < c
      · have hy1:x.1 < ys.length:=by rw [Hyl.out];exact x.2
        have hx1:j < xs.length:=by rw [Hxl.out];exact hlt
        have hg4:=HG4.out
        obtain ⟨b1,o1,hA1,p1w⟩:=HA.out.num hy1
        obtain ⟨b2,o2,hB1,p2w⟩:=HB.out.num hx1
        have l1:b1 < w.heap.size:=lt_of_cell p1w
        have l2:b2 < w.heap.size:=lt_of_cell p2w
        subst hA1;subst hB1
        have hk:∀ b v,b ≠ G → ∀ o,W.cell? ⟨b,o,none⟩ = some v → wr.cell? ⟨b,o,none⟩ = some v:=fun b v hb o h => hK.cell h hb
        have hSw:(fun w':World => w'.cell? ⟨w.heap.size,0,none⟩ = some (.slice (some ⟨b1,o1,none⟩) r d) ∧ w'.cell? ⟨w.heap.size + 1,0,none⟩ = some (.slice (some ⟨b2,o2,none⟩) c e) ∧ w'.cell? ⟨w.heap.size + 1 + 1,0,none⟩ = some (.int .i64 q) ∧ w'.cell? ⟨b1,o1 + x.1,none⟩ = some (.int .i64 (nth ys x.1)) ∧ w'.cell? ⟨b2,o2 + j,none⟩ = some (.int .i64 (nth xs j))) wr.drew:=⟨hk _ _ (by omega) _ (Boxed.cell H2.out),hk _ _ (by omega) _ (Boxed.cell H3.out),hk _ _ (by omega) _ (Boxed.cell H4.out),hk _ _ (by omega) _ ((HBl.out.cell (p:=⟨b1,o1 + x.1,none⟩) l1).trans p1w),hk _ _ (by omega) _ ((HBl.out.cell (p:=⟨b2,o2 + j,none⟩) l2).trans p2w)⟩
        have hxr:(x.1:Int) < r:=by have:=x.2;omega
        have hroom:x.1 * c + j < nn:=by rw [← Hnn.out];have:=mrow_room (c:=c) x.2;omega
        have hmm:=fun w' => fixMul (nth ys x.1) (nth xs j) q w' (WY.out _ hy1) (WX.out _ hx1)
        have Hmm:=Lib.hid hmm;have Hown:=Lib.hid hown;have HK:=Lib.hid hK;have Hroom:=Lib.hid hroom;clear hmm hown hK hk hroom hy1 hx1 p1w p2w
        gi_wp2_with fail
        refine region_inRound (fun w':World => w'.cell? ⟨w.heap.size,0,none⟩ = some (.slice (some ⟨b1,o1,none⟩) r d) ∧ w'.cell? ⟨w.heap.size + 1,0,none⟩ = some (.slice (some ⟨b2,o2,none⟩) c e) ∧ w'.cell? ⟨w.heap.size + 1 + 1,0,none⟩ = some (.int .i64 q) ∧ w'.cell? ⟨b1,o1 + x.1,none⟩ = some (.int .i64 (nth ys x.1)) ∧ w'.cell? ⟨b2,o2 + j,none⟩ = some (.int .i64 (nth xs j))) (by kernel_rfl) (by kernel_rfl) (by rintro ⟨_,_,h⟩;exact h) ?_
        refine wpAnyH_take (i:=0) (v:=?_) rfl (by kernel_rfl) (by kernel_rfl) (by kernel_rfl) (fun _ _ _ h => h) (Or.inl ⟨by rfl,?_⟩) hSw ?_
        rotate_left
        · intro w9 hS9;(try dsimp only at hS9);obtain ⟨s1,s2,s3,s4,s5⟩:=hS9;go_simp;(try with_reducible rfl)
        simp only [List.getElem_toArray,List.getElem_cons_succ,List.getElem_cons_zero,Act.put,List.setIfInBounds_toArray,List.set_cons_zero,List.set_cons_succ]
        refine wpAnyH_take (i:=1) (v:=?_) rfl (by kernel_rfl) (by kernel_rfl) (by kernel_rfl) (fun _ _ _ h => h) (Or.inl ⟨by rfl,?_⟩) hSw ?_
        rotate_left
        · intro w9 hS9;(try dsimp only at hS9);obtain ⟨s1,s2,s3,s4,s5⟩:=hS9;go_simp;(try with_reducible rfl)
        simp only [List.getElem_toArray,List.getElem_cons_succ,List.getElem_cons_zero,Act.put,List.setIfInBounds_toArray,List.set_cons_zero,List.set_cons_succ]
        refine wpAnyH_take (i:=2) (v:=?_) rfl (by kernel_rfl) (by kernel_rfl) (by kernel_rfl) (fun _ _ _ h => h) (Or.inl ⟨by rfl,?_⟩) hSw ?_
        rotate_left
        · intro w9 hS9;(try dsimp only at hS9);obtain ⟨s1,s2,s3,s4,s5⟩:=hS9;go_simp;(try with_reducible rfl)
        simp only [List.getElem_toArray,List.getElem_cons_succ,List.getElem_cons_zero,Act.put,List.setIfInBounds_toArray,List.set_cons_zero,List.set_cons_succ]
        refine wpAnyH_take (i:=3) (v:=?_) rfl (by kernel_rfl) (by kernel_rfl) (by kernel_rfl) (fun _ _ _ h => h) (Or.inl ⟨by rfl,?_⟩) hSw ?_
        rotate_left
        · intro w9 hS9;(try dsimp only at hS9);obtain ⟨s1,s2,s3,s4,s5⟩:=hS9;go_simp;(try with_reducible rfl)
        simp only [List.getElem_toArray,List.getElem_cons_succ,List.getElem_cons_zero,Act.put,List.setIfInBounds_toArray,List.set_cons_zero,List.set_cons_succ]
        refine wpAnyH_take (i:=4) (v:=?_) rfl (by kernel_rfl) (by kernel_rfl) (by kernel_rfl) (fun _ _ _ h => h) (Or.inl ⟨by rfl,?_⟩) hSw ?_
        rotate_left
        · intro w9 hS9;(try dsimp only at hS9);obtain ⟨s1,s2,s3,s4,s5⟩:=hS9;go_simp;(try with_reducible rfl)
        simp only [List.getElem_toArray,List.getElem_cons_succ,List.getElem_cons_zero,Act.put,List.setIfInBounds_toArray,List.set_cons_zero,List.set_cons_succ]
        refine wpAnyH_take (i:=5) (v:=?_) rfl (by kernel_rfl) (by kernel_rfl) (by kernel_rfl) (fun _ _ _ h => h) (Or.inl ⟨by rfl,?_⟩) hSw ?_
        rotate_left
        · intro w9 hS9;(try dsimp only at hS9);obtain ⟨s1,s2,s3,s4,s5⟩:=hS9;go_simp;(try with_reducible rfl)
        simp only [List.getElem_toArray,List.getElem_cons_succ,List.getElem_cons_zero,Act.put,List.setIfInBounds_toArray,List.set_cons_zero,List.set_cons_succ]
        refine wpAnyH_take (i:=6) (v:=?_) rfl (by kernel_rfl) (by kernel_rfl) (by kernel_rfl) (fun _ _ _ h => h) (Or.inl ⟨by rfl,?_⟩) hSw ?_
        rotate_left
        · intro w9 hS9;(try dsimp only at hS9);obtain ⟨s1,s2,s3,s4,s5⟩:=hS9;go_simp;(try with_reducible rfl)
        simp only [List.getElem_toArray,List.getElem_cons_succ,List.getElem_cons_zero,Act.put,List.setIfInBounds_toArray,List.set_cons_zero,List.set_cons_succ]
        refine wpAnyH_take (i:=7) (v:=?_) rfl (by kernel_rfl) (by kernel_rfl) (by kernel_rfl) (fun _ _ _ h => h) (Or.inl ⟨by rfl,?_⟩) hSw ?_
        rotate_left
        · intro w9 hS9;(try dsimp only at hS9);obtain ⟨s1,s2,s3,s4,s5⟩:=hS9;go_simp;(try with_reducible rfl)
        simp only [List.getElem_toArray,List.getElem_cons_succ,List.getElem_cons_zero,Act.put,List.setIfInBounds_toArray,List.set_cons_zero,List.set_cons_succ]
        refine wpAnyH_take (i:=8) (v:=?_) rfl (by kernel_rfl) (by kernel_rfl) (by kernel_rfl) (fun _ _ _ h => h) (Or.inl ⟨by rfl,?_⟩) hSw ?_
        rotate_left
        · intro w9 hS9;(try dsimp only at hS9);obtain ⟨s1,s2,s3,s4,s5⟩:=hS9;go_simp;(try with_reducible rfl)
        simp only [List.getElem_toArray,List.getElem_cons_succ,List.getElem_cons_zero,Act.put,List.setIfInBounds_toArray,List.set_cons_zero,List.set_cons_succ]
        refine wpAnyH_take (i:=9) (v:=?_) rfl (by kernel_rfl) (by kernel_rfl) (by kernel_rfl) (fun _ _ _ h => h) (Or.inl ⟨by rfl,?_⟩) hSw ?_
        rotate_left
        · intro w9 hS9;(try dsimp only at hS9);obtain ⟨s1,s2,s3,s4,s5⟩:=hS9;go_simp;(try with_reducible rfl)
        simp only [List.getElem_toArray,List.getElem_cons_succ,List.getElem_cons_zero,Act.put,List.setIfInBounds_toArray,List.set_cons_zero,List.set_cons_succ]
        refine wpAnyH_take (i:=10) (v:=?_) rfl (by kernel_rfl) (by kernel_rfl) (by kernel_rfl) (fun _ _ _ h => h) (Or.inl ⟨by rfl,?_⟩) hSw ?_
        rotate_left
        · intro w9 hS9;(try dsimp only at hS9);obtain ⟨s1,s2,s3,s4,s5⟩:=hS9;go_simp;(try with_reducible rfl)
        simp only [List.getElem_toArray,List.getElem_cons_succ,List.getElem_cons_zero,Act.put,List.setIfInBounds_toArray,List.set_cons_zero,List.set_cons_succ]
        refine wpAnyH_ready (rs:=[11]) (by kernel_rfl) (by simp) ?_
        refine AllReadyH.cons rfl (fun K hK => ?_) AllReadyH.nil
        simp only [List.getElem_toArray,List.getElem_cons_succ,List.getElem_cons_zero]
        go_simp
        refine (Hmm.out _).mono ?_
        rintro e w3 ⟨rfl,hb3⟩
        dsimp only
        have hS3:(fun w':World => w'.cell? ⟨w.heap.size,0,none⟩ = some (.slice (some ⟨b1,o1,none⟩) r d) ∧ w'.cell? ⟨w.heap.size + 1,0,none⟩ = some (.slice (some ⟨b2,o2,none⟩) c e) ∧ w'.cell? ⟨w.heap.size + 1 + 1,0,none⟩ = some (.int .i64 q) ∧ w'.cell? ⟨b1,o1 + x.1,none⟩ = some (.int .i64 (nth ys x.1)) ∧ w'.cell? ⟨b2,o2 + j,none⟩ = some (.int .i64 (nth xs j))) w3:=⟨cell_below hb3 hSw.1,cell_below hb3 hSw.2.1,cell_below hb3 hSw.2.2.1,cell_below hb3 hSw.2.2.2.1,cell_below hb3 hSw.2.2.2.2⟩
        refine hK.out _ _ hS3 (fun _ => ?_)
        clear hK K hSw
        have hSw:=hS3
        clear hS3
        have hown3:=own_below (w:=wr.drew) Hown.out hb3
        have hG3:∃ u,w3.cell? ⟨G,x.1 * c + j,none⟩ = some u:=⟨_,own_num hown3 Hroom.out⟩
        obtain ⟨u3,p3⟩:=hG3
        have f3:=hown3.frozenAt (x.1 * c + j)
        have Hown3:=Lib.hid hown3;have Hb3:=Lib.hid hb3;clear hown3 hb3
        refine wpAnyH_take (i:=12) (v:=?_) rfl (by kernel_rfl) (by kernel_rfl) (by kernel_rfl) (fun _ _ _ h => h) (Or.inl ⟨by rfl,?_⟩) hSw ?_
        rotate_left
        · intro w9 hS9;(try dsimp only at hS9);obtain ⟨s1,s2,s3,s4,s5⟩:=hS9;go_simp;(try with_reducible rfl)
        simp only [List.getElem_toArray,List.getElem_cons_succ,List.getElem_cons_zero,Act.put,List.setIfInBounds_toArray,List.set_cons_zero,List.set_cons_succ]
        refine wpAnyH_ready (rs:=[13]) (by kernel_rfl) (by simp) ?_
        refine AllReadyH.cons rfl (fun K hK => ?_) AllReadyH.nil
        simp only [List.getElem_toArray,List.getElem_cons_succ,List.getElem_cons_zero]
        go_simp
        refine hK.out _ _ ?_ (fun _ => ?_)
        · obtain ⟨s1,s2,s3,s4,s5⟩:=hSw
          exact ⟨(World.cell?_setCell_far _ _ _ _ (show G ≠ w.heap.size by omega)).trans s1,(World.cell?_setCell_far _ _ _ _ (show G ≠ w.heap.size + 1 by omega)).trans s2,(World.cell?_setCell_far _ _ _ _ (show G ≠ w.heap.size + 1 + 1 by omega)).trans s3,(World.cell?_setCell_far _ _ _ _ (show G ≠ b1 by omega)).trans s4,(World.cell?_setCell_far _ _ _ _ (show G ≠ b2 by omega)).trans s5⟩
        refine wpAnyH_done (by kernel_rfl) ?_ _
        clear hSw p3 f3 hK K
        gi_wp2_with fail
        refine ⟨⟨j + 1,by omega,by go_num,?_,?_⟩,by simp [intOf];omega⟩
        · rw [← outS_set x.2 hlt]
          exact own_put Hown3.out _ _
        · exact Keep.setCell (HK.out.drew.trans (Keep.below Hb3.out)) ⟨G,_,none⟩ (.inr rfl) _
      · obtain rfl:j = c:=by omega
        gi_wp2_with fail
        have hf1:=HG4.out
        have hf2:=HGl.out
        have hf3:=HS0.out
        have hf4:=HN.out
        have hbW:Below w.heap.size W wr:=hK.toBelow HBl.out.size (fun k hk => by omega)
        have hM4:=(hK.block _ (lt_of_block HxM.out) (by omega)).trans HxM.out
        refine ⟨(others_keep hK fun k o hk ho => ?_).from _,⟨hbW,fun _ => hM4.trans HxM.out.symm⟩,⟨⟨?_,?_,?_,?_,?_,?_,hM4⟩,HBl.out.trans hbW⟩⟩
        · subst hk
          exact own_cells Hrow.out ho
        · rw [List.map_append,List.map_singleton,← outS_all hc.1];exact hown
        · exact (hK.block _ (lt_of_block H2.out) (by omega)).trans H2.out
        · exact (hK.block _ (lt_of_block H3.out) (by omega)).trans H3.out
        · exact (hK.block _ (lt_of_block H4.out) (by omega)).trans H4.out
        · exact (hK.block _ (lt_of_block H5.out) (by omega)).trans H5.out
        · exact (hK.block _ (lt_of_block HxN.out) (by omega)).trans HxN.out
  case done =>
    rintro D zs W hD rfl ⟨⟨hrow,hx2,hx3,hx4,hx5,hxN,hxM⟩,hBl⟩ hK
    obtain ⟨⟨n0,n1,n2⟩,nf⟩:=bx3 hxN
    obtain ⟨⟨m0,m1,m2⟩,mf⟩:=bx3 hx5
    gi_wp2
    have hfin:(List.finRange r).map (·.1) = List.range r:=List.ext_getElem (by simp) (by simp)
    rw [hfin,outS_done hc.1] at hrow
    have h3:=box3_set (.int .i64 r) (.int .i64 c) (.slice (some ⟨G,0,none⟩) nn nn) hx5
    have k3:=box3_keep (w:=W) (b:=w.heap.size + 1 + 1 + 1) (.int .i64 r) (.int .i64 c) (.slice (some ⟨G,0,none⟩) nn nn)
    have hf1:=HG4.out
    have hf2:=HGl.out
    have hf3:=HS0.out
    have hf4:=HN.out
    simp only [World.size_alloc] at hD
    obtain ⟨W3,hW3⟩:∃ W3,W3 = (((W.setCell ⟨w.heap.size + 1 + 1 + 1,0,none⟩ (.int .i64 r)).setCell ⟨w.heap.size + 1 + 1 + 1,1,none⟩ (.int .i64 c)).setCell ⟨w.heap.size + 1 + 1 + 1,2,none⟩ (.slice (some ⟨G,0,none⟩) nn nn)):=⟨_,rfl⟩
    rw [← hW3] at h3 k3 ⊢
    clear hW3
    have hK3:W3.heap[D]? = some (.deferred (some [])):=(k3.block D (lt_of_block hK) (by omega)).trans hK
    refine ⟨by simp,.inl ⟨_,_,rfl,run_takeDeferred hK3,?_⟩⟩
    have h4:(W3.putObj D (.deferred none)).heap[w.heap.size + 1 + 1 + 1]? = some (.cells #[.int .i64 r,.int .i64 c,.slice (some ⟨G,0,none⟩) nn nn] 133 (0,0)):=(World.putObj_heap_other (by omega)).trans h3
    have hown3:=ownsRow_putObj (k3.own hrow (fun k hk e => by simp [Value.ownBlock] at hk;omega)) (.deferred none) hK3 rfl
    have hbel3:Below w.heap.size w (W3.putObj D (.deferred none)):=(hBl.trans (k3.toBelow hBl.size (fun k hk => by omega))).trans (belowK_b (w:=w) (Nat.le_refl _) W3 D _ _ (by omega) hK3 rfl rfl)
    obtain ⟨W4,hW4⟩:∃ W4,W4 = W3.putObj D (.deferred none):=⟨_,rfl⟩
    rw [← hW4] at h4 hown3 hbel3 ⊢
    clear hW4 hf1 hf2 hf3 hf4 hfin
    obtain ⟨⟨q0,q1,q2⟩,qf⟩:=bx3 h4
    refine ⟨.agg #[.int .i64 r,.int .i64 c,.slice (some ⟨G,0,none⟩) nn nn],by simp [results,Tryz.results257,go_sem,q0,q1,q2],_,rfl,hown3,hbel3⟩
  case stop =>
    rintro D c pre W _ _ h _
    exact h.elim
end Go.Proofs.YthamijnggdjaoaaGreatDoor
namespace Go.Proofs.YthamijnggdjaoaaGreatDoor
open Go.RowKit
theorem wpList_copyK {P:Program} {w:World} {ops:Array Oper} {rest:List Oper} {o:Oper} {a:Act} {Q:Exit → Act → World → Prop} (hgd:o.guard = none) (d s:Operand) (dT sT:TypeId)
    (ho:o.op = .call { callee:=.builtin .copy,args:=#[d,s],argTypes:=#[dT,sT] }) (elem:TypeId) (hu:P.underlying dT = some (.slice elem)) (hsz:(P.info? elem).map (·.size) = some 1)
    (dp sp:Option Addr) (n dCap sCap:Nat) (hd:a.eval d = .slice dp n dCap) (hs:a.eval s = .slice sp n sCap)
    (g off:Nat) (cur:List Value) (t:TypeId) (hg:w.heap[g]? = some (.cells cur.toArray t (0,0))) (cs:List Value) (hn:cs.length = n) (hdp:0 < n → dp = some ⟨g,off,none⟩) (hr:Rd w sp cs)
    (hfit:off + cs.length ≤ cur.length) (h1:∀ v ∈ cs,v.oneCell' = true)
    (h:∀ w',Hid (w'.heap[g]? = some (.cells (splice cur off cs).toArray t (0,0))) → Keep (fun i => i = g) w w' → wpList P ops Q rest (a.put o.dst (goInt cs.length)) w') :
    wpList P ops Q (o :: rest) a w:=by
  by_cases h0:cs.length = 0
  · obtain rfl:cs = []:=List.eq_nil_of_length_eq_zero h0
    refine wpList_copy_nothing hgd d s dT sT ho elem hu hsz dp sp n dCap n sCap hd hs (by simp at hn;subst hn;rfl) ?_
    exact h w (show _ = _ by simpa [splice] using hg) (Keep.refl _ _)
  · obtain rfl:=hdp (by omega)
    have hx:∃ ad,sp = some ad ∧ ∀ j v,cs[j]? = some v → w.cell? (ad.add j) = some v:=by
      obtain ⟨b,o',hsp,_⟩:=hr 0 cs[0] (List.getElem?_eq_getElem (by omega))
      refine ⟨_,hsp,fun j v hv => ?_⟩
      obtain ⟨b2,o2,e,hc⟩:=hr j v hv
      rw [hsp] at e
      injection e with e
      injection e with e1 e2 _
      subst e1;subst e2
      rw [Addr.add_lit]
      exact hc
    obtain ⟨ad,rfl,hsrc⟩:=hx
    refine wpList_copy_own hgd d s dT sT ho elem hu hsz g off n dCap ad n sCap hd hs cur.toArray t hg cs (by rw [hn];exact (Nat.min_self n).symm) hsrc (by simpa using hfit) h1 ?_
    exact h _ (show _ = _ by simpa [splice] using setRow_heap w g _ _ t _ hg) ⟨rfl,rfl,rfl,by simp [World.setRow],fun k hk hn => setRow_other w g k _ hn⟩
theorem step_copyK {P:Program} {w:World} {ops:Array Oper} {tm:Array Value} {o:Oper} {a:Act} {K:Act → World → Prop} {Q:Exit → Act → World → Prop} {E:Prop} (d s:Operand) (dT sT:TypeId) (hgd:o.guard = none)
    (ho:o.op = .call { callee:=.builtin .copy,args:=#[d,s],argTypes:=#[dT,sT] }) (elem:TypeId) (hu:P.underlying dT = some (.slice elem)) (hsz:(P.info? elem).map (·.size) = some 1)
    (dp sp:Option Addr) (n dCap sCap:Nat) (hd:a.eval d = .slice dp n dCap) (hs:a.eval s = .slice sp n sCap)
    (g off:Nat) (cur:List Value) (t:TypeId) (hg:w.heap[g]? = some (.cells cur.toArray t (0,0))) (cs:List Value) (hn:cs.length = n) (hdp:0 < n → dp = some ⟨g,off,none⟩) (hr:Rd w sp cs)
    (hfit:off + cs.length ≤ cur.length) (h1:∀ v ∈ cs,v.oneCell' = true)
    (h:∀ w',Hid (w'.heap[g]? = some (.cells (splice cur off cs).toArray t (0,0))) → Keep (fun i => i = g) w w' → K (a.put o.dst (goInt cs.length)) w') :
    if Region.wanted o (yielded ops tm) = true then Oper.wp P o a w K Q else E:=by
  rw [if_pos (by simp [Region.wanted,hgd])]
  by_cases h0:cs.length = 0
  · obtain rfl:cs = []:=List.eq_nil_of_length_eq_zero h0
    have hrun:=run_copy_none (P:=P) w dT sT o.type elem dp sp n dCap n sCap hu hsz (by simp at hn;subst hn;rfl)
    unfold Oper.wp
    simp [execOp,ho,resolve,invoke,builtin,hd,hs,hrun,Result.andThen]
    exact h w (show _ = _ by simpa [splice] using hg) (Keep.refl _ _)
  · obtain rfl:=hdp (by omega)
    have hx:∃ ad,sp = some ad ∧ ∀ j v,cs[j]? = some v → w.cell? (ad.add j) = some v:=by
      obtain ⟨b,o',hsp,_⟩:=hr 0 cs[0] (List.getElem?_eq_getElem (by omega))
      refine ⟨_,hsp,fun j v hv => ?_⟩
      obtain ⟨b2,o2,e,hc⟩:=hr j v hv
      rw [hsp] at e
      injection e with e
      injection e with e1 e2 _
      subst e1;subst e2
      rw [Addr.add_lit]
      exact hc
    obtain ⟨ad,rfl,hsrc⟩:=hx
    have hrun:=run_copy_row (P:=P) w dT sT o.type elem g off n dCap ad n sCap cur.toArray t cs hu hsz hg (by rw [hn];exact (Nat.min_self n).symm) hsrc (by simpa using hfit) h1
    unfold Oper.wp
    simp [execOp,ho,resolve,invoke,builtin,hd,hs,hrun,Result.andThen]
    exact h _ (show _ = _ by simpa [splice] using setRow_heap w g _ _ t _ hg) ⟨rfl,rfl,rfl,by simp [World.setRow],fun k hk hn => setRow_other w g k _ hn⟩
theorem own_full {w:World} {base:Nat} {e:TypeId} {g n:Nat} {xs:List Value} (h:w.ownsRow base e 1 (.slice (some ⟨g,0,none⟩) n n) n xs):w.heap[g]? = some (.cells xs.toArray e (0,0)):=by
  rcases h.2 with ⟨h0,_⟩ | ⟨g',cap,cur,hv,_,hg,_,_,hs,ht⟩
  · cases h0
  · simp only [Value.slice.injEq,Option.some.injEq,Addr.mk.injEq,and_true,true_and] at hv
    obtain ⟨rfl,rfl⟩:=hv
    rw [Nat.mul_one] at hs ht
    have:cur = xs.toArray:=by
      rw [← ht,List.take_of_length_le (by simp [hs])]
    rw [← this]
    exact hg
theorem nums_splice (q:IntKind) (a b:List Int) (off:Nat):splice (nums q a) off (nums q b) = nums q (splice a off b):=by
  unfold splice
  rw [nums_take,nums_length,nums_drop,← nums_append,← nums_append]
theorem rd_whole {w:World} {g:Nat} {e:TypeId} {xs:List Value} (h:w.heap[g]? = some (.cells xs.toArray e (0,0))):Rd w (some ⟨g,0,none⟩) xs:=fun k u hu => by
  refine ⟨g,0,rfl,?_⟩
  rw [Nat.zero_add,cell_of_row w g k xs.toArray e (0,0) h]
  simpa using hu
theorem full_own {w:World} {base:Nat} {e:TypeId} {g:Nat} {xs:List Value} (h:w.heap[g]? = some (.cells xs.toArray e (0,0))) (hb:base ≤ g) (hm:xs.length ≤ maxLen):w.ownsRow base e 1 (.slice (some ⟨g,0,none⟩) xs.length xs.length) xs.length xs:=
  ⟨by simp,.inr ⟨g,xs.length,xs.toArray,rfl,hb,h,Nat.le_refl _,hm,by simp,by simp⟩⟩
theorem splice2_drop {o W D:List Int} {lo:Nat} (h:lo + W.length + D.length ≤ o.length):(splice (splice o lo W) (lo + W.length) D).drop lo = W ++ (D ++ o.drop (lo + W.length + D.length)):=by
  have e0:splice o lo W = (o.take lo ++ W) ++ o.drop (lo + W.length):=by unfold splice;rw [List.append_assoc]
  have l1:(o.take lo ++ W).length = lo + W.length:=by rw [List.length_append,List.length_take];omega
  have e1:(splice o lo W).take (lo + W.length) = o.take lo ++ W:=by rw [e0,← l1,List.take_left]
  have e2:(splice o lo W).drop (lo + W.length + D.length) = o.drop (lo + W.length + D.length):=by
    rw [e0,List.drop_append,l1,List.drop_of_length_le (by rw [l1];omega),List.nil_append,List.drop_drop]
    congr 1
    omega
  have e3:splice (splice o lo W) (lo + W.length) D = o.take lo ++ (W ++ (D ++ o.drop (lo + W.length + D.length))):=by
    show (splice o lo W).take (lo + W.length) ++ (D ++ (splice o lo W).drop (lo + W.length + D.length)) = _
    rw [e1,e2,List.append_assoc]
  have l2:(o.take lo).length = lo:=by rw [List.length_take];omega
  rw [e3]
  conv => lhs;rw [← l2]
  rw [l2,List.drop_append_of_le_length (by rw [l2];exact Nat.le_refl _),List.drop_of_length_le (by rw [l2];exact Nat.le_refl _),List.nil_append]
end Go.Proofs.YthamijnggdjaoaaGreatDoor
namespace Go.Proofs.YthamijnggdjaoaaGreatDoor
open Go.RowKit
def GradI (sz ps:List Int) (q:Int) (x y:List Int) (G:Nat) (k:Nat) (D:Value) (w0 w1 w:World):Prop:=
  ∃ A c o,D = .slice A (szN sz (k + 1)) c ∧ w.ownsRow w0.heap.size 2 1 (.slice A (szN sz (k + 1)) c) (szN sz (k + 1)) (nums .i64 (errD sz ps q x y (sz.length - 2 - k))) ∧
    w.heap[G]? = some (.cells (nums .i64 o).toArray 2 (0,0)) ∧ o.length = cntN sz (sz.length - 1) ∧ o.drop (cntN sz (k + 1)) = gradT sz ps q x y (sz.length - 2 - k) ∧ (∀ a,A = some a → a.block ≠ G) ∧ Below w1.heap.size w1 w
theorem rt_rng:RowTy Tryz.prog 125 2:=⟨⟨_,Tryz.underlying125,rfl⟩,by kernel_rfl⟩
set_option maxRecDepth 100000 in
set_option maxHeartbeats 4000000 in
theorem grad_ok (b:Nat) (sz ps:List Int) (q:Int) (A B:Option Addr) (x y:List Int) (c d:Nat) (w:World) (h:NetAt 123 130 w b sz ps q) (hg:GoodSz sz) (wp:W64 ps) (hA:Rd w A (nums .i64 x)) (hx:x.length = szN sz 0) (wx:W64 x) (hB:Rd w B (nums .i64 y)) (hy:y.length = szN sz (sz.length - 1)) :
    Calls Tryz.prog 226 #[.pointer (some ⟨b,0,none⟩),.slice A x.length c,.slice B y.length d] w fun e w' => ∃ A' c',e = .returned (.tuple #[.slice A' (cntN sz (sz.length - 1)) c',.bool true]) ∧ w'.ownsRow w.heap.size 2 1 (.slice A' (cntN sz (sz.length - 1)) c') (cntN sz (sz.length - 1)) (nums .i64 (gradL sz ps q x y)) ∧ Below w.heap.size w w':=by
  have hm:=miss_ok b sz ps q A B x y c d w h hg wp hA hx wx hB hy
  have hbl:=h.lt
  obtain ⟨S,Ap,cp,Al,cl,rows,h0,h1,h2,h3,h4,h5,h6⟩:=h
  have hct:=fun w' (k:Below w.heap.size w w') => shape_count S sz w' (h1.below k)
  have hlk:=fun w' (k:Below w.heap.size w w') => shape_links S sz w' (h1.below k)
  have hwt:=fun j w' (k:Below w.heap.size w w') => shape_weights S sz j w' (h1.below k) (by have:=hg.1.1.2;omega)
  have hbi:=fun j w' (k:Below w.heap.size w w') => shape_biases S sz j w' (h1.below k) (by have:=hg.1.1.2;omega)
  have hNb:=hg.2
  have hGe:gradL sz ps q x y = gradT sz ps q x y (sz.length - 1):=rfl
  obtain ⟨n,hn⟩:∃ n,sz.length - 1 = n:=⟨_,rfl⟩
  obtain ⟨N,hN⟩:∃ N,cntN sz n = N:=⟨_,rfl⟩
  have hmt:missL (valL sz ps q x n) y = errD sz ps q x y 0:=by show _ = missL _ _;rw [hn]
  rw [hn] at h0 hlk hwt hbi h4 h6 hct hNb hGe hm hy ⊢
  rw [hN] at hct hNb ⊢
  rw [hmt] at hm
  have hnb:1 ≤ n ∧ n ≤ 15:=by have:=hg.1.1;omega
  have Hm:=Lib.hid hm;have Hct:=Lib.hid hct;have Hlk:=Lib.hid hlk;have Hwt:=Lib.hid hwt;have Hbi:=Lib.hid hbi;have H0:=Lib.hid h0;have H3:=Lib.hid h3;have H4:=Lib.hid h4;have H5:=Lib.hid h5;have H6:=Lib.hid h6;have HG:=Lib.hid hg;have WP:=Lib.hid wp;have Hx:=Lib.hid hx;have WX:=Lib.hid wx;have Hy:=Lib.hid hy;have Hn:=Lib.hid hn;have HN:=Lib.hid hN;have HGe:=Lib.hid hGe
  clear hm hct hlk hwt hbi h0 h1 h2 h3 h4 h5 h6 hg wp hA hx wx hB hy hn hN hGe hmt
  go_enter Tryz.func226,Tryz.ntmps226
  go_wp2_with fail
  go_step3
  go_wp2_with fail
  refine Hm.out.mono ?_
  rintro e w1 ⟨A',c',D,dc,vals,rfl,hr,hva,hc,ho,hb⟩
  have hN1:=(hb.block b hbl).trans H0.out
  obtain ⟨⟨r0,r1,r2,r3⟩,rf⟩:=bx4 hN1
  have hb1:b < w1.heap.size:=lt_of_block hN1
  have hw1:=hb.size
  have Hr:=Lib.hid hr;have Hva:=Lib.hid hva;have Hc:=Lib.hid hc;have Ho:=Lib.hid ho;have Hb:=Lib.hid hb;have HN1:=Lib.hid hN1;clear hr hva hc ho hb hN1
  go_wp2_with fail
  refine (Hct.out _ Hb.out).mono ?_
  rintro e w' ⟨rfl,rfl⟩
  have hmk:(8:Nat) * N ≤ 281474976710656:=by omega
  have Hmk:=Lib.hid hmk;clear hmk
  go_wp2_with (at_make;refine wpList_mk et_vec _ rfl (.tmp 31) (.tmp 31) rfl rfl N rfl rfl Hmk.out (by unfold maxLen;omega) ?_)
  intro w2 ho2 hb2
  have hG2:=own_full ho2
  rw [nums_rep] at hG2
  have hN2:=(hb2.block b hb1).trans HN1.out
  clear r0 r1 r2 r3 rf
  obtain ⟨⟨r0,r1,r2,r3⟩,rf⟩:=bx4 hN2
  have hbl2:=lt_of_block hN2
  have hGl:=lt_of_block hG2
  have Hb2:=Lib.hid hb2;have HG2:=Lib.hid hG2;have HN2:=Lib.hid hN2;clear ho2 hb2 hG2 hN2
  have hnw2:(n:Int) - 1 = ((n - 1:Nat):Int):=by omega
  have hnw:IntKind.i64.wrap ((n:Int) - 1) = ((n - 1:Nat):Int):=by rw [IntWalk.i64_in _ (by omega)];omega
  rw [hnw2] at hnw
  go_wp2_with fail
  go_step3
  go_wp2_with fail
  refine (Hlk.out _ (Hb.out.trans (Hb2.out.mono hw1))).mono ?_
  rintro e w' ⟨rfl,rfl⟩
  go_wp2_with fail
  clear hnw hnw2 r0 r1 r2 r3 rf
  go_loopw [9,12] (fun v i wr => ∃ k:Nat,k ≤ n - 1 ∧ i = .int .i64 k ∧ GradI sz ps q x y w1.heap.size k v w w1 wr) (fun _ i _ => (intOf i).toNat)
  case atStart =>
    have hs1:sz.length - 2 - (n - 1) = 0:=by have:=Hn.out;omega
    have hs2:n - 1 + 1 = n:=by omega
    refine ⟨n - 1,Nat.le_refl _,rfl,D,dc,List.replicate N 0,?_,?_,HG2.out,?_,?_,?_,Hb2.out⟩
    · rw [hs2,← Hy.out]
    · rw [hs1,hs2,← Hy.out];exact own_below Ho.out Hb2.out
    · rw [Hn.out,HN.out];simp
    · rw [hs1,hs2,HN.out];simp [gradT]
    · intro a ha e
      have:=(Ho.out.lt a.block (by rw [ha];rfl)).2
      omega
  case round =>
    obtain ⟨k,hk,rfl,A9,c9,o,rfl,ho,hGk,hol,hod,hne,hW⟩:=hrel
    have hNr:=(hW.block b hb1).trans HN1.out
    obtain ⟨⟨r0,r1,r2,r3⟩,rf⟩:=bx4 hNr
    have hbw:Below w.heap.size w wr:=Hb.out.trans (hW.mono hw1)
    have hbr:b < wr.heap.size:=lt_of_block hNr
    have HNr:=Lib.hid hNr;have Ho9:=Lib.hid ho;have HGk:=Lib.hid hGk;have Hol:=Lib.hid hol;have Hod:=Lib.hid hod;have Hne:=Lib.hid hne;have HW:=Lib.hid hW;have Hbw:=Lib.hid hbw
    clear hNr ho hGk hol hod hne hW hbw
    have hwk:=Hwt.out k
    have hbk:=Hbi.out k
    have HWk:=Lib.hid hwk;have HBk:=Lib.hid hbk;clear hwk hbk
    go_wp2_with fail
    go_cut [13,14] (fun v1 v2 wx => ∃ M1 M2,v1 = .pointer (some ⟨M1,0,none⟩) ∧ v2 = .pointer (some ⟨M2,0,none⟩) ∧ wx.heap[M1]? = some (.cells #[.int .i64 (cntN sz k:Int),.int .i64 (midN sz k:Int)] 125 (0,0)) ∧ wx.heap[M2]? = some (.cells #[.int .i64 (midN sz k:Int),.int .i64 (cntN sz (k + 1):Int)] 125 (0,0)) ∧ wr.heap.size ≤ M1 ∧ wr.heap.size ≤ M2 ∧ Below wr.heap.size wr wx)
    case first =>
      have t0:∀ w',Below wr.heap.size wr w' → w'.cell? ⟨b,0,none⟩ = some (.pointer (some ⟨S,0,none⟩)):=fun w' k => cell_of_row w' b 0 _ _ _ (sb HNr.out w' k)
      have tl:=sl HNr.out
      have q:Below wr.heap.size wr wr.drew:=(br wr).drew
      clear r0 r1 r2 r3 rf
      refine HA.g (fun w':World => Below wr.heap.size wr w') ?_
      refine HA.t ?_ [0,1,2,3,4,6,7,8,9,10] q ?_
      obtain ⟨U,hU⟩:∃ U,wr.drew = U:=⟨_,rfl⟩
      rw [hU] at q ⊢
      clear hU
      repeat' first
        | (refine HA.three 5 12 13 ?_ ?_ ?_)
        | (refine HA.three 11 12 13 ?_ ?_ ?_)
        | (refine HA.two 5 12 ?_ ?_)
        | (refine HA.two 5 13 ?_ ?_)
        | (refine HA.two 11 12 ?_ ?_)
        | (refine HA.two 11 13 ?_ ?_)
        | (refine HA.two 12 13 ?_ ?_)
        | (refine HA.sole 5 ?_)
        | (refine HA.sole 11 ?_)
        | (refine HA.sole 12 ?_)
        | (refine HA.sole 13 ?_)
        | (refine HAS.c (i:=5) (HWk.out U (Hbw.out.trans (q.mono Hbw.out.size)) (by omega)) ?_;rintro e V ⟨rfl,kV⟩;(try replace gA:=sb gA _ kV);(try replace gB:=sb gB _ kV);replace q:=q.trans (kV.mono q.size);refine ⟨_,rfl,q,fun _ => ?_⟩;clear kV;obtain ⟨U,rfl⟩:∃ U,U = V:=⟨_,rfl⟩)
        | (refine HAS.c (i:=11) (HBk.out U (Hbw.out.trans (q.mono Hbw.out.size)) (by omega)) ?_;rintro e V ⟨rfl,kV⟩;(try replace gA:=sb gA _ kV);(try replace gB:=sb gB _ kV);replace q:=q.trans (kV.mono q.size);refine ⟨_,rfl,q,fun _ => ?_⟩;clear kV;obtain ⟨U,rfl⟩:∃ U,U = V:=⟨_,rfl⟩)
        | (have hA:=q.size;have bV:=(br U).alloc (Nat.le_refl _) (.cells #[.int .i64 0,.int .i64 0] 125);have gA:=heap_alloc_new U (.cells #[.int .i64 0,.int .i64 0] 125);(try have nB:=lt_of_block gB);(try replace gB:=sb gB _ bV);replace q:=q.alloc q.size (.cells #[.int .i64 0,.int .i64 0] 125);refine HAS.v (i:=12) (U.alloc (.cells #[.int .i64 0,.int .i64 0] 125)) (.pointer (some ⟨U.heap.size,0,none⟩)) q ?_;obtain ⟨V,hv⟩:∃ V,U.alloc (.cells #[.int .i64 0,.int .i64 0] 125) = V:=⟨_,rfl⟩;rw [hv] at gA q ⊢;(try rw [hv] at gB);clear hv bV;obtain ⟨mm,hm⟩:∃ mm,U.heap.size = mm:=⟨_,rfl⟩;rw [hm] at gA hA ⊢;(try rw [hm] at nB);clear hm;obtain ⟨U,rfl⟩:∃ U,U = V:=⟨_,rfl⟩)
        | (have hB:=q.size;have bV:=(br U).alloc (Nat.le_refl _) (.cells #[.int .i64 0,.int .i64 0] 125);have gB:=heap_alloc_new U (.cells #[.int .i64 0,.int .i64 0] 125);(try have nA:=lt_of_block gA);(try replace gA:=sb gA _ bV);replace q:=q.alloc q.size (.cells #[.int .i64 0,.int .i64 0] 125);refine HAS.v (i:=13) (U.alloc (.cells #[.int .i64 0,.int .i64 0] 125)) (.pointer (some ⟨U.heap.size,0,none⟩)) q ?_;obtain ⟨V,hv⟩:∃ V,U.alloc (.cells #[.int .i64 0,.int .i64 0] 125) = V:=⟨_,rfl⟩;rw [hv] at gB q ⊢;(try rw [hv] at gA);clear hv bV;obtain ⟨mm,hm⟩:∃ mm,U.heap.size = mm:=⟨_,rfl⟩;rw [hm] at gB hB ⊢;(try rw [hm] at nA);clear hm;obtain ⟨U,rfl⟩:∃ U,U = V:=⟨_,rfl⟩)
        | (refine HA.st 14 gA rt_rng (fun w8 e8 k8 => ?_);refine ⟨below_st q k8 q.size hA,?_⟩;refine HA.st 15 ((k8.block _ (lt_of_block gB) (by omega)).trans gB) rt_rng (fun w9 e9 k9 => ?_);have F:=put_two (w:=wr) (by omega) hA hB q e8 k8 e9 k9;refine ⟨F.2.2.2.2.2,HA.d ?_⟩;have HF:=Lib.hid F;clear F e8 k8 e9 k9 t0 tl gA gB q;go_wp2_with fail;go_meet;exact ⟨_,_,rfl,rfl,HF.out.1,HF.out.2.1,HF.out.2.2.2⟩)
    case rest =>
      obtain ⟨M1,M2,rfl,rfl,hM1,hM2,hg1,hg2,hB⟩:=hcut
      have hR:=HG.out.1
      have hnl:=Hn.out
      have hk1:k + 1 < sz.length:=by omega
      have z0:=hR.at (k:=k) (by omega)
      have z1:=hR.at hk1
      have hmul:=HG.out.mul hk1
      have hpos:1 ≤ szN sz (k + 1) * szN sz k:=Nat.mul_pos z1.1 z0.1
      have hmid:midN sz k = cntN sz k + szN sz (k + 1) * szN sz k:=rfl
      have hnext:=midN_eq sz k
      have hroom:=cntN_mono sz (show k + 1 ≤ n by omega)
      have hNN:=HN.out
      have hsk:sz.length - 2 - k = n - 1 - k:=by omega
      have hej:=errD_len (sz:=sz) (ps:=ps) (q:=q) (x:=x) (y:=y) Hx.out (n - 1 - k)
      rw [show sz.length - 1 - (n - 1 - k) = k + 1 by omega] at hej
      have wej:=errD_W64 sz ps q x y (n - 1 - k)
      have hvl:=valL_len (sz:=sz) (ps:=ps) (q:=q) Hx.out k
      have wvl:=valL_W64 (sz:=sz) (ps:=ps) (q:=q) WX.out k
      obtain ⟨Ak,ck,hv1,hv2,hv3⟩:=Hva.out.2 k (by omega)
      rw [hvl] at hv1
      obtain ⟨bo,oo,rfl,pv⟩:=Hr.out _ _ hv1
      have hbo:bo < w1.heap.size:=lt_of_cell pv
      have h1c:Below w1.heap.size w1 wc:=HW.out.trans (hB.mono HW.out.size)
      have pvc:=(h1c.cell (p:=⟨bo,oo + k,none⟩) hbo).trans pv
      have hNc:=(hB.block b hbr).trans HNr.out
      have hGc:=(hB.block w1.heap.size (lt_of_block HGk.out)).trans HGk.out
      have hoc:=own_below Ho9.out hB
      rw [hsk] at hoc
      have hvr:=hv3.below h1c
      obtain ⟨lo,hlo⟩:∃ lo,cntN sz k = lo:=⟨_,rfl⟩
      obtain ⟨r,hr⟩:∃ r,szN sz (k + 1) = r:=⟨_,rfl⟩
      obtain ⟨c0,hc0⟩:∃ c0,szN sz k = c0:=⟨_,rfl⟩
      obtain ⟨nn,hnn⟩:∃ nn,r * c0 = nn:=⟨_,rfl⟩
      rw [← hnext,hmid] at hM2
      rw [hmid] at hM1
      rw [← hnext,hmid] at hroom
      rw [hlo,hr,hc0,hnn] at hM1 hM2 hroom
      rw [hr] at hej z1 hoc
      rw [hc0] at hvl z0 pvc
      rw [hr,hc0,hnn] at hpos hmul
      rw [hr]
      obtain ⟨ev,hev⟩:∃ ev,errD sz ps q x y (n - 1 - k) = ev:=⟨_,rfl⟩
      obtain ⟨vv,hvv⟩:∃ vv,valL sz ps q x k = vv:=⟨_,rfl⟩
      rw [hev] at hej wej hoc
      rw [hvv] at hvl wvl hvr hv3
      have HV3:=Lib.hid hv3
      have hou:=fun W (h:Below wc.heap.size wc W) => outer_any r c0 A9 Ak ev vv c9 ck q W ⟨z1.1,z1.2.1⟩ ⟨z0.1,z0.2.1⟩ (by rw [hnn];exact hmul) ((Rd.own hoc).below h) wej hej (hvr.below h) hvl wvl
      rw [hnn] at hou
      have hwl:(outerL r c0 ev vv q).length = nn:=by rw [outerL_len,hnn]
      obtain ⟨ow,how⟩:∃ ow,outerL r c0 ev vv q = ow:=⟨_,rfl⟩
      rw [how] at hou hwl
      obtain ⟨⟨m0,m1⟩,mf⟩:=bx2 hM1
      obtain ⟨⟨n0,n1,n2,n3⟩,nf⟩:=bx4 hNc
      have hl1:=lt_of_block hM1
      have hlc:w1.heap.size < wc.heap.size:=lt_of_block hGc
      have hbc:b < wc.heap.size:=lt_of_block hNc
      have hboc:bo < wc.heap.size:=by omega
      have hMG1:M1 ≠ w1.heap.size:=by have:=HW.out.size;have:=lt_of_block HGk.out;omega
      have hMG2:M2 ≠ w1.heap.size:=by have:=HW.out.size;have:=lt_of_block HGk.out;omega
      have hol:o.length = N:=by rw [Hol.out,hnl,hNN]
      have hro:lo + nn + r ≤ N:=by omega
      have hksz:k < sz.length:=by omega
      have hq1:¬ (N = lo):=by omega
      have hq2:lo + nn ≤ N:=by omega
      have hq3:(lo:Int) + nn ≤ N:=by omega
      have hq4:((lo:Int) + nn).toNat = lo + nn:=by omega
      have hq5:(0:Int) ≤ (lo:Int) + nn:=by omega
      have hq6:(lo:Int) ≤ (lo:Int) + nn:=by omega
      have HM1:=Lib.hid hM1;have HM2:=Lib.hid hM2;have HNc:=Lib.hid hNc;have HGc:=Lib.hid hGc;have Hoc:=Lib.hid hoc;have Hou:=Lib.hid hou;have Hwl:=Lib.hid hwl;have How:=Lib.hid how;have Hev:=Lib.hid hev;have Hvv:=Lib.hid hvv;have Hlo:=Lib.hid hlo;have Hr9:=Lib.hid hr;have Hc0:=Lib.hid hc0;have Hnn:=Lib.hid hnn;have H1c:=Lib.hid h1c;have HB:=Lib.hid hB;have Holn:=Lib.hid hol;have Hvr:=Lib.hid hvr;have Hvl:=Lib.hid hvl;have WV:=Lib.hid wvl;have Hej:=Lib.hid hej;have WEJ:=Lib.hid wej;have Hsk:=Lib.hid hsk;have Hvk:=Lib.hid hv1
      clear hM1 hM2 hNc hGc hoc hou hwl how hev hvv hlo hr hc0 hnn h1c hB hol hvr hvl wvl hej wej hsk hv1 hv2 hv3 pv hmid hnext hroom hNN hnl n0 n1 n3 nf mf
      go_wp2_with fail
      have hSw:(fun w':World => w'.cell? ⟨M1,0,none⟩ = some (.int .i64 lo) ∧ w'.cell? ⟨M1,1,none⟩ = some (.int .i64 ((lo:Int) + nn)) ∧ w'.cell? ⟨bo,oo + k,none⟩ = some (.slice Ak c0 ck) ∧ w'.cell? ⟨b,2,none⟩ = some (.int .i64 q)) wc.drew:=⟨m0,m1,pvc,n2⟩
      refine HA.g (fun w':World => w'.cell? ⟨M1,0,none⟩ = some (.int .i64 lo) ∧ w'.cell? ⟨M1,1,none⟩ = some (.int .i64 ((lo:Int) + nn)) ∧ w'.cell? ⟨bo,oo + k,none⟩ = some (.slice Ak c0 ck) ∧ w'.cell? ⟨b,2,none⟩ = some (.int .i64 q)) ?_
      refine HA.t ?_ [0,1,2,3,4,5,6,7,8,9,10,11,12,13,14] hSw ?_
      refine HA.o 15 (fun K hK => ?_)
      go_simp
      refine (Hou.out _ ((Below.refl wc.heap.size wc).drew)).mono ?_
      rintro e w5 ⟨A5,rfl,ho5,hb5⟩
      have hS5:=And.intro (cell_below hb5 hSw.1) (And.intro (cell_below hb5 hSw.2.1) (And.intro (cell_below hb5 hSw.2.2.1) (cell_below hb5 hSw.2.2.2)))
      have hb5c:Below wc.heap.size wc w5:=(Below.refl wc.heap.size wc).drew.trans hb5
      have hG5:=(hb5c.block _ hlc).trans HGc.out
      have ho5:=Rd.own ho5
      have HG5:=Lib.hid hG5;have Ho5:=Lib.hid ho5;have Hb5:=Lib.hid hb5c;clear hG5 ho5 hb5 hb5c hSw
      dsimp only
      refine hK.out _ _ hS5 (fun hSw => ?_)
      clear hK K hS5
      refine HA.o 16 (fun K hK => ?_)
      go_simp
      refine hK.out _ _ hSw (fun hSw => ?_)
      clear hK K
      refine HA.o 17 (fun K hK => ?_)
      refine step_copyK (.tmp 58) (.tmp 69) 65 65 rfl rfl 2 Tryz.underlying65 (by kernel_rfl) (some ⟨w1.heap.size,lo,none⟩) A5 nn (N - lo) nn rfl rfl w1.heap.size lo (nums .i64 o) 2 HG5.out (nums .i64 ow) (by rw [nums_length,Hwl.out]) (fun _ => rfl) Ho5.out (by rw [nums_length,nums_length,Hwl.out,Holn.out];omega) (nums_cell _ _) ?_
      intro w6 hG6 hK6
      rw [nums_splice] at hG6
      have hS6:=And.intro (hK6.cell hSw.1 (by exact hMG1)) (And.intro (hK6.cell hSw.2.1 (by exact hMG1)) (And.intro (hK6.cell hSw.2.2.1 (show bo ≠ _ by omega)) (hK6.cell hSw.2.2.2 (show b ≠ _ by omega))))
      have hM26:=(hK6.block M2 (lt_of_block ((Hb5.out.block _ (lt_of_block HM2.out)).trans HM2.out)) hMG2).trans ((Hb5.out.block _ (lt_of_block HM2.out)).trans HM2.out)
      have HG6:=Lib.hid hG6;have HK6:=Lib.hid hK6;clear hG6 hK6 hSw
      dsimp only
      refine hK.out _ _ hS6 (fun hSw => ?_)
      clear hK K hS6
      refine HA.d ?_
      have hD6:w6.ownsRow w.heap.size 2 1 (.slice A9 r c9) r (nums .i64 ev):=HK6.out.own (own_below Hoc.out Hb5.out) (fun i hi e => by
        cases A9 with
        | none => cases hi
        | some a => simp [Value.ownBlock] at hi;exact Hne.out a rfl (hi.trans e))
      have n26:=hSw.2.2.2
      have v26:=hSw.2.2.1
      obtain ⟨⟨mm0,mm1⟩,mmf⟩:=bx2 hM26
      have hlM2:=lt_of_block hM26
      have HD6:=Lib.hid hD6;have HM26:=Lib.hid hM26;clear hD6 hM26 hSw m0 m1 pvc n2
      have hq7:¬ (N = lo + nn):=by omega
      have hq8:lo + nn + r ≤ N:=by omega
      have hq9:(lo:Int) + nn + r ≤ N:=by omega
      have hqa:((lo:Int) + nn + r).toNat = lo + nn + r:=by omega
      have hqb:(0:Int) ≤ (lo:Int) + nn + r:=by omega
      have hqc:(lo:Int) + nn ≤ (lo:Int) + nn + r:=by omega
      have Hf1:=Lib.hid (show (nums .i64 ev).length = r by rw [nums_length,Hej.out])
      have Hf2:=Lib.hid (show lo + nn + (nums .i64 ev).length ≤ (nums .i64 (splice o lo ow)).length by rw [nums_length,nums_length,Hej.out,length_splice _ _ _ (by rw [Hwl.out,Holn.out];omega),Holn.out];omega)
      have Hf3:=Lib.hid (show (Tryz.prog.info? 2).map (·.size) = some 1 by kernel_rfl)
      go_wp2_with (refine wpList_copyK rfl (.tmp 76) (.tmp 77) 65 65 rfl 2 Tryz.underlying65 Hf3.out (some ⟨w1.heap.size,lo + nn,none⟩) A9 r (N - (lo + nn)) c9 rfl rfl w1.heap.size (lo + nn) (nums .i64 (splice o lo ow)) 2 HG6.out (nums .i64 ev) Hf1.out (fun _ => rfl) (Rd.own HD6.out) Hf2.out (nums_cell _ _) ?_)
      intro w7 hG7 hK7
      rw [nums_splice] at hG7
      obtain ⟨o7,ho7⟩:∃ o7,splice (splice o lo ow) (lo + nn) ev = o7:=⟨_,rfl⟩
      have hl7:o7.length = N:=by
        have h1:(splice o lo ow).length = N:=by rw [length_splice _ _ _ (by rw [Hwl.out,Holn.out];omega),Holn.out]
        rw [← ho7,length_splice _ _ _ (by rw [h1,Hej.out];omega),h1]
      have hdr:o7.drop (cntN sz k) = gradT sz ps q x y (n - k):=by
        have e1:=Hn.out
        have e2:=splice2_drop (o:=o) (W:=ow) (D:=ev) (lo:=lo) (by rw [Hwl.out,Hej.out,Holn.out];exact hro)
        rw [Hwl.out,Hej.out,ho7] at e2
        rw [Hlo.out,e2,show n - k = (n - 1 - k) + 1 by omega]
        have e3:cntN sz (k + 1) = lo + nn + r:=by
          rw [← midN_eq sz k,show midN sz k = cntN sz k + szN sz (k + 1) * szN sz k from rfl,Hlo.out,Hr9.out,Hc0.out,Hnn.out]
        have e4:=Hod.out
        rw [e3,Hsk.out] at e4
        rw [gradT,show sz.length - 1 - (n - 1 - k) = k + 1 by omega,show sz.length - 2 - (n - 1 - k) = k by omega,Hr9.out,Hc0.out,Hev.out,Hvv.out,How.out,← e4]
      have hbw7:Below w1.heap.size w1 w7:=H1c.out.trans (((Hb5.out.mono (by omega)).trans (HK6.out.toBelow (by have:=Hb5.out.size;omega) (fun i hi => by omega))).trans (hK7.toBelow (by have:=HK6.out.size;have:=Hb5.out.size;omega) (fun i hi => by omega)))
      rw [ho7] at hG7
      have hD7:=hK7.own HD6.out (fun i hi e => by
        cases A9 with
        | none => cases hi
        | some a => simp [Value.ownBlock] at hi;exact Hne.out a rfl (hi.trans e))
      have n27:=hK7.cell n26 (show b ≠ _ by omega)
      have v27:=hK7.cell v26 (show bo ≠ _ by omega)
      have HG7:=Lib.hid hG7;have Hl7:=Lib.hid hl7;have Hdr:=Lib.hid hdr;have Hbw7:=Lib.hid hbw7;have HD7:=Lib.hid hD7
      clear hG7 hl7 hdr hbw7 hD7 ho7 hK7 n26 v26 mm0 mm1 mmf
      by_cases hk0:k = 0
      · have hk0b:((k:Int) == 0) = true:=by simp [hk0]
        have hfin:w7.ownsRow w.heap.size 2 1 (.slice (some ⟨w1.heap.size,0,none⟩) N N) N (nums .i64 (gradL sz ps q x y)):=by
          have e1:=Hdr.out
          rw [hk0] at e1
          have e2:o7 = gradL sz ps q x y:=by rw [HGe.out,← Nat.sub_zero n,← e1];rfl
          have e3:=full_own (base:=w.heap.size) (xs:=nums .i64 o7) (by exact HG7.out) hw1 (by rw [nums_length,Hl7.out];unfold maxLen;omega)
          rw [nums_length,Hl7.out] at e3
          rw [← e2];exact e3
        have Hfin:=Lib.hid hfin;clear hfin hk0
        have hbf:=Hb.out.trans (Hbw7.out.mono hw1)
        have Hbf:=Lib.hid hbf;clear hbf
        go_wp2_with fail
        try rw [Exit.noGoto_ret]
        go_ret2
        exact ⟨_,_,rfl,Hfin.out,Hbf.out⟩
      · have hk0b:((k:Int) == 0) = false:=by simp;omega
        obtain ⟨gl,ol,dl,Bl,el,hcs,hd,hrw,hrb⟩:=H6.out k (by omega)
        have hkrow:k < rows.length:=by rw [H4.out];omega
        have hcl:∀ t,t < 4 → (List.flatten rows)[k * 4 + t]? = (rowOf rows k)[t]?:=fun t ht => flat_get H5.out k t hkrow ht
        have e0:=hcl 0 (by omega);have e1:=hcl 1 (by omega);have e2:=hcl 2 (by omega)
        rw [hcs] at e0 e1 e2
        simp only [Nat.add_zero,List.getElem?_cons_zero,List.getElem?_cons_succ] at e0 e1 e2
        obtain ⟨bl,ob,hAl,q0⟩:=H3.out _ _ e0
        obtain ⟨_,_,hAl1,q1⟩:=H3.out _ _ e1
        obtain ⟨_,_,hAl2,q2⟩:=H3.out _ _ e2
        subst hAl
        injection hAl1 with hAl1;injection hAl1 with i1 i2 _;subst i1;subst i2
        injection hAl2 with hAl2;injection hAl2 with i1 i2 _;subst i1;subst i2
        have hbb:bl < w.heap.size:=lt_of_cell q0
        have hbf:=Hb.out.trans (Hbw7.out.mono hw1)
        have q0r:=(hbf.cell (p:=⟨bl,ob + k * 4,none⟩) hbb).trans q0
        have q1r:=(hbf.cell (p:=⟨bl,ob + (k * 4 + 1),none⟩) hbb).trans q1
        have q2r:=(hbf.cell (p:=⟨bl,ob + (k * 4 + 2),none⟩) hbb).trans q2
        rw [← Nat.add_assoc] at q1r q2r
        rw [Hr9.out] at q0r
        rw [Hc0.out] at q1r
        rw [Hr9.out,Hc0.out,Hnn.out] at q2r hd
        have hN7:=(hbf.block b hbl).trans H0.out
        obtain ⟨⟨n0,n1,n2,n3⟩,nf⟩:=bx4 hN7
        have hwl2:=wL_len sz ps k
        rw [Hr9.out,Hc0.out,Hnn.out] at hwl2
        have hbk:=mback_any r c0 gl ol nn dl (wL sz ps k) A9 ev c9 q w7.drew ⟨z1.1,z1.2.1⟩ ⟨z0.1,z0.2.1⟩ Hnn.out.symm hd (by omega) hwl2 ((hrw.below hbf).drewN 1) (wL_W64 WP.out sz k) ((Rd.own HD7.out).drewN 1) Hej.out WEJ.out
        have hkn:k < n:=by omega
        have Hbk:=Lib.hid hbk;have Hbf:=Lib.hid hbf
        clear hbk hbf hN7 hwl2 hrw hrb hcs e0 e1 e2 q0 q1 q2 hcl hkrow hd
        go_wp2_with fail
        go_region_held3 (fun w' => w'.cell? ⟨b,3,none⟩ = some (.slice (some ⟨bl,ob,none⟩) n cl) ∧ w'.cell? ⟨bl,ob + k * 4,none⟩ = some (.int .i64 r) ∧ w'.cell? ⟨bl,ob + k * 4 + 1,none⟩ = some (.int .i64 c0) ∧ w'.cell? ⟨bl,ob + k * 4 + 2,none⟩ = some (.slice (some ⟨gl,ol,none⟩) nn dl) ∧ w'.cell? ⟨b,2,none⟩ = some (.int .i64 q)) (simp [go_sem, *])
          ((go_at_call 258;refine Hbk.out.mono ?_;rintro e w8 ⟨A8,c8,rfl,ho8,hb8⟩;have g0:=cell_below hb8 n3;have g1:=cell_below hb8 q0r;have g2:=cell_below hb8 q1r;have g3:=cell_below hb8 q2r;have g4:=cell_below hb8 n2;have g5:=cell_below hb8 v27;have Ho8:=Lib.hid ho8;have Hb8:=Lib.hid hb8;clear ho8 hb8))
        go_wp2_with fail
        have hbl8:=backL_len (wL sz ps k) r c0 ev q
        obtain ⟨bk,hbke⟩:∃ bk,backL (wL sz ps k) r c0 ev q = bk:=⟨_,rfl⟩
        have ho8:=own_base (base':=w7.heap.size) Ho8.out (by simp)
        rw [hbke] at hbl8 ho8
        have Hbkl:=Lib.hid hbl8;have Ho8':=Lib.hid ho8;have Hbke:=Lib.hid hbke
        have hb8:=(Below.refl w7.heap.size w7).drew.trans Hb8.out
        have HB8:=Lib.hid hb8
        clear hbl8 ho8 hbke hb8 g0 g1 g2 g3 g4 g5 n0 n1 n2 n3 nf v27 q0r q1r q2r n27 hk0b
        go_loopw [103] (fun i wx => ∃ j:Nat,j ≤ c0 ∧ i = .int .i64 j ∧ wx.ownsRow w7.heap.size 2 1 (.slice A8 c0 c8) c0 (nums .i64 (mixed bk j (fun i => if 0 < nth vv i then nth bk i else 0))) ∧ Below w7.heap.size w7 wx) (fun i _ => c0 - (intOf i).toNat)
        case atStart => exact ⟨0,Nat.zero_le _,rfl,by rw [mixed_zero];exact Ho8'.out,HB8.out⟩
        case round =>
          obtain ⟨j,hj,rfl,hown,hbx⟩:=hrel
          by_cases hlt:j < c0
          · obtain ⟨g8,d8,hv8,hg8,_⟩:=hown.form (by omega)
            simp only [Value.slice.injEq] at hv8
            obtain ⟨rfl,hx8,rfl⟩:=hv8
            clear hx8
            have hjz:j < bk.length:=by rw [Hbkl.out];exact hlt
            have p1:=own_num hown hlt
            rw [mixed_nth _ hjz,if_neg (by omega)] at p1
            have f1:=hown.frozenAt j
            have hst:=mixed_set (l:=bk) (k:=j) (fun i => if 0 < nth vv i then nth bk i else 0) hjz
            obtain ⟨bv,ov,rfl,pv0⟩:=((HV3.out.below Hbw7.out).below hbx).num (show j < vv.length by rw [Hvl.out];exact hlt)
            have HO:=Lib.hid hown;have HBx:=Lib.hid hbx;have Hst:=Lib.hid hst;clear hown hbx hst hjz
            go_wp2_with fail
            refine (gate_any _ _ _).mono ?_
            rintro e w9 ⟨rfl,rfl⟩
            go_wp2_with fail
            go_roundw
            case rel => exact ⟨j + 1,by omega,by go_num,by rw [← Hst.out];exact own_put HO.out j _,HBx.out.setCell (p:=⟨g8,j,none⟩) hg8 _⟩
            case measure => simp [intOf];omega
          · obtain rfl:j = c0:=by omega
            have HO:=Lib.hid hown;have HBx:=Lib.hid hbx;clear hown hbx
            have hkw:IntKind.i64.wrap ((k:Int) - 1) = ((k - 1:Nat):Int):=by rw [IntWalk.i64_in _ (by omega)];omega
            have hkw2:(k:Int) - 1 = ((k - 1:Nat):Int):=by omega
            rw [hkw2] at hkw
            go_wp2_with fail
            clear hkw hkw2
            go_roundw
            case rel =>
              have ek:k - 1 + 1 = k:=by omega
              have en:=Hn.out
              have hGw:w1.heap.size < w7.heap.size:=lt_of_block HG7.out
              have hge:errD sz ps q x y (sz.length - 2 - (k - 1)) = mixed bk j (fun i => if 0 < nth vv i then nth bk i else 0):=by
                rw [show sz.length - 2 - (k - 1) = (n - 1 - k) + 1 by omega,errD,show sz.length - 2 - (n - 1 - k) = k by omega,show sz.length - 1 - (n - 1 - k) = k + 1 by omega,Hev.out,Hvv.out,Hr9.out,Hc0.out,Hbke.out]
                rw [← Hbkl.out,mixed_all]
                rfl
              refine ⟨k - 1,by omega,rfl,A8,c8,o7,?_,?_,?_,?_,?_,?_,?_⟩
              · rw [ek,Hc0.out]
              · rw [ek,Hc0.out,hge];exact own_base HO.out (by omega)
              · exact (HBx.out.block _ hGw).trans HG7.out
              · rw [Hl7.out,en,HN.out]
              · rw [ek,Hdr.out,show sz.length - 2 - (k - 1) = n - k by omega]
              · intro a ha e9
                have:=(HO.out.lt a.block (by rw [ha];rfl)).1
                omega
              · exact Hbw7.out.trans (HBx.out.mono (by omega))
            case measure => simp [intOf];omega
end Go.Proofs.YthamijnggdjaoaaGreatDoor
namespace Go.Proofs.YthamijnggdjaoaaGreatDoor
open Go.RowKit
set_option maxRecDepth 100000 in
theorem g1_any (X Gs base net n c:Nat) (i:Inp) (P s:List Int) (A1 A2:Option Addr) (c1 c2:Nat) (x:Ex) (w:World) (hg:GoodIn i) (wP:W64 P) (hf:fitEx (inN i) (outN i) x)
    (hN:NetAt 123 130 w net i.cfg.sizes P i.cfg.shift) (r1:NumsRd w A1 x.1 c1) (r2:NumsRd w A2 x.2 c2) (hX:w.heap[X]? = some (.cells #[.slice (some ⟨Gs,0,none⟩) n c] 65 (0,0))) (hs:w.ownsRow base 2 1 (.slice (some ⟨Gs,0,none⟩) n c) n (nums .i64 s)) (hn:n = cnt i) :
    Calls Tryz.prog 225 #[.pointer (some ⟨net,0,none⟩),.agg #[.slice A1 x.1.length c1,.slice A2 x.2.length c2],.pointer (some ⟨X,0,none⟩)] w fun e w' => e = .returned (.tuple #[]) ∧ w'.heap[X]? = some (.cells #[.slice (some ⟨Gs,0,none⟩) n c] 65 (0,0)) ∧
      w'.ownsRow base 2 1 (.slice (some ⟨Gs,0,none⟩) n c) n (nums .i64 (addL s (gradL i.cfg.sizes P i.cfg.shift x.1 x.2))) ∧ Keep (fun j => j = Gs) w w':=by
  have hgr:=fun w' (q:Below w.heap.size w w') => grad_ok net i.cfg.sizes P i.cfg.shift A1 A2 x.1 x.2 c1 c2 w' (hN.below q) hg.c.z wP (r1.hr.below q) hf.1 r1.hw (r2.hr.below q) hf.2
  have hcn:cntN i.cfg.sizes (i.cfg.sizes.length - 1) = n:=hn.symm
  have hcb:=hg.c.z.bound (k:=i.cfg.sizes.length - 1) (by have:=hg.c.z.1.1;omega)
  rw [hcn] at hgr hcb
  have hgl:=gradL_len (sz:=i.cfg.sizes) (ps:=P) (q:=i.cfg.shift) (x:=x.1) (y:=x.2) hf.1 (by have:=hg.c.z.1.1;omega)
  rw [hcn] at hgl
  obtain ⟨gv,hgv⟩:∃ gv,gradL i.cfg.sizes P i.cfg.shift x.1 x.2 = gv:=⟨_,rfl⟩
  rw [hgv] at hgr hgl ⊢
  obtain ⟨n1,hn1⟩:∃ n1,x.1.length = n1:=⟨_,rfl⟩
  obtain ⟨n2,hn2⟩:∃ n2,x.2.length = n2:=⟨_,rfl⟩
  rw [hn1,hn2] at hgr ⊢
  have hxg:X ≠ Gs:=fun e => block_notrow hX (by decide) hs (by rw [e];rfl)
  have hlg:=hs.lt Gs rfl
  have hXl:=lt_of_block hX
  have Hgr:=Lib.hid hgr;have HX:=Lib.hid hX;have Hs:=Lib.hid hs;have Hgl:=Lib.hid hgl;have Hxg:=Lib.hid hxg
  clear hgr hX hs hgl hxg hgv hn1 hn2 hcn hn hN r1 r2 hf hg wP
  go_enter Tryz.func225,Tryz.ntmps225
  go_wp2_with fail
  refine (Hgr.out _ ?_).mono ?_
  · (focus (repeat' (first | (with_reducible exact Below.refl _ _) | (with_reducible assumption) | (with_reducible refine Below.setCell ?_ ?_ _) | (with_reducible refine Below.alloc ?_ ?_ _) | (with_reducible refine below_drewN ?_ _) | (with_reducible refine Below.drew ?_) | (with_reducible exact Nat.le_refl _) | omega | (simp;done) | (simp;omega))))
  rintro e w1 ⟨A,d,rfl,ho,hb1⟩
  have hB1:Below w.heap.size w w1:=((Below.refl _ w).alloc (Nat.le_refl _) _).trans (hb1.mono (by simp))
  have hx1:=(hB1.block _ hXl).trans HX.out
  have hs1:=own_below Hs.out hB1
  have hoa:=own_addr ho
  have hoz:=(Nat.le_trans (show w.heap.size ≤ (w.alloc (.cells #[.slice A1 n1 c1,.slice A2 n2 c2] 72)).heap.size by simp) (Nat.le_refl _))
  obtain ⟨y0,yf⟩:=bx1 hx1
  have had:=add_any base (some ⟨Gs,0,none⟩) A s gv n c d w1 hs1 (Rd.own ho) Hgl.out (by omega) (fun a b' ha hb' => by
    injection ha with ha
    subst ha
    have:=(hoa b' hb').1
    simp at this ⊢
    omega)
  have hx1l:=lt_of_block hx1
  have HX1:=Lib.hid hx1;have HB1:=Lib.hid hB1;have Had:=Lib.hid had
  clear hx1 hB1 hb1 hs1 ho had hoa
  go_wp2_with fail
  refine Had.out.mono ?_
  rintro e w2 ⟨rfl,hs2,hk2⟩
  have hx2:=(hk2.block _ hx1l (fun e => by
    have h1:Gs = X:=by simpa [Value.ownBlock] using e
    exact Hxg.out h1.symm)).trans HX1.out
  have hkf:Keep (fun j => j = Gs) w w2:=(Keep.below HB1.out).trans (hk2.mono (fun j _ h => by
    have h1:Gs = j:=by simpa [Value.ownBlock] using h
    exact h1.symm))
  have HX2:=Lib.hid hx2;have HS2:=Lib.hid hs2;have HKf:=Lib.hid hkf
  clear hx2 hs2 hkf hk2 y0 yf
  go_wp2_with fail
  go_end0
  exact ⟨rfl,HX2.out,HS2.out,HKf.out⟩
end Go.Proofs.YthamijnggdjaoaaGreatDoor
namespace Go.Proofs.YthamijnggdjaoaaGreatDoor
open Go.RowKit
def RGradIs (i:Inp) (P idx:List Int) (n:Nat) (w:World) (e:Ending) (w':World):Prop:=Below w.heap.size w w' ∧
  ((allGood i idx ∧ ∃ A c,e = .returned (.tuple #[.slice A n c,.bool true]) ∧ n ≤ c ∧ w'.ownsRow w.heap.size 2 1 (.slice A n c) n (nums .i64 (gradAcc i P (pickL i.data idx)))) ∨ (¬ allGood i idx ∧ e = .returned (.tuple #[.slice none 0 0,.bool false])))
set_option maxRecDepth 100000 in
set_option maxHeartbeats 1000000 in
theorem rgradient_any (b k d:Nat) (B:Option Addr) (i:Inp) (P M idx:List Int) (w:World) (h:RunAt w b i P M k) (hg:GoodIn i) (wP:W64 P) (hB:Rd w B (nums .i64 idx)) (hil:idx.length ≤ 1048576) :
    Calls Tryz.prog 179 #[.pointer (some ⟨b,0,none⟩),.slice B idx.length d] w (RGradIs i P idx (cnt i) w):=by
  have hcb:cnt i ≤ 1048576:=hg.c.z.bound (k:=i.cfg.sizes.length - 1) (by have:=hg.c.z.1.1;omega)
  have hcp:=cnt_pos hg.c.z
  have hst:=state_any b k i P M w h hcb
  have hbl:=h.lt
  have heg:∀ args w,(callFunc 225 args).run Tryz.prog w = .ok (.enter 225 args) w:=enters_of Tryz.func225 (by kernel_rfl) rfl
  have hea:=fun (X Gs base n c:Nat) (w':World) (q:Below w.heap.size w w') (hn:n = cnt i) (hGs:Gs < w'.heap.size) (hGb:b < Gs) (hX:w'.heap[X]? = some (.cells #[.slice (some ⟨Gs,0,none⟩) n c] 65 (0,0))) (hs:w'.ownsRow base 2 1 (.slice (some ⟨Gs,0,none⟩) n c) n (nums .i64 (List.replicate (cnt i) 0))) =>
    each_any 225 X b k d B i P M idx (fun j => j = Gs) (fun j v => (v.heap[X]? = some (.cells #[.slice (some ⟨Gs,0,none⟩) n c] 65 (0,0)) ∧ v.ownsRow base 2 1 (.slice (some ⟨Gs,0,none⟩) n c) n (nums .i64 (gradAcc i P ((pickL i.data idx).take j)))) ∧ True) w' heg (h.below q) hg (hB.below q) hil
      (fun j hj => by omega) (fun j hj => by omega) (fun j v v' hj hb => ⟨⟨(hb.block _ (lt_of_block hj.1.1)).trans hj.1.1,own_below hj.1.2 hb⟩,trivial⟩) ⟨⟨hX,hs⟩,trivial⟩
  have hcl:∀ (X Gs base n c:Nat),n = cnt i → ∀ j x net A1 c1 A2 c2 w',(∀ k,k < idx.length → goodI i.data.length (nth idx k)) → j < idx.length → (pickL i.data idx)[j]? = some x → NetAt 123 130 w' net i.cfg.sizes P i.cfg.shift → NumsRd w' A1 x.1 c1 → NumsRd w' A2 x.2 c2 →
      ((w'.heap[X]? = some (.cells #[.slice (some ⟨Gs,0,none⟩) n c] 65 (0,0)) ∧ w'.ownsRow base 2 1 (.slice (some ⟨Gs,0,none⟩) n c) n (nums .i64 (gradAcc i P ((pickL i.data idx).take j)))) ∧ True) →
      Calls Tryz.prog 225 #[.pointer (some ⟨net,0,none⟩),.agg #[.slice A1 x.1.length c1,.slice A2 x.2.length c2],.pointer (some ⟨X,0,none⟩)] w' fun e w'' => e = .returned (.tuple #[]) ∧ ((w''.heap[X]? = some (.cells #[.slice (some ⟨Gs,0,none⟩) n c] 65 (0,0)) ∧ w''.ownsRow base 2 1 (.slice (some ⟨Gs,0,none⟩) n c) n (nums .i64 (gradAcc i P ((pickL i.data idx).take (j + 1))))) ∧ True) ∧ Keep (fun j => j = Gs) w' w'':=by
    intro X Gs base n c hn j x net A1 c1 A2 c2 w' hall hj hx hN r1 r2 hJ
    have htk:(pickL i.data idx).take (j + 1) = (pickL i.data idx).take j ++ [x]:=by
      rw [List.take_add_one,hx];rfl
    refine (g1_any X Gs base net n c i P _ A1 A2 c1 c2 x w' hg wP (pick_fit hg hall hj hx) hN r1 r2 hJ.1.1 hJ.1.2 hn).mono ?_
    rintro e w'' ⟨rfl,h1,h2,h3⟩
    exact ⟨rfl,⟨⟨h1,by rw [htk,gradAcc_snoc];exact h2⟩,trivial⟩,h3⟩
  have hea:=fun X Gs base n c w' q hn hGs hGb hX hs => hea X Gs base n c w' q hn hGs hGb hX hs (hcl X Gs base n c hn)
  have htall:(pickL i.data idx).take idx.length = pickL i.data idx:=List.take_of_length_le (by rw [pickL_len];exact Nat.le_refl _)
  unfold EachIs at hea
  unfold RGradIs StateIs at *
  unfold allGood
  dsimp only at hea
  rw [htall] at hea
  obtain ⟨n,hn⟩:∃ n,cnt i = n:=⟨_,rfl⟩
  rw [hn] at hst hea hcb hcp ⊢
  have hmk:=fun w' => run_mk et_vec w' rfl n (by omega) (by unfold maxLen;omega)
  simp only [nums_rep] at hmk
  obtain ⟨m,hm⟩:∃ m,idx.length = m:=⟨_,rfl⟩
  rw [hm] at hea ⊢
  have Hst:=Lib.hid hst;have Hea:=Lib.hid hea;have Hmk:=Lib.hid hmk
  clear hst hea hmk hn hm hcl htall heg h hB hg wP hil
  go_enter Tryz.func179,Tryz.ntmps179
  go_wp2_with fail
  refine Hst.out.mono ?_
  rintro e w1 ⟨A1,c1,A2,c2,rfl,hc1,hc2,ho1,ho2,hdis,hb1⟩
  obtain ⟨V,hrun,hov,hbv⟩:=Hmk.out w1
  have Hb1:=Lib.hid hb1;have Hov:=Lib.hid hov;have Hbv:=Lib.hid hbv
  have hfd:=st_p A1 A2 n c1 n c2 w1
  clear hdis ho1 ho2 hc1 hc2 hb1 hov hbv
  go_wp2_with fail
  clear hrun hfd
  have hvs:w1.heap.size < V.heap.size:=(Hov.out.lt w1.heap.size rfl).2
  have hX:=heap_alloc_new V (.cells #[.slice (some ⟨w1.heap.size,0,none⟩) n n] 65)
  have hbw:Below w.heap.size w (V.alloc (.cells #[.slice (some ⟨w1.heap.size,0,none⟩) n n] 65)):=(Hb1.out.trans (Hbv.out.mono Hb1.out.size)).alloc (by have:=Hb1.out.size;omega) _
  have he:=Hea.out V.heap.size w1.heap.size w1.heap.size n n _ hbw rfl (by simp;omega) (by have:=Hb1.out.size;omega) hX (Hov.out.alloc _)
  have He:=Lib.hid he;have Hbw:=Lib.hid hbw
  clear he hX hbw
  refine He.out.mono ?_
  rintro e w3 ⟨hk3,h3⟩
  have hb3:=Hbw.out.trans (hk3.toBelow Hbw.out.size (fun j hj => by have:=Hb1.out.size;omega))
  have Hb3:=Lib.hid hb3
  clear hb3 hk3
  rcases h3 with ⟨hall,rfl,⟨hX3,hs3⟩,_⟩ | ⟨hall,rfl,_⟩
  · skip
    obtain ⟨x0,xf⟩:=bx1 hX3
    have Hall:=Lib.hid hall;have Hs3:=Lib.hid (own_base (base':=w.heap.size) hs3 Hb1.out.size)
    clear hall hX3 hs3
    go_wp2_with fail
    go_ret2
    exact ⟨Hb3.out,.inl ⟨Hall.out,_,_,rfl,Nat.le_refl _,Hs3.out⟩⟩
  · have Hall:=Lib.hid hall;clear hall
    go_wp2_with fail
    go_ret2
    exact ⟨Hb3.out,.inr ⟨Hall.out,rfl⟩⟩
end Go.Proofs.YthamijnggdjaoaaGreatDoor
namespace Go.Proofs.YthamijnggdjaoaaGreatDoor
open Go.RowKit
set_option maxRecDepth 100000 in
theorem step_end (b k:Nat) (i:Inp) (P M:List Int) (w:World) (h:RunAt w b i P M k) (hk:i.cfg.steps.toNat ≤ k) :
    Calls Tryz.prog 137 #[.pointer (some ⟨b,0,none⟩)] w fun e w' => e = .returned (.bool false) ∧ ∃ d,w' = w.drewN d:=by
  obtain ⟨V,F,E,ce,S,Ap,cp,Am,cm,h0,h1,h2,h3,h4,h5,h6⟩:=h
  have hss:=fun w' (q:Below w.heap.size w w') => ssteps_any S i.data.length i.cfg.batch.toNat i.cfg.steps.toNat i.draws w' (h3.below (h5.trans (q.mono h5.size)))
  obtain ⟨sn,hsn⟩:∃ sn,i.cfg.steps.toNat = sn:=⟨_,rfl⟩
  rw [hsn] at hss hk
  obtain ⟨⟨r0,r1,r2,r3,r4,r5,r6,r7,r8⟩,rf⟩:=bx9 h0
  have hk1:(sn:Int) ≤ k:=by omega
  have Hss:=Lib.hid hss
  clear h0 h1 h2 h3 h4 h5 h6 hss hsn
  go_enter Tryz.func137,Tryz.ntmps137
  go_wp2_with fail
  go_quiet ((go_at_call 178;refine Calls.quiet_of ((Hss.out _ ?_).mono fun e w' ⟨he,hw⟩ => ⟨he,0,hw.symm⟩);(focus (repeat' (first | (with_reducible exact Below.refl _ _) | (with_reducible assumption) | (with_reducible refine Below.setCell ?_ ?_ _) | (with_reducible refine Below.alloc ?_ ?_ _) | (with_reducible refine below_drewN ?_ _) | (with_reducible refine Below.drew ?_) | (with_reducible exact Nat.le_refl _) | omega | (simp;done) | (simp;omega))))))
  go_wp2_with fail
  go_ret
  exact ⟨rfl,_,rfl⟩
set_option maxRecDepth 100000 in
set_option maxHeartbeats 4000000 in
theorem step_any (b k:Nat) (i:Inp) (P M:List Int) (w:World) (h:RunAt w b i P M k) (hg:GoodIn i) (hk:k < i.cfg.steps.toNat) (hrr:-9223372036854775808 ≤ i.cfg.rate ∧ i.cfg.rate ≤ 9223372036854775807) (hrm:-9223372036854775808 ≤ i.cfg.mom ∧ i.cfg.mom ≤ 9223372036854775807) :
    Calls Tryz.prog 137 #[.pointer (some ⟨b,0,none⟩)] w fun e w' => e = .returned (.bool true) ∧ RunAt w' b i (nextP i.cfg.rate i.cfg.mom i.cfg.shift P M (stepG i P k)) (nextM i.cfg.mom i.cfg.shift M (stepG i P k)) (k + 1) ∧ Keep (fun j => j = b) w w':=by
  have hgr:=fun d B w' (q:Below w.heap.size w w') (hw:W64 P) (hB:Rd w' B (nums .i64 (batchN i.draws i.data.length i.cfg.batch.toNat k))) hl => rgradient_any b k d B i P M (batchN i.draws i.data.length i.cfg.batch.toNat k) w' (h.below q) hg hw hB hl
  have hbg:=batch_good hg k
  have hcb:cnt i ≤ 1048576:=hg.c.z.bound (k:=i.cfg.sizes.length - 1) (by have:=hg.c.z.1.1;omega)
  have hcp:=cnt_pos hg.c.z
  obtain ⟨V,F,E,ce,S,Ap,cp,Am,cm,h0,h1,h2,h3,h4,h5,h6,h7,h8,h9,wP,wM,hn1,hn2⟩:=h
  have g1:=hg.c.w;have g2:=hg.c.ba;have g3:=hg.b;have g4:=hg.c.st
  have hnb:1 ≤ i.data.length / i.cfg.batch.toNat:=Nat.div_pos (by omega) (by omega)
  have hbl:=batchN_len i.draws (t:=k) hnb
  have hss:=fun w' (q:Below w.heap.size w w') => ssteps_any S i.data.length i.cfg.batch.toNat i.cfg.steps.toNat i.draws w' (h3.below (h5.trans (q.mono h5.size)))
  have hba:=fun w' (q:Below w.heap.size w w') => sbatch_any S i.data.length i.cfg.batch.toNat i.cfg.steps.toNat k i.draws w' (h3.below (h5.trans (q.mono h5.size))) (by omega) (by omega) g3.2 (by omega) hk
  have hgl:=gradAcc_len i P (pickL i.data (batchN i.draws i.data.length i.cfg.batch.toNat k))
  have hnx:=fun (G:Option Addr) cg w' (q:Below w.heap.size w w') (hG:Rd w' G (nums .i64 (gradAcc i P (pickL i.data (batchN i.draws i.data.length i.cfg.batch.toNat k))))) hGb => next_ok i.cfg.rate i.cfg.mom i.cfg.shift Ap Am G (cnt i) cp cm cg P M _ w' (h6.below q) (h7.below q) hG h8 h9 hgl hcb hrr hrm wM hGb
  have hgr:=fun d B w' q hB hl => hgr d B w' q wP hB hl
  unfold RGradIs at hgr
  have hfin:∀ (w':World) (A1 A2:Option Addr) (c1 c2:Nat),w'.heap[b]? = some (.cells #[.pointer (some ⟨F,0,none⟩),.slice E i.data.length ce,.pointer (some ⟨S,0,none⟩),.int .i64 i.cfg.rate,.int .i64 i.cfg.mom,.int .i64 i.cfg.shift,.slice A1 (cnt i) c1,.slice A2 (cnt i) c2,.int .i64 ((k:Int) + 1)] 292 (0,0)) →
      Keep (fun j => j = b) w w' → Rd w' A1 (nums .i64 (nextP i.cfg.rate i.cfg.mom i.cfg.shift P M (stepG i P k))) → Rd w' A2 (nums .i64 (nextM i.cfg.mom i.cfg.shift M (stepG i P k))) → (∀ a,A1 = some a → a.block ≠ b) → (∀ a,A2 = some a → a.block ≠ b) → w'.ownsRow 0 2 1 (.slice A1 (cnt i) c1) (cnt i) (nums .i64 (nextP i.cfg.rate i.cfg.mom i.cfg.shift P M (stepG i P k))) → w'.ownsRow 0 2 1 (.slice A2 (cnt i) c2) (cnt i) (nums .i64 (nextM i.cfg.mom i.cfg.shift M (stepG i P k))) →
      RunAt w' b i (nextP i.cfg.rate i.cfg.mom i.cfg.shift P M (stepG i P k)) (nextM i.cfg.mom i.cfg.shift M (stepG i P k)) (k + 1):=fun w' A1 A2 c1 c2 e0 e1 e2 e3 e4 e5 e6 e7 =>
    ⟨V,F,E,ce,S,A1,c1,A2,c2,by rw [Int.natCast_add];exact e0,h1,h2,h3,h4,h5.trans (e1.toBelow h5.size (fun j hj => by omega)),e2,e3,by rw [nextP_len];exact h8,by rw [nextM_len];exact h9,nextP_W64 _ _ _ _ _ _,nextM_W64 _ _ _ _,e4,e5,e6,e7⟩
  obtain ⟨P',hP'⟩:∃ P',nextP i.cfg.rate i.cfg.mom i.cfg.shift P M (stepG i P k) = P':=⟨_,rfl⟩
  obtain ⟨M',hM'⟩:∃ M',nextM i.cfg.mom i.cfg.shift M (stepG i P k) = M':=⟨_,rfl⟩
  have eP:nextP i.cfg.rate i.cfg.mom i.cfg.shift P M (gradAcc i P (pickL i.data (batchN i.draws i.data.length i.cfg.batch.toNat k))) = P':=hP'
  have eM:nextM i.cfg.mom i.cfg.shift M (gradAcc i P (pickL i.data (batchN i.draws i.data.length i.cfg.batch.toNat k))) = M':=hM'
  rw [hP',hM'] at hfin ⊢
  rw [eP,eM] at hnx
  obtain ⟨gv,hgv⟩:∃ gv,gradAcc i P (pickL i.data (batchN i.draws i.data.length i.cfg.batch.toNat k)) = gv:=⟨_,rfl⟩
  rw [hgv] at hgr hnx
  rw [hbl] at hgr
  obtain ⟨bl,hbl'⟩:∃ bl,batchN i.draws i.data.length i.cfg.batch.toNat k = bl:=⟨_,rfl⟩
  rw [hbl'] at hgr hba hbg
  obtain ⟨sn,hsn⟩:∃ sn,i.cfg.steps.toNat = sn:=⟨_,rfl⟩
  obtain ⟨bt,hbt⟩:∃ bt,i.cfg.batch.toNat = bt:=⟨_,rfl⟩
  obtain ⟨n,hn⟩:∃ n,cnt i = n:=⟨_,rfl⟩
  obtain ⟨N,hN⟩:∃ N,i.data.length = N:=⟨_,rfl⟩
  obtain ⟨ra,hra⟩:∃ ra,i.cfg.rate = ra:=⟨_,rfl⟩
  obtain ⟨mo,hmo⟩:∃ mo,i.cfg.mom = mo:=⟨_,rfl⟩
  obtain ⟨q,hq⟩:∃ q,i.cfg.shift = q:=⟨_,rfl⟩
  have hbt2:bt ≤ 1048576:=by omega
  have hkb:k + 1 ≤ 1048576:=by omega
  rw [hsn] at hss hk
  rw [hbt] at hgr hba
  rw [hn] at hgr hnx h0 hfin
  rw [hN] at h0 hfin
  rw [hra,hmo,hq] at h0 hnx hfin
  obtain ⟨⟨r0,r1,r2,r3,r4,r5,r6,r7,r8⟩,rf⟩:=bx9 h0
  have hbw:=lt_of_block h0
  have hk1:¬ ((sn:Int) ≤ k):=by omega
  have Hss:=Lib.hid hss;have Hba:=Lib.hid hba;have Hgr:=Lib.hid hgr;have Hnx:=Lib.hid hnx;have Hfin:=Lib.hid hfin;have Hbg:=Lib.hid hbg;have H0:=Lib.hid h0
  clear hss hba hgr hnx hfin hbg h0 h1 h2 h3 h4 h5 h6 h7 h8 h9 wP wM hn1 hn2 g1 g2 g3 g4 hnb hbl hgl hP' hM' eP eM hgv hbl' hsn hbt hn hN hra hmo hq hg hcb hcp hrr hrm
  go_enter Tryz.func137,Tryz.ntmps137
  go_wp2_with fail
  go_quiet ((go_at_call 178;refine Calls.quiet_of ((Hss.out _ ?_).mono fun e w' ⟨he,hw⟩ => ⟨he,0,hw.symm⟩);(focus (repeat' (first | (with_reducible exact Below.refl _ _) | (with_reducible assumption) | (with_reducible refine Below.setCell ?_ ?_ _) | (with_reducible refine Below.alloc ?_ ?_ _) | (with_reducible refine below_drewN ?_ _) | (with_reducible refine Below.drew ?_) | (with_reducible exact Nat.le_refl _) | omega | (simp;done) | (simp;omega))))))
  go_wp2_with fail
  obtain ⟨W1,hW1⟩:∃ W1,W1 = w.drewN nq:=⟨_,rfl⟩
  have hb1:Below w.heap.size w W1:=by rw [hW1];exact below_drewN (Below.refl _ _) _
  have hx1:W1.heap[b]? = some (.cells #[.pointer (some ⟨F,0,none⟩),.slice E N ce,.pointer (some ⟨S,0,none⟩),.int .i64 ra,.int .i64 mo,.int .i64 q,.slice Ap n cp,.slice Am n cm,.int .i64 k] 292 (0,0)):=by rw [hW1];exact H0.out
  rw [← hW1]
  clear hW1 r0 r1 r2 r3 r4 r5 r6 r7 r8 rf
  obtain ⟨⟨r0,r1,r2,r3,r4,r5,r6,r7,r8⟩,rf⟩:=bx9 hx1
  have Hb1:=Lib.hid hb1;have HX1:=Lib.hid hx1;clear hb1 hx1
  have hSw:(fun w':World => w'.cell? ⟨b,2,none⟩ = some (.pointer (some ⟨S,0,none⟩)) ∧ w'.cell? ⟨b,8,none⟩ = some (.int .i64 k)) W1.drew:=⟨r2,r8⟩
  refine HA.g (fun w':World => w'.cell? ⟨b,2,none⟩ = some (.pointer (some ⟨S,0,none⟩)) ∧ w'.cell? ⟨b,8,none⟩ = some (.int .i64 k)) ?_
  refine HA.t ?_ [0,1,2,3,4,5,6,7,8,9] hSw ?_
  refine HA.o 10 (fun K hK => ?_)
  go_simp
  refine (Hba.out _ Hb1.out.drew).mono ?_
  rintro e w2 ⟨Bb,cb,rfl,hcb2,hrB,hb2⟩
  have hS2:=And.intro (cell_below hb2 hSw.1) (cell_below hb2 hSw.2)
  have hb2':=Hb1.out.drew.trans (hb2.mono Hb1.out.size)
  have hgr2:=Hgr.out cb Bb w2 hb2' hrB (by omega)
  have Hb2:=Lib.hid hb2';have Hgr2:=Lib.hid hgr2
  clear hb2 hb2' hgr2 hrB hSw hcb2
  dsimp only
  refine hK.out _ _ hS2 (fun hSw => ?_)
  clear hK K hS2
  refine HA.o 11 (fun K hK => ?_)
  go_simp
  refine Hgr2.out.mono ?_
  rintro e w3 ⟨hb3,h3⟩
  obtain ⟨Ag,cg,rfl,hog⟩:∃ A c,e = .returned (.tuple #[.slice A n c,.bool true]) ∧ w3.ownsRow w2.heap.size 2 1 (.slice A n c) n (nums .i64 gv):=by
    rcases h3 with ⟨_,A,c,he,_,ho⟩ | ⟨hno,_⟩
    · exact ⟨A,c,he,ho⟩
    · exact absurd Hbg.out hno
  have hS3:=And.intro (cell_below hb3 hSw.1) (cell_below hb3 hSw.2)
  have hb3':=Hb2.out.trans (hb3.mono Hb2.out.size)
  have hx3:=(hb3'.block b hbw).trans H0.out
  have Hb3:=Lib.hid hb3';have Hog:=Lib.hid hog;have HX3:=Lib.hid hx3
  clear hb3 hb3' h3 hog hx3 hSw
  dsimp only
  refine hK.out _ _ hS3 (fun hSw => ?_)
  clear hK K hS3
  refine HA.t ?_ [12,13,14,15,16] hSw ?_
  refine HA.d ?_
  clear hSw r0 r1 r2 r3 r4 r5 r6 r7 r8 rf
  have hx3:=HX3.out
  obtain ⟨⟨r0,r1,r2,r3,r4,r5,r6,r7,r8⟩,rf⟩:=bx9 hx3
  have hl3:=lt_of_block hx3
  clear hx3
  go_wp2_with fail
  have hSw:(fun w':World => w'.cell? ⟨b,3,none⟩ = some (.int .i64 ra) ∧ w'.cell? ⟨b,4,none⟩ = some (.int .i64 mo) ∧ w'.cell? ⟨b,5,none⟩ = some (.int .i64 q) ∧ w'.cell? ⟨b,6,none⟩ = some (.slice Ap n cp) ∧ w'.cell? ⟨b,7,none⟩ = some (.slice Am n cm)) w3.drew:=⟨r3,r4,r5,r6,r7⟩
  refine XA.g 15 (fun w':World => w'.cell? ⟨b,3,none⟩ = some (.int .i64 ra) ∧ w'.cell? ⟨b,4,none⟩ = some (.int .i64 mo) ∧ w'.cell? ⟨b,5,none⟩ = some (.int .i64 q) ∧ w'.cell? ⟨b,6,none⟩ = some (.slice Ap n cp) ∧ w'.cell? ⟨b,7,none⟩ = some (.slice Am n cm)) ?_
  refine XA.t ?_ [0,1,2,3,4,5,6,7,8,9,10] hSw ?_
  refine XA.o 11 (fun K hK => ?_)
  go_simp
  refine (Hnx.out Ag cg _ Hb3.out.drew (Rd.own Hog.out).drew (fun a ha => (own_addr Hog.out a ha).2)).mono ?_
  rintro e w4 ⟨A1,c1,A2,c2,rfl,hc1,hc2,ho1,ho2,hb4⟩
  have hS4:=And.intro (cell_below hb4 hSw.1) (And.intro (cell_below hb4 hSw.2.1) (And.intro (cell_below hb4 hSw.2.2.1) (And.intro (cell_below hb4 hSw.2.2.2.1) (cell_below hb4 hSw.2.2.2.2))))
  have hb4':Below w3.heap.size w3 w4:=(Below.refl w3.heap.size w3).drew.trans hb4
  have hx4:=(hb4'.block b hl3).trans HX3.out
  have Hb4:=Lib.hid (Hb3.out.trans (hb4'.mono Hb3.out.size));have HX4:=Lib.hid hx4;have Ho1:=Lib.hid ho1;have Ho2:=Lib.hid ho2
  clear hb4 hb4' hx4 ho1 ho2 hc1 hc2 hSw
  dsimp only
  refine hK.out _ _ hS4 (fun hSw => ?_)
  clear hK K hS4
  refine XA.t0 ?_ [12,13,14] hSw ?_
  refine XA.e ?_
  clear hSw r0 r1 r2 r3 r4 r5 r6 r7 r8 rf
  have hx4:=HX4.out
  obtain ⟨⟨r0,r1,r2,r3,r4,r5,r6,r7,r8⟩,rf⟩:=bx9 hx4
  have hl4:=lt_of_block hx4
  clear hx4
  simp only [List.drop_succ_cons,List.drop_zero]
  go_wp2_with fail
  have e1:=heap_setCell_same w4 b 6 _ _ (.slice A1 n c1) HX4.out
  have e2:=heap_setCell_same _ b 7 _ _ (.slice A2 n c2) e1
  have e3:=heap_setCell_same _ b 8 _ _ (.int .i64 ((k:Int) + 1)) e2
  have hk9:Keep (fun j => j = b) w4 (((w4.setCell ⟨b,6,none⟩ (.slice A1 n c1)).setCell ⟨b,7,none⟩ (.slice A2 n c2)).setCell ⟨b,8,none⟩ (.int .i64 ((k:Int) + 1))):=Keep.setCell (S:=fun j => j = b) (Keep.setCell (S:=fun j => j = b) (Keep.setCell (S:=fun j => j = b) (Keep.refl _ _) ⟨b,6,none⟩ (.inr rfl) _) ⟨b,7,none⟩ (.inr rfl) _) ⟨b,8,none⟩ (.inr rfl) _
  obtain ⟨W9,hW9⟩:∃ W9,W9 = ((w4.setCell ⟨b,6,none⟩ (.slice A1 n c1)).setCell ⟨b,7,none⟩ (.slice A2 n c2)).setCell ⟨b,8,none⟩ (.int .i64 ((k:Int) + 1)):=⟨_,rfl⟩
  rw [← hW9] at hk9 e3 ⊢
  clear hW9 e1 e2
  have hsz3:=Hb3.out.size
  have ha1:=own_addr Ho1.out
  have ha2:=own_addr Ho2.out
  have n1:∀ a,A1 = some a → a.block ≠ b:=fun a ha e => by have:=(ha1 a ha).1;simp at this;omega
  have n2:∀ a,A2 = some a → a.block ≠ b:=fun a ha e => by have:=(ha2 a ha).1;simp at this;omega
  have hfn:=Hfin.out W9 A1 A2 c1 c2 (by simpa using e3) ((Keep.below Hb4.out).trans hk9) (hk9.rd (Rd.own Ho1.out) (fun a ha e => n1 a ha e)) (hk9.rd (Rd.own Ho2.out) (fun a ha e => n2 a ha e)) n1 n2 (hk9.own (own_base (base':=0) Ho1.out (Nat.zero_le _)) (fun j hj e => block_notrow HX4.out (by decide) Ho1.out (by rw [hj,e]))) (hk9.own (own_base (base':=0) Ho2.out (Nat.zero_le _)) (fun j hj e => block_notrow HX4.out (by decide) Ho2.out (by rw [hj,e])))
  have Hfn:=Lib.hid hfn;have HK9:=Lib.hid ((Keep.below (S:=fun j => j = b) Hb4.out).trans hk9)
  clear hfn hk9 e3 n1 n2 ha1 ha2
  go_ret
  exact ⟨rfl,Hfn.out,HK9.out⟩
end Go.Proofs.YthamijnggdjaoaaGreatDoor
namespace Go.Proofs.YthamijnggdjaoaaGreatDoor
open Go.RowKit
def TrainM (i:Inp) (s:Nat) (w:World) (e:Ending) (w':World):Prop:=Below w.heap.size w w' ∧ ∃ A c base,e = .returned (.tuple #[.slice A (s + 1) c,.int .i64 0]) ∧ s + 1 ≤ c ∧ w.heap.size ≤ base ∧ MapS base w' i (s + 1) (.slice A (s + 1) c)
set_option maxRecDepth 100000 in
set_option maxHeartbeats 4000000 in
theorem train_goodM (A:Option Addr) (c:Nat) (D:Option Addr) (cd:Nat) (T:Option Addr) (ct:Nat) (R:Option Addr) (cr:Nat) (i:Inp) (w:World) (h:InpRd w A c D T ct R i) (hg:GoodIn i) :
    Calls Tryz.prog 104 #[.agg (inpVals A c D cd T ct R cr i)] w (TrainM i i.cfg.steps.toNat w):=by
  have hnw:=fun w' (q:Below w.heap.size w w') => sernew_good A c D cd T ct R cr i w' (h.below q) hg
  have hcb:cnt i ≤ 1048576:=hg.c.z.bound (k:=i.cfg.sizes.length - 1) (by have:=hg.c.z.1.1;omega)
  have hsta:=fun b k w' (hr:RunAt w' b i (traj i k).1 (traj i k).2 k) => state_any b k i _ _ w' hr hcb
  have hstp:=fun b k w' (hr:RunAt w' b i (traj i k).1 (traj i k).2 k) (hk:k < i.cfg.steps.toNat) => step_any b k i _ _ w' hr hg hk h.ra h.rm
  have hste:=fun b k w' (hr:RunAt w' b i (traj i k).1 (traj i k).2 k) (hk:i.cfg.steps.toNat ≤ k) => step_end b k i _ _ w' hr hk
  have hst:=hg.c.st
  have htl:=traj_len i hg.s
  have htw:∀ b k w',RunAt w' b i (traj i k).1 (traj i k).2 k → W64 (traj i k).1 ∧ W64 (traj i k).2:=fun b k w' hr => by
    obtain ⟨V,F,E,ce,S,Ap,cp,Am,cm,_,_,_,_,_,_,_,_,_,_,wP,wM,_⟩:=hr
    exact ⟨wP,wM⟩
  obtain ⟨s,hs⟩:∃ s,i.cfg.steps.toNat = s:=⟨_,rfl⟩
  have hsb:s ≤ 1048576:=by omega
  unfold StateIs at hsta
  rw [hs] at hstp hste ⊢
  obtain ⟨n,hn⟩:∃ n,cnt i = n:=⟨_,rfl⟩
  rw [hn] at hsta hcb htl
  obtain ⟨vs,hvs⟩:∃ vs,inpVals A c D cd T ct R cr i = vs:=⟨_,rfl⟩
  have hvl:∃ a0 a1 a2 a3 a4 a5 a6 a7 a8 a9 a10 a11 a12 a13 a14,vs = #[a0,a1,a2,a3,a4,a5,a6,a7,a8,a9,a10,a11,a12,a13,a14]:=⟨_,_,_,_,_,_,_,_,_,_,_,_,_,_,_,hvs.symm⟩
  rw [hvs] at hnw ⊢
  obtain ⟨a0,a1,a2,a3,a4,a5,a6,a7,a8,a9,a10,a11,a12,a13,a14,rfl⟩:=hvl
  have Hnw:=Lib.hid hnw;have Hsta:=Lib.hid hsta;have Hstp:=Lib.hid hstp;have Hste:=Lib.hid hste;have Htl:=Lib.hid htl;have Htw:=Lib.hid htw
  clear hnw hsta hstp hste hst htl htw hs hn hvs h hg
  go_enter Tryz.func104,Tryz.ntmps104
  go_wp2_with fail
  have hB0:Below w.heap.size w (w.alloc (.cells #[a0,a1,a2,a3,a4,a5,a6,a7,a8,a9,a10,a11,a12,a13,a14] 29)):=(Below.refl _ w).alloc (Nat.le_refl _) _
  refine (Hnw.out _ hB0).mono ?_
  rintro e w1 ⟨b,rfl,hr,hbz,hb1⟩
  have hrt:RunAt w1 b i (traj i 0).1 (traj i 0).2 0:=hr
  have hbl:=hr.lt
  have hst:=Hsta.out b 0 w1 hrt
  have HB:=Lib.hid (hB0.trans (hb1.mono hB0.size));have Hr:=Lib.hid hrt;have Hst:=Lib.hid hst
  have hbw:w.heap.size ≤ b:=by have:=hbz;simp at this;omega
  clear hB0 hb1 hr hrt hst hbz
  go_wp2_with fail
  refine Hst.out.mono ?_
  rintro e w2 ⟨A1,c1,A2,c2,rfl,_,_,ho1,ho2,_,hb2⟩
  have hex:=state_ex (base:=w1.heap.size) (x:=traj i 0) ho1 ho2 (Nat.le_refl _) (Htl.out 0).1 (Htl.out 0).2 hcb (Htw.out b 0 w1 Hr.out).1 (Htw.out b 0 w1 Hr.out).2
  have hm1:=MapS.one hb2.size hex
  have hba:Below w1.heap.size w1 (w2.alloc (.cells #[.slice A1 n c1,.slice A2 n c2] 67)):=hb2.alloc hb2.size _
  have hr1:=Hr.out.below hba
  have hBa:=HB.out.trans (hba.mono HB.out.size)
  have HM1:=Lib.hid hm1;have HR1:=Lib.hid hr1;have HBa:=Lib.hid hBa
  have HZ1:=Lib.hid hba.size
  clear ho1 ho2 hb2 hex hm1 hba hr1 hBa
  go_wp2_with fail
  go_loopw [6] (fun v wr => ∃ k Ao co,k ≤ s ∧ v = .slice Ao (k + 1) co ∧ RunAt wr b i (traj i k).1 (traj i k).2 k ∧ MapS w1.heap.size wr i (k + 1) (.slice Ao (k + 1) co) ∧ Below w.heap.size w wr ∧ w1.heap.size ≤ wr.heap.size) (fun v _ => s - (lenOf v - 1))
  case atStart => exact ⟨0,_,1,Nat.zero_le _,rfl,HR1.out,HM1.out,HBa.out,HZ1.out⟩
  case round =>
    obtain ⟨k,Ao,co,hk,rfl,hR,hM,hBw,hzr⟩:=hrel
    by_cases hlt:k < s
    · have hsp:=Hstp.out b k wr hR hlt
      have Hsp:=Lib.hid hsp;have HM:=Lib.hid hM;have HBw:=Lib.hid hBw
      clear hsp hM hBw hR
      go_wp2_with fail
      refine Hsp.out.mono ?_
      rintro e w5 ⟨rfl,hR5,hK5⟩
      have hR5':RunAt w5 b i (traj i (k + 1)).1 (traj i (k + 1)).2 (k + 1):=hR5
      have hM5:=HM.out.keep hK5 (fun j hj => by omega)
      have hB5:Below w.heap.size w w5:=HBw.out.trans (hK5.toBelow HBw.out.size (fun j hj => by omega))
      have hs5:=hK5.size
      have hst:=Hsta.out b (k + 1) w5 hR5'
      have HR5:=Lib.hid hR5';have HM5:=Lib.hid hM5;have HB5:=Lib.hid hB5;have Hst5:=Lib.hid hst
      clear hR5 hR5' hM5 hB5 hst hK5
      go_wp2_with fail
      refine Hst5.out.mono ?_
      rintro e w6 ⟨A3,c3,A4,c4,rfl,_,_,ho1,ho2,_,hb6⟩
      have hs1:w1.heap.size ≤ w5.heap.size:=Nat.le_trans hzr hs5
      have hex:=state_ex (base:=w1.heap.size) (x:=traj i (k + 1)) ho1 ho2 hs1 (Htl.out (k + 1)).1 (Htl.out (k + 1)).2 hcb (Htw.out b (k + 1) w5 HR5.out).1 (Htw.out b (k + 1) w5 HR5.out).2
      have hM6:=HM5.out.below hb6
      have hR6:=HR5.out.below hb6
      have hB6:=HB5.out.trans (hb6.mono HB5.out.size)
      have hs6:w1.heap.size ≤ w6.heap.size:=Nat.le_trans hs1 hb6.size
      obtain ⟨rows,m1,m2,m3,m4⟩:=hM6
      have R1:=Lib.hid m1;have R2:=Lib.hid m2;have R3:=Lib.hid m3;have R4:=Lib.hid m4;have HEx:=Lib.hid hex;have HR6:=Lib.hid hR6;have HB6:=Lib.hid hB6
      clear ho1 ho2 hb6 hex hR6 hB6 m1 m2 m3 m4 hs1
      go_wp2_with (at_builtin;refine wpList_push et_sts _ rfl (.tmp 20) (.tmp 23) rfl w1.heap.size (.slice Ao (k + 1) co) (k + 1) _ rfl R1.out [.slice A3 n c3,.slice A4 n c4] rfl rfl (by simp [Value.oneCell']) (by omega) (by unfold maxLen;omega) hs6 ?_)
      intro g9 c9 w9 ho9 hb9 hg9
      have hM9:=MapS.push R1.out R2.out R3.out R4.out HEx.out ho9 hg9
      have hR9:RunAt w9 b i (traj i (k + 1)).1 (traj i (k + 1)).2 (k + 1):=HR6.out.grown R1.out hb9 hg9 hbl (by decide)
      have hB9:Below w.heap.size w w9:=HB6.out.trans (hb9.mono (by have:=HB.out.size;omega))
      have HM9:=Lib.hid hM9;have HR9:=Lib.hid hR9;have HB9:=Lib.hid hB9
      have hs9:w1.heap.size ≤ w9.heap.size:=Nat.le_trans hs6 hb9.size
      clear ho9 hb9 hg9 hM9 hR9 hB9
      go_wp2_with fail
      go_roundw
      case rel => exact ⟨k + 1,_,c9,by omega,rfl,HR9.out,HM9.out,HB9.out,hs9⟩
      case measure => simp [lenOf];omega
    · obtain rfl:s = k:=by omega
      have hse:=Hste.out b s wr hR (Nat.le_refl _)
      have hz9:=HB.out.size
      have Hse:=Lib.hid hse;have HM:=Lib.hid hM;have HBw:=Lib.hid hBw
      clear hse hM hBw hR
      go_wp2_with fail
      refine Hse.out.mono ?_
      rintro e w5 ⟨rfl,d5,rfl⟩
      have hMd:=HM.out.below (below_drewN (Below.refl wr.heap.size wr) d5)
      have hcap:s + 1 ≤ co:=by
        obtain ⟨_,c9,hfm,hcap⟩:=HM.out.form
        injection hfm with _ _ e3
        omega
      have HMd:=Lib.hid hMd;have Hcap:=Lib.hid hcap;have HB9:=Lib.hid (below_drewN HBw.out d5)
      clear hMd hcap
      go_wp2_with fail
      go_ret2
      exact ⟨HB9.out,Ao,co,_,rfl,Hcap.out,hz9,HMd.out⟩
end Go.Proofs.YthamijnggdjaoaaGreatDoor
namespace Go.Proofs.YthamijnggdjaoaaGreatDoor
open Go.RowKit
open Classical in
noncomputable def resL (i:Inp):List Ex:=if GoodIn i then trajL i (i.cfg.steps.toNat + 1) else []
theorem resL_len (i:Inp):(resL i).length ≤ 1048577:=by
  unfold resL
  split
  · rename_i h;have:=h.c.st;rw [trajL_len];omega
  · simp
end Go.Proofs.YthamijnggdjaoaaGreatDoor
namespace Go.Proofs.YthamijnggdjaoaaGreatDoor
open Ieee
abbrev DB:Format:=double
def wd (z:Int):Nat:=DB.nearest (decide (z < 0)) z.natAbs 0
theorem cut_zero (neg:Bool) (n:Nat):Toward.even.cut neg n 0 = n:=by
  unfold Toward.cut
  simp [Nat.mod_one]
theorem cut_exact (neg:Bool) {n d q:Nat} (h:n = q * 2 ^ d) (hq:q ≠ 0):Toward.even.cut neg n d = q:=by
  have hlog:d ≤ n.log2 + 2:=by
    have h1:2 ^ d ≤ n:=by rw [h];exact Nat.le_mul_of_pos_left _ (Nat.pos_of_ne_zero hq)
    have h2:d ≤ n.log2:=(Nat.le_log2 (by have:=Nat.two_pow_pos d;omega)).2 h1
    omega
  unfold Toward.cut
  simp only [Nat.min_eq_left hlog,Nat.one_shiftLeft]
  have hp:=Nat.two_pow_pos d
  rw [h,Nat.mul_div_cancel _ hp,Nat.mul_mod_left]
  simp
def sig (m:Nat):Nat:=m * 2 ^ (52 - m.log2)
theorem log_lt {m:Nat} (h0:m ≠ 0) (h:m < 2 ^ 53):m.log2 ≤ 52:=by
  have:=(Nat.log2_lt h0).2 h
  omega
theorem sig_bd {m:Nat} (h0:m ≠ 0) (h:m < 2 ^ 53):2 ^ 52 ≤ sig m ∧ sig m < 2 ^ 53:=by
  have hl:=log_lt h0 h
  have h1:=Nat.log2_self_le h0
  have h2:=Nat.lt_log2_self (n:=m)
  unfold sig
  constructor
  · calc 2 ^ 52 = 2 ^ m.log2 * 2 ^ (52 - m.log2):=by rw [← Nat.pow_add];congr 1;omega
      _ ≤ m * 2 ^ (52 - m.log2):=Nat.mul_le_mul_right _ h1
  · calc m * 2 ^ (52 - m.log2) < 2 ^ (m.log2 + 1) * 2 ^ (52 - m.log2):=Nat.mul_lt_mul_of_pos_right h2 (Nat.two_pow_pos _)
      _ = 2 ^ 53:=by rw [← Nat.pow_add];congr 1;omega
theorem log_shift {m:Nat} (h0:m ≠ 0) (k:Nat):(m * 2 ^ k).log2 = m.log2 + k:=by
  have hp:=Nat.two_pow_pos k
  have hne:m * 2 ^ k ≠ 0:=Nat.mul_ne_zero h0 (by omega)
  have h1:=Nat.log2_self_le h0
  have h2:=Nat.lt_log2_self (n:=m)
  have a:m.log2 + k ≤ (m * 2 ^ k).log2:=(Nat.le_log2 hne).2 (by rw [Nat.pow_add];exact Nat.mul_le_mul_right _ h1)
  have b:(m * 2 ^ k).log2 < m.log2 + k + 1:=(Nat.log2_lt hne).2 (by
    rw [show m.log2 + k + 1 = (m.log2 + 1) + k by omega,Nat.pow_add]
    exact Nat.mul_lt_mul_of_pos_right h2 hp)
  omega
theorem least:DB.leastPlace = -1074:=by decide
theorem inf_eq:DB.infRung = 2047 * 2 ^ 52:=by decide
theorem near_eq (neg:Bool) {m:Nat} (h0:m ≠ 0) (h:m < 2 ^ 53) (k:Nat):DB.nearest neg (m * 2 ^ k) (-(k:Int)) = DB.word neg ((m.log2 + 1022) * 2 ^ 52 + sig m):=by
  have hl:=log_lt h0 h
  have hs:=sig_bd h0 h
  have hne:m * 2 ^ k ≠ 0:=Nat.mul_ne_zero h0 (by have:=Nat.two_pow_pos k;omega)
  unfold Format.nearest
  rw [if_neg hne,log_shift h0 k]
  have hlast:max (-(k:Int) + ((m.log2 + k:Nat):Int) - (DB.fractionBits:Int)) DB.leastPlace = (m.log2:Int) - 52:=by
    rw [least]
    show max (-(k:Int) + ((m.log2 + k:Nat):Int) - ((52:Nat):Int)) (-1074) = _
    omega
  simp only [hlast]
  have hkept:Toward.even.cut neg ((m * 2 ^ k) <<< (-(k:Int) - ((m.log2:Int) - 52)).toNat) ((m.log2:Int) - 52 - -(k:Int)).toNat = sig m:=by
    rw [Nat.shiftLeft_eq]
    by_cases hk:k ≤ 52 - m.log2
    · rw [show ((m.log2:Int) - 52 - -(k:Int)).toNat = 0 by omega,cut_zero,show (-(k:Int) - ((m.log2:Int) - 52)).toNat = 52 - m.log2 - k by omega,Nat.mul_assoc,← Nat.pow_add]
      unfold sig
      congr 2
      omega
    · rw [show (-(k:Int) - ((m.log2:Int) - 52)).toNat = 0 by omega,Nat.pow_zero,Nat.mul_one]
      refine cut_exact neg ?_ (by omega)
      unfold sig
      rw [Nat.mul_assoc,← Nat.pow_add]
      congr 2
      omega
  rw [hkept,least,inf_eq,show ((m.log2:Int) - 52 - -1074).toNat = m.log2 + 1022 by omega]
  show DB.word neg (min ((m.log2 + 1022) * 2 ^ 52 + sig m) _) = _
  rw [Nat.min_eq_left (by omega)]
theorem wd_eq {z:Int} (h0:z ≠ 0) (h:z.natAbs < 2 ^ 53):wd z = DB.word (decide (z < 0)) ((z.natAbs.log2 + 1022) * 2 ^ 52 + sig z.natAbs):=by
  have:=near_eq (decide (z < 0)) (m:=z.natAbs) (by omega) h 0
  rw [Nat.pow_zero,Nat.mul_one] at this
  exact this
theorem wd_zero:wd 0 = 0:=by decide
theorem read_word (neg:Bool) {r:Nat} (hr:r < 2 ^ 63) (h1:2 ^ 52 ≤ r) (h2:r < 2047 * 2 ^ 52):DB.read (DB.word neg r) = .number neg (2 ^ 52 + r % 2 ^ 52) (-1074 + (r / 2 ^ 52 - 1:Nat)):=by
  have hsw:DB.signWeight = 2 ^ 63:=by decide
  have hbi:DB.binade = 2 ^ 52:=by decide
  have hneg:(DB.word neg r / DB.signWeight % 2 == 1) = neg:=by
    rw [hsw]
    unfold Format.word
    rw [hsw]
    cases neg
    · simp only [Bool.false_eq_true,if_false];rw [Nat.div_eq_of_lt hr];rfl
    · simp only [if_true];rw [show (2 ^ 63 + r) / 2 ^ 63 = 1 by omega];rfl
  have hmod:DB.word neg r % DB.signWeight = r:=by
    rw [hsw]
    unfold Format.word
    rw [hsw]
    cases neg
    · simp only [Bool.false_eq_true,if_false];exact Nat.mod_eq_of_lt hr
    · simp only [if_true];omega
  unfold Format.read
  simp only [hneg,hmod,hbi,inf_eq,least]
  rw [if_neg (by omega),if_pos h2]
theorem read_zero (neg:Bool):DB.read (DB.word neg 0) = .number neg 0 (-1074):=by cases neg <;> decide
def IsZ (d:Datum) (z:Int):Prop:=∃ s m p,d = .number s m p ∧ p ≤ 0 ∧ signed s m 0 = z * 2 ^ (-p).toNat ∧ (z ≠ 0 → s = decide (z < 0))
def IsW (w:Nat) (z:Int):Prop:=w = wd z ∨ (z = 0 ∧ w = DB.word true 0)
theorem signed_abs (z:Int) (k:Nat):signed (decide (z < 0)) (z.natAbs * k) 0 = z * k:=by
  unfold signed
  rw [Nat.shiftLeft_zero]
  split
  · next h =>
    have h:z < 0:=by simpa using h
    rw [Int.natCast_mul,show (z.natAbs:Int) = -z by omega,Int.neg_mul,Int.neg_neg]
  · next h =>
    have h:¬ z < 0:=by simpa using h
    rw [Int.natCast_mul,show (z.natAbs:Int) = z by omega]
theorem IsW.read {w:Nat} {z:Int} (h:IsW w z) (hz:z.natAbs < 2 ^ 53):IsZ (DB.read w) z:=by
  by_cases h0:z = 0
  · subst h0
    rcases h with h | ⟨_,h⟩
    · have:w = DB.word false 0:=by rw [h,wd_zero];decide
      rw [this,read_zero]
      exact ⟨_,_,_,rfl,by decide,by rw [Int.zero_mul];rfl,fun h => absurd rfl h⟩
    · rw [h,read_zero]
      exact ⟨_,_,_,rfl,by decide,by rw [Int.zero_mul];rfl,fun h => absurd rfl h⟩
  · rcases h with h | ⟨h,_⟩
    · have hs:=sig_bd (m:=z.natAbs) (by omega) hz
      have hl:=log_lt (m:=z.natAbs) (by omega) hz
      rw [h,wd_eq h0 hz,read_word _ (by omega) (by omega) (by omega)]
      refine ⟨_,_,_,rfl,by omega,?_,fun _ => rfl⟩
      rw [show 2 ^ 52 + ((z.natAbs.log2 + 1022) * 2 ^ 52 + sig z.natAbs) % 2 ^ 52 = sig z.natAbs by omega]
      rw [show (-(-1074 + (((z.natAbs.log2 + 1022) * 2 ^ 52 + sig z.natAbs) / 2 ^ 52 - 1:Nat):Int)).toNat = 52 - z.natAbs.log2 by omega]
      unfold sig
      rw [signed_abs]
      push_cast
      rfl
    · exact absurd h h0
theorem signed_up (s:Bool) (m u:Nat):signed s m u = signed s m 0 * 2 ^ u:=by
  unfold signed
  cases s
  · simp [Nat.shiftLeft_eq]
  · simp [Nat.shiftLeft_eq,Int.neg_mul]
theorem write_z {s:Bool} {z:Int} {k:Nat} {p:Int} (hp:p = -(k:Int)) (hz:z.natAbs < 2 ^ 53) (hs:z ≠ 0 → s = decide (z < 0)):IsW (DB.write (.number s (z.natAbs * 2 ^ k) p)) z ∧ (z = 0 → s = false → DB.write (.number s (z.natAbs * 2 ^ k) p) = wd z) ∧ (z ≠ 0 → DB.write (.number s (z.natAbs * 2 ^ k) p) = wd z):=by
  by_cases h0:z = 0
  · subst h0
    have e:DB.write (.number s ((0:Int).natAbs * 2 ^ k) p) = DB.word s 0:=by
      show DB.nearest s ((0:Int).natAbs * 2 ^ k) p = _
      unfold Format.nearest
      simp
    rw [e]
    refine ⟨?_,fun _ h => by rw [h,wd_zero];decide,fun h => absurd rfl h⟩
    cases s
    · exact .inl (by rw [wd_zero];decide)
    · exact .inr ⟨rfl,rfl⟩
  · have e:DB.write (.number s (z.natAbs * 2 ^ k) p) = wd z:=by
      show DB.nearest s (z.natAbs * 2 ^ k) p = _
      rw [hp,near_eq s (by omega) hz k,wd_eq h0 hz,hs h0]
    rw [e]
    exact ⟨.inl rfl,fun h => absurd h h0,fun _ => rfl⟩
theorem sum_z {d1 d2:Datum} {z1 z2:Int} (h1:IsZ d1 z1) (h2:IsZ d2 z2) (hz:(z1 + z2).natAbs < 2 ^ 53):∃ d,d1.sum d2 = some d ∧ IsW (DB.write d) (z1 + z2) ∧ ((z1 = 0 → d1.neg = false) → DB.write d = wd (z1 + z2)):=by
  obtain ⟨s,m,i,rfl,hi,e1,g1⟩:=h1
  obtain ⟨t,n,j,rfl,hj,e2,g2⟩:=h2
  have hb:min i j ≤ 0:=by omega
  obtain ⟨k,hk⟩:∃ k:Nat,min i j = -(k:Int):=⟨(-(min i j)).toNat,by omega⟩
  have hp2:∀ (a b:Nat),(2:Int) ^ a * 2 ^ b = 2 ^ (a + b):=fun a b => (Int.pow_add 2 a b).symm
  have t1:signed s m (i - min i j).toNat = z1 * 2 ^ k:=by
    rw [signed_up,e1,Int.mul_assoc,hp2]
    congr 2
    omega
  have t2:signed t n (j - min i j).toNat = z2 * 2 ^ k:=by
    rw [signed_up,e2,Int.mul_assoc,hp2]
    congr 2
    omega
  have hpk:(0:Int) < 2 ^ k:=Int.pow_pos (by decide)
  have tt:signed s m (i - min i j).toNat + signed t n (j - min i j).toNat = (z1 + z2) * 2 ^ k:=by rw [t1,t2,Int.add_mul]
  have ta:((z1 + z2) * 2 ^ k).natAbs = (z1 + z2).natAbs * 2 ^ k:=by rw [Int.natAbs_mul];congr 1
  have tz:((z1 + z2) * 2 ^ k = 0) ↔ z1 + z2 = 0:=⟨fun h => by rcases Int.mul_eq_zero.1 h with h | h <;> omega,fun h => by rw [h,Int.zero_mul]⟩
  have tn:((z1 + z2) * 2 ^ k < 0) ↔ z1 + z2 < 0:=by
    constructor
    · intro h
      apply Classical.byContradiction
      intro hn
      have:=Int.mul_nonneg (show 0 ≤ z1 + z2 by omega) (Int.le_of_lt hpk)
      omega
    · intro h
      exact Int.mul_neg_of_neg_of_pos h hpk
  refine ⟨_,rfl,?_⟩
  show IsW (DB.write (.number (if signed s m (i - min i j).toNat + signed t n (j - min i j).toNat = 0 then s && t else decide (signed s m (i - min i j).toNat + signed t n (j - min i j).toNat < 0)) (signed s m (i - min i j).toNat + signed t n (j - min i j).toNat).natAbs (min i j))) (z1 + z2) ∧ (_ → DB.write (.number (if signed s m (i - min i j).toNat + signed t n (j - min i j).toNat = 0 then s && t else decide (signed s m (i - min i j).toNat + signed t n (j - min i j).toNat < 0)) (signed s m (i - min i j).toNat + signed t n (j - min i j).toNat).natAbs (min i j)) = _)
  rw [tt,ta]
  obtain ⟨sg,hsg⟩:∃ sg,(if (z1 + z2) * 2 ^ k = 0 then s && t else decide ((z1 + z2) * 2 ^ k < 0)) = sg:=⟨_,rfl⟩
  rw [hsg]
  have hw:=write_z (s:=sg) (z:=z1 + z2) (k:=k) hk hz (fun h => by rw [← hsg,if_neg (fun h2 => h (tz.1 h2))];exact decide_eq_decide.2 tn)
  refine ⟨hw.1,fun hn => ?_⟩
  by_cases h0:z1 + z2 = 0
  · refine hw.2.1 h0 ?_
    rw [← hsg,if_pos (tz.2 h0)]
    by_cases h1:z1 = 0
    · have:s = false:=hn h1
      rw [this];rfl
    · have a:=g1 h1
      have b:=g2 (by omega)
      rw [a,b]
      by_cases h2:z1 < 0
      · have h3:¬ z2 < 0:=by omega
        simp [h3]
      · simp [h2]
  · exact hw.2.2 h0
theorem opp_z {d:Datum} {z:Int} (h:IsZ d z):IsZ d.opposite (-z):=by
  obtain ⟨s,m,p,rfl,h1,h2,h3⟩:=h
  refine ⟨_,_,_,rfl,h1,?_,fun h0 => ?_⟩
  · rw [Int.neg_mul,← h2]
    unfold signed
    cases s <;> simp
  · rw [h3 (by omega)]
    by_cases hz:z < 0
    · have:¬ -z < 0:=by omega
      simp [hz];omega
    · have:-z < 0:=by omega
      simp [hz];omega
theorem prod_z {d1 d2:Datum} {z1 z2:Int} (h1:IsZ d1 z1) (h2:IsZ d2 z2) (hz:(z1 * z2).natAbs < 2 ^ 53):∃ d,d1.product d2 = some d ∧ IsW (DB.write d) (z1 * z2):=by
  obtain ⟨s,m,i,rfl,hi,e1,g1⟩:=h1
  obtain ⟨t,n,j,rfl,hj,e2,g2⟩:=h2
  refine ⟨_,rfl,?_⟩
  have habs:∀ (s:Bool) (m:Nat),(signed s m 0).natAbs = m:=fun s m => by unfold signed;cases s <;> simp
  have a1:m = z1.natAbs * 2 ^ (-i).toNat:=by rw [← habs s m,e1,Int.natAbs_mul];congr 1
  have a2:n = z2.natAbs * 2 ^ (-j).toNat:=by rw [← habs t n,e2,Int.natAbs_mul];congr 1
  have hm:m * n = (z1 * z2).natAbs * 2 ^ ((-i).toNat + (-j).toNat):=by
    rw [a1,a2,Int.natAbs_mul,Nat.pow_add]
    simp only [Nat.mul_assoc,Nat.mul_left_comm]
  show IsW (DB.write (.number (s ^^ t) (m * n) (i + j))) (z1 * z2)
  rw [hm]
  refine (write_z (by omega) hz fun h => ?_).1
  have n1:z1 ≠ 0:=fun e => h (by rw [e,Int.zero_mul])
  have n2:z2 ≠ 0:=fun e => h (by rw [e,Int.mul_zero])
  rw [g1 n1,g2 n2]
  rcases Int.lt_or_gt_of_ne n1 with p1 | p1 <;> rcases Int.lt_or_gt_of_ne n2 with p2 | p2
  · have:=Int.mul_pos_of_neg_of_neg p1 p2
    simp [p1,p2,show ¬ z1 * z2 < 0 by omega]
  · have:=Int.mul_neg_of_neg_of_pos p1 p2
    simp [p1,show ¬ z2 < 0 by omega,this]
  · have:=Int.mul_neg_of_pos_of_neg p1 p2
    simp [show ¬ z1 < 0 by omega,p2,this]
  · have:=Int.mul_pos p1 p2
    simp [show ¬ z1 < 0 by omega,show ¬ z2 < 0 by omega,show ¬ z1 * z2 < 0 by omega]
theorem fadd {x y:Nat} {z1 z2:Int} (h1:IsW x z1) (h2:IsW y z2) (b1:z1.natAbs < 2 ^ 53) (b2:z2.natAbs < 2 ^ 53) (hz:(z1 + z2).natAbs < 2 ^ 53):∃ r,floatBits .add .f64 x y = some r ∧ IsW r (z1 + z2) ∧ (x = wd z1 → r = wd (z1 + z2)):=by
  obtain ⟨d,e1,e2,e3⟩:=sum_z (h1.read b1) (h2.read b2) hz
  refine ⟨DB.write d,?_,e2,fun hx => e3 fun h0 => ?_⟩
  · show DB.add x y = _
    unfold Format.add
    rw [e1]
    rfl
  · rw [hx,h0,wd_zero];decide
theorem fsub {x y:Nat} {z1 z2:Int} (h1:IsW x z1) (h2:IsW y z2) (b1:z1.natAbs < 2 ^ 53) (b2:z2.natAbs < 2 ^ 53) (hz:(z1 - z2).natAbs < 2 ^ 53):∃ r,floatBits .sub .f64 x y = some r ∧ IsW r (z1 - z2):=by
  obtain ⟨d,e1,e2,-⟩:=sum_z (h1.read b1) (opp_z (h2.read b2)) (by rw [← Int.sub_eq_add_neg];exact hz)
  refine ⟨DB.write d,?_,by rw [Int.sub_eq_add_neg];exact e2⟩
  show DB.sub x y = _
  unfold Format.sub
  rw [e1]
  rfl
theorem fmul {x y:Nat} {z1 z2:Int} (h1:IsW x z1) (h2:IsW y z2) (b1:z1.natAbs < 2 ^ 53) (b2:z2.natAbs < 2 ^ 53) (hz:(z1 * z2).natAbs < 2 ^ 53):∃ r,floatBits .mul .f64 x y = some r ∧ IsW r (z1 * z2):=by
  obtain ⟨d,e1,e2⟩:=prod_z (h1.read b1) (h2.read b2) hz
  refine ⟨DB.write d,?_,e2⟩
  show DB.mul x y = _
  unfold Format.mul
  rw [e1]
  rfl
theorem natAbs_mul_small {x u:Int} {B:Nat} (hx:x.natAbs ≤ B) (hu:u.natAbs ≤ 1):(x * u).natAbs ≤ B:=by
  rw [Int.natAbs_mul]
  calc x.natAbs * u.natAbs ≤ B * 1:=Nat.mul_le_mul hx hu
    _ = B:=Nat.mul_one _
theorem cmul_z {a b c d:Nat} {x y u t:Int} (ha:IsW a x) (hb:IsW b y) (hc:IsW c u) (hd:IsW d t) (bx:x.natAbs ≤ 2 ^ 50) (by':y.natAbs ≤ 2 ^ 50) (bu:u.natAbs ≤ 1) (bt:t.natAbs ≤ 1) :
    ∃ re im,cMulBits a b c d = some (re,im) ∧ IsW re (x * u - y * t) ∧ IsW im (x * t + y * u):=by
  have n1:=natAbs_mul_small bx bu
  have n2:=natAbs_mul_small by' bt
  have n3:=natAbs_mul_small bx bt
  have n4:=natAbs_mul_small by' bu
  obtain ⟨r1,e1,w1⟩:=fmul ha hc (by omega) (by omega) (by omega)
  obtain ⟨r2,e2,w2⟩:=fmul hb hd (by omega) (by omega) (by omega)
  obtain ⟨r3,e3,w3⟩:=fsub w1 w2 (by omega) (by omega) (by omega)
  obtain ⟨r4,e4,w4⟩:=fmul ha hd (by omega) (by omega) (by omega)
  obtain ⟨r5,e5,w5⟩:=fmul hb hc (by omega) (by omega) (by omega)
  obtain ⟨r6,e6,w6,-⟩:=fadd w4 w5 (by omega) (by omega) (by omega)
  exact ⟨r3,r6,by unfold cMulBits;simp [e1,e2,e3,e4,e5,e6],w3,w6⟩
theorem csum_z {a b c d:Nat} {x y u t:Int} (ha:IsW a x) (hb:IsW b y) (hc:IsW c u) (hd:IsW d t) (bx:x.natAbs ≤ 2 ^ 50) (by':y.natAbs ≤ 2 ^ 50) (bu:u.natAbs ≤ 2 ^ 50) (bt:t.natAbs ≤ 2 ^ 50) :
    ∃ re im,cSumBits .add .f64 a b c d = some (re,im) ∧ IsW re (x + u) ∧ IsW im (y + t):=by
  obtain ⟨r1,e1,w1,-⟩:=fadd ha hc (by omega) (by omega) (by omega)
  obtain ⟨r2,e2,w2,-⟩:=fadd hb hd (by omega) (by omega) (by omega)
  exact ⟨r1,r2,by unfold cSumBits;simp [e1,e2],w1,w2⟩
def IsC (v:Value) (z:Int × Int):Prop:=∃ a b,v = .complex .f64 a b ∧ IsW a z.1 ∧ IsW b z.2
def low16 (x:Int):Int:=IntKind.i16.wrap x
def turnC:Nat → Int × Int → Int × Int
  | 0,z => z
  | k + 1,z => turnC k (-z.2,z.1)
def markC:Nat → Int × Int → List Int → Int × Int
  | _,z,[] => z
  | k,z,x :: l => markC (k + 1) (z.1 + (turnC (k % 4) (low16 x,0)).1,z.2 + (turnC (k % 4) (low16 x,0)).2) l
theorem low16_bd (x:Int):(low16 x).natAbs ≤ 32768:=by
  unfold low16 IntKind.wrap
  simp [IntKind.bits,IntKind.signed]
  omega
theorem turnC_bd (k:Nat):∀ (z:Int × Int) (B:Nat),z.1.natAbs ≤ B → z.2.natAbs ≤ B → (turnC k z).1.natAbs ≤ B ∧ (turnC k z).2.natAbs ≤ B:=by
  induction k with
  | zero => intro z B h1 h2;exact ⟨h1,h2⟩
  | succ k ih => intro z B h1 h2;exact ih _ B (by show (-z.2).natAbs ≤ B;omega) h1
end Go.Proofs.YthamijnggdjaoaaGreatDoor
namespace Go.Proofs.YthamijnggdjaoaaGreatDoor
open Ieee
theorem markC_bd:∀ (l:List Int) (k:Nat) (z:Int × Int) (B:Nat),z.1.natAbs ≤ B → z.2.natAbs ≤ B → (markC k z l).1.natAbs ≤ B + 32768 * l.length ∧ (markC k z l).2.natAbs ≤ B + 32768 * l.length
  | [],_,_,_,h1,h2 => ⟨h1,h2⟩
  | x :: l,k,z,B,h1,h2 => by
    obtain ⟨a1,a2⟩:=turnC_bd (k % 4) (low16 x,0) 32768 (low16_bd x) (by show (0:Int).natAbs ≤ 32768;decide)
    obtain ⟨b1,b2⟩:=markC_bd l (k + 1) (z.1 + (turnC (k % 4) (low16 x,0)).1,z.2 + (turnC (k % 4) (low16 x,0)).2) (B + 32768) (by show (z.1 + _).natAbs ≤ _;omega) (by show (z.2 + _).natAbs ≤ _;omega)
    rw [List.length_cons]
    exact ⟨by show (markC (k + 1) _ l).1.natAbs ≤ _;omega,by show (markC (k + 1) _ l).2.natAbs ≤ _;omega⟩
theorem markC_snoc:∀ (l:List Int) (k:Nat) (z:Int × Int) (x:Int),markC k z (l ++ [x]) = ((markC k z l).1 + (turnC ((k + l.length) % 4) (low16 x,0)).1,(markC k z l).2 + (turnC ((k + l.length) % 4) (low16 x,0)).2)
  | [],_,_,_ => rfl
  | y :: l,k,z,x => by
    show markC (k + 1) _ (l ++ [x]) = _
    rw [markC_snoc l,List.length_cons,show k + 1 + l.length = k + (l.length + 1) by omega]
    rfl
def markL (l:List Int):Int × Int:=markC 0 (0,0) l
theorem markL_bd {l:List Int} (h:l.length ≤ 1048576):(markL l).1.natAbs ≤ 2 ^ 50 ∧ (markL l).2.natAbs ≤ 2 ^ 50:=by
  obtain ⟨a,b⟩:=markC_bd l 0 (0,0) 0 (by decide) (by decide)
  exact ⟨by unfold markL;omega,by unfold markL;omega⟩
theorem markL_take {l:List Int} {k:Nat} (h:k < l.length):markL (l.take (k + 1)) = ((markL (l.take k)).1 + (turnC (k % 4) (low16 (nth l k),0)).1,(markL (l.take k)).2 + (turnC (k % 4) (low16 (nth l k),0)).2):=by
  have e:l.take (k + 1) = l.take k ++ [nth l k]:=by
    rw [List.take_add_one,show l[k]? = some (nth l k) by simp [nth,List.getElem?_eq_getElem h]];rfl
  unfold markL
  rw [e,markC_snoc,List.length_take,Nat.min_eq_left (by omega),Nat.zero_add]
def unitC:Nat → Int × Int
  | 0 => (1,0)
  | 1 => (0,1)
  | 2 => (-1,0)
  | _ => (0,-1)
theorem turn_unit {j:Nat} (h:j < 4) (x:Int):turnC j (x,0) = (x * (unitC j).1 - 0 * (unitC j).2,x * (unitC j).2 + 0 * (unitC j).1):=by
  have hc:j = 0 ∨ j = 1 ∨ j = 2 ∨ j = 3:=by omega
  rcases hc with rfl | rfl | rfl | rfl <;> simp [turnC,unitC]
def unitW:Nat → Nat × Nat
  | 0 => (4607182418800017408,0)
  | 1 => (0,4607182418800017408)
  | 2 => (13830554455654793216,0)
  | _ => (0,13830554455654793216)
theorem unitW_is (j:Nat):IsW (unitW j).1 (unitC j).1 ∧ IsW (unitW j).2 (unitC j).2:=by
  match j with
  | 0 => exact ⟨.inl (by decide),.inl (by decide)⟩
  | 1 => exact ⟨.inl (by decide),.inl (by decide)⟩
  | 2 => exact ⟨.inl (by decide),.inl (by decide)⟩
  | j + 3 => exact ⟨.inl (by show 0 = wd 0;decide),.inl (by show 13830554455654793216 = wd (-1);decide)⟩
theorem unitC_bd (j:Nat):(unitC j).1.natAbs ≤ 1 ∧ (unitC j).2.natAbs ≤ 1:=by
  match j with
  | 0 => decide
  | 1 => decide
  | 2 => decide
  | j + 3 => exact ⟨by show (0:Int).natAbs ≤ 1;decide,by show (-1:Int).natAbs ≤ 1;decide⟩
abbrev M64:Int:=18446744073709551616
abbrev HP:Int:=1099511628211
theorem wu64 (x:Int):IntKind.u64.wrap x = x % M64:=by
  unfold IntKind.wrap
  simp [IntKind.bits,IntKind.signed]
def hashF:Int → List Int → Int
  | h,[] => h
  | h,x :: l => hashF (IntKind.u64.wrap (IntKind.u64.wrap (h + IntKind.u64.wrap x) * HP)) l
def hashPw:List Int → Int
  | [] => 1
  | _ :: l => IntKind.u64.wrap (hashPw l * HP)
def hashSm:List Int → Int
  | [] => 0
  | x :: l => IntKind.u64.wrap (hashSm l + IntKind.u64.wrap (IntKind.u64.wrap x * IntKind.u64.wrap (hashPw l * HP)))
def Em (a b:Int):Prop:=∃ k,a = b + M64 * k
theorem Em.refl (a:Int):Em a a:=⟨0,by omega⟩
theorem Em.trans {a b c:Int}:Em a b → Em b c → Em a c:=by
  rintro ⟨k,rfl⟩ ⟨j,rfl⟩
  exact ⟨j + k,by rw [Int.mul_add];omega⟩
theorem Em.symm {a b:Int}:Em a b → Em b a:=by
  rintro ⟨k,rfl⟩
  exact ⟨-k,by rw [Int.mul_neg];omega⟩
theorem Em.add {a b c d:Int}:Em a b → Em c d → Em (a + c) (b + d):=by
  rintro ⟨k,rfl⟩ ⟨j,rfl⟩
  exact ⟨k + j,by rw [Int.mul_add];omega⟩
theorem Em.mul {a b c d:Int}:Em a b → Em c d → Em (a * c) (b * d):=by
  rintro ⟨k,rfl⟩ ⟨j,rfl⟩
  exact ⟨k * d + b * j + M64 * (k * j),by grind⟩
theorem Em.wrap (a:Int):Em (IntKind.u64.wrap a) a:=by
  rw [wu64]
  exact ⟨-(a / M64),by have:=Int.emod_add_mul_ediv a M64;rw [Int.mul_neg];omega⟩
theorem Em.eq {a b:Int} (h:Em a b):IntKind.u64.wrap a = IntKind.u64.wrap b:=by
  obtain ⟨k,rfl⟩:=h
  rw [wu64,wu64,Int.add_mul_emod_self_left]
theorem hashF_w:∀ (l:List Int) (h:Int),IntKind.u64.wrap h = h → IntKind.u64.wrap (hashF h l) = hashF h l
  | [],_,e => e
  | x :: l,h,_ => hashF_w l _ (by rw [wu64,wu64,Int.emod_emod])
theorem hashPw_em:∀ l:List Int,Em (hashPw l) (HP ^ l.length)
  | [] => ⟨0,rfl⟩
  | x :: l => ((Em.wrap _).trans ((hashPw_em l).mul (Em.refl HP))).trans (by rw [← Int.pow_succ];exact Em.refl _)
theorem hashF_em:∀ (l:List Int) (h:Int),Em (hashF h l) (h * HP ^ l.length + hashSm l)
  | [],h => by show Em h (h * HP ^ 0 + 0);rw [Int.pow_zero];exact ⟨0,by omega⟩
  | x :: l,h => by
    have a:Em (IntKind.u64.wrap (IntKind.u64.wrap (h + IntKind.u64.wrap x) * HP)) ((h + x) * HP):=(Em.wrap _).trans (((Em.wrap _).trans ((Em.refl h).add (Em.wrap x))).mul (Em.refl HP))
    have b:=(hashF_em l (IntKind.u64.wrap (IntKind.u64.wrap (h + IntKind.u64.wrap x) * HP))).trans ((a.mul (Em.refl (HP ^ l.length))).add (Em.refl (hashSm l)))
    have c:Em (hashSm (x :: l)) (hashSm l + x * (HP ^ l.length * HP)):=(Em.wrap _).trans ((Em.refl _).add ((Em.wrap _).trans ((Em.wrap x).mul ((Em.wrap _).trans ((hashPw_em l).mul (Em.refl HP))))))
    refine b.trans (Em.symm (((Em.refl (h * HP ^ (x :: l).length)).add c).trans ⟨0,?_⟩))
    rw [List.length_cons,Int.pow_succ]
    generalize HP ^ l.length = y
    generalize hashSm l = s
    grind
theorem hash_eq (l:List Int):IntKind.u64.wrap (hashSm l + hashPw l) = hashF 1 l:=by
  rw [← hashF_w l 1 (by decide)]
  refine Em.eq (Em.symm ((hashF_em l 1).trans ?_))
  rw [Int.one_mul,Int.add_comm]
  exact (Em.refl _).add (Em.symm (hashPw_em l))
theorem hashF_snoc:∀ (l:List Int) (h x:Int),hashF h (l ++ [x]) = IntKind.u64.wrap (IntKind.u64.wrap (hashF h l + IntKind.u64.wrap x) * HP)
  | [],_,_ => rfl
  | _ :: l,_,_ => hashF_snoc l _ _
theorem hashF_take {l:List Int} {k:Nat} (h:k < l.length):hashF 1 (l.take (k + 1)) = IntKind.u64.wrap (IntKind.u64.wrap (hashF 1 (l.take k) + IntKind.u64.wrap (nth l k)) * HP):=by
  have e:l.take (k + 1) = l.take k ++ [nth l k]:=by
    rw [List.take_add_one,show l[k]? = some (nth l k) by simp [nth,List.getElem?_eq_getElem h]];rfl
  rw [e,hashF_snoc]
theorem drop_nth {l:List Int} {k:Nat} (h:k < l.length):l.drop k = nth l k :: l.drop (k + 1):=by
  rw [List.drop_eq_getElem_cons h]
  congr 1
  simp [nth,List.getElem?_eq_getElem h]
end Go.Proofs.YthamijnggdjaoaaGreatDoor
