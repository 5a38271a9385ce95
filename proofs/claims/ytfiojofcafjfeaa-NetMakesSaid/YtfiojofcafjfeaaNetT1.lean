/- The closure of Net.Trace: one vector more. -/
import Derived.Test.YtfiojofcafjfeaaVec
import Derived.Test.YtfiojofcafjfeaaBlk
set_option linter.unusedSimpArgs false
set_option linter.unusedVariables false
namespace Go.Proofs.Ytfiojofcafjfeaa
open Go.RowKit

theorem et_vecs : ElemT Try.prog 39 31 (.slice none 0 0) 1 24 := ⟨Try.underlying39, info_parts (by kernel_rfl), rfl, by decide⟩

theorem trace1_any (P base : Nat) (A B : Option Addr) (n c m d : Nat) (xs : List Value) (w : World) (hP : w.heap[P]? = some (.cells #[.slice A n c] 39 (0, 0))) (ho : w.ownsRow base 31 1 (.slice A n c) n xs) (hn : n ≤ 1000000) (hbase : base ≤ w.heap.size) (hPb : base ≤ P) :
    Calls Try.prog 43 #[.slice B m d, .pointer (some ⟨P, 0, none⟩)] w fun e w' => (∃ v, e = .returned v) ∧ ∃ A' c', w'.heap[P]? = some (.cells #[.slice A' (n + 1) c'] 39 (0, 0)) ∧ w'.ownsRow base 31 1 (.slice A' (n + 1) c') (n + 1) (xs ++ [.slice B m d]) ∧
      Keep (fun i => i = P ∨ (Value.slice A n c).ownBlock = some i) w w' := by
  have p0 := cell_of_row w _ 0 _ _ _ hP
  have pf := fun j => frozen_of_row w _ j _ _ hP
  have hPl := lt_of_block hP
  have HP := Lib.hid hP; have HO := Lib.hid ho; clear hP ho
  go_enter Try.func43, Try.ntmps43
  go_wp2_with (at_builtin; refine wpList_push et_vecs w rfl (.tmp 3) (.tmp 5) rfl base (.slice A n c) n xs rfl HO.out [.slice B m d] rfl rfl (by simp [Value.oneCell']) (by omega) (by unfold maxLen; omega) hbase ?_)
  intro g c' w1 ho1 hb1 hg1
  have hP1 := (hg1.block P hPl (block_notrow HP.out (by decide) HO.out)).trans HP.out
  have hg1 : Keep (fun i => i = P ∨ (Value.slice A n c).ownBlock = some i) w w1 := (Keep.refl _ w).grown hg1 (fun k hk => .inr (.inr hk))
  have q0 := cell_of_row w1 _ 0 _ _ _ hP1
  have qf := fun j => frozen_of_row w1 _ j _ _ hP1
  have HP1 := Lib.hid hP1; have HO1 := Lib.hid ho1; have HG := Lib.hid hg1; clear hP1 ho1 hb1 hg1
  go_wp2_with fail
  have h9 := heap_setCell_same w1 P 0 _ _ (.slice (some ⟨g, 0, none⟩) (n + 1) c') HP1.out
  have k9 : Keep (fun i => i = P) w1 (w1.setCell ⟨P, 0, none⟩ (.slice (some ⟨g, 0, none⟩) (n + 1) c')) := Keep.setCell (S := fun i => i = P) (Keep.refl _ _) ⟨P, 0, none⟩ (.inr rfl) _
  have o9 := k9.own HO1.out (fun i hi e => block_notrow HP1.out (by decide) HO1.out (by rw [hi, e]))
  have g9 := HG.out.setCell ⟨P, 0, none⟩ (.inr (.inl rfl)) (.slice (some ⟨g, 0, none⟩) (n + 1) c')
  go_end0
  exact ⟨⟨_, rfl⟩, _, _, h9, o9, g9⟩
end Go.Proofs.Ytfiojofcafjfeaa
