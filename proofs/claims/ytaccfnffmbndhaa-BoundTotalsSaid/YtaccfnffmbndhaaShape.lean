/- The walks of package shape: what is asked of a shape. -/
import Derived.Test.YtaccfnffmbndhaaProg
import Derived.Test.YtaccfnffmbndhaaShapePlain
import Derived.WalkSpells
import Derived.BigQuiet
import Derived.Deep.QuietTactic
set_option linter.unusedSimpArgs false
set_option linter.unusedVariables false
namespace Go.Proofs.Ytaccfnffmbndhaa
open Go.RowKit

theorem et_ints : ElemT Try.prog 22 3 (.int .i64 0) 1 8 := ⟨Try.underlying22, info_parts (by kernel_rfl), rfl, by decide⟩
theorem iclone_any (A : Option Addr) (zs : List Int) (c : Nat) (w : World) (hA : Rd w A (nums .i64 zs)) (hl : zs.length ≤ 17592186043904) :
    Calls Try.prog 45 #[.slice A zs.length c] w fun e w' => ∃ v, e = .returned v ∧ w'.ownsRow w.heap.size 3 1 v zs.length (nums .i64 zs) ∧ Below w.heap.size w w' := by
  have q := fun (w : World) => Lib.run_eql_slice_nil (P := Try.prog) w 22 3 A zs.length c 0 0 Try.underlying22
  cases A with
  | none =>
    have hz : zs = [] := by
      cases zs with
      | nil => rfl
      | cons z l => obtain ⟨b, o, h, _⟩ := hA 0 _ rfl; cases h
    subst hz
    clear q
    have q := fun (w : World) => Lib.run_eql_slice_nil (P := Try.prog) w 22 3 none 0 c 0 0 Try.underlying22
    simp only [Option.isNone_none] at q
    rw [List.length_nil]
    go_enter Try.func45, Try.ntmps45
    go_wp2
    go_ret
    exact ⟨_, rfl, World.ownsRow_nil _ _ _ _, Below.refl _ _⟩
  | some a =>
    go_enter Try.func45, Try.ntmps45
    go_wp2_with (at_builtin; refine wpList_app et_ints _ rfl (.tmp 5) (.tmp 6) rfl w.heap.size _ 0 [] rfl (own_empty w 3 1) _ zs.length c (nums .i64 zs) rfl (hA.alloc _) (by rw [nums_length]; omega) (nums_cell _ _) (by omega) (by unfold maxLen; omega) (by simp) ?_)
    intro A' c' w1 hown hb _ _
    have hb1 := ((Below.refl _ w).alloc (Nat.le_refl _) (.cells #[] 3)).trans hb
    have Hown := Lib.hid hown; have Hb1 := Lib.hid hb1; clear hown hb hb1
    go_wp2
    go_ret
    exact ⟨_, rfl, Hown.out, Hb1.out⟩

end Go.Proofs.Ytaccfnffmbndhaa
