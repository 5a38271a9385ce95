/- The reference's ranges: sakiaref04.Blocks and Even, sakiaref15. -/
import Derived.Test.YtaccfnffmbndhaaMsgs
import Derived.Test.YtaccfnffmbndhaaRunMk
set_option linter.unusedSimpArgs false
set_option linter.unusedVariables false
namespace Go.Proofs.Ytaccfnffmbndhaa
open Go.RowKit

theorem et_r4s : ElemT Try.prog 65 60 (.agg #[.int .i64 0, .int .i64 0]) 2 16 := ⟨Try.underlying65, info_parts (by kernel_rfl), rfl, by decide⟩
def blkK (n s k : Nat) : List Rg := (List.range k).map fun j => (j * s, min (j * s + s) n)
theorem blkK_succ (n s k : Nat) : blkK n s (k + 1) = blkK n s k ++ [(k * s, min (k * s + s) n)] := by simp [blkK, List.range_succ]
theorem blkK_len (n s k : Nat) : (blkK n s k).length = k := by simp [blkK]
theorem blkR_K (n s : Nat) : blkR n s = blkK n s (cntQ n s) := rfl
theorem cntQ_ge {n s k : Nat} (hs : 1 ≤ s) (h : cntQ n s ≤ k) : n ≤ k * s := by
  rcases Nat.eq_zero_or_pos n with rfl | hn
  · omega
  · rw [cntQ_eq n s hs] at h
    have h1 := Nat.div_add_mod (n + s - 1) s
    have h2 := Nat.mod_lt (n + s - 1) (show 0 < s by omega)
    have h3 : s * ((n + s - 1) / s) ≤ s * k := Nat.mul_le_mul_left s h
    have h4 : s * k = k * s := Nat.mul_comm _ _
    omega
set_option maxRecDepth 100000 in
set_option maxHeartbeats 1000000 in
theorem rblk_any (n s : Nat) (w : World) (hn : n ≤ 1048576) (hs : 1 ≤ s) (hs2 : s ≤ 1048576) :
    Calls Try.prog 39 #[.int .i64 n, .int .i64 s] w fun e w' => ∃ v, e = .returned v ∧ w'.ownsRow w.heap.size 60 2 v (blkR n s).length (rgVals (blkR n s)) ∧ Below w.heap.size w w' := by
  have hs1 : ¬ ((s : Int) < 1) := by omega
  by_cases h0 : n = 0
  · subst h0
    go_enter Try.func39, Try.ntmps39
    go_wp2
    go_ret
    exact ⟨_, rfl, World.ownsRow_nil _ _ _ _, Below.refl _ _⟩
  · have hn1 : ¬ ((n : Int) < 1) := by omega
    have hc := cntQ_le n s
    have hl := fun k (h : k < cntQ n s) => cntQ_lt h
    have hg := fun k (h : cntQ n s ≤ k) => cntQ_ge hs h
    rw [blkR_K, blkK_len]
    obtain ⟨m, hm⟩ : ∃ m, cntQ n s = m := ⟨_, rfl⟩
    rw [hm] at hc hl hg ⊢
    have Hl := Lib.hid hl; have Hg := Lib.hid hg
    clear hm hl hg
    go_enter Try.func39, Try.ntmps39
    go_wp2_with fail
    go_loopw [5, 6] (fun v x wr => ∃ k : Nat, k ≤ m ∧ x = .int .i64 (min (k * s) n : Nat) ∧ wr.ownsRow w.heap.size 60 2 v k (rgVals (blkK n s k)) ∧ Below w.heap.size w wr) (fun _ x _ => n - (intOf x).toNat)
    case atStart => exact ⟨0, Nat.zero_le _, by simp, World.ownsRow_nil _ _ _ _, Below.refl _ _⟩
    case round =>
      obtain ⟨k, hk, rfl, ho, hb⟩ := hrel
      by_cases hlt : k < m
      · have hlo := Hl.out k hlt
        have hsu := blkK_succ n s k
        have hnx : (k + 1) * s = k * s + s := Nat.succ_mul k s
        obtain ⟨y, hy⟩ : ∃ y, k * s = y := ⟨_, rfl⟩
        rw [hy] at hlo hsu hnx ⊢
        rw [show min y n = y by omega]
        have hyn : (y : Int) < n := by omega
        obtain ⟨A, c, rfl, _⟩ := own_form ho
        obtain ⟨z, hz⟩ : ∃ z, min (y + s) n = z := ⟨_, rfl⟩
        rw [hz] at hsu
        have Hsu := Lib.hid hsu; have Hnx := Lib.hid hnx; have Ho := Lib.hid ho; have Hb := Lib.hid hb; have Hz := Lib.hid hz
        have hsz := hb.size
        clear hsu hnx ho hb hy
        by_cases hsz2 : (s : Int) < (n : Int) - y
        · obtain rfl : z = y + s := by omega
          clear hz
          go_wp2_with (at_builtin; refine wpList_push et_r4s _ rfl (.tmp 26) (.tmp 30) rfl w.heap.size (.slice A k c) k _ rfl Ho.out [.int .i64 (y : Int), .int .i64 ((y : Int) + s)] rfl rfl (nums_cell .i64 [_, _]) (by omega) (by unfold maxLen; omega) hsz ?_)
          intro g6 c6 w6 ho6 hb6 hg6
          have HO6 := Lib.hid ho6; have HB6 := Lib.hid (Hb.out.trans hb6)
          clear ho6 hb6 hg6
          go_wp2_with fail
          go_roundw
          case rel => exact ⟨k + 1, by omega, by rw [Hnx.out, Hz.out]; push_cast; rfl, by rw [Hsu.out, rgVals_app]; exact HO6.out, HB6.out⟩
          case measure => simp [intOf]; omega
        · obtain rfl : z = n := by omega
          clear hz
          go_wp2_with (at_builtin; refine wpList_push et_r4s _ rfl (.tmp 26) (.tmp 30) rfl w.heap.size (.slice A k c) k _ rfl Ho.out [.int .i64 (y : Int), .int .i64 (z : Nat)] rfl rfl (nums_cell .i64 [_, _]) (by omega) (by unfold maxLen; omega) hsz ?_)
          intro g6 c6 w6 ho6 hb6 hg6
          have HO6 := Lib.hid ho6; have HB6 := Lib.hid (Hb.out.trans hb6)
          clear ho6 hb6 hg6
          go_wp2_with fail
          go_roundw
          case rel => exact ⟨k + 1, by omega, by rw [Hnx.out, Hz.out], by rw [Hsu.out, rgVals_app]; exact HO6.out, HB6.out⟩
          case measure => simp [intOf]; omega
      · have hge := Hg.out k (by omega)
        obtain rfl : k = m := by omega
        rw [show min (k * s) n = n by omega]
        have hnn : ¬ ((n : Int) < n) := by omega
        have Ho := Lib.hid ho; have Hb := Lib.hid hb
        clear ho hb
        go_wp2_with fail
        go_ret
        exact ⟨_, rfl, Ho.out, Hb.out⟩
theorem rgroups_any (n s : Nat) (w : World) (hn : n ≤ 1048576) (hs : 1 ≤ s) (hs2 : s ≤ 1048576) :
    Calls Try.prog 25 #[.int .i64 n, .int .i64 s] w fun e w' => ∃ v, e = .returned v ∧ w'.ownsRow w.heap.size 60 2 v (blkR n s).length (rgVals (blkR n s)) ∧ Below w.heap.size w w' := by
  have hb := rblk_any n s w hn hs hs2
  have Hb := Lib.hid hb
  clear hb
  go_enter Try.func25, Try.ntmps25
  go_wp2_with fail
  refine Hb.out.mono ?_
  rintro e w1 ⟨v, rfl, o1, k1⟩
  have O1 := Lib.hid o1; have K1 := Lib.hid k1
  clear o1 k1
  go_wp2_with fail
  go_ret
  exact ⟨_, rfl, O1.out, K1.out⟩
end Go.Proofs.Ytaccfnffmbndhaa
