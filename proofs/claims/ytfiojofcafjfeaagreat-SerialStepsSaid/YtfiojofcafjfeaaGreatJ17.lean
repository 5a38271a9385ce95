/- The walk of sampler.New's closure: one epoch's order. No condition. -/
import Derived.Test.YtfiojofcafjfeaaGreatJ16
import Derived.Test.YtfiojofcafjfeaaGreatJ08
set_option linter.unusedSimpArgs false
set_option linter.unusedVariables false
namespace Go.Proofs.YtfiojofcafjfeaaGreat
open Go.RowKit

theorem et_intss : ElemT Tryz.prog 81 22 (.slice none 0 0) 1 24 := ⟨Tryz.underlying81, info_parts (by kernel_rfl), rfl, by decide⟩

/-- What one epoch leaves. -/
def EpochIs (S n b c i k base : Nat) (A : Option Addr) (l : List Int) (x0 x1 x2 : Value) (vs : List Value) (w : World) (e : Ending) (w' : World) : Prop :=
  e = .returned (.bool true) ∧ ∃ A1 c1 Ao co, w'.heap[S]? = some (.cells #[x0, x1, x2, .slice Ao (k + 1) co] 144 (0, 0)) ∧
    w'.ownsRow base 22 1 (.slice Ao (k + 1) co) (k + 1) (vs ++ [.slice A1 n c1]) ∧ n ≤ c1 ∧ w'.ownsRow base 3 1 (.slice A1 n c1) n (nums .i64 (permN l n i)) ∧
    w'.heap[b]? = some (.cells #[.slice A l.length c, .int .i64 ((i + (n - 1) : Nat) : Int)] 194 (0, 0)) ∧
    (∀ base' m v xs, w.ownsRow base' 3 1 v m xs → w'.ownsRow base' 3 1 v m xs) ∧ Keep (fun j => j = b ∨ j = S ∨ base ≤ j) w w'

set_option maxRecDepth 100000 in
set_option maxHeartbeats 1600000 in
theorem epoch_any (N P1 P2 S n b c i k base : Nat) (A : Option Addr) (l : List Int) (Ao : Option Addr) (co : Nat) (x0 x1 x2 : Value) (vs : List Value) (w : World)
    (hN : w.heap[N]? = some (.cells #[.int .i64 n] 3 (0, 0))) (hP1 : w.heap[P1]? = some (.cells #[.pointer (some ⟨b, 0, none⟩)] 145 (0, 0))) (hP2 : w.heap[P2]? = some (.cells #[.pointer (some ⟨S, 0, none⟩)] 100 (0, 0)))
    (hS : w.heap[S]? = some (.cells #[x0, x1, x2, .slice Ao k co] 144 (0, 0))) (h : StreamAt w b A c l i) (hor : w.ownsRow base 22 1 (.slice Ao k co) k vs) (hbase : base ≤ w.heap.size)
    (hk : k ≤ 1048576) (hn : 1 ≤ n) (hn2 : n ≤ 1048576) (hi : i + (n - 1) ≤ l.length) (hl : l.length ≤ 1048576) (hu : U64 l) :
    Calls Tryz.prog 80 #[.pointer (some ⟨N, 0, none⟩), .pointer (some ⟨P1, 0, none⟩), .pointer (some ⟨P2, 0, none⟩)] w (EpochIs S n b c i k base A l x0 x1 x2 vs w) := by
  have hsh := shuffle_any n b c i A l w h hn hn2 hi hl hu
  have hbS : b ≠ S := fun e => by
    have h1 := h.blk; rw [e, hS] at h1; simp at h1
  have hbP : b ≠ P2 := fun e => by
    have h1 := h.blk; rw [e, hP2] at h1; simp at h1
  have hbo : ∀ j, (Value.slice Ao k co).ownBlock = some j → j ≠ b := fun j hj e => block_notrow h.blk (by decide) hor (by rw [← e, hj])
  have hall : ∀ base' m v xs, w.ownsRow base' 3 1 v m xs → ∀ j, v.ownBlock = some j → j ≠ b := fun base' m v xs hr j hj e => block_notrow h.blk (by decide) hr (by rw [← e, hj])
  have p0 := cell_of_row w _ 0 _ _ _ hN
  have pf := fun j => frozen_of_row w _ j _ _ hN
  have q0 := cell_of_row w _ 0 _ _ _ hP1
  have qf := fun j => frozen_of_row w _ j _ _ hP1
  have hPl := lt_of_block hP2
  have hSl := lt_of_block hS
  have Hsh := Lib.hid hsh; have HP2 := Lib.hid hP2; have HS := Lib.hid hS; have Hor := Lib.hid hor; have Hbo := Lib.hid hbo; have Hall := Lib.hid hall; have HbS := Lib.hid hbS; have HbP := Lib.hid hbP
  clear hsh hP2 hS hor hbo hall hbS hbP hN hP1 h hu
  go_enter Tryz.func80, Tryz.ntmps80
  go_wp2_with fail
  refine Hsh.out.mono ?_
  rintro e w1 ⟨v1, rfl, ho1, hS1, hK1⟩
  obtain ⟨A1, c1, rfl, hc1⟩ := own_form ho1
  have hQ2 := (hK1.block P2 hPl (fun e => HbP.out e.symm)).trans HP2.out
  have hT2 := (hK1.block S hSl (fun e => HbS.out e.symm)).trans HS.out
  have hor1 := hK1.own Hor.out (fun j hj e => Hbo.out j hj e)
  have hz1 := hK1.size
  have t0 := cell_of_row w1 _ 0 _ _ _ hQ2
  have tf := fun j => frozen_of_row w1 _ j _ _ hQ2
  have y0 := cell_of_row w1 _ 0 _ _ _ hT2
  have y1 := cell_of_row w1 _ 1 _ _ _ hT2
  have y2 := cell_of_row w1 _ 2 _ _ _ hT2
  have y3 := cell_of_row w1 _ 3 _ _ _ hT2
  have yf := fun j => frozen_of_row w1 _ j _ _ hT2
  have Ho1 := Lib.hid ho1; have HS1 := Lib.hid hS1; have HK1 := Lib.hid hK1; have HQ2 := Lib.hid hQ2; have HT2 := Lib.hid hT2; have Hor1 := Lib.hid hor1; have Hc1 := Lib.hid hc1
  clear ho1 hS1 hK1 hQ2 hT2 hor1 hc1 p0 pf q0 qf
  go_wp2_with fail
  have hSw : (fun w' : World => w'.cell? ⟨P2, 0, none⟩ = some (.pointer (some ⟨S, 0, none⟩)) ∧ w'.cell? ⟨S, 3, none⟩ = some (.slice Ao k co)) w1.drew := ⟨t0, y3⟩
  refine wp_region_X 8 (fun w' : World => w'.cell? ⟨P2, 0, none⟩ = some (.pointer (some ⟨S, 0, none⟩)) ∧ w'.cell? ⟨S, 3, none⟩ = some (.slice Ao k co)) (by kernel_rfl) ?_
  refine wpAnyX_take (i := 0) (v := ?_) rfl (by kernel_rfl) (by decide) (by kernel_rfl) (by kernel_rfl) (by kernel_rfl) (by kernel_rfl) (fun _ _ _ h => h) (Or.inl ⟨by rfl, ?_⟩) hSw ?_
  rotate_left
  · intro w9 hS9; (try dsimp only at hS9); obtain ⟨s1, s2⟩ := hS9; go_simp; (try with_reducible rfl)
  simp only [List.getElem_toArray, List.getElem_cons_succ, List.getElem_cons_zero, Act.put, List.setIfInBounds_toArray, List.set_cons_zero, List.set_cons_succ]
  refine wpAnyX_take (i := 1) (v := ?_) rfl (by kernel_rfl) (by decide) (by kernel_rfl) (by kernel_rfl) (by kernel_rfl) (by kernel_rfl) (fun _ _ _ h => h) (Or.inl ⟨by rfl, ?_⟩) hSw ?_
  rotate_left
  · intro w9 hS9; (try dsimp only at hS9); obtain ⟨s1, s2⟩ := hS9; go_simp; (try with_reducible rfl)
  simp only [List.getElem_toArray, List.getElem_cons_succ, List.getElem_cons_zero, Act.put, List.setIfInBounds_toArray, List.set_cons_zero, List.set_cons_succ]
  refine wpAnyX_take (i := 2) (v := ?_) rfl (by kernel_rfl) (by decide) (by kernel_rfl) (by kernel_rfl) (by kernel_rfl) (by kernel_rfl) (fun _ _ _ h => h) (Or.inl ⟨by rfl, ?_⟩) hSw ?_
  rotate_left
  · intro w9 hS9; (try dsimp only at hS9); obtain ⟨s1, s2⟩ := hS9; go_simp; (try with_reducible rfl)
  simp only [List.getElem_toArray, List.getElem_cons_succ, List.getElem_cons_zero, Act.put, List.setIfInBounds_toArray, List.set_cons_zero, List.set_cons_succ]
  refine wpAnyX_take (i := 3) (v := ?_) rfl (by kernel_rfl) (by decide) (by kernel_rfl) (by kernel_rfl) (by kernel_rfl) (by kernel_rfl) (fun _ _ _ h => h) (Or.inl ⟨by rfl, ?_⟩) hSw ?_
  rotate_left
  · intro w9 hS9; (try dsimp only at hS9); obtain ⟨s1, s2⟩ := hS9; go_simp; (try with_reducible rfl)
  simp only [List.getElem_toArray, List.getElem_cons_succ, List.getElem_cons_zero, Act.put, List.setIfInBounds_toArray, List.set_cons_zero, List.set_cons_succ]
  refine wpAnyX_take (i := 4) (v := ?_) rfl (by kernel_rfl) (by decide) (by kernel_rfl) (by kernel_rfl) (by kernel_rfl) (by kernel_rfl) (fun _ _ _ h => h) (Or.inl ⟨by rfl, ?_⟩) hSw ?_
  rotate_left
  · intro w9 hS9; (try dsimp only at hS9); obtain ⟨s1, s2⟩ := hS9; go_simp; (try with_reducible rfl)
  simp only [List.getElem_toArray, List.getElem_cons_succ, List.getElem_cons_zero, Act.put, List.setIfInBounds_toArray, List.set_cons_zero, List.set_cons_succ]
  refine wpAnyX_take (i := 5) (v := ?_) rfl (by kernel_rfl) (by decide) (by kernel_rfl) (by kernel_rfl) (by kernel_rfl) (by kernel_rfl) (fun _ _ _ h => h) (Or.inl ⟨by rfl, ?_⟩) hSw ?_
  rotate_left
  · intro w9 hS9; (try dsimp only at hS9); obtain ⟨s1, s2⟩ := hS9; go_simp; (try with_reducible rfl)
  simp only [List.getElem_toArray, List.getElem_cons_succ, List.getElem_cons_zero, Act.put, List.setIfInBounds_toArray, List.set_cons_zero, List.set_cons_succ]
  refine wpAnyX_ready (rs := [6]) (by kernel_rfl) (by simp) ?_
  refine AllReadyX.cons rfl (fun K hK => ?_) AllReadyX.nil
  simp only [List.getElem_toArray, List.getElem_cons_succ, List.getElem_cons_zero]
  go_simp
  refine hK.out _ _ ⟨cell_alloc hSw.1 _, cell_alloc hSw.2 _⟩ (fun hSw => ?_)
  clear hK K
  refine wpAnyX_ready (rs := [7]) (by kernel_rfl) (by simp) ?_
  refine AllReadyX.cons rfl (fun K hK => ?_) AllReadyX.nil
  simp only [List.getElem_toArray, List.getElem_cons_succ, List.getElem_cons_zero]
  refine step_appX et_intss (.tmp 16) (.tmp 18) rfl rfl base (.slice Ao k co) k vs rfl (own_drewN (Hor1.out.alloc _) 1) (some ⟨w1.heap.size, 0, none⟩) 1 1 [.slice A1 n c1] rfl (rd_newN w1 _ _ _ rfl) rfl (by simp [Value.oneCell']) (by omega) (by unfold maxLen; omega) (by simp; omega) ?_
  intro A7 c7 w7 ho7 hb7 hg7 _
  have hg7 := grown_undrew hg7
  have hS7 := block_grown (o := .cells #[.slice A1 n c1] 22 (0, 0)) HT2.out (by decide) Hor1.out hg7
  have hP7 := block_grown (o := .cells #[.slice A1 n c1] 22 (0, 0)) HQ2.out (by decide) Hor1.out hg7
  have hb7' := block_grown (o := .cells #[.slice A1 n c1] 22 (0, 0)) HS1.out.blk (by decide) Hor1.out hg7
  have i0 := cell_of_row w7 _ 0 _ _ _ hP7
  have i3 := cell_of_row w7 _ 3 _ _ _ hS7
  have if3 := frozen_of_row w7 _ 3 _ _ hS7
  have HO7 := Lib.hid ho7; have HS7 := Lib.hid hS7; have Hg7 := Lib.hid hg7; have Hb7 := Lib.hid hb7; have HB7 := Lib.hid hb7'; clear ho7 hS7 hg7 hb7 hP7 hb7'
  dsimp only
  refine hK.out _ _ ⟨i0, i3⟩ (fun hSw => ?_)
  clear hK K hSw
  refine wpAnyX_tail (by rfl) (by kernel_rfl) ?_
  simp only [List.drop_succ_cons, List.drop_zero]
  go_wp2_with fail
  have hS8 := heap_setCell_same w7 S 3 _ _ (.slice A7 (k + 1) c7) HS7.out
  have hk8 : Keep (fun j => j = S) w7 (w7.setCell ⟨S, 3, none⟩ (.slice A7 (k + 1) c7)) := Keep.setCell (S := fun j => j = S) (Keep.refl _ _) ⟨S, 3, none⟩ (.inr rfl) _
  have ho8 := hk8.own HO7.out (fun j hj e => block_notrow HS7.out (by decide) HO7.out (by rw [hj, e]))
  have hb8 := (hk8.block b (by have := lt_of_block HB7.out; omega) (fun e => HbS.out e)).trans HB7.out
  have hrow : ∀ base' m v xs, w1.ownsRow base' 3 1 v m xs → (w7.setCell ⟨S, 3, none⟩ (.slice A7 (k + 1) c7)).ownsRow base' 3 1 v m xs := fun base' m v xs h => own_past h Hor1.out Hg7.out HS7.out (by decide) (by decide)
  have hKall : Keep (fun j => j = b ∨ j = S ∨ base ≤ j) w (w7.setCell ⟨S, 3, none⟩ (.slice A7 (k + 1) c7)) := by
    refine ⟨hk8.os.trans (Hb7.out.os.trans HK1.out.os), hk8.tape.trans (Hb7.out.tape.trans HK1.out.tape), hk8.output.trans (Hb7.out.output.trans HK1.out.output), ?_, fun j hj hn => ?_⟩
    · have := Hb7.out.size; have := hk8.size; simp at *; omega
    · have hnb : ¬ j = b := fun e => hn (.inl e)
      have hnS : ¬ j = S := fun e => hn (.inr (.inl e))
      have hnB : j < base := by rcases Nat.lt_or_ge j base with h | h; exact h; exact absurd (.inr (.inr h)) hn
      have h1 := HK1.out.block j hj hnb
      have h2 := Hb7.out.block j hnB
      have h3 := hk8.block j (by have := Hb7.out.size; simp at this; omega) hnS
      refine h3.trans (h2.trans (Eq.trans ?_ h1))
      exact Below.heap_alloc w1 _ j (by omega)
  have HS8 := Lib.hid hS8; have Ho8 := Lib.hid ho8; have Hb8 := Lib.hid hb8; have Hrow := Lib.hid hrow; have HKall := Lib.hid hKall
  clear hS8 hk8 ho8 hb8 hrow hKall
  go_ret
  refine ⟨rfl, A1, c1, A7, c7, HS8.out, Ho8.out, Hc1.out, ?_, Hb8.out, fun base' m v xs hr => Hrow.out _ _ _ _ (HK1.out.own hr (fun j hj e => Hall.out _ _ _ _ hr j hj e)), HKall.out⟩
  exact Hrow.out _ _ _ _ (own_base Ho1.out hbase)
end Go.Proofs.YtfiojofcafjfeaaGreat
