/- Fair picks, in plain words: what the program asks and what the reference asks is the same. -/
import Derived.Test.YtaccfnffmbndhaaLib
set_option linter.unusedSimpArgs false
set_option linter.unusedVariables false
namespace Go.Proofs.Ytaccfnffmbndhaa

/-- The number of workers is right. -/
def rightB (n : Int) : Bool := decide (1 ≤ n ∧ n ≤ 64)
/-- The picks of all workers in turn. -/
def turns (m : Int) (n : Nat) : List Int := (List.range n).map fun i : Nat => (i : Int) % m
theorem turns_succ (m : Int) (n : Nat) : turns m (n + 1) = turns m n ++ [(n : Int) % m] := by simp [turns, List.range_succ]
theorem turns_length (m : Int) (n : Nat) : (turns m n).length = n := by simp [turns]
theorem turns_nth (m : Int) (n k : Nat) (h : k < n) : nth (turns m n) k = (k : Int) % m := by
  rw [nth_eq _ _ (by rw [turns_length]; exact h)]; simp [turns]
/-- What Turns gives. -/
def turnsOf (m n : Int) : List Int := if rightB m = true then turns m n.toNat else []

/-- The place of the last pick of x among the first i. -/
def lastAt (l : List Int) : Nat → Int → Option Nat
  | 0, _ => none
  | i + 1, x => if nth l i = x then some i else lastAt l i x
theorem lastAt_none (l : List Int) (x : Int) : ∀ i, lastAt l i x = none ↔ ∀ j, j < i → nth l j ≠ x := by
  intro i
  induction i with
  | zero => simp [lastAt]
  | succ i ih =>
    simp only [lastAt]
    split
    · rename_i h; constructor
      · intro h'; cases h'
      · intro h'; exact absurd h (h' i (by omega))
    · rename_i h; rw [ih]; constructor
      · intro h' j hj
        rcases Nat.lt_or_ge j i with hji | hji
        · exact h' j hji
        · obtain rfl : j = i := by omega
          exact h
      · intro h' j hj; exact h' j (by omega)
theorem lastAt_some (l : List Int) (x : Int) : ∀ i k, lastAt l i x = some k → k < i ∧ nth l k = x ∧ ∀ j, k < j → j < i → nth l j ≠ x := by
  intro i
  induction i with
  | zero => simp [lastAt]
  | succ i ih =>
    intro k h
    simp only [lastAt] at h
    split at h
    · rename_i hx; cases h; exact ⟨by omega, hx, fun j h1 h2 => by omega⟩
    · rename_i hx
      obtain ⟨h1, h2, h3⟩ := ih k h
      refine ⟨by omega, h2, fun j hj hj2 => ?_⟩
      rcases Nat.lt_or_ge j i with hji | hji
      · exact h3 j hj hji
      · obtain rfl : j = i := by omega
        exact hx

/-- The pick at a place is in range, and the last one of the same worker is far enough. -/
def goodB (m : Int) (l : List Int) (i : Nat) : Bool :=
  decide (0 ≤ nth l i ∧ nth l i < m) && match lastAt l i (nth l i) with
    | none => true
    | some j => decide (m ≤ (i : Int) - (j : Int))
theorem goodB_iff (m : Int) (l : List Int) (i : Nat) : goodB m l i = true ↔ (0 ≤ nth l i ∧ nth l i < m) ∧ ∀ j, j < i → nth l j = nth l i → m ≤ (i : Int) - (j : Int) := by
  unfold goodB
  rw [Bool.and_eq_true, decide_eq_true_iff]
  refine and_congr_right fun _ => ?_
  cases h : lastAt l i (nth l i) with
  | none =>
    have := (lastAt_none l _ i).1 h
    simp only [true_iff]
    intro j hj e; exact absurd e (this j hj)
  | some k =>
    obtain ⟨h1, h2, h3⟩ := lastAt_some l _ i k h
    simp only [decide_eq_true_iff]
    constructor
    · intro hm j hj e
      rcases Nat.lt_or_ge k j with hkj | hkj
      · exact absurd e (h3 j hkj hj)
      · omega
    · intro hm; exact hm k h1 h2

/-- How many picks are wrong among the first i. -/
def wrongs (m : Int) (l : List Int) : Nat → Nat
  | 0 => 0
  | i + 1 => wrongs m l i + if goodB m l i = true then 0 else if m ≤ l.length then 1 else 0
theorem wrongs_le (m : Int) (l : List Int) : ∀ i, wrongs m l i ≤ i := by
  intro i
  induction i with
  | zero => simp [wrongs]
  | succ i ih => simp only [wrongs]; split <;> (try split) <;> omega
theorem wrongs_zero (m : Int) (l : List Int) : ∀ i, wrongs m l i = 0 ↔ (m ≤ l.length → ∀ j, j < i → goodB m l j = true) := by
  intro i
  induction i with
  | zero => simp [wrongs]
  | succ i ih =>
    simp only [wrongs]
    constructor
    · intro h hm j hj
      have h0 : wrongs m l i = 0 := by omega
      rcases Nat.lt_or_ge j i with hji | hji
      · exact ih.1 h0 hm j hji
      · obtain rfl : j = i := by omega
        by_cases hg : goodB m l j = true
        · exact hg
        · rw [if_neg hg, if_pos hm] at h; omega
    · intro h
      have h0 := ih.2 fun hm j hj => h hm j (by omega)
      by_cases hg : goodB m l i = true
      · rw [h0, if_pos hg]
      · by_cases hm : m ≤ l.length
        · exact absurd (h hm i (by omega)) hg
        · rw [h0, if_neg hg, if_neg hm]

/-- What the program's Fair gives. -/
def fairB (m : Int) (l : List Int) : Bool := rightB m && decide (wrongs m l l.length = 0)

/-- How often x stands among the first k places of l. -/
def times (x : Int) (l : List Int) : Nat → Nat
  | 0 => 0
  | k + 1 => times x l k + if nth l k = x then 1 else 0
theorem times_le (x : Int) (l : List Int) : ∀ k, times x l k ≤ k := by
  intro k
  induction k with
  | zero => simp [times]
  | succ k ih => simp only [times]; split <;> omega
/-- Each worker exactly once. -/
def onceB (m : Int) (l : List Int) : Bool := (List.range m.toNat).all fun w => decide (times (w : Int) l l.length = 1)
/-- What the reference's Fair gives. -/
def fairR (m : Int) (l : List Int) : Bool :=
  rightB m && (List.range (l.length + 1 - m.toNat)).all fun i => onceB m ((l.drop i).take m.toNat)

theorem times_pos (x : Int) (l : List Int) : ∀ k, 0 < times x l k ↔ ∃ j, j < k ∧ nth l j = x := by
  intro k
  induction k with
  | zero => simp [times]
  | succ k ih =>
    simp only [times]
    split
    · rename_i h; constructor
      · intro _; exact ⟨k, by omega, h⟩
      · intro _; omega
    · rename_i h
      rw [Nat.add_zero, ih]
      constructor
      · rintro ⟨j, hj, e⟩; exact ⟨j, by omega, e⟩
      · rintro ⟨j, hj, e⟩
        refine ⟨j, ?_, e⟩
        rcases Nat.lt_or_ge j k with hjk | hjk
        · exact hjk
        · obtain rfl : j = k := by omega
          exact absurd e h
theorem times_one_inj (x : Int) (l : List Int) : ∀ k, times x l k ≤ 1 → ∀ i j, i < k → j < k → nth l i = x → nth l j = x → i = j := by
  intro k
  induction k with
  | zero => intro _ i j hi; omega
  | succ k ih =>
    intro h i j hi hj ei ej
    simp only [times] at h
    have hle : times x l k ≤ 1 := by omega
    rcases Nat.lt_or_ge i k with hik | hik <;> rcases Nat.lt_or_ge j k with hjk | hjk
    · exact ih hle i j hik hjk ei ej
    · obtain rfl : j = k := by omega
      have : 0 < times x l j := (times_pos x l j).2 ⟨i, hik, ei⟩
      rw [if_pos ej] at h; omega
    · obtain rfl : i = k := by omega
      have : 0 < times x l i := (times_pos x l i).2 ⟨j, hjk, ej⟩
      rw [if_pos ei] at h; omega
    · omega
theorem times_two (x : Int) (l : List Int) : ∀ k, 1 < times x l k → ∃ i j, i < j ∧ j < k ∧ nth l i = x ∧ nth l j = x := by
  intro k
  induction k with
  | zero => simp [times]
  | succ k ih =>
    intro h
    simp only [times] at h
    split at h
    · rename_i e
      obtain ⟨i, hi, ei⟩ := (times_pos x l k).1 (by omega)
      exact ⟨i, k, hi, by omega, ei, e⟩
    · obtain ⟨i, j, h1, h2, h3⟩ := ih (by omega)
      exact ⟨i, j, h1, by omega, h3⟩

theorem nodup_len {l : List Nat} : ∀ {l' : List Nat}, l.Nodup → (∀ y ∈ l, y ∈ l') → l.length ≤ l'.length := by
  induction l with
  | nil => intro l' _ _; simp
  | cons a l ih =>
    intro l' hd h
    have ha : a ∈ l' := h a (by simp)
    rw [List.nodup_cons] at hd
    have h1 := ih (l' := l'.erase a) hd.2 fun y hy => (List.mem_erase_of_ne (by rintro rfl; exact hd.1 hy)).2 (h y (by simp [hy]))
    rw [List.length_erase_of_mem ha] at h1
    have := List.length_pos_of_mem ha
    simp; omega
/-- A list of m different numbers below m has each of them. -/
theorem each_of_inj (l : List Int) (m : Nat) (hr : ∀ i, i < m → 0 ≤ nth l i ∧ nth l i < m) (hi : ∀ i j, i < m → j < m → nth l i = nth l j → i = j) (x : Nat) (hx : x < m) : ∃ i, i < m ∧ nth l i = x := by
  apply Classical.byContradiction
  intro hno
  have hno' : ∀ i, i < m → nth l i ≠ x := fun i hi e => hno ⟨i, hi, e⟩
  -- the m places inject into m - 1 numbers
  let f : Nat → Nat := fun i => (nth l i).toNat
  have hsub : ((List.range m).map f).Nodup := by
    rw [List.nodup_iff_pairwise_ne, List.pairwise_map]
    refine List.Pairwise.imp_of_mem ?_ (List.nodup_iff_pairwise_ne.1 List.nodup_range)
    intro a b ha hb hne e
    have ha' : a < m := by simpa using ha
    have hb' : b < m := by simpa using hb
    have h1 := (hr a ha'); have h2 := (hr b hb')
    exact hne (hi a b ha' hb' (by simp only [f] at e; omega))
  have hmem : ∀ y ∈ (List.range m).map f, y ∈ (List.range m).erase x := by
    intro y hy
    obtain ⟨i, hi', rfl⟩ := List.mem_map.1 hy
    have hi'' : i < m := by simpa using hi'
    have h1 := hr i hi''
    have h2 := hno' i hi''
    rw [List.Nodup.mem_erase_iff List.nodup_range]
    exact ⟨by simp only [f]; omega, by simp [f]; omega⟩
  have hlen := nodup_len hsub hmem
  rw [List.length_map, List.length_range, List.length_erase_of_mem (by simpa using hx), List.length_range] at hlen
  omega

theorem nth_window (l : List Int) (i m j : Nat) (hj : j < m) (h : i + m ≤ l.length) : nth ((l.drop i).take m) j = nth l (i + j) := by
  rw [nth_eq _ _ (by simp; omega), nth_eq _ _ (by omega)]
  simp
theorem window_length (l : List Int) (i m : Nat) (h : i + m ≤ l.length) : ((l.drop i).take m).length = m := by simp; omega

theorem onceB_iff (m : Nat) (l : List Int) (hl : l.length = m) : onceB m l = true ↔ (∀ i, i < m → 0 ≤ nth l i ∧ nth l i < m) ∧ ∀ i j, i < m → j < m → nth l i = nth l j → i = j := by
  unfold onceB
  simp only [Int.toNat_natCast, List.all_eq_true, List.mem_range, decide_eq_true_iff, hl]
  constructor
  · intro h
    have hfirst : ∀ x, x < m → ∃ i, i < m ∧ nth l i = (x : Int) := fun x hx => (times_pos _ l m).1 (by rw [h x hx]; omega)
    -- m numbers are taken at m places: so no place holds anything else
    have hall : ∀ i, i < m → 0 ≤ nth l i ∧ nth l i < m := by
      intro i hi
      apply Classical.byContradiction
      intro hbad
      -- places of the numbers 0 .. m-1 are m different places, none of them i
      let g : Nat → Nat := fun x => if hx : x < m then (hfirst x hx).choose else 0
      have hg : ∀ x, x < m → g x < m ∧ nth l (g x) = (x : Int) := fun x hx => by
        simp only [g, dif_pos hx]; exact (hfirst x hx).choose_spec
      have hnd : ((List.range m).map g).Nodup := by
        rw [List.nodup_iff_pairwise_ne, List.pairwise_map]
        refine List.Pairwise.imp_of_mem ?_ (List.nodup_iff_pairwise_ne.1 List.nodup_range)
        intro a b ha hb hne e
        have h1 := (hg a (by simpa using ha)).2; have h2 := (hg b (by simpa using hb)).2
        rw [e, h2] at h1
        exact hne (by omega)
      have hmem : ∀ y ∈ (List.range m).map g, y ∈ (List.range m).erase i := by
        intro y hy
        obtain ⟨x, hx', rfl⟩ := List.mem_map.1 hy
        have hx : x < m := by simpa using hx'
        rw [List.Nodup.mem_erase_iff List.nodup_range]
        refine ⟨fun e => hbad ?_, by simpa using (hg x hx).1⟩
        have := (hg x hx).2
        rw [e] at this
        rw [this]; omega
      have hlen := nodup_len hnd hmem
      rw [List.length_map, List.length_range, List.length_erase_of_mem (by simpa using hi), List.length_range] at hlen
      omega
    refine ⟨hall, fun i j hi hj e => ?_⟩
    have hr := hall i hi
    have h1 := h (nth l i).toNat (by omega)
    exact times_one_inj (nth l i) l m (by rw [Int.toNat_of_nonneg hr.1] at h1; omega) i j hi hj rfl e.symm
  · rintro ⟨hr, hinj⟩ x hx
    have hpos := (times_pos (x : Int) l m).2 (each_of_inj l m hr hinj x hx)
    rcases Nat.lt_or_ge 1 (times (x : Int) l m) with h2 | h2
    · obtain ⟨i, j, h1, h3, h4, h5⟩ := times_two _ l m h2
      have := hinj i j (by omega) h3 (h4.trans h5.symm)
      omega
    · omega

theorem fair_same (m : Int) (l : List Int) : fairB m l = fairR m l := by
  unfold fairB fairR
  by_cases hr : rightB m = true
  · rw [hr, Bool.true_and, Bool.true_and, Bool.eq_iff_iff, decide_eq_true_iff, wrongs_zero]
    have hm : 1 ≤ m ∧ m ≤ 64 := by simpa [rightB] using hr
    obtain ⟨M, rfl⟩ := Int.eq_ofNat_of_zero_le (show 0 ≤ m by omega)
    simp only [Int.toNat_natCast, List.all_eq_true, List.mem_range]
    constructor
    · intro h i hi
      have hlen : i + M ≤ l.length := by omega
      rw [onceB_iff M _ (window_length l i M hlen)]
      refine ⟨fun a ha => ?_, fun a b ha hb e => ?_⟩
      · rw [nth_window l i M a ha hlen]
        exact ((goodB_iff _ l _).1 (h (by omega) (i + a) (by omega))).1
      · rw [nth_window l i M a ha hlen, nth_window l i M b hb hlen] at e
        rcases Nat.lt_trichotomy a b with hab | hab | hab
        · have := ((goodB_iff _ l _).1 (h (by omega) (i + b) (by omega))).2 (i + a) (by omega) e; omega
        · exact hab
        · have := ((goodB_iff _ l _).1 (h (by omega) (i + a) (by omega))).2 (i + b) (by omega) e.symm; omega
    · intro h hlen j hj
      have hlen' : M ≤ l.length := by omega
      rw [goodB_iff]
      -- a window that holds place j
      refine ⟨?_, fun a ha e => ?_⟩
      · let i := min j (l.length - M)
        have hw := (onceB_iff M _ (window_length l i M (by omega))).1 (h i (by omega))
        have := hw.1 (j - i) (by omega)
        rwa [nth_window l i M (j - i) (by omega) (by omega), show i + (j - i) = j by omega] at this
      · apply Classical.byContradiction
        intro hbad
        let i := min a (l.length - M)
        have hw := (onceB_iff M _ (window_length l i M (by omega))).1 (h i (by omega))
        have := hw.2 (a - i) (j - i) (by omega) (by omega) (by
          rw [nth_window l i M (a - i) (by omega) (by omega), nth_window l i M (j - i) (by omega) (by omega), show i + (a - i) = a by omega, show i + (j - i) = j by omega]; exact e)
        omega
  · rw [Bool.not_eq_true] at hr
    rw [hr]; rfl

theorem fair_turns (m : Int) (n : Nat) (h : rightB m = true) : fairB m (turns m n) = true := by
  have hm : 1 ≤ m ∧ m ≤ 64 := by simpa [rightB] using h
  unfold fairB
  rw [h, Bool.true_and, decide_eq_true_iff, wrongs_zero]
  intro _ j hj
  rw [turns_length] at hj
  rw [goodB_iff, turns_nth m n j hj]
  refine ⟨⟨Int.emod_nonneg _ (by omega), Int.emod_lt_of_pos _ (by omega)⟩, fun i hi e => ?_⟩
  rw [turns_nth m n i (by omega)] at e
  have hd : m ∣ (j : Int) - (i : Int) := Int.dvd_of_emod_eq_zero (by rw [Int.sub_emod, e]; simp)
  exact Int.le_of_dvd (by omega) hd
end Go.Proofs.Ytaccfnffmbndhaa
