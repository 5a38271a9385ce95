/- plan.setting.rounds. -/
import Derived.Test.YtaccfnffmbndhaaPlanL
set_option linter.unusedSimpArgs false
set_option linter.unusedVariables false
namespace Go.Proofs.Ytaccfnffmbndhaa
open Go.RowKit

theorem flat_at {α β : Type} {g : α → List β} {n : Nat} (hn : ∀ a, (g a).length = n) : ∀ {l : List α} {i : Nat} {a : α}, l[i]? = some a → ∀ f, f < n → (l.flatMap g)[i * n + f]? = (g a)[f]?
  | [], _, _, h, _, _ => by simp at h
  | x :: l, 0, a, h, f, hf => by
    simp only [List.getElem?_cons_zero, Option.some.injEq] at h
    subst h
    rw [List.flatMap_cons, Nat.zero_mul, Nat.zero_add, List.getElem?_append_left (by rw [hn]; exact hf)]
  | x :: l, i + 1, a, h, f, hf => by
    simp only [List.getElem?_cons_succ] at h
    rw [List.flatMap_cons, List.getElem?_append_right (by rw [hn, Nat.succ_mul]; omega), hn, show (i + 1) * n + f - n = i * n + f by rw [Nat.succ_mul]; omega]
    exact flat_at hn h f hf
theorem acn_len (a : Acn) : (acnCells a).length = 9 := rfl
/-- The cells of an action in a row. -/
theorem acn_cell {w : World} {base n g c : Nat} {l : List Acn} {e : TypeId} (h : w.ownsRow base e 9 (.slice (some ⟨g, 0, none⟩) n c) n (acnVals l)) {i : Nat} {a : Acn} (hi : l[i]? = some a) (hl : l.length = n) :
    ∀ f, f < 9 → w.cell? ⟨g, i * 9 + f, none⟩ = (acnCells a)[f]? := fun f hf => by
  have h1 : i < l.length := (List.getElem?_eq_some_iff.1 hi).1
  have h2 := h.1
  have h3 := flat_at acn_len hi f hf
  rw [h.cellAt _ (by omega), acnVals, h3]
/-- How long. -/
theorem segR_in2 {b : Rg} {k : Nat} {M : Nat} (h1 : 1 ≤ k) (hb1 : b.1 ≤ b.2) (hb : b.2 ≤ M) : ∀ r ∈ segR b k, r.2 ≤ M := by
  intro r hr
  simp only [segR, shR, evenR, List.map_map, List.mem_map, List.mem_range, Function.comp] at hr
  obtain ⟨i, hi, rfl⟩ := hr
  have c := bdN_le (b.2 - b.1) k (i + 1) h1 (by omega)
  simp only
  omega
theorem cntQ_len (n c : Nat) : cntQ n c ≤ n := by
  unfold cntQ
  split
  · omega
  · have := Nat.div_le_self (n - 1) c
    omega
theorem chR_le {b : Rg} {W c s M : Nat} (h1 : 1 ≤ W) (hb1 : b.1 ≤ b.2) (hb : b.2 ≤ M) : (chR (rgAt (segR b W) s) c).length ≤ M := by
  rw [chR_len]
  have h := cntQ_len ((rgAt (segR b W) s).2 - (rgAt (segR b W) s).1) c
  rcases Nat.lt_or_ge s (segR b W).length with hs | hs
  · have := segR_in2 h1 hb1 hb _ (List.getElem_mem hs)
    rw [← rgAt_eq _ _ hs] at this
    omega
  · have : rgAt (segR b W) s = (0, 0) := by simp [rgAt, List.getD, hs]
    rw [this] at h ⊢
    exact Nat.le_trans h (Nat.zero_le _)
theorem roundL_le {st bk : Nat} {b : Rg} {W c w ph r M : Nat} (h1 : 1 ≤ W) (hb1 : b.1 ≤ b.2) (hb : b.2 ≤ M) : (roundL st bk b W c w ph r).length ≤ 2 * M := by
  rw [roundL_len]
  have h2 := chR_le (c := c) (s := segOut W w ph r) h1 hb1 hb
  have h3 := chR_le (c := c) (s := segIn W w ph r) h1 hb1 hb
  omega
/-- What the rounds add: the first k of them. -/
def jobsL (p : Pln) (w st k lo : Nat) (n : Nat) : List Itm := (List.range' lo n).flatMap fun j => roundI p w st (k / (p.W - 1)) (k % (p.W - 1)) j
def roundsL (p : Pln) (w st : Nat) (g : Rg) (k : Nat) : List Itm := (List.range k).flatMap fun k => jobsL p w st k g.1 (g.2 - g.1)
theorem jobsL_succ (p : Pln) (w st k lo n : Nat) : jobsL p w st k lo (n + 1) = jobsL p w st k lo n ++ roundI p w st (k / (p.W - 1)) (k % (p.W - 1)) (lo + n) := by
  simp [jobsL, List.range'_concat]
theorem roundsL_succ (p : Pln) (w st : Nat) (g : Rg) (k : Nat) : roundsL p w st g (k + 1) = roundsL p w st g k ++ jobsL p w st k g.1 (g.2 - g.1) := by
  simp [roundsL, List.range_succ]
theorem jobsL_le {p : Pln} {w st k lo n M : Nat} (h : ∀ ph r j, (roundI p w st ph r j).length ≤ M) : (jobsL p w st k lo n).length ≤ n * M := by
  induction n with
  | zero => simp [jobsL]
  | succ n ih => rw [jobsL_succ, List.length_append, Nat.succ_mul]; have := h (k / (p.W - 1)) (k % (p.W - 1)) (lo + n); omega
theorem roundsL_le {p : Pln} {w st k M : Nat} {g : Rg} (h : ∀ ph r j, (roundI p w st ph r j).length ≤ M) : (roundsL p w st g k).length ≤ k * ((g.2 - g.1) * M) := by
  induction k with
  | zero => simp [roundsL]
  | succ k ih => rw [roundsL_succ, List.length_append, Nat.succ_mul]; have := jobsL_le (w := w) (st := st) (k := k) (lo := g.1) (n := g.2 - g.1) h; omega
theorem roundsL_at {p : Pln} {w st k lo n m : Nat} (hm : p.W - 1 = m) {ph r : Nat} (h1 : k / m = ph) (h2 : k % m = r) : jobsL p w st k lo n = (List.range' lo n).flatMap fun j => roundI p w st ph r j := by
  unfold jobsL
  rw [hm, h1, h2]
/-- All of them, as in groupL. -/
theorem roundsL_all (p : Pln) (w st : Nat) (g : Rg) : roundsL p w st g (2 * (p.W - 1)) = (List.range 2).flatMap fun ph => (List.range (p.W - 1)).flatMap fun r => (List.range' g.1 (g.2 - g.1)).flatMap fun j => roundI p w st ph r j := by
  obtain ⟨m, hm⟩ : ∃ m, p.W - 1 = m := ⟨_, rfl⟩
  obtain ⟨F, hF⟩ : ∃ F : Nat → Nat → List Itm, (fun ph r => (List.range' g.1 (g.2 - g.1)).flatMap fun j => roundI p w st ph r j) = F := ⟨_, rfl⟩
  have hF2 : ∀ ph r, ((List.range' g.1 (g.2 - g.1)).flatMap fun j => roundI p w st ph r j) = F ph r := fun ph r => by rw [← hF]
  have h0 : ∀ k, k ≤ m → roundsL p w st g k = (List.range k).flatMap (F 0) := by
    intro k
    induction k with
    | zero => intro _; rfl
    | succ k ih =>
      intro hk
      have e := roundsL_at (w := w) (st := st) (lo := g.1) (n := g.2 - g.1) hm (Nat.div_eq_of_lt (show k < m by omega)) (Nat.mod_eq_of_lt (show k < m by omega))
      rw [roundsL_succ, ih (by omega), e, hF2, List.range_succ, List.flatMap_append]
      simp only [List.flatMap_cons, List.flatMap_nil, List.append_nil]
  have h1 : ∀ k, k ≤ m → roundsL p w st g (m + k) = roundsL p w st g m ++ (List.range k).flatMap (F 1) := by
    intro k
    induction k with
    | zero => intro _; simp only [Nat.add_zero, List.range_zero, List.flatMap_nil, List.append_nil]
    | succ k ih =>
      intro hk
      have d : (m + k) / m = 1 := by rw [Nat.add_div_left k (by omega), Nat.div_eq_of_lt (by omega)]
      have d2 : (m + k) % m = k := by rw [Nat.add_mod_left, Nat.mod_eq_of_lt (by omega)]
      have e := roundsL_at (w := w) (st := st) (lo := g.1) (n := g.2 - g.1) hm d d2
      rw [← Nat.add_assoc, roundsL_succ, ih (by omega), e, hF2, List.range_succ, List.flatMap_append, List.append_assoc]
      simp only [List.flatMap_cons, List.flatMap_nil, List.append_nil]
  simp only [hF2]
  rw [hm, show 2 * m = m + m by omega, h1 m (Nat.le_refl _), h0 m (Nat.le_refl _)]
  show _ = List.flatMap (fun ph => (List.range m).flatMap (F ph)) [0, 1]
  simp only [List.flatMap_cons, List.flatMap_nil, List.append_nil]
end Go.Proofs.Ytaccfnffmbndhaa
