/- Data that came in, opened part by part: what each type's cells read as. A world whose blocks below a number are empty: what is read there lies above. A network in plain lists: its weights and biases, its values, its gradient; and in memory. The walks of package vec. No condition. -/
import Derived.Test.YtfiojofcafjfeaaGreatJ01
import Derived.ProofKit
import Derived.OpenShut
import Derived.Deep.Slices
import Derived.Test.YtfiojofcafjfeaaGreatJ02
import Derived.Test.YtfiojofcafjfeaaGreatJ03
import Derived.WalkSpells
import Derived.Deep.RegionHeld3
set_option linter.unusedSimpArgs false
set_option linter.unusedVariables false
namespace Go.Proofs.YtfiojofcafjfeaaGreat
open Go.RowKit Go.ChangeShapes Go.WideShapes Go.ChangeAt

/-- How some cells read: a world, the cells, what they say. -/
abbrev Reader (α : Type) := World → List Value → α → Prop
/-- What is read stays where no old block is changed. -/
def Stays {α : Type} (R : Reader α) : Prop := ∀ {w w' : World} {cs : List Value} {a : α}, Below w.heap.size w w' → R w cs a → R w' cs a

def rowOf (l : List (List Value)) (j : Nat) : List Value := l.getD j []
theorem rowOf_get {l : List (List Value)} {j : Nat} (h : j < l.length) : rowOf l j = l[j] := by simp [rowOf, h]
theorem flat_get {rows : List (List Value)} {k : Nat} (h : ∀ r ∈ rows, r.length = k) (i t : Nat) (hi : i < rows.length) (ht : t < k) : (List.flatten rows)[i * k + t]? = (rowOf rows i)[t]? := by
  induction rows generalizing i with
  | nil => simp at hi
  | cons r l ih =>
    have hr : r.length = k := h r (by simp)
    cases i with
    | zero =>
      rw [List.flatten_cons, Nat.zero_mul, Nat.zero_add, List.getElem?_append_left (by omega)]
      simp [rowOf]
    | succ i =>
      rw [List.flatten_cons, List.getElem?_append_right (by rw [hr, Nat.add_mul]; omega), hr, show (i + 1) * k + t - k = i * k + t by rw [Nat.add_mul]; omega, ih (fun r hr => h r (by simp [hr])) i (by simpa using hi)]
      simp [rowOf]
theorem flat_len {rows : List (List Value)} {k : Nat} (h : ∀ r ∈ rows, r.length = k) : (List.flatten rows).length = rows.length * k := by
  induction rows with
  | nil => simp
  | cons r l ih => rw [List.flatten_cons, List.length_append, h r (by simp), ih (fun r hr => h r (by simp [hr])), List.length_cons, Nat.add_mul]; omega
theorem flat_drop {rows : List (List Value)} {k : Nat} (h : ∀ r ∈ rows, r.length = k) : ∀ n, (List.flatten rows).drop (n * k) = List.flatten (rows.drop n) := by
  induction rows with
  | nil => intro n; simp
  | cons r l ih =>
    intro n
    cases n with
    | zero => simp
    | succ n =>
      have hr := h r (by simp)
      rw [List.flatten_cons, List.drop_append, List.drop_of_length_le (by rw [hr, Nat.add_mul]; omega), List.nil_append, hr, show (n + 1) * k - k = n * k by rw [Nat.add_mul]; omega, ih (fun r hr => h r (by simp [hr])) n, List.drop_succ_cons]
theorem flat_take {rows : List (List Value)} {k : Nat} (h : ∀ r ∈ rows, r.length = k) : ∀ n, (List.flatten rows).take (n * k) = List.flatten (rows.take n) := by
  induction rows with
  | nil => intro n; simp
  | cons r l ih =>
    intro n
    cases n with
    | zero => simp
    | succ n =>
      have hr := h r (by simp)
      rw [List.flatten_cons, List.take_append, List.take_of_length_le (by rw [hr, Nat.add_mul]; omega), hr, show (n + 1) * k - k = n * k by rw [Nat.add_mul]; omega, ih (fun r hr => h r (by simp [hr])) n, List.take_succ_cons, List.flatten_cons]

/-- The cells from A on hold l, each element in 'size' cells that R reads. -/
def SlRd {α : Type} (R : Reader α) (size : Nat) (w : World) (A : Option Addr) (l : List α) : Prop :=
  ∃ rows, Rd w A (List.flatten rows) ∧ rows.length = l.length ∧ (∀ r ∈ rows, r.length = size) ∧ ∀ j x, l[j]? = some x → R w (rowOf rows j) x
/-- A slice as a value. -/
def rSl {α : Type} (R : Reader α) (size : Nat) : Reader (List α) := fun w cs l => ∃ A c, cs = [.slice A l.length c] ∧ l.length ≤ c ∧ c ≤ 9223372036854775807 ∧ l.length ≤ 17592186043904 ∧ SlRd R size w A l
def rInt (k : IntKind) : Reader Int := fun _ cs n => cs = [.int k n] ∧ (Lit.int k n).wf = true
def rBool : Reader Bool := fun _ cs b => cs = [.bool b]
def rStr : Reader ByteArray := fun _ cs s => cs = [.string s] ∧ s.size ≤ 140737488351232
/-- A slice of numbers. -/
def rNums (q : IntKind) : Reader (List Int) := fun w cs zs => ∃ A c, cs = [.slice A zs.length c] ∧ zs.length ≤ c ∧ c ≤ 9223372036854775807 ∧ zs.length ≤ 17592186043904 ∧ Rd w A (nums q zs) ∧ ∀ z ∈ zs, (Lit.int q z).wf = true

theorem stays_int (k : IntKind) : Stays (rInt k) := fun _ h => h
theorem stays_bool : Stays rBool := fun _ h => h
theorem stays_str : Stays rStr := fun _ h => h
theorem stays_nums (q : IntKind) : Stays (rNums q) := fun hb ⟨A, c, h1, h2, h3, h6, h4, h5⟩ => ⟨A, c, h1, h2, h3, h6, h4.below hb, h5⟩
section
variable {α : Type} {R : Reader α} {size : Nat} {w w' : World} {A : Option Addr} {l : List α}
theorem SlRd.below (hR : Stays R) (h : SlRd R size w A l) (hb : Below w.heap.size w w') : SlRd R size w' A l := by
  obtain ⟨rows, h1, h2, h3, h4⟩ := h
  exact ⟨rows, h1.below hb, h2, h3, fun j x hx => hR hb (h4 j x hx)⟩
theorem stays_sl (hR : Stays R) (size : Nat) : Stays (rSl R size) := fun hb ⟨A, c, h1, h2, h3, h5, h4⟩ => ⟨A, c, h1, h2, h3, h5, h4.below hR hb⟩
theorem SlRd.nil (R : Reader α) (size : Nat) (w : World) (A : Option Addr) : SlRd R size w A [] := ⟨[], Rd.nil _ _, rfl, by simp, by simp⟩
/-- An element: where it lies, its cells, what they say. -/
theorem SlRd.get (h : SlRd R size w A l) (hs : 0 < size) {j : Nat} {x : α} (hx : l[j]? = some x) :
    ∃ b o cs, A = some ⟨b, o, none⟩ ∧ b < w.heap.size ∧ cs.length = size ∧ R w cs x ∧ w.cell? ⟨b, o + j * size, none⟩ = cs[0]? ∧ ∀ t, t < size → w.cell? ⟨b, o + j * size + t, none⟩ = cs[t]? := by
  obtain ⟨rows, h1, h2, h3, h4⟩ := h
  have hj : j < rows.length := by rw [h2]; exact (List.getElem?_eq_some_iff.1 hx).1
  have hrl : (rowOf rows j).length = size := h3 _ (by rw [rowOf_get hj]; exact List.getElem_mem hj)
  have hx0 : ∀ t, t < size → ∃ u, (rowOf rows j)[t]? = some u := fun t ht => ⟨_, List.getElem?_eq_getElem (by omega)⟩
  obtain ⟨u0, hu0⟩ := hx0 0 hs
  obtain ⟨b, o, rfl, c0⟩ := h1 (j * size + 0) u0 ((flat_get h3 j 0 hj hs).trans hu0)
  have hc : ∀ t, t < size → w.cell? ⟨b, o + j * size + t, none⟩ = (rowOf rows j)[t]? := fun t ht => by
    obtain ⟨u, hu⟩ := hx0 t ht
    obtain ⟨b', o', e', c⟩ := h1 (j * size + t) u ((flat_get h3 j t hj ht).trans hu)
    injection e' with e'; injection e' with e1 e2 _
    subst e1; subst e2
    rw [Nat.add_assoc, c, hu]
  refine ⟨b, o, rowOf rows j, rfl, lt_of_cell c0, hrl, h4 j x hx, ?_, hc⟩
  have := hc 0 hs
  rwa [Nat.add_zero] at this
theorem SlRd.drop (h : SlRd R size w A l) (hs : 0 < size) (n : Nat) (A' : Option Addr) (hA : ∀ b o, A = some ⟨b, o, none⟩ → A' = some ⟨b, o + n * size, none⟩) : SlRd R size w A' (l.drop n) := by
  by_cases hn : n < l.length
  · obtain ⟨b, o, _, rfl, _⟩ := h.get hs (List.getElem?_eq_getElem (show 0 < l.length by omega))
    obtain rfl := hA b o rfl
    obtain ⟨rows, h1, h2, h3, h4⟩ := h
    refine ⟨rows.drop n, ?_, by simp [h2], fun r hr => h3 r (List.mem_of_mem_drop hr), fun j x hx => ?_⟩
    · rw [← flat_drop h3]; exact h1.drop _
    · have := h4 (n + j) x (by simpa using hx)
      simpa [rowOf] using this
  · rw [List.drop_of_length_le (by omega)]; exact SlRd.nil _ _ _ _
theorem SlRd.take (h : SlRd R size w A l) (n : Nat) : SlRd R size w A (l.take n) := by
  obtain ⟨rows, h1, h2, h3, h4⟩ := h
  refine ⟨rows.take n, ?_, by simp [h2], fun r hr => h3 r (List.mem_of_mem_take hr), fun j x hx => ?_⟩
  · rw [← flat_take h3]; exact h1.take _
  · rw [List.getElem?_take] at hx
    split at hx
    · rename_i hj
      have := h4 j x hx
      simpa [rowOf, List.getElem?_take, hj] using this
    · cases hx
end

/-! Opening. -/
/-- No part of what was read is greater than memory. -/
def Light {H : Type} (P : Program) (t : TypeId) (d : DataW H) : Prop := ∀ n ∈ d.weights P t, n ≤ 140737488351232
theorem light_all {H : Type} {P : Program} {e : TypeId} : ∀ {l : List (DataW H)}, (∀ n ∈ DataW.weightsAll P e l, n ≤ 140737488351232) → ∀ (i : Nat) (d : DataW H), l[i]? = some d → Light P e d := by
  intro l
  induction l with
  | nil => intro _ i d h; simp at h
  | cons x r ih =>
    intro h i d hi
    unfold DataW.weightsAll at h
    cases i with
    | zero =>
      simp at hi; subst hi
      exact fun n hn => h n (List.mem_append.2 (.inl hn))
    | succ i => exact ih (fun n hn => h n (List.mem_append.2 (.inr hn))) i d (by simpa using hi)
theorem light_each {H : Type} {P : Program} : ∀ {ts : List TypeId} {l : List (DataW H)}, (∀ n ∈ DataW.weightsEach P ts l, n ≤ 140737488351232) → ∀ (i : Nat) (t : TypeId) (d : DataW H), ts[i]? = some t → l[i]? = some d → Light P t d := by
  intro ts
  induction ts with
  | nil => intro l _ i t d h; simp at h
  | cons t0 ts ih =>
    intro l h i t d ht hd
    cases l with
    | nil => simp at hd
    | cons x r =>
      unfold DataW.weightsEach at h
      cases i with
      | zero =>
        simp at ht hd; subst ht; subst hd
        exact fun n hn => h n (List.mem_append.2 (.inl hn))
      | succ i => exact ih (fun n hn => h n (List.mem_append.2 (.inr hn))) i t d (by simpa using ht) (by simpa using hd)
theorem light_of_all {H : Type} {P : Program} {ts : List TypeId} {l : List (DataW H)} (h : (DataW.weightsEach P ts l).all (· ≤ reachBytes) = true) {i : Nat} {t : TypeId} {d : DataW H} (ht : ts[i]? = some t) (hd : l[i]? = some d) : Light P t d :=
  light_each (fun n hn => by have h2 : n ≤ reachBytes := of_decide_eq_true (List.all_eq_true.1 h n hn); exact h2) i t d ht hd

/-- The cells of type t that came in read as R says. -/
def Opens (P : Program) (t : TypeId) (size : Nat) {α : Type} (R : Reader α) : Prop :=
  P.cellsOf t = size ∧ ∀ {H : Type} {enc : TypeId × Value → H} {W : World} {fuel : Nat} {cs : List Value} {x : DataW H × List MemPlace}, DataW.trod enc P W 0 (fun _ => true) true fuel t cs = some x → Light P t x.1 → cs.length = size ∧ ∃ a, R W cs a

theorem opens_int {P : Program} {t : TypeId} {k : IntKind} (ht : P.underlying t = some (.int k)) (hc : P.cellsOf t = 1) : Opens P t 1 (rInt k) := ⟨hc, fun h _ => by
  obtain ⟨n, rfl, _, hw⟩ := DataW.trod_int ht h
  exact ⟨rfl, n, rfl, hw⟩⟩
theorem opens_bool {P : Program} {t : TypeId} (ht : P.underlying t = some .bool) (hc : P.cellsOf t = 1) : Opens P t 1 rBool := ⟨hc, fun h _ => by
  obtain ⟨b, rfl, _⟩ := DataW.trod_bool ht h
  exact ⟨rfl, b, rfl⟩⟩
theorem opens_str {P : Program} {t : TypeId} (ht : P.underlying t = some .string) (hc : P.cellsOf t = 1) : Opens P t 1 rStr := ⟨hc, fun {H enc W fuel cs x} h hl => by
  obtain ⟨s, rfl, rfl, hs⟩ := DataW.trod_string ht h
  have := hl s.data.toList.length (by simp [DataW.weights])
  exact ⟨rfl, s, rfl, by simpa using this⟩⟩

theorem rd_adds {w : World} {a : Addr} {xs : List Value} (h : ∀ i u, xs[i]? = some u → w.cell? (a.add i) = some u) : Rd w (some a) xs := fun k u hu => by
  have h0 : ∃ u0, xs[0]? = some u0 := by
    have := (List.getElem?_eq_some_iff.1 hu).1
    exact ⟨xs[0], List.getElem?_eq_getElem (by omega)⟩
  obtain ⟨u0, hu0⟩ := h0
  have h00 := h 0 u0 hu0
  have e : a.add 0 = a := by simp [Addr.add]
  rw [e] at h00
  have ha : a = ⟨a.block, a.off, none⟩ := by
    obtain ⟨b, o, s⟩ := a
    unfold World.cell? at h00
    split at h00
    · cases s with
      | none => rfl
      | some x => simp at h00
    · cases h00
  refine ⟨a.block, a.off, by rw [← ha], ?_⟩
  have hk := h k u hu
  rw [ha, Addr.add_lit] at hk
  exact hk

theorem opens_nums {P : Program} {t e : TypeId} {q : IntKind} (ht : P.underlying t = some (.slice e)) (he : P.underlying e = some (.int q)) (hc : P.cellsOf e = 1) (hct : P.cellsOf t = 1) (hb : P.bytesOf e = 8) : Opens P t 1 (rNums q) := ⟨hct, fun {H enc W fuel cs y} h hlt => by
  have hlen : ∀ a l c, cs = [.slice a l c] → l ≤ 17592186043904 := fun a l c hcs => by
    rcases Go.Deep.open_slice ht h with ⟨h0, _⟩ | ⟨a', len, cap, m, n, D, Pl, h0, _, hl, _, hmm, hx, _⟩
    · rw [hcs] at h0; injection h0 with h0; injection h0 with _ h0; omega
    · rw [hcs] at h0; injection h0 with h0; injection h0 with _ h0; subst h0
      have hw := hlt ((l + (m - l)) * 8) (by rw [hx]; simp [DataW.weights, ht, hb])
      omega
  rcases open_ints ht he hc h with ⟨rfl, _⟩ | ⟨x, l, c, zs, rfl, _, hl, hm, hz, _, hcell, hwz⟩
  · exact ⟨rfl, [], none, 0, rfl, Nat.le_refl _, by omega, by simp, Rd.nil _ _, by simp⟩
  · have hll := hlen _ _ _ rfl
    refine ⟨rfl, zs.take l, some x, c, ?_, by simp; omega, by unfold maxLen at hm; exact hm, by simp; omega, ?_, fun z hz => hwz z (List.mem_of_mem_take hz)⟩
    · rw [List.length_take]; simp at hz; rw [Nat.min_eq_left (by omega)]
    · refine rd_adds fun i u hu => ?_
      rw [← nums_take, List.getElem?_take] at hu
      split at hu
      · rename_i hi
        have hi' : i < zs.length := by simp at hz; omega
        rw [nums_get q zs i hi'] at hu
        rw [hcell i hi', ← hu, nth_eq zs i hi']
        simp [List.getD, hi']
      · cases hu⟩

theorem opens_slice {P : Program} {t e : TypeId} {size : Nat} {α : Type} {R : Reader α} (ht : P.underlying t = some (.slice e)) (hR : Opens P e size R) (hct : P.cellsOf t = 1) (hb : 8 ≤ P.bytesOf e) : Opens P t 1 (rSl R size) := ⟨hct, fun {H enc W fuel cs x} h hlt => by
  rcases Go.Deep.open_slice ht h with ⟨rfl, _⟩ | ⟨a, len, cap, m, n, D, Pl, rfl, _, hl, hm, hmm, hx, hi⟩
  · exact ⟨rfl, [], none, 0, rfl, Nat.le_refl _, by omega, by simp, SlRd.nil _ _ _ _⟩
  · simp at hmm
    subst hmm
    obtain ⟨hsz, hop⟩ := hR
    rw [hsz] at hi
    have hlen : len ≤ 17592186043904 := by
      have hw := hlt ((len + (m - len)) * P.bytesOf e) (by rw [hx]; simp [DataW.weights, ht])
      have := Nat.mul_le_mul_left (len + (m - len)) hb
      omega
    have hel : ∀ i, i < len → Light P e (D i) := fun i hil => by
      refine light_all (l := (List.range len).map D) (fun n hn => hlt n ?_) i (D i) (by simp [hil])
      rw [hx]; simp only [DataW.weights, ht]
      exact List.mem_cons_of_mem _ (List.mem_append.2 (.inl hn))
    classical
    have hall : ∀ i, i < len → ∃ cs' x, W.cells? 0 (a.add (i * size)) size = some cs' ∧ cs'.length = size ∧ R W cs' x := fun i hlt => by
      obtain ⟨cs', h1, h2⟩ := hi i (by omega)
      obtain ⟨h3, x, h4⟩ := hop h2 (hel i hlt)
      exact ⟨cs', x, h1, h3, h4⟩
    let rw1 : Nat → List Value := fun i => if hlt : i < len then Classical.choose (hall i hlt) else []
    have hrw : ∀ i (hlt : i < len), ∃ x, W.cells? 0 (a.add (i * size)) size = some (rw1 i) ∧ (rw1 i).length = size ∧ R W (rw1 i) x := fun i hlt => by
      have := Classical.choose_spec (hall i hlt)
      simp only [rw1, dif_pos hlt]
      exact this
    let el : (i : Nat) → i < len → α := fun i hlt => Classical.choose (hrw i hlt)
    let l : List α := List.ofFn (n := len) fun i => el i.1 i.2
    have hll : l.length = len := by simp [l]
    refine ⟨rfl, l, some a, m, by rw [hll], by rw [hll]; exact hl, by unfold maxLen at hm; exact hm, by rw [hll]; exact hlen, (List.range len).map rw1, ?_, by simp [l], ?_, ?_⟩
    · have h3 : ∀ r ∈ (List.range len).map rw1, r.length = size := by
        intro r hr
        obtain ⟨i, hi', rfl⟩ := List.mem_map.1 hr
        obtain ⟨x, _, h, _⟩ := hrw i (List.mem_range.1 hi')
        exact h
      refine rd_adds fun i u hu => ?_
      have hlt := (List.getElem?_eq_some_iff.1 hu).1
      rw [flat_len h3, List.length_map, List.length_range] at hlt
      have hspos : 0 < size := by
        rcases Nat.eq_zero_or_pos size with h | h
        · rw [h] at hlt; omega
        · exact h
      have hdm : i = i / size * size + i % size := by rw [Nat.mul_comm]; exact (Nat.div_add_mod i size).symm
      have hq : i / size < len := Nat.div_lt_of_lt_mul (by rw [Nat.mul_comm]; exact hlt)
      have hr := Nat.mod_lt i hspos
      obtain ⟨x, hx1, hx2, _⟩ := hrw _ hq
      obtain ⟨_, _, hx3⟩ := World.cells?_some hx1
      rw [hdm, flat_get h3 _ _ (by simpa using hq) hr] at hu
      have e : rowOf ((List.range len).map rw1) (i / size) = rw1 (i / size) := by simp [rowOf, hq]
      rw [e, ← hx3 _ hr] at hu
      rw [hdm]
      rw [Go.Deep.add_add] at hu
      exact hu
    · intro r hr
      obtain ⟨i, hi', rfl⟩ := List.mem_map.1 hr
      obtain ⟨x, _, h, _⟩ := hrw i (List.mem_range.1 hi')
      exact h
    · intro j x hx
      have hj : j < len := by rw [← hll]; exact (List.getElem?_eq_some_iff.1 hx).1
      have e : rowOf ((List.range len).map rw1) j = rw1 j := by simp [rowOf, hj]
      rw [e]
      have hx' : x = el j hj := by
        have := List.getElem?_eq_some_iff.1 hx
        obtain ⟨h1, h2⟩ := this
        rw [← h2]
        simp [l]
      rw [hx']
      exact (Classical.choose_spec (hrw j hj)).2.2⟩

/-- A field of a struct. -/
theorem field_opens {P : Program} {t ts : TypeId} {fs : Array Field} {size : Nat} {α : Type} {R : Reader α} (hR : Opens P t size R) (hts : P.underlying ts = some (.struct fs)) {H : Type} {enc : TypeId × Value → H} {W : World} {n off : Nat} {cs : List Value} {x : DataW H × List MemPlace} {xs : List (DataW H × List MemPlace)} (hx : x = (.agg (xs.map (·.1)), xs.flatMap (·.2))) (hl : Light P ts x.1) {i : Nat}
    (h : DataW.trod enc P W 0 (fun _ => true) true n t ((cs.drop off).take (P.cellsOf t)) = xs[i]?) (hi : i < xs.length) (hft : (fs.toList.map (·.type))[i]? = some t) : ∃ a, R W ((cs.drop off).take size) a := by
  obtain ⟨hc, hop⟩ := hR
  rw [hc, List.getElem?_eq_getElem hi] at h
  refine (hop h ?_).2
  subst hx
  simp only [Light, DataW.weights, hts] at hl
  exact light_each hl i t _ hft (by simp [List.getElem?_eq_getElem hi])

/-- A parameter. -/
theorem opens_param {P : Program} {t : TypeId} {size : Nat} {α : Type} {R : Reader α} (hR : Opens P t size R) {H : Type} {enc : TypeId × Value → H} {W : World} {v : Value} {d : DataW H} {p : List MemPlace} (h : DataW.Trod enc P W 0 (fun _ => true) true t v d p) (hl : Light P t d) : ∃ a, R W v.cells.toList a ∧ v.cells.toList.length = size := by
  obtain ⟨fuel, hf⟩ := h
  obtain ⟨h1, a, h2⟩ := hR.2 hf hl
  exact ⟨a, h2, h1⟩
end Go.Proofs.YtfiojofcafjfeaaGreat
namespace Go.Proofs.YtfiojofcafjfeaaGreat
open Go.RowKit

def topW (B : Nat) (w : World) : World := { w with heap := w.heap.mapIdx fun k o => if k < B then .cells #[] 0 (0, 0) else o }
theorem top_size (B : Nat) (w : World) : (topW B w).heap.size = w.heap.size := by simp [topW]
theorem top_blk {B k : Nat} {w : World} (h : B ≤ k) : (topW B w).heap[k]? = w.heap[k]? := by
  simp only [topW, Array.getElem?_mapIdx]
  have h' : ¬ k < B := by omega
  simp [h']
theorem top_low {B k : Nat} {w : World} (h : k < B) (hk : k < w.heap.size) : (topW B w).heap[k]? = some (.cells #[] 0 (0, 0)) := by
  simp only [topW, Array.getElem?_mapIdx]
  simp [h, hk]
theorem top_keep (B : Nat) (w : World) : Keep (fun j => j < B) w (topW B w) := ⟨rfl, rfl, rfl, by rw [top_size]; exact Nat.le_refl _, fun k _ hn => top_blk (by omega)⟩
theorem own_top {w : World} {B base : Nat} {e : TypeId} {size : Nat} {v : Value} {n : Nat} {xs : List Value} (h : w.ownsRow base e size v n xs) (hB : B ≤ base) : (topW B w).ownsRow base e size v n xs :=
  (top_keep B w).own h fun k hk hl => by have := (h.lt k hk).1; omega
theorem top_below {B : Nat} {w w' : World} (h : Below w.heap.size w w') : Below (topW B w).heap.size (topW B w) (topW B w') :=
  ⟨h.os, h.tape, h.output, by rw [top_size, top_size]; exact h.size, fun k hk => by
    rw [top_size] at hk
    rcases Nat.lt_or_ge k B with hb | hb
    · rw [top_low hb (Nat.lt_of_lt_of_le hk h.size), top_low hb hk]
    · rw [top_blk hb, top_blk hb, h.block k hk]⟩
/-- The same from a number on. -/
def Agr (B : Nat) (u v : World) : Prop := ∀ k, B ≤ k → k < u.heap.size → v.heap[k]? = u.heap[k]?
theorem Agr.refl (B : Nat) (u : World) : Agr B u u := fun _ _ _ => rfl
theorem top_cell {B : Nat} {u v : World} {a : Addr} {x : Value} (h : (topW B u).cell? a = some x) (hv : Agr B u v) : v.cell? a = some x := by
  have hl := lt_of_cell h
  rw [top_size] at hl
  rcases Nat.lt_or_ge a.block B with hb | hb
  · have h0 := top_low (w := u) hb hl
    rw [World.cell?] at h
    simp only [h0] at h
    simp at h
  · exact (World.cell?_of_block (w := topW B u) ((hv _ hb hl).trans (top_blk hb).symm)).trans h
theorem top_heap {B : Nat} {u v : World} {b : Nat} {x : Value} {xs : List Value} {t : TypeId} {fr : Nat × Nat} (h : (topW B u).heap[b]? = some (.cells (x :: xs).toArray t fr)) (hv : Agr B u v) : v.heap[b]? = some (.cells (x :: xs).toArray t fr) := by
  have hl := lt_of_block h
  rw [top_size] at hl
  rcases Nat.lt_or_ge b B with hb | hb
  · rw [top_low hb hl] at h
    simp at h
  · rw [hv b hb hl, ← top_blk hb]; exact h
theorem top_rd {B : Nat} {u v : World} {A : Option Addr} {xs : List Value} (h : Rd (topW B u) A xs) (hv : Agr B u v) : Rd v A xs := fun k x hx => by
  obtain ⟨b, o, e, hc⟩ := h k x hx
  exact ⟨b, o, e, top_cell hc hv⟩
theorem agr_top {B B1 : Nat} {u : World} (h : B ≤ B1) : Agr B1 u (topW B u) := fun k hk _ => top_blk (by omega)
theorem agr_keep {B : Nat} {u v : World} (h : Keep (fun j => j < B) u v) : Agr B u v := fun k hk hl => h.block k hl (by omega)
/-- A reader that looks nowhere but where it reads. -/
def Tops {α : Type} (R : Reader α) : Prop := ∀ {B : Nat} {u v : World} {cs : List Value} {x : α}, R (topW B u) cs x → Agr B u v → R v cs x
theorem top_sl {α : Type} {R : Reader α} {size B : Nat} {u v : World} {A : Option Addr} {l : List α} (hR : Tops R) (h : SlRd R size (topW B u) A l) (hv : Agr B u v) : SlRd R size v A l := by
  obtain ⟨rows, h1, h2, h3, h4⟩ := h
  exact ⟨rows, top_rd h1 hv, h2, h3, fun j x hx => hR (h4 j x hx) hv⟩
end Go.Proofs.YtfiojofcafjfeaaGreat
namespace Go.Proofs.YtfiojofcafjfeaaGreat
open Go.RowKit

/-- The weights behind layer k, the biases. -/
def wL (sz ps : List Int) (k : Nat) : List Int := upTo (szN sz (k + 1) * szN sz k) fun i => nth ps (cntN sz k + i)
def bL (sz ps : List Int) (k : Nat) : List Int := upTo (szN sz (k + 1)) fun i => nth ps (midN sz k + i)
theorem wL_len (sz ps : List Int) (k : Nat) : (wL sz ps k).length = szN sz (k + 1) * szN sz k := upTo_len _ _
theorem bL_len (sz ps : List Int) (k : Nat) : (bL sz ps k).length = szN sz (k + 1) := upTo_len _ _

/-- The cells of a link. -/
def LinkCs (w : World) (cs : List Value) (sz ps : List Int) (k : Nat) : Prop := ∃ g o d B e,
  cs = [.int .i64 (szN sz (k + 1) : Int), .int .i64 (szN sz k : Int), .slice (some ⟨g, o, none⟩) (szN sz (k + 1) * szN sz k) d, .slice B (szN sz (k + 1)) e] ∧ szN sz (k + 1) * szN sz k ≤ d ∧
  Rd w (some ⟨g, o, none⟩) (nums .i64 (wL sz ps k)) ∧ Rd w B (nums .i64 (bL sz ps k))
/-- A network in memory. -/
def NetAt (TS TN : TypeId) (w : World) (b : Nat) (sz ps : List Int) (q : Int) : Prop := ∃ S Ap cp Al cl rows,
  w.heap[b]? = some (.cells #[.pointer (some ⟨S, 0, none⟩), .slice Ap ps.length cp, .int .i64 q, .slice Al (sz.length - 1) cl] TN (0, 0)) ∧
  ShapeAt TS w S sz ∧ Rd w Ap (nums .i64 ps) ∧ Rd w Al (List.flatten rows) ∧ rows.length = sz.length - 1 ∧ (∀ r ∈ rows, r.length = 4) ∧ ∀ j, j < sz.length - 1 → LinkCs w (rowOf rows j) sz ps j
theorem LinkCs.below {w w' : World} {cs : List Value} {sz ps : List Int} {k : Nat} (h : LinkCs w cs sz ps k) (hb : Below w.heap.size w w') : LinkCs w' cs sz ps k := by
  obtain ⟨g, o, d, B, e, h1, h2, h3, h4⟩ := h
  exact ⟨g, o, d, B, e, h1, h2, h3.below hb, h4.below hb⟩
theorem NetAt.below {TS TN : TypeId} {w w' : World} {b : Nat} {sz ps : List Int} {q : Int} (h : NetAt TS TN w b sz ps q) (hb : Below w.heap.size w w') : NetAt TS TN w' b sz ps q := by
  obtain ⟨S, Ap, cp, Al, cl, rows, h0, h1, h2, h3, h4, h5, h6⟩ := h
  exact ⟨S, Ap, cp, Al, cl, rows, (hb.block b (lt_of_block h0)).trans h0, h1.below hb, h2.below hb, h3.below hb, h4, h5, fun j hj => (h6 j hj).below hb⟩
theorem NetAt.lt {TS TN : TypeId} {w : World} {b : Nat} {sz ps : List Int} {q : Int} (h : NetAt TS TN w b sz ps q) : b < w.heap.size := by
  obtain ⟨S, Ap, cp, Al, cl, rows, h0, _⟩ := h
  exact lt_of_block h0
end Go.Proofs.YtfiojofcafjfeaaGreat
namespace Go.Proofs.YtfiojofcafjfeaaGreat
open Go.RowKit

theorem et_vec : ElemT Tryz.prog 52 2 (.int .i64 0) 1 8 := ⟨Tryz.underlying52, info_parts (by kernel_rfl), rfl, by decide⟩

theorem sclone_any (A : Option Addr) (zs : List Int) (c : Nat) (w : World) (hA : Rd w A (nums .i64 zs)) (hl : zs.length ≤ 17592186043904) :
    Calls Tryz.prog 117 #[.slice A zs.length c] w fun e w' => ∃ v, e = .returned v ∧ w'.ownsRow w.heap.size 2 1 v zs.length (nums .i64 zs) ∧ Below w.heap.size w w' := by
  have q := fun (w : World) => Lib.run_eql_slice_nil (P := Tryz.prog) w 52 2 A zs.length c 0 0 Tryz.underlying52
  cases A with
  | none =>
    have hz : zs = [] := by
      cases zs with
      | nil => rfl
      | cons z l => obtain ⟨b, o, h, _⟩ := hA 0 _ rfl; cases h
    subst hz
    clear q
    have q := fun (w : World) => Lib.run_eql_slice_nil (P := Tryz.prog) w 52 2 none 0 c 0 0 Tryz.underlying52
    simp only [Option.isNone_none] at q
    rw [List.length_nil]
    go_enter Tryz.func117, Tryz.ntmps117
    go_wp2
    go_ret
    exact ⟨_, rfl, World.ownsRow_nil _ _ _ _, Below.refl _ _⟩
  | some a =>
    go_enter Tryz.func117, Tryz.ntmps117
    go_wp2_with (at_builtin; refine wpList_app et_vec _ rfl (.tmp 5) (.tmp 6) rfl w.heap.size _ 0 [] rfl (own_empty w 2 1) _ zs.length c (nums .i64 zs) rfl (hA.alloc _) (by rw [nums_length]; omega) (nums_cell _ _) (by omega) (by unfold maxLen; omega) (by simp) ?_)
    intro A' c' w1 hown hb _ _
    have hb1 := ((Below.refl _ w).alloc (Nat.le_refl _) (.cells #[] 2)).trans hb
    have Hown := Lib.hid hown; have Hb1 := Lib.hid hb1; clear hown hb hb1
    go_wp2
    go_ret
    exact ⟨_, rfl, Hown.out, Hb1.out⟩

theorem vclone_any (A : Option Addr) (zs : List Int) (c : Nat) (w : World) (hA : Rd w A (nums .i64 zs)) (hl : zs.length ≤ 17592186043904) :
    Calls Tryz.prog 86 #[.slice A zs.length c] w fun e w' => ∃ A' c', e = .returned (.slice A' zs.length c') ∧ zs.length ≤ c' ∧ w'.ownsRow w.heap.size 2 1 (.slice A' zs.length c') zs.length (nums .i64 zs) ∧ Below w.heap.size w w' := by
  have h := sclone_any A zs c w hA hl
  go_enter Tryz.func86, Tryz.ntmps86
  go_wp2_with fail
  refine h.mono ?_
  rintro e w1 ⟨v, rfl, hown, hb⟩
  obtain ⟨A', c', rfl, hc⟩ := own_form hown
  clear h
  have Hown := Lib.hid hown; have Hb := Lib.hid hb; have Hc := Lib.hid hc; clear hown hb hc
  go_wp2
  go_ret
  exact ⟨_, _, rfl, Hc.out, Hown.out, Hb.out⟩

theorem dot_any (A B : Option Addr) (xs ys : List Int) (c d : Nat) (q : Int) (w : World) (hA : Rd w A (nums .i64 xs)) (hB : Rd w B (nums .i64 ys)) (hl : xs.length = ys.length) (hm : xs.length ≤ 17592186043904) (wx : W64 xs) (wy : W64 ys) :
    Calls Tryz.prog 102 #[.slice A xs.length c, .slice B ys.length d, .int .i64 q] w fun e w' => e = .returned (.tuple #[.int .i64 (dotL xs ys q), .bool true]) ∧ Below w.heap.size w w' := by
  obtain ⟨n, hn⟩ : ∃ n, ys.length = n := ⟨_, rfl⟩
  have hnx : xs.length = n := hl.trans hn
  have hd : dotL xs ys q = dotN xs ys q n := by unfold dotL; rw [hnx]
  rw [hnx, hn, hd]
  have hmn : n ≤ 17592186043904 := by omega
  have Hn := Lib.hid hn; have Hx := Lib.hid hnx; have HA := Lib.hid hA; have HB := Lib.hid hB; have WX := Lib.hid wx; have WY := Lib.hid wy; clear hn hnx hA hB wx wy hl hm hd
  go_enter Tryz.func102, Tryz.ntmps102
  go_wp2_with fail
  go_loopw [8, 18] (fun s i wr => ∃ k : Nat, k ≤ n ∧ i = .int .i64 k ∧ s = .int .i64 (dotN xs ys q k) ∧ Below w.heap.size w wr) (fun _ i _ => n - (intOf i).toNat)
  case atStart => exact ⟨0, Nat.zero_le _, rfl, rfl, Below.refl _ _⟩
  case round =>
    obtain ⟨k, hk, rfl, rfl, hW⟩ := hrel
    by_cases hlt : k < n
    · obtain ⟨b1, o1, hA1, p1⟩ := (HA.out.below hW).num (show k < xs.length by rw [Hx.out]; exact hlt)
      obtain ⟨b2, o2, hB1, p2⟩ := (HB.out.below hW).num (show k < ys.length by rw [Hn.out]; exact hlt)
      subst hA1; subst hB1
      have hm1 := fun w' => fixMul (nth xs k) (nth ys k) q w' (WX.out k (by rw [Hx.out]; exact hlt)) (WY.out k (by rw [Hn.out]; exact hlt))
      have Hm := Lib.hid hm1; have HW := Lib.hid hW; clear hm1 hW
      go_wp2_with fail
      refine (Hm.out _).mono ?_
      rintro e w3 ⟨rfl, hb3⟩
      have HB3 := Lib.hid (HW.out.trans (hb3.mono HW.out.size)); clear hb3
      go_wp2_with fail
      go_roundw
      case rel => exact ⟨k + 1, by omega, by go_num, rfl, HB3.out⟩
      case measure => simp [intOf]; omega
    · obtain rfl : k = n := by omega
      have HW := Lib.hid hW; clear hW
      go_wp2_with fail
      go_ret2
      exact ⟨rfl, HW.out⟩

/-- A number of a row of one's own. -/
theorem own_num {w : World} {base n g c : Nat} {xs : List Int} {e : TypeId} (h : w.ownsRow base e 1 (.slice (some ⟨g, 0, none⟩) n c) n (nums .i64 xs)) {k : Nat} (hk : k < n) : w.cell? ⟨g, k, none⟩ = some (.int .i64 (nth xs k)) := by
  rw [h.cellAt k (by omega)]
  have := h.1
  rw [nums_length] at this
  exact nums_get .i64 xs k (by omega)
theorem own_len {w : World} {base n : Nat} {v : Value} {xs : List Int} {e : TypeId} (h : w.ownsRow base e 1 v n (nums .i64 xs)) : xs.length = n := by
  have := h.1
  rw [nums_length] at this
  omega
theorem own_put {w : World} {base n g c : Nat} {xs : List Int} {e : TypeId} (h : w.ownsRow base e 1 (.slice (some ⟨g, 0, none⟩) n c) n (nums .i64 xs)) (k : Nat) (v : Int) :
    (w.setCell ⟨g, k, none⟩ (.int .i64 v)).ownsRow base e 1 (.slice (some ⟨g, 0, none⟩) n c) n (nums .i64 (xs.set k v)) := by
  have := (h.stored k (.int .i64 v)).1
  rwa [nums_set] at this

theorem scale_any (A : Option Addr) (xs : List Int) (c : Nat) (a q : Int) (w : World) (hA : Rd w A (nums .i64 xs)) (hm : xs.length ≤ 17592186043904) (wx : W64 xs) (ha : -9223372036854775808 ≤ a ∧ a ≤ 9223372036854775807) :
    Calls Tryz.prog 131 #[.slice A xs.length c, .int .i64 a, .int .i64 q] w fun e w' => ∃ A' c', e = .returned (.slice A' xs.length c') ∧ w'.ownsRow w.heap.size 2 1 (.slice A' xs.length c') xs.length (nums .i64 (scaleL xs a q)) ∧ Below w.heap.size w w' := by
  have hcl := vclone_any A xs c w hA hm
  have hall := mixed_all xs (fun k => mulQ (nth xs k) a q)
  obtain ⟨n, hn⟩ : ∃ n, xs.length = n := ⟨_, rfl⟩
  rw [hn] at hcl hm
  unfold scaleL
  rw [← hall, hn]
  have Hc := Lib.hid hcl; have WX := Lib.hid wx; have Hn := Lib.hid hn; clear hcl wx hA hall hn
  go_enter Tryz.func131, Tryz.ntmps131
  go_wp2_with fail
  refine Hc.out.mono ?_
  rintro e w1 ⟨A', c', rfl, _, hown, hb⟩
  have HO := Lib.hid hown; have HB := Lib.hid hb; clear hown hb
  go_wp2_with fail
  go_loopw [14] (fun i wr => ∃ k : Nat, k ≤ n ∧ i = .int .i64 k ∧ wr.ownsRow w.heap.size 2 1 (.slice A' n c') n (nums .i64 (mixed xs k (fun k => mulQ (nth xs k) a q))) ∧ Below w.heap.size w wr) (fun i _ => n - (intOf i).toNat)
  case atStart => exact ⟨0, Nat.zero_le _, rfl, by rw [mixed_zero]; exact HO.out, HB.out⟩
  case round =>
    obtain ⟨k, hk, rfl, hown, hW⟩ := hrel
    by_cases hlt : k < n
    · obtain ⟨g, d, hv, hg, hgl⟩ := hown.form (by omega)
      simp only [Value.slice.injEq] at hv
      obtain ⟨rfl, hx1, rfl⟩ := hv
      clear hx1
      have hkx : k < xs.length := by rw [Hn.out]; exact hlt
      have p1 := own_num hown hlt
      rw [mixed_nth _ hkx, if_neg (by omega)] at p1
      have hm1 := fun w' => fixMul (nth xs k) a q w' (WX.out k hkx) ha
      have hst := mixed_set (l := xs) (k := k) (fun k => mulQ (nth xs k) a q) hkx
      have Hm := Lib.hid hm1; have HW := Lib.hid hW; have HO2 := Lib.hid hown; have Hst := Lib.hid hst; clear hm1 hW hown hst hkx
      go_wp2_with fail
      refine (Hm.out _).mono ?_
      rintro e w3 ⟨rfl, hb3⟩
      have hown3 := own_below HO2.out hb3
      have p3 : ∃ u, w3.cell? ⟨g, k, none⟩ = some u := ⟨_, own_num hown3 hlt⟩
      obtain ⟨u3, p3⟩ := p3
      have f3 := hown3.frozenAt k
      have HO3 := Lib.hid (own_put hown3 k (mulQ (nth xs k) a q)); have HB3 := Lib.hid ((HW.out.trans (hb3.mono HW.out.size)).setCell (p := ⟨g, k, none⟩) hg (.int .i64 (mulQ (nth xs k) a q))); clear hb3 hown3
      go_wp2_with fail
      go_roundw
      case rel => exact ⟨k + 1, by omega, by go_num, by rw [← Hst.out]; exact HO3.out, HB3.out⟩
      case measure => simp [intOf]; omega
    · obtain rfl : k = n := by omega
      have HW := Lib.hid hW; have HO2 := Lib.hid hown; clear hW hown
      go_wp2_with fail
      go_ret
      exact ⟨_, _, rfl, HO2.out, HW.out⟩

theorem add_any (base : Nat) (A B : Option Addr) (xs ys : List Int) (n c d : Nat) (w : World) (hown : w.ownsRow base 2 1 (.slice A n c) n (nums .i64 xs)) (hB : Rd w B (nums .i64 ys)) (hl : ys.length = n) (hm : n ≤ 17592186043904)
    (hne : ∀ a b, A = some a → B = some b → a.block ≠ b.block) :
    Calls Tryz.prog 55 #[.slice A n c, .slice B n d] w fun e w' => e = .returned (.bool true) ∧ w'.ownsRow base 2 1 (.slice A n c) n (nums .i64 (addL xs ys)) ∧ Keep (fun i => (Value.slice A n c).ownBlock = some i) w w' := by
  have hxl := own_len hown
  have hall := mixed_all xs (fun k => wrap64 (nth xs k + nth ys k))
  unfold addL
  rw [← hall, hxl]
  have HO := Lib.hid hown; have HB := Lib.hid hB; have Hn := Lib.hid hxl; have Hl := Lib.hid hl; have HN := Lib.hid hne; clear hown hB hxl hl hall hne
  go_enter Tryz.func55, Tryz.ntmps55
  go_wp2_with fail
  go_loopw [13] (fun i wr => ∃ k : Nat, k ≤ n ∧ i = .int .i64 k ∧ wr.ownsRow base 2 1 (.slice A n c) n (nums .i64 (mixed xs k (fun k => wrap64 (nth xs k + nth ys k)))) ∧ Keep (fun i => (Value.slice A n c).ownBlock = some i) w wr) (fun i _ => n - (intOf i).toNat)
  case atStart => exact ⟨0, Nat.zero_le _, rfl, by rw [mixed_zero]; exact HO.out, Keep.refl _ _⟩
  case round =>
    obtain ⟨k, hk, rfl, hown, hK⟩ := hrel
    by_cases hlt : k < n
    · obtain ⟨g, e, hv, hg, hgl⟩ := hown.form (by omega)
      simp only [Value.slice.injEq] at hv
      obtain ⟨rfl, hx1, rfl⟩ := hv
      clear hx1
      have hkx : k < xs.length := by rw [Hn.out]; exact hlt
      have p1 := own_num hown hlt
      rw [mixed_nth _ hkx, if_neg (by omega)] at p1
      have f1 := hown.frozenAt k
      obtain ⟨b2, o2, rfl, p0⟩ := HB.out.num (show k < ys.length by rw [Hl.out]; exact hlt)
      have hgb : g ≠ b2 := HN.out _ _ rfl rfl
      have p2 : wr.cell? ⟨b2, o2 + k, none⟩ = some (.int .i64 (nth ys k)) := hK.cell p0 (by simp [Value.ownBlock]; exact hgb)
      have hst := mixed_set (l := xs) (k := k) (fun k => wrap64 (nth xs k + nth ys k)) hkx
      have HK := Lib.hid hK; have HO2 := Lib.hid hown; have Hst := Lib.hid hst; clear hK hown hst hkx p0
      go_wp2_with fail
      go_region
      all_goals go_wp2_with fail
      all_goals
        go_roundw
        case rel =>
          refine ⟨k + 1, by omega, by go_num, ?_, ?_⟩
          · rw [← Hst.out]; exact own_put (own_drewN HO2.out 1) k _
          · exact Keep.setCell (HK.out.drewN 1) ⟨g, k, none⟩ (.inr rfl) _
        case measure => simp [intOf]; omega
    · obtain rfl : k = n := by omega
      have HK := Lib.hid hK; have HO2 := Lib.hid hown; clear hK hown
      go_wp2_with fail
      go_ret
      exact ⟨rfl, HO2.out, HK.out⟩
end Go.Proofs.YtfiojofcafjfeaaGreat
