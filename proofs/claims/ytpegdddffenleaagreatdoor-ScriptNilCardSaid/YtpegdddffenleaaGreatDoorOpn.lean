/- Data that came in, opened part by part: what each type's cells read as. -/
import Derived.Test.YtpegdddffenleaaGreatDoorLib
import Derived.ProofKit
import Derived.OpenShut
import Derived.Deep.Slices
set_option linter.unusedSimpArgs false
set_option linter.unusedVariables false
namespace Go.Proofs.YtpegdddffenleaaGreatDoor
open Go.RowKit Go.ChangeShapes Go.WideShapes Go.ChangeAt

/-- How some cells read: a world, the cells, what they say. -/
abbrev Reader (α : Type) := World → List Value → α → Prop
/-- What is read stays where no old block is changed. -/
def Stays {α : Type} (R : Reader α) : Prop := ∀ {w w' : World} {cs : List Value} {a : α}, Below w.heap.size w w' → R w cs a → R w' cs a

def rowOf (l : List (List Value)) (j : Nat) : List Value := l.getD j []
theorem rowOf_get {l : List (List Value)} {j : Nat} (h : j < l.length) : rowOf l j = l[j] := by simp [rowOf, h]
theorem flat_get {rows : List (List Value)} {k : Nat} (h : ∀ r ∈ rows, r.length = k) (i t : Nat) (hi : i < rows.length) (ht : t < k) : (List.flatten rows)[i * k + t]? = (rowOf rows i)[t]? := by
  induction rows generalizing i with
  | nil => simp at hi
  | cons r l ih =>
    have hr : r.length = k := h r (by simp)
    cases i with
    | zero =>
      rw [List.flatten_cons, Nat.zero_mul, Nat.zero_add, List.getElem?_append_left (by omega)]
      simp [rowOf]
    | succ i =>
      rw [List.flatten_cons, List.getElem?_append_right (by rw [hr, Nat.add_mul]; omega), hr, show (i + 1) * k + t - k = i * k + t by rw [Nat.add_mul]; omega, ih (fun r hr => h r (by simp [hr])) i (by simpa using hi)]
      simp [rowOf]
theorem flat_len {rows : List (List Value)} {k : Nat} (h : ∀ r ∈ rows, r.length = k) : (List.flatten rows).length = rows.length * k := by
  induction rows with
  | nil => simp
  | cons r l ih => rw [List.flatten_cons, List.length_append, h r (by simp), ih (fun r hr => h r (by simp [hr])), List.length_cons, Nat.add_mul]; omega
theorem flat_drop {rows : List (List Value)} {k : Nat} (h : ∀ r ∈ rows, r.length = k) : ∀ n, (List.flatten rows).drop (n * k) = List.flatten (rows.drop n) := by
  induction rows with
  | nil => intro n; simp
  | cons r l ih =>
    intro n
    cases n with
    | zero => simp
    | succ n =>
      have hr := h r (by simp)
      rw [List.flatten_cons, List.drop_append, List.drop_of_length_le (by rw [hr, Nat.add_mul]; omega), List.nil_append, hr, show (n + 1) * k - k = n * k by rw [Nat.add_mul]; omega, ih (fun r hr => h r (by simp [hr])) n, List.drop_succ_cons]
theorem flat_take {rows : List (List Value)} {k : Nat} (h : ∀ r ∈ rows, r.length = k) : ∀ n, (List.flatten rows).take (n * k) = List.flatten (rows.take n) := by
  induction rows with
  | nil => intro n; simp
  | cons r l ih =>
    intro n
    cases n with
    | zero => simp
    | succ n =>
      have hr := h r (by simp)
      rw [List.flatten_cons, List.take_append, List.take_of_length_le (by rw [hr, Nat.add_mul]; omega), hr, show (n + 1) * k - k = n * k by rw [Nat.add_mul]; omega, ih (fun r hr => h r (by simp [hr])) n, List.take_succ_cons, List.flatten_cons]

/-- The cells from A on hold l, each element in 'size' cells that R reads. -/
def SlRd {α : Type} (R : Reader α) (size : Nat) (w : World) (A : Option Addr) (l : List α) : Prop :=
  ∃ rows, Rd w A (List.flatten rows) ∧ rows.length = l.length ∧ (∀ r ∈ rows, r.length = size) ∧ ∀ j x, l[j]? = some x → R w (rowOf rows j) x
/-- A slice as a value. -/
def rSl {α : Type} (R : Reader α) (size : Nat) : Reader (List α) := fun w cs l => ∃ A c, cs = [.slice A l.length c] ∧ l.length ≤ c ∧ c ≤ 9223372036854775807 ∧ l.length ≤ 17592186043904 ∧ SlRd R size w A l
def rInt (k : IntKind) : Reader Int := fun _ cs n => cs = [.int k n] ∧ (Lit.int k n).wf = true
def rBool : Reader Bool := fun _ cs b => cs = [.bool b]
def rStr : Reader ByteArray := fun _ cs s => cs = [.string s] ∧ s.size ≤ 140737488351232
/-- A slice of numbers. -/
def rNums (q : IntKind) : Reader (List Int) := fun w cs zs => ∃ A c, cs = [.slice A zs.length c] ∧ zs.length ≤ c ∧ c ≤ 9223372036854775807 ∧ zs.length ≤ 17592186043904 ∧ Rd w A (nums q zs) ∧ ∀ z ∈ zs, (Lit.int q z).wf = true

theorem stays_int (k : IntKind) : Stays (rInt k) := fun _ h => h
theorem stays_bool : Stays rBool := fun _ h => h
theorem stays_str : Stays rStr := fun _ h => h
theorem stays_nums (q : IntKind) : Stays (rNums q) := fun hb ⟨A, c, h1, h2, h3, h6, h4, h5⟩ => ⟨A, c, h1, h2, h3, h6, h4.below hb, h5⟩
section
variable {α : Type} {R : Reader α} {size : Nat} {w w' : World} {A : Option Addr} {l : List α}
theorem SlRd.below (hR : Stays R) (h : SlRd R size w A l) (hb : Below w.heap.size w w') : SlRd R size w' A l := by
  obtain ⟨rows, h1, h2, h3, h4⟩ := h
  exact ⟨rows, h1.below hb, h2, h3, fun j x hx => hR hb (h4 j x hx)⟩
theorem stays_sl (hR : Stays R) (size : Nat) : Stays (rSl R size) := fun hb ⟨A, c, h1, h2, h3, h5, h4⟩ => ⟨A, c, h1, h2, h3, h5, h4.below hR hb⟩
theorem SlRd.nil (R : Reader α) (size : Nat) (w : World) (A : Option Addr) : SlRd R size w A [] := ⟨[], Rd.nil _ _, rfl, by simp, by simp⟩
/-- An element: where it lies, its cells, what they say. -/
theorem SlRd.get (h : SlRd R size w A l) (hs : 0 < size) {j : Nat} {x : α} (hx : l[j]? = some x) :
    ∃ b o cs, A = some ⟨b, o, none⟩ ∧ b < w.heap.size ∧ cs.length = size ∧ R w cs x ∧ w.cell? ⟨b, o + j * size, none⟩ = cs[0]? ∧ ∀ t, t < size → w.cell? ⟨b, o + j * size + t, none⟩ = cs[t]? := by
  obtain ⟨rows, h1, h2, h3, h4⟩ := h
  have hj : j < rows.length := by rw [h2]; exact (List.getElem?_eq_some_iff.1 hx).1
  have hrl : (rowOf rows j).length = size := h3 _ (by rw [rowOf_get hj]; exact List.getElem_mem hj)
  have hx0 : ∀ t, t < size → ∃ u, (rowOf rows j)[t]? = some u := fun t ht => ⟨_, List.getElem?_eq_getElem (by omega)⟩
  obtain ⟨u0, hu0⟩ := hx0 0 hs
  obtain ⟨b, o, rfl, c0⟩ := h1 (j * size + 0) u0 ((flat_get h3 j 0 hj hs).trans hu0)
  have hc : ∀ t, t < size → w.cell? ⟨b, o + j * size + t, none⟩ = (rowOf rows j)[t]? := fun t ht => by
    obtain ⟨u, hu⟩ := hx0 t ht
    obtain ⟨b', o', e', c⟩ := h1 (j * size + t) u ((flat_get h3 j t hj ht).trans hu)
    injection e' with e'; injection e' with e1 e2 _
    subst e1; subst e2
    rw [Nat.add_assoc, c, hu]
  refine ⟨b, o, rowOf rows j, rfl, lt_of_cell c0, hrl, h4 j x hx, ?_, hc⟩
  have := hc 0 hs
  rwa [Nat.add_zero] at this
theorem SlRd.drop (h : SlRd R size w A l) (hs : 0 < size) (n : Nat) (A' : Option Addr) (hA : ∀ b o, A = some ⟨b, o, none⟩ → A' = some ⟨b, o + n * size, none⟩) : SlRd R size w A' (l.drop n) := by
  by_cases hn : n < l.length
  · obtain ⟨b, o, _, rfl, _⟩ := h.get hs (List.getElem?_eq_getElem (show 0 < l.length by omega))
    obtain rfl := hA b o rfl
    obtain ⟨rows, h1, h2, h3, h4⟩ := h
    refine ⟨rows.drop n, ?_, by simp [h2], fun r hr => h3 r (List.mem_of_mem_drop hr), fun j x hx => ?_⟩
    · rw [← flat_drop h3]; exact h1.drop _
    · have := h4 (n + j) x (by simpa using hx)
      simpa [rowOf] using this
  · rw [List.drop_of_length_le (by omega)]; exact SlRd.nil _ _ _ _
theorem SlRd.take (h : SlRd R size w A l) (n : Nat) : SlRd R size w A (l.take n) := by
  obtain ⟨rows, h1, h2, h3, h4⟩ := h
  refine ⟨rows.take n, ?_, by simp [h2], fun r hr => h3 r (List.mem_of_mem_take hr), fun j x hx => ?_⟩
  · rw [← flat_take h3]; exact h1.take _
  · rw [List.getElem?_take] at hx
    split at hx
    · rename_i hj
      have := h4 j x hx
      simpa [rowOf, List.getElem?_take, hj] using this
    · cases hx
end

/-! Opening. -/
/-- No part of what was read is greater than memory. -/
def Light {H : Type} (P : Program) (t : TypeId) (d : DataW H) : Prop := ∀ n ∈ d.weights P t, n ≤ 140737488351232
theorem light_all {H : Type} {P : Program} {e : TypeId} : ∀ {l : List (DataW H)}, (∀ n ∈ DataW.weightsAll P e l, n ≤ 140737488351232) → ∀ (i : Nat) (d : DataW H), l[i]? = some d → Light P e d := by
  intro l
  induction l with
  | nil => intro _ i d h; simp at h
  | cons x r ih =>
    intro h i d hi
    unfold DataW.weightsAll at h
    cases i with
    | zero =>
      simp at hi; subst hi
      exact fun n hn => h n (List.mem_append.2 (.inl hn))
    | succ i => exact ih (fun n hn => h n (List.mem_append.2 (.inr hn))) i d (by simpa using hi)
theorem light_each {H : Type} {P : Program} : ∀ {ts : List TypeId} {l : List (DataW H)}, (∀ n ∈ DataW.weightsEach P ts l, n ≤ 140737488351232) → ∀ (i : Nat) (t : TypeId) (d : DataW H), ts[i]? = some t → l[i]? = some d → Light P t d := by
  intro ts
  induction ts with
  | nil => intro l _ i t d h; simp at h
  | cons t0 ts ih =>
    intro l h i t d ht hd
    cases l with
    | nil => simp at hd
    | cons x r =>
      unfold DataW.weightsEach at h
      cases i with
      | zero =>
        simp at ht hd; subst ht; subst hd
        exact fun n hn => h n (List.mem_append.2 (.inl hn))
      | succ i => exact ih (fun n hn => h n (List.mem_append.2 (.inr hn))) i t d (by simpa using ht) (by simpa using hd)
theorem light_of_all {H : Type} {P : Program} {ts : List TypeId} {l : List (DataW H)} (h : (DataW.weightsEach P ts l).all (· ≤ reachBytes) = true) {i : Nat} {t : TypeId} {d : DataW H} (ht : ts[i]? = some t) (hd : l[i]? = some d) : Light P t d :=
  light_each (fun n hn => by have h2 : n ≤ reachBytes := of_decide_eq_true (List.all_eq_true.1 h n hn); exact h2) i t d ht hd

/-- The cells of type t that came in read as R says. -/
def Opens (P : Program) (t : TypeId) (size : Nat) {α : Type} (R : Reader α) : Prop :=
  P.cellsOf t = size ∧ ∀ {H : Type} {enc : TypeId × Value → H} {W : World} {fuel : Nat} {cs : List Value} {x : DataW H × List MemPlace}, DataW.trod enc P W 0 (fun _ => true) true fuel t cs = some x → Light P t x.1 → cs.length = size ∧ ∃ a, R W cs a

theorem opens_int {P : Program} {t : TypeId} {k : IntKind} (ht : P.underlying t = some (.int k)) (hc : P.cellsOf t = 1) : Opens P t 1 (rInt k) := ⟨hc, fun h _ => by
  obtain ⟨n, rfl, _, hw⟩ := DataW.trod_int ht h
  exact ⟨rfl, n, rfl, hw⟩⟩
theorem opens_bool {P : Program} {t : TypeId} (ht : P.underlying t = some .bool) (hc : P.cellsOf t = 1) : Opens P t 1 rBool := ⟨hc, fun h _ => by
  obtain ⟨b, rfl, _⟩ := DataW.trod_bool ht h
  exact ⟨rfl, b, rfl⟩⟩
theorem opens_str {P : Program} {t : TypeId} (ht : P.underlying t = some .string) (hc : P.cellsOf t = 1) : Opens P t 1 rStr := ⟨hc, fun {H enc W fuel cs x} h hl => by
  obtain ⟨s, rfl, rfl, hs⟩ := DataW.trod_string ht h
  have := hl s.data.toList.length (by simp [DataW.weights])
  exact ⟨rfl, s, rfl, by simpa using this⟩⟩

theorem rd_adds {w : World} {a : Addr} {xs : List Value} (h : ∀ i u, xs[i]? = some u → w.cell? (a.add i) = some u) : Rd w (some a) xs := fun k u hu => by
  have h0 : ∃ u0, xs[0]? = some u0 := by
    have := (List.getElem?_eq_some_iff.1 hu).1
    exact ⟨xs[0], List.getElem?_eq_getElem (by omega)⟩
  obtain ⟨u0, hu0⟩ := h0
  have h00 := h 0 u0 hu0
  have e : a.add 0 = a := by simp [Addr.add]
  rw [e] at h00
  have ha : a = ⟨a.block, a.off, none⟩ := by
    obtain ⟨b, o, s⟩ := a
    unfold World.cell? at h00
    split at h00
    · cases s with
      | none => rfl
      | some x => simp at h00
    · cases h00
  refine ⟨a.block, a.off, by rw [← ha], ?_⟩
  have hk := h k u hu
  rw [ha, Addr.add_lit] at hk
  exact hk

theorem opens_nums {P : Program} {t e : TypeId} {q : IntKind} (ht : P.underlying t = some (.slice e)) (he : P.underlying e = some (.int q)) (hc : P.cellsOf e = 1) (hct : P.cellsOf t = 1) (hb : P.bytesOf e = 8) : Opens P t 1 (rNums q) := ⟨hct, fun {H enc W fuel cs y} h hlt => by
  have hlen : ∀ a l c, cs = [.slice a l c] → l ≤ 17592186043904 := fun a l c hcs => by
    rcases Go.Deep.open_slice ht h with ⟨h0, _⟩ | ⟨a', len, cap, m, n, D, Pl, h0, _, hl, _, hmm, hx, _⟩
    · rw [hcs] at h0; injection h0 with h0; injection h0 with _ h0; omega
    · rw [hcs] at h0; injection h0 with h0; injection h0 with _ h0; subst h0
      have hw := hlt ((l + (m - l)) * 8) (by rw [hx]; simp [DataW.weights, ht, hb])
      omega
  rcases open_ints ht he hc h with ⟨rfl, _⟩ | ⟨x, l, c, zs, rfl, _, hl, hm, hz, _, hcell, hwz⟩
  · exact ⟨rfl, [], none, 0, rfl, Nat.le_refl _, by omega, by simp, Rd.nil _ _, by simp⟩
  · have hll := hlen _ _ _ rfl
    refine ⟨rfl, zs.take l, some x, c, ?_, by simp; omega, by unfold maxLen at hm; exact hm, by simp; omega, ?_, fun z hz => hwz z (List.mem_of_mem_take hz)⟩
    · rw [List.length_take]; simp at hz; rw [Nat.min_eq_left (by omega)]
    · refine rd_adds fun i u hu => ?_
      rw [← nums_take, List.getElem?_take] at hu
      split at hu
      · rename_i hi
        have hi' : i < zs.length := by simp at hz; omega
        rw [nums_get q zs i hi'] at hu
        rw [hcell i hi', ← hu, nth_eq zs i hi']
        simp [List.getD, hi']
      · cases hu⟩

theorem opens_slice {P : Program} {t e : TypeId} {size : Nat} {α : Type} {R : Reader α} (ht : P.underlying t = some (.slice e)) (hR : Opens P e size R) (hct : P.cellsOf t = 1) (hb : 8 ≤ P.bytesOf e) : Opens P t 1 (rSl R size) := ⟨hct, fun {H enc W fuel cs x} h hlt => by
  rcases Go.Deep.open_slice ht h with ⟨rfl, _⟩ | ⟨a, len, cap, m, n, D, Pl, rfl, _, hl, hm, hmm, hx, hi⟩
  · exact ⟨rfl, [], none, 0, rfl, Nat.le_refl _, by omega, by simp, SlRd.nil _ _ _ _⟩
  · simp at hmm
    subst hmm
    obtain ⟨hsz, hop⟩ := hR
    rw [hsz] at hi
    have hlen : len ≤ 17592186043904 := by
      have hw := hlt ((len + (m - len)) * P.bytesOf e) (by rw [hx]; simp [DataW.weights, ht])
      have := Nat.mul_le_mul_left (len + (m - len)) hb
      omega
    have hel : ∀ i, i < len → Light P e (D i) := fun i hil => by
      refine light_all (l := (List.range len).map D) (fun n hn => hlt n ?_) i (D i) (by simp [hil])
      rw [hx]; simp only [DataW.weights, ht]
      exact List.mem_cons_of_mem _ (List.mem_append.2 (.inl hn))
    classical
    have hall : ∀ i, i < len → ∃ cs' x, W.cells? 0 (a.add (i * size)) size = some cs' ∧ cs'.length = size ∧ R W cs' x := fun i hlt => by
      obtain ⟨cs', h1, h2⟩ := hi i (by omega)
      obtain ⟨h3, x, h4⟩ := hop h2 (hel i hlt)
      exact ⟨cs', x, h1, h3, h4⟩
    let rw1 : Nat → List Value := fun i => if hlt : i < len then Classical.choose (hall i hlt) else []
    have hrw : ∀ i (hlt : i < len), ∃ x, W.cells? 0 (a.add (i * size)) size = some (rw1 i) ∧ (rw1 i).length = size ∧ R W (rw1 i) x := fun i hlt => by
      have := Classical.choose_spec (hall i hlt)
      simp only [rw1, dif_pos hlt]
      exact this
    let el : (i : Nat) → i < len → α := fun i hlt => Classical.choose (hrw i hlt)
    let l : List α := List.ofFn (n := len) fun i => el i.1 i.2
    have hll : l.length = len := by simp [l]
    refine ⟨rfl, l, some a, m, by rw [hll], by rw [hll]; exact hl, by unfold maxLen at hm; exact hm, by rw [hll]; exact hlen, (List.range len).map rw1, ?_, by simp [l], ?_, ?_⟩
    · have h3 : ∀ r ∈ (List.range len).map rw1, r.length = size := by
        intro r hr
        obtain ⟨i, hi', rfl⟩ := List.mem_map.1 hr
        obtain ⟨x, _, h, _⟩ := hrw i (List.mem_range.1 hi')
        exact h
      refine rd_adds fun i u hu => ?_
      have hlt := (List.getElem?_eq_some_iff.1 hu).1
      rw [flat_len h3, List.length_map, List.length_range] at hlt
      have hspos : 0 < size := by
        rcases Nat.eq_zero_or_pos size with h | h
        · rw [h] at hlt; omega
        · exact h
      have hdm : i = i / size * size + i % size := by rw [Nat.mul_comm]; exact (Nat.div_add_mod i size).symm
      have hq : i / size < len := Nat.div_lt_of_lt_mul (by rw [Nat.mul_comm]; exact hlt)
      have hr := Nat.mod_lt i hspos
      obtain ⟨x, hx1, hx2, _⟩ := hrw _ hq
      obtain ⟨_, _, hx3⟩ := World.cells?_some hx1
      rw [hdm, flat_get h3 _ _ (by simpa using hq) hr] at hu
      have e : rowOf ((List.range len).map rw1) (i / size) = rw1 (i / size) := by simp [rowOf, hq]
      rw [e, ← hx3 _ hr] at hu
      rw [hdm]
      rw [Go.Deep.add_add] at hu
      exact hu
    · intro r hr
      obtain ⟨i, hi', rfl⟩ := List.mem_map.1 hr
      obtain ⟨x, _, h, _⟩ := hrw i (List.mem_range.1 hi')
      exact h
    · intro j x hx
      have hj : j < len := by rw [← hll]; exact (List.getElem?_eq_some_iff.1 hx).1
      have e : rowOf ((List.range len).map rw1) j = rw1 j := by simp [rowOf, hj]
      rw [e]
      have hx' : x = el j hj := by
        have := List.getElem?_eq_some_iff.1 hx
        obtain ⟨h1, h2⟩ := this
        rw [← h2]
        simp [l]
      rw [hx']
      exact (Classical.choose_spec (hrw j hj)).2.2⟩

/-- A field of a struct. -/
theorem field_opens {P : Program} {t ts : TypeId} {fs : Array Field} {size : Nat} {α : Type} {R : Reader α} (hR : Opens P t size R) (hts : P.underlying ts = some (.struct fs)) {H : Type} {enc : TypeId × Value → H} {W : World} {n off : Nat} {cs : List Value} {x : DataW H × List MemPlace} {xs : List (DataW H × List MemPlace)} (hx : x = (.agg (xs.map (·.1)), xs.flatMap (·.2))) (hl : Light P ts x.1) {i : Nat}
    (h : DataW.trod enc P W 0 (fun _ => true) true n t ((cs.drop off).take (P.cellsOf t)) = xs[i]?) (hi : i < xs.length) (hft : (fs.toList.map (·.type))[i]? = some t) : ∃ a, R W ((cs.drop off).take size) a := by
  obtain ⟨hc, hop⟩ := hR
  rw [hc, List.getElem?_eq_getElem hi] at h
  refine (hop h ?_).2
  subst hx
  simp only [Light, DataW.weights, hts] at hl
  exact light_each hl i t _ hft (by simp [List.getElem?_eq_getElem hi])

/-- A parameter. -/
theorem opens_param {P : Program} {t : TypeId} {size : Nat} {α : Type} {R : Reader α} (hR : Opens P t size R) {H : Type} {enc : TypeId × Value → H} {W : World} {v : Value} {d : DataW H} {p : List MemPlace} (h : DataW.Trod enc P W 0 (fun _ => true) true t v d p) (hl : Light P t d) : ∃ a, R W v.cells.toList a ∧ v.cells.toList.length = size := by
  obtain ⟨fuel, hf⟩ := h
  obtain ⟨h1, a, h2⟩ := hR.2 hf hl
  exact ⟨a, h2, h1⟩
end Go.Proofs.YtpegdddffenleaaGreatDoor
