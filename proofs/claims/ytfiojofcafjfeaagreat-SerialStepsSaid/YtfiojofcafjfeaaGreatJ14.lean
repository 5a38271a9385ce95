/- Rows of numbers that are read. sakiaref03: Differ, Same. 'make' as an equation of the walk. What a configuration is, and its code, in plain numbers. The walks of package data: Pick, Check. No condition. -/
import Derived.Test.YtfiojofcafjfeaaGreatJ13
import Derived.Test.YtfiojofcafjfeaaGreatProg
import Derived.Test.YtfiojofcafjfeaaGreatJ01
import Derived.BigQuiet
import Derived.Deep.QuietTactic
import Derived.Test.YtfiojofcafjfeaaGreatJ02
set_option linter.unusedSimpArgs false
set_option linter.unusedVariables false
namespace Go.Proofs.YtfiojofcafjfeaaGreat
open Go.RowKit

/-- A slice of numbers that is read, without a word on the numbers. -/
def rVec : Reader (List Int) := fun w cs zs => ∃ A c, cs = [.slice A zs.length c] ∧ zs.length ≤ c ∧ zs.length ≤ 17592186043904 ∧ Rd w A (nums .i64 zs)
theorem stays_vec : Stays rVec := fun hb ⟨A, c, h1, h2, h3, h4⟩ => ⟨A, c, h1, h2, h3, h4.below hb⟩
theorem rVec_cell {w : World} {V : Option Addr} {ls : List (List Int)} (h : SlRd rVec 1 w V ls) {k : Nat} {x : List Int} (hx : ls[k]? = some x) :
    ∃ b o A c, V = some ⟨b, o, none⟩ ∧ b < w.heap.size ∧ w.cell? ⟨b, o + k, none⟩ = some (.slice A x.length c) ∧ Rd w A (nums .i64 x) ∧ x.length ≤ 17592186043904 ∧ x.length ≤ c := by
  obtain ⟨b, o, cs, rfl, hb, hcl, hR, h0, _⟩ := h.get (by decide) hx
  obtain ⟨A, c, rfl, h2, h3, h4⟩ := hR
  exact ⟨b, o, A, c, rfl, hb, by rw [Nat.mul_one] at h0; exact h0, h4, h3, h2⟩
/-- The same, without a word on the capacity. -/
def rVec0 : Reader (List Int) := fun w cs zs => ∃ A c, cs = [.slice A zs.length c] ∧ zs.length ≤ 17592186043904 ∧ Rd w A (nums .i64 zs)
theorem stays_vec0 : Stays rVec0 := fun hb ⟨A, c, h1, h3, h4⟩ => ⟨A, c, h1, h3, h4.below hb⟩
theorem rVec0_cell {w : World} {V : Option Addr} {ls : List (List Int)} (h : SlRd rVec0 1 w V ls) {k : Nat} {x : List Int} (hx : ls[k]? = some x) :
    ∃ b o A c, V = some ⟨b, o, none⟩ ∧ b < w.heap.size ∧ w.cell? ⟨b, o + k, none⟩ = some (.slice A x.length c) ∧ Rd w A (nums .i64 x) ∧ x.length ≤ 17592186043904 := by
  obtain ⟨b, o, cs, rfl, hb, hcl, hR, h0, _⟩ := h.get (by decide) hx
  obtain ⟨A, c, rfl, h3, h4⟩ := hR
  exact ⟨b, o, A, c, rfl, hb, by rw [Nat.mul_one] at h0; exact h0, h4, h3⟩
theorem flat_ones : ∀ vals : List Value, List.flatten (vals.map fun v => [v]) = vals
  | [] => rfl
  | v :: l => by simp [flat_ones l]
theorem slrd_one {α : Type} {R : Reader α} {w : World} {A : Option Addr} {vals : List Value} {l : List α} (hA : Rd w A vals) (hl : vals.length = l.length) (h : ∀ (j : Nat) (x : α), l[j]? = some x → ∃ v, vals[j]? = some v ∧ R w [v] x) : SlRd R 1 w A l := by
  refine ⟨vals.map fun v => [v], by rw [flat_ones]; exact hA, by simp [hl], by simp, fun j x hx => ?_⟩
  obtain ⟨v, hv, hR⟩ := h j x hx
  have : rowOf (vals.map fun v => [v]) j = [v] := by simp [rowOf, List.getD, hv]
  rw [this]; exact hR
/-- Numbers that lay there before a world are read behind all that leaves its blocks alone. -/
theorem keep_rd {S : Nat → Prop} {w0 w w' : World} (h : Keep S w w') {A : Option Addr} {xs : List Value} (h0 : Rd w0 A xs) (hr : Rd w A xs) (hS : ∀ k, S k → w0.heap.size ≤ k) : Rd w' A xs := fun k u hu => by
  obtain ⟨b, o, rfl, c0⟩ := h0 k u hu
  obtain ⟨b1, o1, e1, c1⟩ := hr k u hu
  injection e1 with e1; injection e1 with i1 i2 _; subst i1; subst i2
  exact ⟨b, o, rfl, h.cell c1 fun hs => by have h1 := hS _ hs; have h2 := lt_of_cell c0; dsimp only at h1 h2; omega⟩
/-- A struct of two cells stored into its box. -/
theorem store2 (W : World) (b : Nat) {a0 a1 : Value} (x y : Value) {t : TypeId} (h : W.heap[b]? = some (.cells #[a0, a1] t (0, 0))) :
    ((W.setCell ⟨b, 0, none⟩ x).setCell ⟨b, 1, none⟩ y).heap[b]? = some (.cells #[x, y] t (0, 0)) ∧ Keep (fun j => j = b) W ((W.setCell ⟨b, 0, none⟩ x).setCell ⟨b, 1, none⟩ y) := by
  have e1 := heap_setCell_same W b 0 _ _ x h
  have e2 := heap_setCell_same _ b 1 _ _ y e1
  exact ⟨by simpa using e2, Keep.setCell (S := fun j => j = b) (Keep.setCell (S := fun j => j = b) (Keep.refl _ _) _ (.inr rfl) _) _ (.inr rfl) _⟩
theorem store4 (W : World) (b : Nat) {a0 a1 a2 a3 : Value} (x y z u : Value) {t : TypeId} (h : W.heap[b]? = some (.cells #[a0, a1, a2, a3] t (0, 0))) :
    ((((W.setCell ⟨b, 0, none⟩ x).setCell ⟨b, 1, none⟩ y).setCell ⟨b, 2, none⟩ z).setCell ⟨b, 3, none⟩ u).heap[b]? = some (.cells #[x, y, z, u] t (0, 0)) ∧ Keep (fun j => j = b) W ((((W.setCell ⟨b, 0, none⟩ x).setCell ⟨b, 1, none⟩ y).setCell ⟨b, 2, none⟩ z).setCell ⟨b, 3, none⟩ u) := by
  have e1 := heap_setCell_same W b 0 _ _ x h
  have e2 := heap_setCell_same _ b 1 _ _ y e1
  have e3 := heap_setCell_same _ b 2 _ _ z e2
  have e4 := heap_setCell_same _ b 3 _ _ u e3
  exact ⟨by simpa using e4, Keep.setCell (S := fun j => j = b) (Keep.setCell (S := fun j => j = b) (Keep.setCell (S := fun j => j = b) (Keep.setCell (S := fun j => j = b) (Keep.refl _ _) _ (.inr rfl) _) _ (.inr rfl) _) _ (.inr rfl) _) _ (.inr rfl) _⟩
theorem blk_alloc {w : World} {b : Nat} {x : Obj} (h : w.heap[b]? = some x) (o : Obj) : (w.alloc o).heap[b]? = some x :=
  (Below.heap_alloc w o b (by rcases Nat.lt_or_ge b w.heap.size with q | q; · exact q
                              · rw [Array.getElem?_eq_none q] at h; cases h)).trans h
theorem blk_new (w : World) (xs : Array Value) (e : TypeId) {n : Nat} (hn : w.heap.size = n) : (w.alloc (.cells xs e)).heap[n]? = some (.cells xs e (0, 0)) := by
  subst hn; exact heap_alloc_new w _
theorem size_of_alloc {w : World} {n : Nat} (h : w.heap.size = n) (o : Obj) : (w.alloc o).heap.size = n + 1 := by simp [h]
end Go.Proofs.YtfiojofcafjfeaaGreat
namespace Go.Proofs.YtfiojofcafjfeaaGreat
open Go.RowKit

/-- What Differ answers, as far as it matters: below 0 just if the lists are one. -/
def DifferIs (l1 l2 : List Int) (e : Ending) : Prop := ∃ d : Int, e = .returned (.int .i64 d) ∧ -1 ≤ d ∧ (d < 0 ↔ l1 = l2)

theorem differ_any (A1 A2 : Option Addr) (l1 l2 : List Int) (c1 c2 : Nat) (w : World) (h1 : Rd w A1 (nums .i64 l1)) (h2 : Rd w A2 (nums .i64 l2)) (hl1 : l1.length ≤ 17592186043904) (hl2 : l2.length ≤ 17592186043904) :
    Calls Tryz.prog 56 #[.slice A1 l1.length c1, .slice A2 l2.length c2] w fun e w' => DifferIs l1 l2 e ∧ ∃ n, w' = w.drewN n := by
  go_enter Tryz.func56, Tryz.ntmps56
  go_wp2
  go_loopw [5] (fun i wr => ∃ k : Nat, k ≤ l1.length ∧ k ≤ l2.length ∧ i = .int .i64 k ∧ l1.take k = l2.take k ∧ ∃ n, wr = w.drewN n) (fun i _ => l1.length + l2.length + 1 - (intOf i).toNat)
  case atStart => exact ⟨0, Nat.zero_le _, Nat.zero_le _, rfl, rfl, 0, rfl⟩
  case round =>
    obtain ⟨k, hk1, hk2, rfl, hpre, n, rfl⟩ := hrel
    have Hpre := Lib.hid hpre; clear hpre
    by_cases hlt1 : k < l1.length
    · by_cases hlt2 : k < l2.length
      · obtain ⟨b1, o1, rfl, hc1⟩ := h1.num hlt1
        obtain ⟨b2, o2, rfl, hc2⟩ := h2.num hlt2
        have g1 : decide ((l1.length : Int) ≤ (k : Int)) = false := by simp; omega
        have g2 : decide ((l2.length : Int) ≤ (k : Int)) = false := by simp; omega
        go_wp2
        go_quiet (fail)
        go_wp2
        · have hx : (l1.length ≤ k ∨ l2.length ≤ k) ∨ (nth l1 k != nth l2 k) = true := by assumption
          have hx : (nth l1 k != nth l2 k) = true := hx.resolve_left (by omega)
          have Hx := Lib.hid hx; clear hx
          go_ret
          refine ⟨⟨k, rfl, by omega, fun h => by omega, fun h => ?_⟩, _, World.drewN_drewN _ _ _⟩
          subst h
          have := Hx.out
          simp at this
        · have hx : (¬l1.length ≤ k ∧ ¬l2.length ≤ k) ∧ (nth l1 k != nth l2 k) = false := by assumption
          have hx := hx.2
          have Hx := Lib.hid hx; clear hx
          go_roundw
          case rel => exact ⟨k + 1, by omega, by omega, by go_num, take_eq_succ hlt1 hlt2 Hpre.out (by have := Hx.out; simpa using this), _, rfl⟩
          case measure => simp [intOf]; omega
      · have g1 : decide ((l1.length : Int) ≤ (k : Int)) = false := by simp; omega
        have g2 : decide ((l2.length : Int) ≤ (k : Int)) = true := by simp; omega
        go_wp2
        go_quiet (fail)
        go_wp2
        go_ret
        refine ⟨⟨k, rfl, by omega, fun h => by omega, fun h => ?_⟩, _, by first | rfl | exact World.drewN_drewN _ _ _⟩
        subst h; omega
    · by_cases hlt2 : k < l2.length
      · obtain rfl : k = l1.length := by omega
        go_wp2
        go_quiet (fail)
        go_wp2
        go_ret
        refine ⟨⟨l1.length, rfl, by omega, fun h => by omega, fun h => ?_⟩, _, by first | rfl | exact World.drewN_drewN _ _ _⟩
        subst h; omega
      · go_wp2
        go_ret
        refine ⟨⟨-1, rfl, by omega, fun _ => ?_, fun _ => by omega⟩, n, rfl⟩
        have e1 : k = l1.length := by omega
        exact eq_of_take (by omega) (by rw [← e1]; exact Hpre.out)

theorem same_any (A1 A2 : Option Addr) (l1 l2 : List Int) (c1 c2 : Nat) (w : World) (h1 : Rd w A1 (nums .i64 l1)) (h2 : Rd w A2 (nums .i64 l2)) (hl1 : l1.length ≤ 17592186043904) (hl2 : l2.length ≤ 17592186043904) :
    Calls Tryz.prog 22 #[.slice A1 l1.length c1, .slice A2 l2.length c2] w fun e w' => e = .returned (.bool (decide (l1 = l2))) ∧ ∃ n, w' = w.drewN n := by
  have hd := differ_any A1 A2 l1 l2 c1 c2 w h1 h2 hl1 hl2
  have Hd := Lib.hid hd; clear hd
  go_enter Tryz.func22, Tryz.ntmps22
  go_wp2_with fail
  refine Hd.out.mono ?_
  rintro e w1 ⟨⟨d, rfl, hd0, hd1⟩, n, rfl⟩
  by_cases hd : d < 0
  · have h := hd1.1 hd
    have H := Lib.hid h; clear h hd1
    go_wp2
    go_ret
    exact ⟨ret_bool (by rw [decide_eq_true H.out]; first | done | simpa using hd), n, rfl⟩
  · have h : ¬ l1 = l2 := fun e => hd (hd1.2 e)
    have H := Lib.hid h; clear h hd1
    go_wp2
    go_ret
    exact ⟨ret_bool (by rw [decide_eq_false H.out]; first | done | simpa using hd), n, rfl⟩
end Go.Proofs.YtfiojofcafjfeaaGreat
namespace Go.Proofs.YtfiojofcafjfeaaGreat
open Go.RowKit

/-- 'make([]T, n)' as an equation of the walk (for a make that is guarded). -/
theorem run_mk {P : Program} {t e : TypeId} {z : Value} {bytes : Nat} (T : ElemT P t e z 1 bytes) (w : World) (hzc : z.cells = #[z]) (n : Nat) (b2 : bytes * n ≤ 281474976710656) (b3 : n ≤ maxLen) :
    ∃ w', Sem.run P (Instr.makeSlice t (.int .i64 (n : Int)) (.int .i64 (n : Int))) w = .ok (.slice (some ⟨w.heap.size, 0, none⟩) n n) w' ∧ w'.ownsRow w.heap.size e 1 (.slice (some ⟨w.heap.size, 0, none⟩) n n) n (List.replicate n z) ∧ Below w.heap.size w w' := by
  obtain ⟨i, hi, hz0, hz1, hz2⟩ := T.info
  obtain ⟨w', hrun, r1, r2⟩ := run_make_full (P := P) w w.heap.size t e i z 1 T.und hi hz0 hz1 .i64 .i64 n (by rw [hz2]; exact b2) b3 (Nat.le_refl _)
  rw [hzc, Nat.mul_one, toList_madeCells_one] at r1
  exact ⟨w', hrun, r1, ⟨r2.os, r2.tape, r2.output, r2.size, fun k hk => r2.block k hk (by simp)⟩⟩
end Go.Proofs.YtfiojofcafjfeaaGreat
namespace Go.Proofs.YtfiojofcafjfeaaGreat
open Go.RowKit

/-- The code of sizes. -/
noncomputable def szCode (sz : List Int) : Int := @ite _ (GoodSz sz) (Classical.propDecidable _) 0 (@ite _ (RightSz sz) (Classical.propDecidable _) 4 5)
theorem szCode_good {sz : List Int} (h : GoodSz sz) : szCode sz = 0 := by unfold szCode; rw [if_pos h]
theorem szCode_long {sz : List Int} (h : ¬ GoodSz sz) (hr : RightSz sz) : szCode sz = 4 := by unfold szCode; rw [if_neg h, if_pos hr]
theorem szCode_wrong {sz : List Int} (h : ¬ RightSz sz) : szCode sz = 5 := by unfold szCode; rw [if_neg (fun g => h g.1), if_neg h]
theorem szCode_iff (sz : List Int) : szCode sz = 0 ↔ GoodSz sz := by
  constructor
  · intro h
    by_cases hg : GoodSz sz
    · exact hg
    · by_cases hr : RightSz sz
      · rw [szCode_long hg hr] at h; omega
      · rw [szCode_wrong hr] at h; omega
  · exact szCode_good

theorem bool_ft (b : Bool) : b = false ∨ b = true := by cases b <;> simp
/-- A configuration. -/
structure Cfg where
  sizes : List Int
  shift : Int
  rate : Int
  mom : Int
  workers : Int
  batch : Int
  micros : Int
  steps : Int
  bucket : Int
  chunk : Int
  window : Int
  cap : Int
/-- Is it a size? -/
def okB (n : Int) : Bool := decide (1 ≤ n ∧ n ≤ 1048576)
theorem okB_true {n : Int} (h : okB n = true) : 1 ≤ n ∧ n ≤ 1048576 := by simpa [okB] using h
theorem okB_false {n : Int} (h : okB n = false) : ¬ (1 ≤ n ∧ n ≤ 1048576) := by
  intro h2; unfold okB at h; rw [decide_eq_true h2] at h; cases h
def stepsB (n : Int) : Bool := decide (0 ≤ n ∧ n ≤ 1048576)
/-- Are the sizes of a configuration right? -/
def numsB (k : Cfg) : Bool := okB k.micros && okB k.bucket && okB k.chunk && okB k.window && okB k.cap && stepsB k.steps
def wkB (k : Cfg) : Bool := decide (1 ≤ k.workers ∧ k.workers ≤ 64)
def shB (k : Cfg) : Bool := decide (1 ≤ k.shift ∧ k.shift ≤ 62)
def baB (k : Cfg) : Bool := decide (k.workers ≤ k.batch ∧ k.batch ≤ 1048576)
noncomputable def cfgCode (k : Cfg) : Int := if wkB k = false then 6 else if shB k = false then 9 else if szCode k.sizes ≠ 0 then szCode k.sizes else if numsB k = false then 2 else if baB k = false then 7 else 0
theorem cfg_6 {k : Cfg} (h : wkB k = false) : cfgCode k = 6 := by unfold cfgCode; rw [if_pos h]
theorem cfg_9 {k : Cfg} (h1 : wkB k = true) (h : shB k = false) : cfgCode k = 9 := by unfold cfgCode; rw [if_neg (by simp [h1]), if_pos h]
theorem cfg_s {k : Cfg} (h1 : wkB k = true) (h2 : shB k = true) (h : szCode k.sizes ≠ 0) : cfgCode k = szCode k.sizes := by unfold cfgCode; rw [if_neg (by simp [h1]), if_neg (by simp [h2]), if_pos h]
theorem cfg_2 {k : Cfg} (h1 : wkB k = true) (h2 : shB k = true) (h3 : szCode k.sizes = 0) (h : numsB k = false) : cfgCode k = 2 := by unfold cfgCode; rw [if_neg (by simp [h1]), if_neg (by simp [h2]), if_neg (by simp [h3]), if_pos h]
theorem cfg_7 {k : Cfg} (h1 : wkB k = true) (h2 : shB k = true) (h3 : szCode k.sizes = 0) (h4 : numsB k = true) (h : baB k = false) : cfgCode k = 7 := by unfold cfgCode; rw [if_neg (by simp [h1]), if_neg (by simp [h2]), if_neg (by simp [h3]), if_neg (by simp [h4]), if_pos h]
theorem cfg_0 {k : Cfg} (h1 : wkB k = true) (h2 : shB k = true) (h3 : szCode k.sizes = 0) (h4 : numsB k = true) (h : baB k = true) : cfgCode k = 0 := by unfold cfgCode; rw [if_neg (by simp [h1]), if_neg (by simp [h2]), if_neg (by simp [h3]), if_neg (by simp [h4]), if_neg (by simp [h])]
/-- A right configuration. -/
structure GoodCfg (k : Cfg) : Prop where
  w : 1 ≤ k.workers ∧ k.workers ≤ 64
  s : 1 ≤ k.shift ∧ k.shift ≤ 62
  z : GoodSz k.sizes
  mi : 1 ≤ k.micros ∧ k.micros ≤ 1048576
  bu : 1 ≤ k.bucket ∧ k.bucket ≤ 1048576
  ch : 1 ≤ k.chunk ∧ k.chunk ≤ 1048576
  wi : 1 ≤ k.window ∧ k.window ≤ 1048576
  ca : 1 ≤ k.cap ∧ k.cap ≤ 1048576
  st : 0 ≤ k.steps ∧ k.steps ≤ 1048576
  ba : k.workers ≤ k.batch ∧ k.batch ≤ 1048576
theorem szCode_45 (sz : List Int) : szCode sz = 0 ∨ szCode sz = 4 ∨ szCode sz = 5 := by
  by_cases hg : GoodSz sz
  · exact .inl (szCode_good hg)
  · by_cases hr : RightSz sz
    · exact .inr (.inl (szCode_long hg hr))
    · exact .inr (.inr (szCode_wrong hr))
theorem cfg_good {k : Cfg} : cfgCode k = 0 ↔ GoodCfg k := by
  constructor
  · intro h
    cases h1 : wkB k with
    | false => rw [cfg_6 h1] at h; omega
    | true =>
      cases h2 : shB k with
      | false => rw [cfg_9 h1 h2] at h; omega
      | true =>
        by_cases h3 : szCode k.sizes = 0
        · cases h4 : numsB k with
          | false => rw [cfg_2 h1 h2 h3 h4] at h; omega
          | true =>
            cases h5 : baB k with
            | false => rw [cfg_7 h1 h2 h3 h4 h5] at h; omega
            | true =>
              simp only [numsB, Bool.and_eq_true] at h4
              obtain ⟨⟨⟨⟨⟨a1, a2⟩, a3⟩, a4⟩, a5⟩, a6⟩ := h4
              exact ⟨by simpa [wkB] using h1, by simpa [shB] using h2, (szCode_iff _).1 h3, okB_true a1, okB_true a2, okB_true a3, okB_true a4, okB_true a5, by simpa [stepsB] using a6, by simpa [baB] using h5⟩
        · rw [cfg_s h1 h2 h3] at h; exact absurd h h3
  · intro h
    refine cfg_0 (by simpa [wkB] using h.w) (by simpa [shB] using h.s) (szCode_good h.z) ?_ (by simpa [baB] using h.ba)
    simp only [numsB, Bool.and_eq_true]
    exact ⟨⟨⟨⟨⟨by simpa [okB] using h.mi, by simpa [okB] using h.bu⟩, by simpa [okB] using h.ch⟩, by simpa [okB] using h.wi⟩, by simpa [okB] using h.ca⟩, by simpa [stepsB] using h.st⟩
end Go.Proofs.YtfiojofcafjfeaaGreat
namespace Go.Proofs.YtfiojofcafjfeaaGreat
open Go.RowKit

/-- An index in its bounds. -/
def goodI (n : Nat) (i : Int) : Prop := 0 ≤ i ∧ i < n
instance (n : Nat) (i : Int) : Decidable (goodI n i) := by unfold goodI; exact inferInstance
/-- What the loop of Pick answers. -/
def PickIs (l : List Ex) (idx : List Int) (w : World) (e : Ending) (w' : World) : Prop := Below w.heap.size w w' ∧
  (((∀ k, k < idx.length → goodI l.length (nth idx k)) ∧ ∃ v, e = .returned (.tuple #[v, .bool true]) ∧ MapI w w' (pickL l idx) idx.length v) ∨ ((¬ ∀ k, k < idx.length → goodI l.length (nth idx k)) ∧ e = .returned (.tuple #[.slice none 0 0, .bool false])))

set_option maxRecDepth 100000 in
set_option maxHeartbeats 1600000 in
theorem mapint_any (P c d : Nat) (A B : Option Addr) (l : List Ex) (idx : List Int) (w : World) (hP : w.heap[P]? = some (.cells #[.slice A l.length c] 25 (0, 0))) (h : SlRd rEx 2 w A l) (hl : l.length ≤ 1048576) (hB : Rd w B (nums .i64 idx)) (hi : idx.length ≤ 1048576) :
    Calls Tryz.prog 121 #[.slice B idx.length d, .func (.func 122) #[] #[.pointer (some ⟨P, 0, none⟩)]] w (PickIs l idx w) := by
  obtain ⟨n, hn⟩ : ∃ n, idx.length = n := ⟨_, rfl⟩
  unfold PickIs
  rw [hn] at hi ⊢
  obtain ⟨N, hN⟩ : ∃ N, l.length = N := ⟨_, rfl⟩
  have hpl := pickL_len l idx
  have hpa := fun k (hk : k < idx.length) => pickL_at l idx hk
  rw [hn] at hpl hpa
  have hPb := hP
  rw [hN] at hl hP ⊢
  have H := Lib.hid h; have Hn := Lib.hid hn; have HN := Lib.hid hN; have HB := Lib.hid hB; have HP := Lib.hid hP; have HPb := Lib.hid hPb; have Hpl := Lib.hid hpl; have Hpa := Lib.hid hpa; clear h hn hN hB hP hPb hpl hpa
  go_enter Tryz.func121, Tryz.ntmps121
  go_wp2_with fail
  go_loopw [6, 13] (fun v i wr => ∃ k : Nat, k ≤ n ∧ i = .int .i64 k ∧ MapI w wr (pickL l idx) k v ∧ Hid (∀ j, j < k → goodI N (nth idx j))) (fun _ i _ => n - (intOf i).toNat)
  case atStart => exact ⟨0, Nat.zero_le _, rfl, MapI.zero w _, Lib.hid fun j hj => by omega⟩
  case round =>
    obtain ⟨k, hk, rfl, hM, Hall⟩ := hrel
    obtain ⟨Al, cl, rfl⟩ := hM.form
    by_cases hlt : k < n
    · have hb := hM.b
      obtain ⟨b, o, rfl, p⟩ := (HB.out.below hb).num (show k < idx.length by rw [Hn.out]; exact hlt)
      obtain ⟨i, hi'⟩ : ∃ i, nth idx k = i := ⟨_, rfl⟩
      rw [hi'] at p
      have hPw := (hb.block P (lt_of_block HP.out)).trans HP.out
      by_cases hg : goodI N i
      · obtain ⟨j, rfl⟩ : ∃ j : Nat, i = (j : Int) := ⟨i.toNat, by have := hg.1; omega⟩
        have hjN : j < N := by have := hg.2; omega
        have hpk := Hpa.out k hlt
        rw [hi', Int.toNat_natCast] at hpk
        have hjl : j < l.length := by rw [HN.out]; exact hjN
        obtain ⟨x, hx⟩ : ∃ x, l[j]? = some x := ⟨_, List.getElem?_eq_getElem hjl⟩
        have hxd : l.getD j ([], []) = x := by simp [hx]
        rw [hxd] at hpk
        have hcl := pick1_good P c j A l x wr (by rw [HN.out]; exact hPw) (H.out.below stays_ex hb) hx
        unfold ExRet at hcl
        obtain ⟨n1, hn1⟩ : ∃ n1, x.1.length = n1 := ⟨_, rfl⟩
        obtain ⟨n2, hn2⟩ : ∃ n2, x.2.length = n2 := ⟨_, rfl⟩
        rw [hn1, hn2] at hcl
        have Hcl := Lib.hid hcl; have HM := Lib.hid hM; have Hx := Lib.hid hpk; have Hg := Lib.hid hg; have Hi := Lib.hid hi'
        clear hcl hM hx hn1 hn2 hb hg hi' hpk hxd hPw hjl
        go_wp2_with fail
        refine Hcl.out.mono ?_
        rintro e w3 ⟨B1, d1, B2, d2, rfl, ho, hb3⟩
        have hM3 := (HM.out.below hb3).below ((Below.refl _ _).alloc (Nat.le_refl _) (.cells #[.slice B1 n1 d1, .slice B2 n2 d2] 64))
        have ho3 := (ho.base (base' := w.heap.size) HM.out.b.size).below ((Below.refl _ _).alloc (Nat.le_refl _) (.cells #[.slice B1 n1 d1, .slice B2 n2 d2] 64))
        have HM3 := Lib.hid hM3; have Ho3 := Lib.hid ho3; clear hM3 ho3 ho hb3 p
        obtain ⟨rows, h1, h2, h3, h4, h5⟩ := HM3.out
        have R1 := Lib.hid h1; have R2 := Lib.hid h2; have R3 := Lib.hid h3; have R4 := Lib.hid h4; have R5 := Lib.hid h5; clear h1 h2 h3 h4 h5
        have hsz9 := Lib.hid (show (w3.alloc (.cells #[.slice B1 n1 d1, .slice B2 n2 d2] 64)).heap.size = w3.heap.size + 1 by simp)
        go_wp2_with (at_builtin; refine wpList_push et_exs _ rfl (.tmp 25) (.tmp 27) rfl w.heap.size (.slice Al k cl) k _ rfl R1.out [.slice B1 n1 d1, .slice B2 n2 d2] (congrArg (fun b : Nat => Value.slice (some ⟨b, 0, none⟩) 1 1) hsz9.out.symm) rfl (by simp [Value.oneCell']) (by omega) (by unfold maxLen; omega) R5.out.size ?_)
        intro g6 c6 w6 ho6 hb6 hg6
        have hM6 := MapI.push R1.out R2.out R3.out R4.out R5.out Hx.out Ho3.out ho6 hb6 hg6
        have HM6 := Lib.hid hM6
        clear ho6 hb6 hg6 hM6
        go_wp2_with fail
        go_roundw
        case rel => exact ⟨k + 1, by omega, by go_num, HM6.out, Lib.hid (p := ∀ j, j < k + 1 → goodI N (nth idx j)) fun t ht => by
          rcases Nat.lt_or_ge t k with h | h
          · exact Hall.out t h
          · obtain rfl : t = k := by omega
            rw [Hi.out]; exact Hg.out⟩
        case measure => simp [intOf]; omega
      · have hg' : i < 0 ∨ (N : Int) ≤ i := by unfold goodI at hg; omega
        have hcl := pick1_bad P N c A i wr hPw hg'
        have Hcl := Lib.hid hcl; have HM := Lib.hid hM; have Hg := Lib.hid hg; have Hi := Lib.hid hi'
        clear hcl hM hb hg hg' hi' hPw
        go_wp2_with fail
        refine Hcl.out.mono ?_
        rintro e w3 ⟨rfl, hb3⟩
        have HB3 := Lib.hid (HM.out.b.trans (hb3.mono HM.out.b.size)); clear hb3 p
        go_wp2_with fail
        go_ret2
        exact ⟨HB3.out.alloc HB3.out.size _, .inr ⟨fun h => Hg.out (by have := h k hlt; rwa [Hi.out] at this), rfl⟩⟩
    · obtain rfl : n = k := by omega
      have HM := Lib.hid hM; clear hM
      go_wp2_with fail
      go_ret2
      exact ⟨HM.out.b, .inl ⟨Hall.out, _, rfl, HM.out⟩⟩

set_option maxRecDepth 100000 in
theorem pick_any (c d : Nat) (A B : Option Addr) (l : List Ex) (idx : List Int) (w : World) (h : SlRd rEx 2 w A l) (hl : l.length ≤ 1048576) (hB : Rd w B (nums .i64 idx)) (hi : idx.length ≤ 1048576) :
    Calls Tryz.prog 91 #[.slice A l.length c, .slice B idx.length d] w fun e w' => Below w.heap.size w w' ∧
      (((∀ k, k < idx.length → goodI l.length (nth idx k)) ∧ ∃ A' c', e = .returned (.tuple #[.slice A' idx.length c', .bool true]) ∧ SlRd rEx 2 w' A' (pickL l idx)) ∨ ((¬ ∀ k, k < idx.length → goodI l.length (nth idx k)) ∧ e = .returned (.tuple #[.slice none 0 0, .bool false]))) := by
  have hm := mapint_any w.heap.size c d A B l idx (w.alloc (.cells #[.slice A l.length c] 25)) (heap_alloc_new w _) (h.below stays_ex ((Below.refl _ w).alloc (Nat.le_refl _) _)) hl (hB.alloc _) hi
  have hpl := pickL_len l idx
  unfold PickIs at hm
  obtain ⟨n, hn⟩ : ∃ n, idx.length = n := ⟨_, rfl⟩
  obtain ⟨N, hN⟩ : ∃ N, l.length = N := ⟨_, rfl⟩
  rw [hn, hN] at hm ⊢
  rw [hn] at hpl
  have Hm := Lib.hid hm; have Hpl := Lib.hid hpl; clear hm hpl hn hN h hB
  go_enter Tryz.func91, Tryz.ntmps91
  go_wp2_with fail
  refine Hm.out.mono ?_
  rintro e w1 ⟨hb, hp⟩
  have hb1 : Below w.heap.size w w1 := ((Below.refl _ w).alloc (Nat.le_refl _) _).trans (hb.mono (by first | omega | (simp; done) | (simp; omega)))
  have Hb := Lib.hid hb1; clear hb hb1
  rcases hp with ⟨hg, v, rfl, hM⟩ | ⟨hg, rfl⟩
  · obtain ⟨A', c', rfl⟩ := hM.form
    have Hg := Lib.hid hg; have HM := Lib.hid hM; clear hg hM
    go_wp2_with fail
    go_ret2
    exact ⟨Hb.out, .inl ⟨Hg.out, _, _, rfl, HM.out.done Hpl.out⟩⟩
  · have Hg := Lib.hid hg; clear hg
    go_wp2_with fail
    go_ret2
    exact ⟨Hb.out, .inr ⟨Hg.out, rfl⟩⟩

/-- The lengths of an example fit. -/
def fitEx (a b : Nat) (x : Ex) : Prop := x.1.length = a ∧ x.2.length = b
instance (a b : Nat) (x : Ex) : Decidable (fitEx a b x) := by unfold fitEx; exact inferInstance
theorem check1_any (P1 P2 n m a b c d : Nat) (A B : Option Addr) (w : World) (h1 : w.heap[P1]? = some (.cells #[.int .i64 a] 3 (0, 0))) (h2 : w.heap[P2]? = some (.cells #[.int .i64 b] 3 (0, 0))) :
    Calls Tryz.prog 109 #[.agg #[.slice A n c, .slice B m d], .pointer (some ⟨P1, 0, none⟩), .pointer (some ⟨P2, 0, none⟩)] w fun e w' => e = .returned (.bool (!decide (n = a ∧ m = b))) ∧ Below w.heap.size w w' := by
  have p0 := cell_of_row w _ 0 _ _ _ h1
  have pf := fun j => frozen_of_row w _ j _ _ h1
  have q0 := cell_of_row w _ 0 _ _ _ h2
  have qf := fun j => frozen_of_row w _ j _ _ h2
  have l1 := lt_of_block h1
  have l2 := lt_of_block h2
  clear h1 h2
  by_cases e1 : n = a
  · by_cases e2 : m = b
    · have hq1 : ((n : Int) != (a : Int)) = false := by rw [e1]; simp
      have hq2 : ((m : Int) != (b : Int)) = false := by rw [e2]; simp
      have hd : (!decide (n = a ∧ m = b)) = false := by simp [e1, e2]
      rw [hd]
      clear e1 e2 hd
      go_enter Tryz.func109, Tryz.ntmps109
      go_wp2
      go_ret
      exact ⟨rfl, (Below.refl _ w).alloc (Nat.le_refl _) _⟩
    · have hq1 : ((n : Int) != (a : Int)) = false := by rw [e1]; simp
      have hq2 : ((m : Int) != (b : Int)) = true := by rw [bne_iff_ne]; omega
      have hd : (!decide (n = a ∧ m = b)) = true := by simp [e2]
      rw [hd]
      clear e1 e2 hd
      go_enter Tryz.func109, Tryz.ntmps109
      go_wp2
      go_ret
      exact ⟨rfl, (Below.refl _ w).alloc (Nat.le_refl _) _⟩
  · have hq1 : ((n : Int) != (a : Int)) = true := by rw [bne_iff_ne]; omega
    have hd : (!decide (n = a ∧ m = b)) = true := by simp [e1]
    rw [hd]
    clear e1 hd
    go_enter Tryz.func109, Tryz.ntmps109
    go_wp2
    go_ret
    exact ⟨rfl, (Below.refl _ w).alloc (Nat.le_refl _) _⟩

/-- What IndexFunc answers, as far as it matters. -/
def ExIdxIs (l : List Ex) (a b : Nat) (w : World) (e : Ending) (w' : World) : Prop := ∃ d : Int, e = .returned (.int .i64 d) ∧ -1 ≤ d ∧ d ≤ 1048576 ∧ (d < 0 ↔ ∀ x ∈ l, fitEx a b x) ∧ Below w.heap.size w w'
set_option maxRecDepth 100000 in
theorem exindex_any (P1 P2 a b c : Nat) (A : Option Addr) (l : List Ex) (w : World) (h1 : w.heap[P1]? = some (.cells #[.int .i64 a] 3 (0, 0))) (h2 : w.heap[P2]? = some (.cells #[.int .i64 b] 3 (0, 0))) (h : SlRd rEx 2 w A l) (hl : l.length ≤ 1048576) :
    Calls Tryz.prog 108 #[.slice A l.length c, .func (.func 109) #[] #[.pointer (some ⟨P1, 0, none⟩), .pointer (some ⟨P2, 0, none⟩)]] w (ExIdxIs l a b w) := by
  unfold ExIdxIs
  have hck := fun n m A c B d w' (k : Below w.heap.size w w') => check1_any P1 P2 n m a b c d A B w' ((k.block _ (lt_of_block h1)).trans h1) ((k.block _ (lt_of_block h2)).trans h2)
  obtain ⟨n, hn⟩ : ∃ n, l.length = n := ⟨_, rfl⟩
  rw [hn] at hl ⊢
  have H := Lib.hid h; have Hn := Lib.hid hn; have Hck := Lib.hid hck; clear h hn hck h1 h2
  go_enter Tryz.func108, Tryz.ntmps108
  go_wp2_with fail
  go_loopw [5, 8] (fun _ i wr => ∃ k : Nat, k ≤ n ∧ i = .int .i64 k ∧ Hid (∀ j x, j < k → l[j]? = some x → fitEx a b x) ∧ Below w.heap.size w wr) (fun _ i _ => n - (intOf i).toNat)
  case atStart => exact ⟨0, Nat.zero_le _, rfl, Lib.hid fun j x hj => by omega, Below.refl _ _⟩
  case round =>
    obtain ⟨k, hk, rfl, Hall, hb⟩ := hrel
    by_cases hlt : k < n
    · obtain ⟨x, hx⟩ : ∃ x, l[k]? = some x := ⟨_, List.getElem?_eq_getElem (by rw [Hn.out]; exact hlt)⟩
      obtain ⟨b', o, A1, c1, A2, c2, rfl, hbl, p1, p2, r1, r2⟩ := ex_cells (H.out.below stays_ex hb) hx
      have hc := Hck.out x.1.length x.2.length A1 c1 A2 c2 wr hb
      by_cases hf : fitEx a b x
      · have hd : (!decide (x.1.length = a ∧ x.2.length = b)) = false := by
          have := hf; unfold fitEx at this; simp [this.1, this.2]
        rw [hd] at hc
        have Hc := Lib.hid hc; have Hx := Lib.hid hx; have Hf := Lib.hid hf; have Hb := Lib.hid hb
        clear hc hx hf hd r1 r2 hb
        go_wp2_with fail
        refine Hc.out.mono ?_
        rintro e w1 ⟨rfl, hb1⟩
        have HB1 := Lib.hid (Hb.out.trans (hb1.mono Hb.out.size)); clear hb1 p1 p2
        go_wp2_with fail
        go_roundw
        case rel => exact ⟨k + 1, by omega, by go_num, Lib.hid (p := ∀ j x, j < k + 1 → l[j]? = some x → fitEx a b x) fun j y hj hy => by
          rcases Nat.lt_or_ge j k with h | h
          · exact Hall.out j y h hy
          · obtain rfl : j = k := by omega
            have := Hx.out; rw [hy] at this; injection this with this; rw [this]; exact Hf.out, HB1.out⟩
        case measure => simp [intOf]; omega
      · have hd : (!decide (x.1.length = a ∧ x.2.length = b)) = true := by
          have := hf; unfold fitEx at this; simp only [Bool.not_eq_true', decide_eq_false_iff_not]; exact this
        rw [hd] at hc
        have Hc := Lib.hid hc; have Hx := Lib.hid hx; have Hf := Lib.hid hf; have Hb := Lib.hid hb
        clear hc hx hf hd r1 r2 hb
        go_wp2_with fail
        refine Hc.out.mono ?_
        rintro e w1 ⟨rfl, hb1⟩
        have HB1 := Lib.hid (Hb.out.trans (hb1.mono Hb.out.size)); clear hb1 p1 p2
        go_wp2_with fail
        go_ret
        exact ⟨k, rfl, by omega, by omega, ⟨fun h => by omega, fun h => absurd (h x (List.mem_of_getElem? Hx.out)) Hf.out⟩, HB1.out⟩
    · obtain rfl : n = k := by omega
      have Hb := Lib.hid hb; clear hb
      go_wp2_with fail
      go_ret
      refine ⟨-1, rfl, by omega, by omega, ⟨fun _ x hx => ?_, fun _ => by omega⟩, Hb.out⟩
      obtain ⟨j, hj⟩ := List.getElem?_of_mem hx
      exact Hall.out j x (by have := (List.getElem?_eq_some_iff.1 hj).1; have := Hn.out; omega) hj

/-- What Check answers. -/
def DChkIs (l : List Ex) (a b : Nat) (w : World) (e : Ending) (w' : World) : Prop := Below w.heap.size w w' ∧ ∃ d : Int, ((∀ x ∈ l, fitEx a b x) ∧ e = .returned (.tuple #[.int .i64 d, .bool true])) ∨ ((¬ ∀ x ∈ l, fitEx a b x) ∧ e = .returned (.tuple #[.int .i64 d, .bool false]))
set_option maxRecDepth 100000 in
theorem dcheck_any (a b c : Nat) (A : Option Addr) (l : List Ex) (w : World) (h : SlRd rEx 2 w A l) (hl : l.length ≤ 1048576) :
    Calls Tryz.prog 72 #[.slice A l.length c, .int .i64 a, .int .i64 b] w (DChkIs l a b w) := by
  have hW : ∀ (o1 o2 : Obj), Below w.heap.size w ((w.alloc o1).alloc o2) := fun o1 o2 => ((Below.refl _ w).alloc (Nat.le_refl _) _).alloc (by simp) _
  have hi := exindex_any w.heap.size (w.heap.size + 1) a b c A l ((w.alloc (.cells #[.int .i64 a] 3)).alloc (.cells #[.int .i64 b] 3)) ((Below.heap_alloc _ _ _ (by simp)).trans (heap_alloc_new w _))
    (by have := heap_alloc_new (w.alloc (.cells #[.int .i64 a] 3)) (.cells #[.int .i64 b] 3); rwa [show (w.alloc (.cells #[.int .i64 a] 3)).heap.size = w.heap.size + 1 by simp] at this) (h.below stays_ex (hW _ _)) hl
  obtain ⟨n, hn⟩ : ∃ n, l.length = n := ⟨_, rfl⟩
  unfold ExIdxIs at hi
  unfold DChkIs
  rw [hn] at hi ⊢
  have Hi := Lib.hid hi; have HW := Lib.hid hW; clear hi hW h hn
  go_enter Tryz.func72, Tryz.ntmps72
  go_wp2_with fail
  refine Hi.out.mono ?_
  rintro e w1 ⟨d, rfl, hd1, hd2, hiff, hb⟩
  have HB := Lib.hid ((HW.out (.cells #[.int .i64 a] 3) (.cells #[.int .i64 b] 3)).trans (hb.mono (by simp; omega))); have Hiff := Lib.hid hiff; clear hb hiff
  by_cases h0 : d < 0
  · have hq : decide (d < 0) = true := by simp; omega
    go_wp2_with fail
    all_goals
      go_ret2
      exact ⟨HB.out, _, .inl ⟨Hiff.out.1 h0, rfl⟩⟩
  · have hq : decide (d < 0) = false := by simp; omega
    go_wp2_with fail
    all_goals
      go_ret2
      exact ⟨HB.out, _, .inr ⟨fun h => by have := Hiff.out.2 h; omega, rfl⟩⟩
end Go.Proofs.YtfiojofcafjfeaaGreat
