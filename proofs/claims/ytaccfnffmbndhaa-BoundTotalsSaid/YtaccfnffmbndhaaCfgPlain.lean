/- What a configuration is, and its code, in plain numbers. -/
import Derived.Test.YtaccfnffmbndhaaShapePlain
set_option linter.unusedSimpArgs false
set_option linter.unusedVariables false
namespace Go.Proofs.Ytaccfnffmbndhaa
open Go.RowKit

/-- The code of sizes. -/
noncomputable def szCode (sz : List Int) : Int := @ite _ (GoodSz sz) (Classical.propDecidable _) 0 (@ite _ (RightSz sz) (Classical.propDecidable _) 4 5)
theorem szCode_good {sz : List Int} (h : GoodSz sz) : szCode sz = 0 := by unfold szCode; rw [if_pos h]
theorem szCode_long {sz : List Int} (h : ¬ GoodSz sz) (hr : RightSz sz) : szCode sz = 4 := by unfold szCode; rw [if_neg h, if_pos hr]
theorem szCode_wrong {sz : List Int} (h : ¬ RightSz sz) : szCode sz = 5 := by unfold szCode; rw [if_neg (fun g => h g.1), if_neg h]
theorem szCode_iff (sz : List Int) : szCode sz = 0 ↔ GoodSz sz := by
  constructor
  · intro h
    by_cases hg : GoodSz sz
    · exact hg
    · by_cases hr : RightSz sz
      · rw [szCode_long hg hr] at h; omega
      · rw [szCode_wrong hr] at h; omega
  · exact szCode_good

theorem bool_ft (b : Bool) : b = false ∨ b = true := by cases b <;> simp
/-- A configuration. -/
structure Cfg where
  sizes : List Int
  shift : Int
  rate : Int
  mom : Int
  workers : Int
  batch : Int
  micros : Int
  steps : Int
  bucket : Int
  chunk : Int
  window : Int
  cap : Int
/-- Is it a size? -/
def okB (n : Int) : Bool := decide (1 ≤ n ∧ n ≤ 1048576)
theorem okB_true {n : Int} (h : okB n = true) : 1 ≤ n ∧ n ≤ 1048576 := by simpa [okB] using h
theorem okB_false {n : Int} (h : okB n = false) : ¬ (1 ≤ n ∧ n ≤ 1048576) := by
  intro h2; unfold okB at h; rw [decide_eq_true h2] at h; cases h
def stepsB (n : Int) : Bool := decide (0 ≤ n ∧ n ≤ 1048576)
/-- Are the sizes of a configuration right? -/
def numsB (k : Cfg) : Bool := okB k.micros && okB k.bucket && okB k.chunk && okB k.window && okB k.cap && stepsB k.steps
def wkB (k : Cfg) : Bool := decide (1 ≤ k.workers ∧ k.workers ≤ 64)
def shB (k : Cfg) : Bool := decide (1 ≤ k.shift ∧ k.shift ≤ 62)
def baB (k : Cfg) : Bool := decide (k.workers ≤ k.batch ∧ k.batch ≤ 1048576)
noncomputable def cfgCode (k : Cfg) : Int := if wkB k = false then 6 else if shB k = false then 9 else if szCode k.sizes ≠ 0 then szCode k.sizes else if numsB k = false then 2 else if baB k = false then 7 else 0
theorem cfg_6 {k : Cfg} (h : wkB k = false) : cfgCode k = 6 := by unfold cfgCode; rw [if_pos h]
theorem cfg_9 {k : Cfg} (h1 : wkB k = true) (h : shB k = false) : cfgCode k = 9 := by unfold cfgCode; rw [if_neg (by simp [h1]), if_pos h]
theorem cfg_s {k : Cfg} (h1 : wkB k = true) (h2 : shB k = true) (h : szCode k.sizes ≠ 0) : cfgCode k = szCode k.sizes := by unfold cfgCode; rw [if_neg (by simp [h1]), if_neg (by simp [h2]), if_pos h]
theorem cfg_2 {k : Cfg} (h1 : wkB k = true) (h2 : shB k = true) (h3 : szCode k.sizes = 0) (h : numsB k = false) : cfgCode k = 2 := by unfold cfgCode; rw [if_neg (by simp [h1]), if_neg (by simp [h2]), if_neg (by simp [h3]), if_pos h]
theorem cfg_7 {k : Cfg} (h1 : wkB k = true) (h2 : shB k = true) (h3 : szCode k.sizes = 0) (h4 : numsB k = true) (h : baB k = false) : cfgCode k = 7 := by unfold cfgCode; rw [if_neg (by simp [h1]), if_neg (by simp [h2]), if_neg (by simp [h3]), if_neg (by simp [h4]), if_pos h]
theorem cfg_0 {k : Cfg} (h1 : wkB k = true) (h2 : shB k = true) (h3 : szCode k.sizes = 0) (h4 : numsB k = true) (h : baB k = true) : cfgCode k = 0 := by unfold cfgCode; rw [if_neg (by simp [h1]), if_neg (by simp [h2]), if_neg (by simp [h3]), if_neg (by simp [h4]), if_neg (by simp [h])]
/-- A right configuration. -/
structure GoodCfg (k : Cfg) : Prop where
  w : 1 ≤ k.workers ∧ k.workers ≤ 64
  s : 1 ≤ k.shift ∧ k.shift ≤ 62
  z : GoodSz k.sizes
  mi : 1 ≤ k.micros ∧ k.micros ≤ 1048576
  bu : 1 ≤ k.bucket ∧ k.bucket ≤ 1048576
  ch : 1 ≤ k.chunk ∧ k.chunk ≤ 1048576
  wi : 1 ≤ k.window ∧ k.window ≤ 1048576
  ca : 1 ≤ k.cap ∧ k.cap ≤ 1048576
  st : 0 ≤ k.steps ∧ k.steps ≤ 1048576
  ba : k.workers ≤ k.batch ∧ k.batch ≤ 1048576
theorem szCode_45 (sz : List Int) : szCode sz = 0 ∨ szCode sz = 4 ∨ szCode sz = 5 := by
  by_cases hg : GoodSz sz
  · exact .inl (szCode_good hg)
  · by_cases hr : RightSz sz
    · exact .inr (.inl (szCode_long hg hr))
    · exact .inr (.inr (szCode_wrong hr))
theorem cfg_good {k : Cfg} : cfgCode k = 0 ↔ GoodCfg k := by
  constructor
  · intro h
    cases h1 : wkB k with
    | false => rw [cfg_6 h1] at h; omega
    | true =>
      cases h2 : shB k with
      | false => rw [cfg_9 h1 h2] at h; omega
      | true =>
        by_cases h3 : szCode k.sizes = 0
        · cases h4 : numsB k with
          | false => rw [cfg_2 h1 h2 h3 h4] at h; omega
          | true =>
            cases h5 : baB k with
            | false => rw [cfg_7 h1 h2 h3 h4 h5] at h; omega
            | true =>
              simp only [numsB, Bool.and_eq_true] at h4
              obtain ⟨⟨⟨⟨⟨a1, a2⟩, a3⟩, a4⟩, a5⟩, a6⟩ := h4
              exact ⟨by simpa [wkB] using h1, by simpa [shB] using h2, (szCode_iff _).1 h3, okB_true a1, okB_true a2, okB_true a3, okB_true a4, okB_true a5, by simpa [stepsB] using a6, by simpa [baB] using h5⟩
        · rw [cfg_s h1 h2 h3] at h; exact absurd h h3
  · intro h
    refine cfg_0 (by simpa [wkB] using h.w) (by simpa [shB] using h.s) (szCode_good h.z) ?_ (by simpa [baB] using h.ba)
    simp only [numsB, Bool.and_eq_true]
    exact ⟨⟨⟨⟨⟨by simpa [okB] using h.mi, by simpa [okB] using h.bu⟩, by simpa [okB] using h.ch⟩, by simpa [okB] using h.wi⟩, by simpa [okB] using h.ca⟩, by simpa [stepsB] using h.st⟩
end Go.Proofs.Ytaccfnffmbndhaa
