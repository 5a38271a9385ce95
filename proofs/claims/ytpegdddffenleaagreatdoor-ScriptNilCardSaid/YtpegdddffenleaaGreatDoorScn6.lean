/- The walk of ScriptNil. -/
import Derived.Test.YtpegdddffenleaaGreatDoorScn5
import Derived.Shelf.Slices.Equal
import Derived.Shelf.Slices.Turned
set_option linter.unusedSimpArgs false
set_option linter.unusedVariables false
namespace Go.Proofs.YtpegdddffenleaaGreatDoor
open Go.RowKit Go.Maps Go.Shelf

def nameB : List ByteArray := nameL.map fun x => ⟨x.toArray⟩
theorem cut_any (s : ByteArray) (w : World) (hs : s.size < 4294967281) (hm : MaxIs w) :
    Calls Tryz.prog 12 #[.string s, .string ⟨#[32]⟩] w fun e w' => ∃ x y, e = .returned (.tuple #[.string (word1 s), x, y]) ∧ Below w.heap.size w w' := by
  obtain ⟨m, hm⟩ := hm
  refine (Any.strings_Cut { Tryz.laysM145 with } s ⟨#[32]⟩ m w hs hm).mono ?_
  rintro e w' ⟨rfl, n, rfl⟩
  exact ⟨_, _, rfl, below_drewN (br w) n⟩
theorem own_at {w : World} {base n : Nat} {v : Value} {xs : List Value} (ho : w.ownsRow base 9 1 v n xs) (hn : 0 < n) : ∃ g cap, v = .slice (some ⟨g, 0, none⟩) n cap ∧ ∀ j x, xs[j]? = some x → w.cell? ⟨g, 0 + j, none⟩ = some x := by
  rcases ho.2 with ⟨-, h0⟩ | ⟨g, cap, cur, rfl, hg, hgg, hc, hm, hz, ht⟩
  · omega
  · refine ⟨g, cap, rfl, fun j x hx => ?_⟩
    have hj : j < n := by
      have := (List.getElem?_eq_some_iff.1 hx).1
      have := ho.1
      omega
    rw [Nat.zero_add, World.ownsRow.cellAt ho j (by omega), hx]
theorem name_getD (j : Nat) (hj : j < nameB.length) : (nameL.map sV)[j]? = some (.string (nameB.getD j ByteArray.empty)) := by
  unfold nameB at hj ⊢
  rw [List.length_map] at hj
  rw [List.getElem?_map, List.getElem?_eq_getElem hj, List.getD_eq_getElem?_getD, List.getElem?_map, List.getElem?_eq_getElem hj]
  rfl
theorem nameB_len : nameB.length = 13 := by decide +kernel
/-- slices.Equal of the names and the law's list. -/
theorem equal_any (g1 c1 g2 c2 : Nat) (w : World) (h1 : ∀ j x, (nameL.map sV)[j]? = some x → w.cell? ⟨g1, 0 + j, none⟩ = some x) (h2 : ∀ j x, (nameL.map sV)[j]? = some x → w.cell? ⟨g2, 0 + j, none⟩ = some x) :
    Calls Tryz.prog 13 #[.slice (some ⟨g1, 0, none⟩) 13 c1, .slice (some ⟨g2, 0, none⟩) 13 c2] w fun e w' => e = .returned (.bool true) ∧ Below w.heap.size w w' := by
  refine (Any.slices_Equal_string Tryz.lays193 g1 0 13 c1 g2 0 13 c2 nameB nameB w (by rw [nameB_len]; exact Nat.le_refl _) (by rw [nameB_len]; exact Nat.le_refl _) (by decide) (by decide) (fun j hj => h1 j _ (name_getD j hj)) (fun j hj => h2 j _ (name_getD j hj))).mono ?_
  rintro e w' ⟨rfl, q, rfl⟩
  exact ⟨by simp, below_drewN (br w) q⟩
theorem contains_name (x : ByteArray) : Lib.containsS (nameB.take 13) x = hasName x.data.toList := by
  rw [List.take_of_length_le (by rw [nameB_len]; exact Nat.le_refl _)]
  rw [Bool.eq_iff_iff, Lib.containsS_iff]
  unfold nameB nameL hasName
  rw [List.any_eq_true, List.mem_map]
  constructor
  · rintro ⟨l, hl, rfl⟩
    obtain ⟨p, hp, rfl⟩ := List.mem_map.1 hl
    exact ⟨p, hp, by simp⟩
  · rintro ⟨p, hp, h⟩
    refine ⟨p.1, List.mem_map.2 ⟨p, hp, rfl⟩, ?_⟩
    have e : p.1 = x.data.toList := by simpa using h
    apply ByteArray.ext
    show p.1.toArray = x.data
    rw [e]
theorem contains_any (g c : Nat) (x : ByteArray) (w : World) (h : ∀ j y, (nameL.map sV)[j]? = some y → w.cell? ⟨g, 0 + j, none⟩ = some y) :
    Calls Tryz.prog 15 #[.slice (some ⟨g, 0, none⟩) 13 c, .string x] w fun e w' => e = .returned (.bool (hasName x.data.toList)) ∧ w' = w := by
  have hc := Any.slices_Contains_string Tryz.lays110 g 0 13 c nameB x w (by rw [nameB_len]; exact Nat.le_refl _) (by decide) (fun j hj => h j _ (name_getD j hj))
  rw [contains_name] at hc
  exact hc
set_option maxRecDepth 100000 in
set_option maxHeartbeats 4000000 in
theorem ScriptNil_walk (s : ByteArray) (w : World) (hm : MaxIs w) :
    Calls Tryz.prog 4 #[.string s] w fun e w' => e = .returned (.bool true) ∧ Below w.heap.size w w' := by
  by_cases hs : s.size ≤ 300
  · obtain ⟨W1, hW⟩ : ∃ W1, w.alloc (.cells #[.string ⟨#[98, 101, 115, 116]⟩, .string ⟨#[98, 111, 117, 110, 100]⟩, .string ⟨#[99, 104, 101, 99, 107]⟩, .string ⟨#[99, 108, 101, 97, 114]⟩, .string ⟨#[99, 111, 110, 102, 105, 103]⟩, .string ⟨#[99, 111, 117, 110, 116]⟩, .string ⟨#[100, 114, 97, 119, 115]⟩, .string ⟨#[101, 120, 97, 109, 112, 108, 101]⟩, .string ⟨#[112, 97, 114, 97, 109, 115]⟩, .string ⟨#[112, 105, 99, 107, 115]⟩, .string ⟨#[114, 117, 110]⟩, .string ⟨#[115, 104, 111, 119]⟩, .string ⟨#[115, 116, 97, 114, 116]⟩] 9) = W1 := ⟨_, rfl⟩
    have k1 : Below w.heap.size w W1 := by rw [← hW]; exact (br w).alloc (Nat.le_refl _) _
    have g1 : W1.heap[w.heap.size]? = some (.cells #[.string ⟨#[98, 101, 115, 116]⟩, .string ⟨#[98, 111, 117, 110, 100]⟩, .string ⟨#[99, 104, 101, 99, 107]⟩, .string ⟨#[99, 108, 101, 97, 114]⟩, .string ⟨#[99, 111, 110, 102, 105, 103]⟩, .string ⟨#[99, 111, 117, 110, 116]⟩, .string ⟨#[100, 114, 97, 119, 115]⟩, .string ⟨#[101, 120, 97, 109, 112, 108, 101]⟩, .string ⟨#[112, 97, 114, 97, 109, 115]⟩, .string ⟨#[112, 105, 99, 107, 115]⟩, .string ⟨#[114, 117, 110]⟩, .string ⟨#[115, 104, 111, 119]⟩, .string ⟨#[115, 116, 97, 114, 116]⟩] 9 (0, 0)) := by rw [← hW]; exact heap_alloc_new w _
    have hl : ∀ w', Below W1.heap.size W1 w' → ∀ j x, (nameL.map sV)[j]? = some x → w'.cell? ⟨w.heap.size, 0 + j, none⟩ = some x := fun w' q j x hx => by
      rw [Nat.zero_add, cell_of_row w' w.heap.size j _ _ _ (sb g1 w' q), ← hx]
      show _ = (List.map sV nameL)[j]?
      rw [show List.map sV nameL = (#[.string ⟨#[98, 101, 115, 116]⟩, .string ⟨#[98, 111, 117, 110, 100]⟩, .string ⟨#[99, 104, 101, 99, 107]⟩, .string ⟨#[99, 108, 101, 97, 114]⟩, .string ⟨#[99, 111, 110, 102, 105, 103]⟩, .string ⟨#[99, 111, 117, 110, 116]⟩, .string ⟨#[100, 114, 97, 119, 115]⟩, .string ⟨#[101, 120, 97, 109, 112, 108, 101]⟩, .string ⟨#[112, 97, 114, 97, 109, 115]⟩, .string ⟨#[112, 105, 99, 107, 115]⟩, .string ⟨#[114, 117, 110]⟩, .string ⟨#[115, 104, 111, 119]⟩, .string ⟨#[115, 116, 97, 114, 116]⟩] : Array Value).toList from by rfl]
      simp
    have hmx := fun w' (q : Below w.heap.size w w') => hm.below q
    have hct := cut_any s W1 (by omega) (hm.below k1)
    have HW := Lib.hid hW; have K1 := Lib.hid k1; have HL := Lib.hid hl; have HM := Lib.hid hmx; have HC := Lib.hid hct
    clear hW k1 g1 hl hmx hct hm
    have hlen : decide ((300 : Int) < (s.size : Int)) = false := by simp; omega
    go_enter Tryz.func4, Tryz.ntmps4
    go_wp2_with fail
    rw [HW.out]
    refine HC.out.mono ?_
    rintro e w2 ⟨x, y, rfl, q2⟩
    have Q2 := Lib.hid q2; have K2 := Lib.hid (K1.out.trans (q2.mono K1.out.size))
    clear q2 HC
    go_wp2_with fail
    refine (alive26 w2 (HM.out w2 K2.out)).mono ?_
    rintro e w3 ⟨rfl, q⟩
    have Q3 := Lib.hid (bt Q2.out q); have K3 := Lib.hid (K2.out.trans (q.mono K2.out.size))
    clear q Q2 K2
    go_wp2_with fail
    refine (do_nil s w3).mono ?_
    rintro e w4 ⟨rfl, q⟩
    have Q4 := Lib.hid (bt Q3.out q); have K4 := Lib.hid (K3.out.trans (q.mono K3.out.size))
    clear q Q3 K3
    unfold sV
    go_wp2_with fail
    refine (names_any w4).mono ?_
    rintro e w5 ⟨v, rfl, ho, q⟩
    have Q5 := Lib.hid (bt Q4.out q); have K5 := Lib.hid (K4.out.trans (q.mono K4.out.size))
    obtain ⟨g, cap, rfl, hg⟩ := own_at ho (by decide)
    have heq := equal_any g cap w.heap.size 13 w5 hg (HL.out w5 Q5.out)
    have HE := Lib.hid heq
    clear q Q4 K4 ho hg heq
    go_wp2_with fail
    refine HE.out.mono ?_
    rintro e w6 ⟨rfl, q⟩
    have Q6 := Lib.hid (bt Q5.out q); have K6 := Lib.hid (K5.out.trans (q.mono K5.out.size))
    have hcn := contains_any w.heap.size 13 (word1 s) w6 (HL.out w6 Q6.out)
    have HN := Lib.hid hcn
    clear q Q5 K5 hcn HE
    obtain ⟨hb, hhb⟩ : ∃ hb, hasName (word1 s).data.toList = hb := ⟨_, rfl⟩
    have HB := Lib.hid hhb
    rw [hhb] at HN
    clear hhb
    go_wp2_with fail
    refine HN.out.mono ?_
    rintro e w7 ⟨rfl, rfl⟩
    cases hb with
    | true =>
      go_wp2_with fail
      go_ret
      exact ⟨rfl, K6.out⟩
    | false =>
      go_wp2_with fail
      refine (new_any w7).mono ?_
      rintro e w8 ⟨rfl, hw8⟩
      have q8 : Below w7.heap.size w7 w8 := by rw [hw8]; exact (br w7).alloc (Nat.le_refl _) _
      have K8 := Lib.hid (K6.out.trans (q8.mono K6.out.size))
      clear q8 hw8
      go_wp2_with fail
      refine (do_none _ s w8 hs (HM.out w8 K8.out) HB.out).mono ?_
      rintro e w9 ⟨rfl, q⟩
      have K9 := Lib.hid (K8.out.trans (q.mono K8.out.size))
      clear q
      unfold sV
      go_wp2_with fail
      go_ret
      exact ⟨by simp, K9.out⟩
  · have hlen : decide ((300 : Int) < (s.size : Int)) = true := by simp; omega
    have ha := alive26 w hm
    have HA := Lib.hid ha
    clear ha hm
    go_enter Tryz.func4, Tryz.ntmps4
    go_wp2_with fail
    refine HA.out.mono ?_
    rintro e w2 ⟨rfl, q2⟩
    have Q2 := Lib.hid q2
    clear q2
    go_wp2_with fail
    go_ret
    exact ⟨rfl, Q2.out⟩
end Go.Proofs.YtpegdddffenleaaGreatDoor
