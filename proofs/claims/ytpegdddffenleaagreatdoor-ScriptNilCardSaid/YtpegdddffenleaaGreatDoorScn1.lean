/- The script's words. -/
import Derived.Test.YtpegdddffenleaaGreatDoorBig
import Derived.Test.YtpegdddffenleaaGreatDoorBlk
import Derived.Test.YtpegdddffenleaaGreatDoorShelf
import Derived.Shelf.Strings.OnBuilder
import Derived.Shelf.Strconv.Itoa3
set_option linter.unusedSimpArgs false
set_option linter.unusedVariables false
namespace Go.Proofs.YtpegdddffenleaaGreatDoor
open Go.RowKit

def sV (l : List UInt8) : Value := .string ⟨l.toArray⟩
/-- A value that words takes, and its text. -/
def WordP (p : Value × List UInt8) : Prop := p.1 = .iface 9 (sV p.2) ∨ ∃ i : Nat, i < 100 ∧ p.1 = .iface 3 (.int .i64 i) ∧ p.2 = Lib.decDigits i
theorem et_strS : ElemT Tryz.prog 36 9 (.string ⟨#[]⟩) 1 16 := ⟨Tryz.underlying36, info_parts (by kernel_rfl), rfl, by decide⟩
theorem sjoin_any (w : World) (base : Nat) (v : Value) (xs : List (List UInt8)) (hx : xs ≠ []) (ho : w.ownsRow base 9 1 v xs.length (xs.map sV)) (hl : (Lib.join xs [32]).length ≤ 1000000) (hn : xs.length ≤ 100) :
    Calls Tryz.prog 67 #[v, .string ⟨#[32]⟩] w fun e w' => e = .returned (sV (Lib.join xs [32])) ∧ Below w.heap.size w w' := by
  rcases ho.2 with ⟨-, h0⟩ | ⟨g, cap, cur, rfl, hg, hgg, hc, hm, hz, ht⟩
  · exact absurd (List.eq_nil_of_length_eq_zero h0) hx
  · have e1 : (xs.map fun x => (⟨x.toArray⟩ : ByteArray)).map (fun b => b.data.toList) = xs := by
      rw [List.map_map]
      exact (List.map_congr_left fun x _ => rfl).trans (List.map_id xs)
    have hj := Any.strings_Join Tryz.lays156 Tryz.Builder_Extra_156 g 0 cap (xs.map fun x => (⟨x.toArray⟩ : ByteArray)) ⟨#[32]⟩ w (fun j x hx => by
      rw [List.getElem?_map] at hx
      cases hj : xs[j]? with
      | none => rw [hj] at hx; cases hx
      | some y =>
        rw [hj] at hx; cases hx
        rw [Nat.zero_add]
        have hjl : j < xs.length := (List.getElem?_eq_some_iff.1 hj).1
        rw [World.ownsRow.cellAt ho j (by omega), List.getElem?_map, hj]
        rfl) (lt_of_block hgg) (by simp; omega) (by simpa using hc) (by rw [e1]; show (Lib.join xs [32]).length ≤ _; omega)
    rw [List.length_map, e1] at hj
    exact hj
@[go_sem] theorem ta_ss (v : Value) (w : World) : (Instr.typeAssert (.iface 9 v) 20 9 true).run Tryz.prog w = .ok (.tuple #[v, .bool true]) w := by
  simp [Instr.typeAssert, run_underlying Tryz.underlying9, go_sem, Result.andThen]
@[go_sem] theorem ta_ii (v : Value) (w : World) : (Instr.typeAssert (.iface 3 v) 20 3 true).run Tryz.prog w = .ok (.tuple #[v, .bool true]) w := by
  simp [Instr.typeAssert, run_underlying Tryz.underlying3, go_sem, Result.andThen]
@[go_sem] theorem ta_si (v : Value) (w : World) : (Instr.typeAssert (.iface 9 v) 20 3 true).run Tryz.prog w = .ok (.tuple #[.int .i64 0, .bool false]) w := by
  simp [Instr.typeAssert, run_underlying Tryz.underlying3, Tryz.zeroValue3, go_sem, Result.andThen]
@[go_sem] theorem ta_sb (v : Value) (w : World) : (Instr.typeAssert (.iface 9 v) 20 4 true).run Tryz.prog w = .ok (.tuple #[.bool false, .bool false]) w := by
  simp [Instr.typeAssert, run_underlying Tryz.underlying4, Tryz.zeroValue4, go_sem, Result.andThen]
set_option maxRecDepth 100000 in
set_option maxHeartbeats 4000000 in
theorem words_any (b c : Nat) (L : List (Value × List UInt8)) (w : World) (hL : ∀ p ∈ L, WordP p) (h1 : 1 ≤ L.length) (hn : L.length ≤ 100) (hc : ∀ j p, L[j]? = some p → w.cell? ⟨b, j, none⟩ = some p.1) (hl : (Lib.join (L.map (·.2)) [32]).length ≤ 1000000) :
    Calls Tryz.prog 44 #[.slice (some ⟨b, 0, none⟩) L.length c] w fun e w' => e = .returned (sV (Lib.join (L.map (·.2)) [32])) ∧ Below w.heap.size w w' := by
  obtain ⟨n, hn'⟩ : ∃ n, L.length = n := ⟨_, rfl⟩
  rw [hn'] at h1 hn ⊢
  have HL := Lib.hid hL; have HC := Lib.hid hc; have HN := Lib.hid hn'; have HJ := Lib.hid hl
  clear hL hc hn' hl
  go_enter Tryz.func44, Tryz.ntmps44
  go_wp2_with fail
  go_loopw [3, 5, 6, 7, 8, 11] (fun v _ _ _ _ y wr => ∃ k : Nat, k ≤ n ∧ y = .int .i64 k ∧ wr.ownsRow w.heap.size 9 1 v k ((L.map fun p => sV p.2).take k) ∧ Below w.heap.size w wr) (fun _ _ _ _ _ y _ => n - (intOf y).toNat)
  case atStart => exact ⟨0, Nat.zero_le _, rfl, World.ownsRow_nil _ _ _ _, br w⟩
  case round =>
    obtain ⟨k, hk, rfl, ho, hB⟩ := hrel
    by_cases hlt : k < n
    · have hlti : (k : Int) < n := by omega
      have hll : k < L.length := by rw [HN.out]; exact hlt
      have hx := List.getElem?_eq_getElem hll
      obtain ⟨p, hp⟩ : ∃ p, L[k] = p := ⟨_, rfl⟩
      rw [hp] at hx
      have hcell := cell_below hB (HC.out k p hx)
      have hw := HL.out p (hp ▸ List.getElem_mem hll)
      have htk : (L.map fun p => sV p.2).take (k + 1) = (L.map fun p => sV p.2).take k ++ [sV p.2] := by
        rw [List.take_succ_eq_append_getElem (by rw [List.length_map]; exact hll), List.getElem_map, hp]
      obtain ⟨A, ca, rfl, -⟩ := own_form ho
      have Ho := Lib.hid ho; have HB := Lib.hid hB; have HT := Lib.hid htk; have Hz := Lib.hid hB.size
      clear ho hB htk hx hp hll
      obtain ⟨pv, pt⟩ := p
      rcases hw with hw | ⟨i, hi, hw, ht⟩
      · dsimp only at hw hcell HT
        subst hw
        unfold sV at hcell
        go_wp2_with (refine wpList_app et_strS _ rfl (.tmp 35) (.tmp 37) rfl w.heap.size _ k _ rfl (Ho.out.alloc _) (some ⟨wr.heap.size, 0, none⟩) 1 1 [.string ⟨pt.toArray⟩] rfl (rd_newN wr _ 9 wr.heap.size rfl) rfl (fun u hu => by simp at hu; rcases hu with rfl; rfl) (by omega) (by unfold maxLen; omega) (by have := Hz.out; simp; omega) ?_)
        intro A' c' w3 h3 k3 _ _
        have H3 := Lib.hid h3; have K3 := Lib.hid (HB.out.trans ((((br wr).alloc (Nat.le_refl _) _).mono Hz.out).trans k3))
        clear h3 k3
        go_wp2_with fail
        go_roundw
        case rel => exact ⟨k + 1, by omega, by go_num, by rw [HT.out]; exact H3.out, K3.out⟩
        case measure => simp [intOf]; omega
      · dsimp only at hw hcell HT ht
        subst hw
        subst ht
        go_wp2_with fail
        refine (Any.strconv_Itoa_small Tryz.lays171 i hi wr).mono ?_
        rintro e w2 ⟨rfl, rfl⟩
        go_wp2_with (refine wpList_app et_strS _ rfl (.tmp 19) (.tmp 22) rfl w.heap.size _ k _ rfl (Ho.out.alloc _) (some ⟨w2.heap.size, 0, none⟩) 1 1 [.string ⟨(Lib.decDigits i).toArray⟩] rfl (rd_newN w2 _ 9 w2.heap.size rfl) rfl (fun u hu => by simp at hu; rcases hu with rfl; rfl) (by omega) (by unfold maxLen; omega) (by have := Hz.out; simp; omega) ?_)
        intro A' c' w3 h3 k3 _ _
        have H3 := Lib.hid h3; have K3 := Lib.hid (HB.out.trans ((((br w2).alloc (Nat.le_refl _) _).mono Hz.out).trans k3))
        clear h3 k3
        go_wp2_with fail
        go_roundw
        case rel => exact ⟨k + 1, by omega, by go_num, by rw [HT.out]; exact H3.out, K3.out⟩
        case measure => simp [intOf]; omega
    · obtain rfl : k = n := by omega
      have e : (L.map fun p => sV p.2).take k = L.map fun p => sV p.2 := List.take_of_length_le (by rw [List.length_map, HN.out]; exact Nat.le_refl _)
      rw [e] at ho
      have hmm : (L.map (·.2)).map sV = L.map fun p => sV p.2 := by rw [List.map_map]; rfl
      have hne : L.map (·.2) ≠ [] := by
        intro h
        have := congrArg List.length h
        rw [List.length_map, HN.out] at this
        simp at this; omega
      rw [← hmm] at ho
      obtain ⟨A, ca, rfl, -⟩ := own_form ho
      have hj := sjoin_any wr w.heap.size (.slice A k ca) (L.map (·.2)) hne (by rw [List.length_map, HN.out]; exact ho) HJ.out (by rw [List.length_map, HN.out]; exact hn)
      have Hj := Lib.hid hj; have HB := Lib.hid hB
      clear hj ho hmm hne hB e
      go_wp2_with fail
      refine Hj.out.mono ?_
      rintro e w2 ⟨rfl, q⟩
      have Q := Lib.hid (HB.out.trans (q.mono HB.out.size))
      clear q
      go_wp2_with fail
      go_ret
      exact ⟨rfl, Q.out⟩
end Go.Proofs.YtpegdddffenleaaGreatDoor
