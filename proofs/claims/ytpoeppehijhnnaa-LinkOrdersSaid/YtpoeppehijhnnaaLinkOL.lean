/- The walk of the law LinkOrders. -/
import Derived.Test.YtpoeppehijhnnaaLinkO
import Derived.Test.YtpoeppehijhnnaaLinkRef
import Derived.Test.YtpoeppehijhnnaaLawLib
namespace Go.Proofs.Ytpoeppehijhnnaa
open Go.RowKit

/-- The loop's relation: k messages are sent. -/
def OrdRel (W w : World) (BL BN BV b : Nat) (A : Option Addr) (c : Nat) (vs : List (List Int)) (C k : Nat) : Prop := ∃ g s, OrdAt W w BL BN BV b g s A c vs ∧ s.msgs.length = k ∧ s.cap = C
/-- The number in the cell of 'next'. -/
def nextOf (w : World) (BN : Nat) : Nat := (intOf ((w.cell? ⟨BN, 0, none⟩).getD undef)).toNat
theorem OrdAt.next {W w : World} {BL BN BV b : Nat} {g : Option Nat} {s : LSt} {A : Option Addr} {c : Nat} {vs : List (List Int)} (h : OrdAt W w BL BN BV b g s A c vs) : nextOf w BN = s.recv := by
  unfold nextOf
  rw [cell_of_one h.hN]
  simp [intOf]
theorem OrdAt.draw {W w : World} {BL BN BV b : Nat} {g : Option Nat} {s : LSt} {A : Option Addr} {c : Nat} {vs : List (List Int)} (h : OrdAt W w BL BN BV b g s A c vs) (n : Nat) : OrdAt W (w.drewN n) BL BN BV b g s A c vs :=
  ⟨h.hL, h.hN, h.hV, h.hl.below (below_drewN (Below.refl _ _) n), below_drewN h.hW n, h.hb, h.hBN, h.hm, h.hmsg⟩

theorem ord_start (W : World) (A : Option Addr) (c C : Nat) (vs : List (List Int)) (hC : 1 ≤ C ∧ C ≤ 9) :
    OrdRel W ((((W.alloc (.cells #[.slice A vs.length c] 29)).alloc (.cells #[.slice none 0 0, .int .i64 (C : Int), .int .i64 0, .int .i64 0, .int .i64 0] 81)).alloc (.cells #[.pointer (some ⟨W.heap.size + 1, 0, none⟩)] 30)).alloc (.cells #[.int .i64 0] 3))
      (W.heap.size + 1 + 1) (W.heap.size + 1 + 1 + 1) W.heap.size (W.heap.size + 1) A c vs C 0 := by
  have hl := linkAt_new (W.alloc (.cells #[.slice A vs.length c] 29)) W.heap.size C hC.1 (by omega)
  rw [show (W.alloc (.cells #[.slice A vs.length c] 29)).heap.size = W.heap.size + 1 by simp] at hl
  refine ⟨none, LSt.new C, ⟨?_, ?_, ?_, (hl.below ((Below.refl _ _).alloc (Nat.le_refl _) _)).below ((Below.refl _ _).alloc (Nat.le_refl _) _), by (focus (repeat' (first | (with_reducible exact Below.refl _ _) | (with_reducible assumption) | (with_reducible refine Below.setCell ?_ ?_ _) | (with_reducible refine Below.alloc ?_ ?_ _) | (with_reducible refine below_drewN ?_ _) | (with_reducible refine Below.drew ?_) | (with_reducible exact Nat.le_refl _) | omega | (simp; done) | (simp; omega)))), by omega, by omega, by simp [LSt.new], by simp [LSt.new]⟩, rfl, rfl⟩
  · show ((((W.heap.push _).push _).push _).push _)[_]? = _
    simp only [Array.getElem?_push, Array.size_push]
    rw [if_neg (by omega), if_pos trivial]
  · show ((((W.heap.push _).push _).push _).push _)[_]? = _
    simp only [Array.getElem?_push, Array.size_push]
    rw [if_pos trivial]
    rfl
  · show ((((W.heap.push _).push _).push _).push _)[_]? = _
    simp only [Array.getElem?_push, Array.size_push]
    rw [if_neg (by omega), if_neg (by omega), if_neg (by omega), if_pos trivial]

/-- Behind a Send. -/
theorem OrdAt.sent {W w w' : World} {BL BN BV b : Nat} {g g' : Option Nat} {s : LSt} {A : Option Addr} {c : Nat} {vs : List (List Int)} (h : OrdAt W w BL BN BV b g s A c vs) (hlt : s.msgs.length < vs.length)
    (hl : LinkAt w' W.heap.size b g' (s.send ⟨⟨s.msgs.length, 0, 0, 0, 0⟩, vecAt vs s.msgs.length⟩)) (k : Keep (linkS b g) w w') : OrdAt W w' BL BN BV b g' (s.send ⟨⟨s.msgs.length, 0, 0, 0, 0⟩, vecAt vs s.msgs.length⟩) A c vs := by
  obtain ⟨cb, hb⟩ := h.hl.blk
  have keepB : ∀ {x : Nat} {cs : Array Value} {t : TypeId}, w.heap[x]? = some (.cells cs t (0, 0)) → t ≠ 81 → t ≠ 37 → w'.heap[x]? = w.heap[x]? := fun {x cs t} hx h1 h2 => by
    refine k.block x (lt_of_block hx) ?_
    rintro (rfl | hg)
    · exact blk_ne hx hb h1 rfl
    · have h3 := h.hl
      rw [hg] at h3
      obtain ⟨cg, hgg⟩ := h3.ringBlk
      exact blk_ne hx hgg h2 rfl
  refine ⟨(keepB h.hL (by decide) (by decide)).trans h.hL, (keepB h.hN (by decide) (by decide)).trans h.hN, (keepB h.hV (by decide) (by decide)).trans h.hV, hl, h.hW.trans (keep_new k h.hW.size h.hb (fun i hi => (h.hl.blocks.2 i hi).1)), h.hb, h.hBN, ?_, ?_⟩
  · simp [LSt.send]; omega
  · intro j hj
    simp only [LSt.send, List.length_append, List.length_singleton] at hj ⊢
    rcases Nat.lt_or_ge j s.msgs.length with h1 | h1
    · rw [msgAt_app_left _ _ _ h1]; exact h.hmsg j h1
    · obtain rfl : j = s.msgs.length := by omega
      rw [msgAt_app_last]

set_option maxHeartbeats 3200000 in
theorem orders_core (A : Option Addr) (c : Nat) (vs : List (List Int)) (cap : Int) (W : World) (hvs : Vecs W A vs) (hvl : vs.length ≤ 9223372036854775807) (hcap : 0 ≤ cap ∧ cap ≤ 255) :
    Calls Try.prog 5 #[.slice A vs.length c, .int .u8 cap] W fun e w' => e = .returned (.bool true) ∧ Below W.heap.size W w' := by
  obtain ⟨hc0, hc1⟩ := hcap
  have hnew := fun w => linkNew (1 + cap % 9) w (by omega)
  have hfew := fun (w' : World) (k : Below W.heap.size W w') => few3_any A vs c w' (hvs.below k) hvl
  have Hnew := Lib.hid hnew; have Hfew := Lib.hid hfew; have Hvs := Lib.hid hvs; clear hnew hfew hvs
  go_enter Try.func5, Try.ntmps5
  go_wp2_with fail
  refine (Hnew.out _).mono ?_
  rintro e w1 ⟨rfl, hw1⟩
  subst hw1
  clear Hnew
  obtain ⟨C, hC⟩ : ∃ C : Nat, 1 + cap % 9 = (C : Int) := ⟨(1 + cap % 9).toNat, by omega⟩
  have hC1 : 1 ≤ C ∧ C ≤ 9 := by omega
  by_cases hf : few3 vs = true
  · have hsmall := few3_len hf
    rw [hf] at Hfew
    have hvs60 := hsmall.1
    have Hsmall := Lib.hid hsmall; have HC := Lib.hid hC; clear hsmall hf hC
    go_wp2_with fail
    refine (Hfew.out _ ?_).mono ?_
    · (focus (repeat' (first | (with_reducible exact Below.refl _ _) | (with_reducible assumption) | (with_reducible refine Below.setCell ?_ ?_ _) | (with_reducible refine Below.alloc ?_ ?_ _) | (with_reducible refine below_drewN ?_ _) | (with_reducible refine Below.drew ?_) | (with_reducible exact Nat.le_refl _) | omega | (simp; done) | (simp; omega))))
    rintro e w2 ⟨rfl, rfl⟩
    rw [HC.out]
    go_wp2_with fail
    go_loopw [33] (fun i wr => ∃ k : Nat, k ≤ vs.length ∧ i = .int .i64 k ∧ OrdRel W wr (W.heap.size + 1 + 1) (W.heap.size + 1 + 1 + 1) W.heap.size (W.heap.size + 1) A c vs C k) (fun i _ => vs.length - (intOf i).toNat)
    case atStart => exact ⟨0, Nat.zero_le _, rfl, ord_start W A c C vs hC1⟩
    case round =>
      obtain ⟨k, hk, rfl, hR⟩ := hrel
      have HR := Lib.hid hR; clear hR
      by_cases hlt : k < vs.length
      · obtain ⟨g0, s0, hO, hs0, hs0c⟩ := HR.out
        obtain ⟨b1, o1, hA, B, d, hcB, hrB⟩ := Hvs.out k hlt
        subst hA
        have hlen := Hsmall.out.2 k hlt
        have hcB1 : wr.cell? ⟨b1, o1 + k, none⟩ = some (.slice B (vecAt vs k).length d) := (hO.hW.cell (p := ⟨b1, o1 + k, none⟩) (lt_of_cell hcB)).trans hcB
        have HrB := Lib.hid hrB
        clear hcB hO hs0 hs0c hrB
        go_wp2_with fail
        go_loopw [38] (fun _ w2 => OrdRel W w2 (W.heap.size + 1 + 1) (W.heap.size + 1 + 1 + 1) W.heap.size (W.heap.size + 1) (some ⟨b1, o1, none⟩) c vs C k) (fun _ w2 => vs.length - nextOf w2 (W.heap.size + 1 + 1 + 1))
        case atStart => exact HR.out
        case round =>
          obtain ⟨g, s, hO, hsk, hsc⟩ := hrel
          have cL := cell_of_one hO.hL
          obtain ⟨ok, ring, rows, hcells, _⟩ := hO.hl
          have hlenC := linkLen _ _ _ _ _ _ _ hcells ok.rs (by have := ok.many; omega)
          have hrs := ok.rs
          have HO := Lib.hid hO; have Hok := Lib.hid ok; clear hO hcells ok
          obtain ⟨D, hD⟩ : ∃ D : Int, (s.msgs.length : Int) - (s.recv : Int) = D := ⟨_, rfl⟩
          rw [hD] at hlenC
          have Hlen := Lib.hid hlenC; have Hsk := Lib.hid hsk; have Hsc := Lib.hid hsc; have HD := Lib.hid hD; clear hlenC hsk hsc hD
          by_cases hge : (C : Int) ≤ D
          · have hlt2 : s.recv < s.msgs.length := by have := HD.out; omega
            have ht := fun n => take_any W _ _ _ _ g s _ c vs (wr.drewN n) (HO.out.draw n) Hvs.out hlt2 Hsmall.out
            have Ht := Lib.hid ht; clear ht
            go_wp2_with fail
            refine Hlen.out.mono ?_
            rintro e w3 ⟨rfl, n, rfl⟩
            go_wp2_with fail
            refine (Ht.out n).mono ?_
            rintro e w4 ⟨rfl, hO4, _⟩
            have HO4 := Lib.hid hO4; clear hO4
            go_wp2_with fail
            go_roundw
            case rel => exact ⟨g, _, HO4.out, Hsk.out, Hsc.out⟩
            case measure =>
              rw [HO4.out.next, HO.out.next]
              have := Hsk.out
              simp only
              omega
          · have hroom : s.msgs.length < s.recv + s.cap := by have := HD.out; have := Hsc.out; omega
            have hsend := fun n => linkSend W.heap.size _ g s ⟨k, 0, 0, 0, 0⟩ B (vecAt vs k) d (wr.drewN n) (HO.out.draw n).hl hroom (by have := Hsk.out; omega) (by have := HO.out.hW.size; simpa using this) (HrB.out.below (below_drewN HO.out.hW n)) (by omega)
            have Hsend := Lib.hid hsend; clear hsend
            go_wp2_with fail
            refine Hlen.out.mono ?_
            rintro e w3 ⟨rfl, n, rfl⟩
            go_wp2_with fail
            refine (Hsend.out n).mono ?_
            rintro e w4 ⟨rfl, g4, hl4, hk4, _⟩
            have hO4 := (HO.out.draw n).sent (by have := Hsk.out; omega) (by rw [Hsk.out]; exact hl4) hk4
            have HO4 := Lib.hid hO4; clear hO4 hl4 hk4
            go_wp2_with fail
            go_roundw
            case rel => exact ⟨k + 1, by omega, by go_num, g4, _, HO4.out, by simp [LSt.send, Hsk.out], Hsc.out⟩
            case measure => simp [intOf]; omega
      · obtain rfl : k = vs.length := by omega
        clear hk hlt
        go_wp2_with fail
        go_loopw [53] (fun _ w2 => OrdRel W w2 (W.heap.size + 1 + 1) (W.heap.size + 1 + 1 + 1) W.heap.size (W.heap.size + 1) A c vs C vs.length) (fun _ w2 => vs.length - nextOf w2 (W.heap.size + 1 + 1 + 1))
        case atStart => exact HR.out
        case round =>
          obtain ⟨g, s, hO, hsk, hsc⟩ := hrel
          have cL := cell_of_one hO.hL
          have cN := cell_of_one hO.hN
          have cV := cell_of_one hO.hV
          have hrs := hO.hl.ok.rs
          have HO := Lib.hid hO; have Hsk := Lib.hid hsk; have Hsc := Lib.hid hsc; clear hO hsk hsc
          by_cases hlt : s.recv < vs.length
          · have ht := take_any W _ _ _ _ g s _ c vs wr HO.out Hvs.out (by rw [Hsk.out]; exact hlt) Hsmall.out
            have Ht := Lib.hid ht; clear ht
            go_wp2_with fail
            refine Ht.out.mono ?_
            rintro e w4 ⟨rfl, hO4, _⟩
            have HO4 := Lib.hid hO4; clear hO4
            go_wp2_with fail
            go_roundw
            case rel => exact ⟨g, _, HO4.out, Hsk.out, Hsc.out⟩
            case measure =>
              rw [HO4.out.next, HO.out.next]
              simp only
              omega
          · have hrl : s.recv = vs.length := by have := Hsk.out; omega
            have Hrl := Lib.hid hrl; clear hrl
            have hrS := fun w => refSend C none [] 0 0 0 ⟨0, 0, 0, 0, 0⟩ none [] 0 w (Nat.le_refl _) (by simp) (by simp; omega) (MsgsRd.nil _ _) (Rd.nil _ _)
            simp only [List.length_nil] at hrS
            have HrS := Lib.hid hrS; clear hrS
            go_wp2_with fail
            refine (HrS.out _).mono ?_
            rintro e w5 hSent
            obtain ⟨A', c', P, hP, rfl, _, hb5⟩ := hSent
            have hBw : Below wr.heap.size wr w5 := by
              refine Below.trans ?_ (hb5.mono (by simp))
              (focus (repeat' (first | (with_reducible exact Below.refl _ _) | (with_reducible assumption) | (with_reducible refine Below.setCell ?_ ?_ _) | (with_reducible refine Below.alloc ?_ ?_ _) | (with_reducible refine below_drewN ?_ _) | (with_reducible refine Below.drew ?_) | (with_reducible exact Nat.le_refl _) | omega | (simp; done) | (simp; omega))))
            have c0 : w5.cell? ⟨wr.heap.size, 0, none⟩ = some (.int .i64 (C : Int)) := by rw [hb5.cell (by simp)]; simp [go_sem]
            have c1 : w5.cell? ⟨wr.heap.size, 1, none⟩ = some (.slice none 0 0) := by rw [hb5.cell (by simp)]; simp [go_sem]
            have c2 : w5.cell? ⟨wr.heap.size, 2, none⟩ = some (.int .i64 0) := by rw [hb5.cell (by simp)]; simp [go_sem]
            have c3 : w5.cell? ⟨wr.heap.size, 3, none⟩ = some (.int .i64 0) := by rw [hb5.cell (by simp)]; simp [go_sem]
            have f5 : ∀ j : Nat, j < 4 → w5.frozen? ⟨wr.heap.size, j, none⟩ = false := fun j hj => by rw [hb5.frozen (by simp)]; simp [go_sem]
            have f0 := f5 0 (by omega)
            have f1 := f5 1 (by omega)
            have f2 := f5 2 (by omega)
            have f3 := f5 3 (by omega)
            clear f5
            have cL5 : w5.cell? ⟨W.heap.size + 1 + 1, 0, none⟩ = some (.pointer (some ⟨W.heap.size + 1, 0, none⟩)) := by rw [hBw.cell (lt_of_cell cL)]; exact cL
            have hsz5 : wr.heap.size < w5.heap.size := by have := hb5.size; simp at this; omega
            obtain ⟨ok, ring, rows, hcells, _⟩ := HO.out.hl
            have hbl := HO.out.hl.blocks.1
            have hll := lt_of_block HO.out.hL
            have hmm := HO.out.hm
            have hpk := ok.pk
            have hLen := fun w' (k : Below wr.heap.size wr w') => linkLen _ _ _ _ _ _ w' (hcells.same (k.block _ hbl)) ok.rs (by have := Hsk.out; omega)
            have hPeak := fun w' (k : Below wr.heap.size wr w') => linkPeak _ _ _ _ _ _ w' (hcells.same (k.block _ hbl))
            rw [Hsk.out, Hrl.out] at hLen
            have hLenE : ((vs.length : Int) - (vs.length : Int)) = 0 := by omega
            rw [hLenE] at hLen
            have hPk : s.peak ≤ C := by have := Hsc.out; omega
            clear cL cN cV hb5 hP hcells ok hLenE hpk hmm
            have HLen := Lib.hid hLen; have HPeak := Lib.hid hPeak; have HBw := Lib.hid hBw; clear hLen hPeak hBw
            go_wp2_with fail
            go_region_with (first | (go_at_call 19; refine (alive18 _).mono ?_; rintro e w6 ⟨rfl, hb6⟩; have hB6 : Below wr.heap.size wr w6 := Below.trans (by have := HBw.out; (focus (repeat' (first | (with_reducible exact Below.refl _ _) | (with_reducible assumption) | (with_reducible refine Below.setCell ?_ ?_ _) | (with_reducible refine Below.alloc ?_ ?_ _) | (with_reducible refine below_drewN ?_ _) | (with_reducible refine Below.drew ?_) | (with_reducible exact Nat.le_refl _) | omega | (simp; done) | (simp; omega))))) (hb6.mono (by simp; omega)); have d0 : w6.cell? ⟨wr.heap.size, 0, none⟩ = some (.int .i64 (C : Int)) := (by rw [hb6.cell (by simp; omega)]; simp [go_sem, *]); have dL : w6.cell? ⟨W.heap.size + 1 + 1, 0, none⟩ = some (.pointer (some ⟨W.heap.size + 1, 0, none⟩)) := (by rw [hb6.cell (by simp; omega)]; simp [go_sem, *]); clear hb6) | (go_at_call 23; refine (HLen.out _ ?_).mono ?_; (focus (repeat' (first | (with_reducible exact Below.refl _ _) | (with_reducible assumption) | (with_reducible refine Below.setCell ?_ ?_ _) | (with_reducible refine Below.alloc ?_ ?_ _) | (with_reducible refine below_drewN ?_ _) | (with_reducible refine Below.drew ?_) | (with_reducible exact Nat.le_refl _) | omega | (simp; done) | (simp; omega)))); rintro e w7 ⟨rfl, n7, rfl⟩) | (go_at_call 26; refine (HPeak.out _ ?_).mono ?_; (focus (repeat' (first | (with_reducible exact Below.refl _ _) | (with_reducible assumption) | (with_reducible refine Below.setCell ?_ ?_ _) | (with_reducible refine Below.alloc ?_ ?_ _) | (with_reducible refine below_drewN ?_ _) | (with_reducible refine Below.drew ?_) | (with_reducible exact Nat.le_refl _) | omega | (simp; done) | (simp; omega)))); rintro e w8 ⟨rfl, rfl⟩))
            all_goals
              go_wp2_with fail
              go_ret
              refine ⟨by simp [go_sem, hPk], ?_⟩
              have hHW := HO.out.hW
              refine Below.trans hHW (Below.mono (B := wr.heap.size) ?_ hHW.size)
              (focus (repeat' (first | (with_reducible exact Below.refl _ _) | (with_reducible assumption) | (with_reducible refine Below.setCell ?_ ?_ _) | (with_reducible refine Below.alloc ?_ ?_ _) | (with_reducible refine below_drewN ?_ _) | (with_reducible refine Below.drew ?_) | (with_reducible exact Nat.le_refl _) | omega | (simp; done) | (simp; omega))))
  · rw [Bool.not_eq_true] at hf
    rw [hf] at Hfew
    have Hf := Lib.hid hf; clear hf hC
    go_wp2_with fail
    refine (Hfew.out _ ?_).mono ?_
    · (focus (repeat' (first | (with_reducible exact Below.refl _ _) | (with_reducible assumption) | (with_reducible refine Below.setCell ?_ ?_ _) | (with_reducible refine Below.alloc ?_ ?_ _) | (with_reducible refine below_drewN ?_ _) | (with_reducible refine Below.drew ?_) | (with_reducible exact Nat.le_refl _) | omega | (simp; done) | (simp; omega))))
    rintro e w2 ⟨rfl, rfl⟩
    go_wp2_with fail
    refine (alive18 _).mono ?_
    rintro e w3 ⟨rfl, hb3⟩
    have hptr : w3.cell? ⟨W.heap.size + 1 + 1, 0, none⟩ = some (.pointer (some ⟨W.heap.size + 1, 0, none⟩)) := by
      rw [hb3.cell (by simp)]
      simp [go_sem]
    have hW3 : Below W.heap.size W w3 := by
      refine Below.trans ?_ (hb3.mono (by simp; omega))
      (focus (repeat' (first | (with_reducible exact Below.refl _ _) | (with_reducible assumption) | (with_reducible refine Below.setCell ?_ ?_ _) | (with_reducible refine Below.alloc ?_ ?_ _) | (with_reducible refine below_drewN ?_ _) | (with_reducible refine Below.drew ?_) | (with_reducible exact Nat.le_refl _) | omega | (simp; done) | (simp; omega))))
    clear hb3
    go_wp2_with fail
    go_ret
    exact ⟨rfl, hW3⟩

set_option maxRecDepth 100000 in
theorem LinkOrders_walk {H : Type} {enc : TypeId × Value → H} {base : Nat} {v0 v1 : Value} {d0 d1 : DataW H} {p0 p1 : List MemPlace} (W : World)
    (o0 : Value.okWide Try.prog W .any base 29 v0) (h0 : DataW.Trod enc Try.prog W 0 (fun _ => true) true 29 v0 d0 p0)
    (o1 : Value.okWide Try.prog W .any base 5 v1) (h1 : DataW.Trod enc Try.prog W 0 (fun _ => true) true 5 v1 d1 p1) :
    Calls Try.prog 5 #[v0, v1] W fun e w' => e = .returned (.bool true) ∧ Below W.heap.size W w' := by
  obtain ⟨A, c, vs, rfl, hlc, hc63, hA⟩ := open_vecs (q := .i64) Try.underlying29 Try.underlying35 Try.underlying2 (by kernel_rfl) (by kernel_rfl) o0 h0
  obtain ⟨n, rfl, rfl, rfl, wn⟩ := Go.ChangeShapes.open_int Try.underlying5 o1 h1
  exact orders_core A c vs n W hA (by omega) (by simpa [Lit.wf, IntKind.min, IntKind.max, IntKind.signed, IntKind.bits] using wn)
end Go.Proofs.Ytpoeppehijhnnaa
