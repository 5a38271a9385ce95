/- LinkOrders: its closure. -/
import Derived.Test.YtpoeppehijhnnaaLinkT
import Derived.Test.YtpoeppehijhnnaaFew3
import Derived.Test.YtpoeppehijhnnaaRef03
namespace Go.Proofs.Ytpoeppehijhnnaa
open Go.RowKit

/-- What the closure of LinkOrders finds: the link, the list, the number of the next message; m messages are sent. -/
structure OrdAt (W w : World) (BL BN BV b : Nat) (g : Option Nat) (s : LSt) (A : Option Addr) (c : Nat) (vs : List (List Int)) : Prop where
  hL : w.heap[BL]? = some (.cells #[.pointer (some ⟨b, 0, none⟩)] 30 (0, 0))
  hN : w.heap[BN]? = some (.cells #[.int .i64 (s.recv : Int)] 3 (0, 0))
  hV : w.heap[BV]? = some (.cells #[.slice A vs.length c] 29 (0, 0))
  hl : LinkAt w W.heap.size b g s
  hW : Below W.heap.size W w
  hb : W.heap.size ≤ b
  hBN : W.heap.size ≤ BN
  hm : s.msgs.length ≤ vs.length
  hmsg : ∀ j, j < s.msgs.length → msgAt s.msgs j = ⟨⟨j, 0, 0, 0, 0⟩, vecAt vs j⟩

theorem blk_ne {w : World} {b b' : Nat} {cs cs' : Array Value} {t t' : TypeId} (h : w.heap[b]? = some (.cells cs t (0, 0))) (h' : w.heap[b']? = some (.cells cs' t' (0, 0))) (hne : t ≠ t') : b ≠ b' := by
  rintro rfl
  rw [h] at h'
  injection h' with h'
  injection h' with _ h'
  exact hne h'
theorem LinkAt.blk {w : World} {base b : Nat} {g : Option Nat} {s : LSt} (h : LinkAt w base b g s) : ∃ cs, w.heap[b]? = some (.cells cs 81 (0, 0)) := by
  obtain ⟨ok, ring, rows, hc, _⟩ := h
  exact ⟨_, hc⟩

theorem LinkAt.ringBlk {w : World} {base b i : Nat} {s : LSt} (h : LinkAt w base b (some i) s) : ∃ cs, w.heap[i]? = some (.cells cs 37 (0, 0)) := by
  obtain ⟨ok, ring, rows, hc, hown, hg, _⟩ := h
  rcases hown.2 with ⟨hn, _⟩ | ⟨g2, cap2, cur, hv2, _, hg2, _⟩
  · rw [hn] at hg; cases hg
  · rw [hv2] at hg
    obtain rfl : g2 = i := by simpa [Value.ownBlock] using hg
    exact ⟨_, hg2⟩
/-- A link stays while a block of another type is written. -/
theorem LinkAt.other {w w' : World} {base b x : Nat} {g : Option Nat} {s : LSt} {cs : Array Value} {t : TypeId} (h : LinkAt w base b g s) (k : Keep (fun i => i = x) w w') (hx : w.heap[x]? = some (.cells cs t (0, 0))) (h1 : t ≠ 81) (h2 : t ≠ 37) (h3 : t ≠ 2) : LinkAt w' base b g s := by
  obtain ⟨cb, hb⟩ := h.blk
  refine h.keep k (blk_ne hb hx h1.symm) (fun i hi => ?_) (fun i c hi _ => blk_ne hi hx h3.symm)
  subst hi
  obtain ⟨cg, hg⟩ := h.ringBlk
  exact blk_ne hg hx h2.symm

set_option maxHeartbeats 1600000 in
theorem take_any (W : World) (BL BN BV b : Nat) (g : Option Nat) (s : LSt) (A : Option Addr) (c : Nat) (vs : List (List Int)) (w : World) (h : OrdAt W w BL BN BV b g s A c vs) (hvs : Vecs W A vs) (hlt : s.recv < s.msgs.length)
    (hsmall : vs.length ≤ 60 ∧ ∀ k, k < vs.length → (vecAt vs k).length ≤ 1500) :
    Calls Try.prog 20 #[.pointer (some ⟨BL, 0, none⟩), .pointer (some ⟨BN, 0, none⟩), .pointer (some ⟨BV, 0, none⟩)] w fun e w' => e = .returned (.bool true) ∧ OrdAt W w' BL BN BV b g { s with recv := s.recv + 1 } A c vs ∧ Keep (fun k => k = b ∨ k = BN) w w' := by
  have H := Lib.hid h
  obtain ⟨hL, hN, hV, hl, hW, hbb0, hBN, hm, hmsg⟩ := h
  have hR := linkRecv_ok W.heap.size b g s ⟨s.recv, 0, 0, 0, 0⟩ w hl hlt (by rw [hmsg _ hlt])
  rw [hmsg _ hlt] at hR
  dsimp only at hR
  have cL := cell_of_one hL
  have cN := cell_of_one hN
  have cV := cell_of_one hV
  obtain ⟨csb, hbb⟩ := hl.blk
  have nL := blk_ne hL hbb (by decide)
  have nN := blk_ne hN hbb (by decide)
  have nV := blk_ne hV hbb (by decide)
  have nLN := blk_ne hL hN (by decide)
  have nVN := blk_ne hV hN (by decide)
  obtain ⟨b1, o1, hA1, B, d, hcB, hrB⟩ := hvs s.recv (by omega)
  subst hA1
  have hlen := hsmall.2 s.recv (by omega)
  obtain ⟨zs, hzs⟩ : ∃ zs, vecAt vs s.recv = zs := ⟨_, rfl⟩
  rw [hzs] at hR hcB hrB hlen
  have hb1 := lt_of_cell hcB
  have g1 : decide (s.recv < vs.length) = true := by simp; omega
  have hrl := lt_of_block hN
  have hvl := lt_of_block hV
  have hll := lt_of_block hL
  have hvs60 := hsmall.1
  have HR := Lib.hid hR; have HV := Lib.hid hvs; have HW := Lib.hid hW; have HN := Lib.hid hN; have Hzs := Lib.hid hzs; have HhV := Lib.hid hV; have HhL := Lib.hid hL; clear hR hL hN hV hl hbb hmsg hvs hW hzs hsmall
  go_enter Try.func20, Try.ntmps20
  go_wp2_with fail
  refine HR.out.mono ?_
  rintro e w1 ⟨A', c', rfl, hown1, hL1, hK1⟩
  have hW1 : Below W.heap.size W w1 := HW.out.trans (hK1.toBelow HW.out.size (fun k hk => by omega))
  have cN1 : w1.cell? ⟨BN, 0, none⟩ = some (.int .i64 (s.recv : Int)) := hK1.cell cN nN
  have hN1 := (hK1.block BN hrl nN).trans HN.out
  have fN1 := free_of_one hN1
  have cV1 : w1.cell? ⟨BV, 0, none⟩ = some (.slice (some ⟨b1, o1, none⟩) vs.length c) := hK1.cell cV nV
  have hcB1 : w1.cell? ⟨b1, o1 + s.recv, none⟩ = some (.slice B zs.length d) := (hW1.cell (p := ⟨b1, o1 + s.recv, none⟩) hb1).trans hcB
  have hrB1 := hrB.below hW1
  have r1 := Rd.own hown1
  have hsame := fun (w' : World) (k : Below w1.heap.size w1 w') => same_any A' B zs zs c' d w' (r1.below k) (hrB1.below k) (by omega) (by omega)
  rw [decide_eq_true rfl] at hsame
  have hs1 := hK1.size
  have hsN : BN < w1.heap.size := by omega
  have hsV : BV < w1.heap.size := by omega
  have hsb1 : b1 < w1.heap.size := by have := hW1.size; omega
  have Hs := Lib.hid hsame; have HL1 := Lib.hid hL1; have HK1 := Lib.hid hK1; have HW1 := Lib.hid hW1; have HN1 := Lib.hid hN1
  clear hsame hL1 hK1 hW1 hown1 hN1
  go_wp2_with fail
  go_quiet ((go_at_call 22; refine Calls.quiet_of (Hs.out _ ?_); (focus (repeat' (first | (with_reducible exact Below.refl _ _) | (with_reducible assumption) | (with_reducible refine Below.setCell ?_ ?_ _) | (with_reducible refine Below.alloc ?_ ?_ _) | (with_reducible refine below_drewN ?_ _) | (with_reducible refine Below.drew ?_) | (with_reducible exact Nat.le_refl _) | omega | (simp; done) | (simp; omega))))))
  go_wp2_with fail
  go_ret
  have hwr : (s.recv : Int) + 1 = ((s.recv + 1 : Nat) : Int) := by omega
  have hKN : Keep (fun i => i = BN) w1 w1 := Keep.refl _ _
  refine ⟨rfl, ?_, ?_⟩
  · refine ⟨?_, ?_, ?_, HL1.out.other (x := BN) ?_ HN1.out (by decide) (by decide) (by decide), ?_, hbb0, hBN, hm, H.out.hmsg⟩
    · rw [Below.heap_setCell _ _ _ _ (by exact nLN)]
      refine (Below.heap_alloc _ _ _ (by omega)).trans ((HK1.out.block BL hll nL).trans HhL.out)
    · have h0 : ((w1.alloc (.cells #[.int .i64 (s.recv : Int), .int .i64 0, .int .i64 0, .int .i64 0, .int .i64 0, .slice A' zs.length c'] 37))).heap[BN]? = some (.cells #[.int .i64 (s.recv : Int)] 3 (0, 0)) := (Below.heap_alloc _ _ _ hsN).trans HN1.out
      rw [show (LSt.recv { s with recv := s.recv + 1 }) = s.recv + 1 from rfl, ← hwr]
      exact one_setCell (w := World.drewN _ _) h0
    · rw [Below.heap_setCell _ _ _ _ (by exact nVN)]
      refine (Below.heap_alloc _ _ _ hsV).trans ((HK1.out.block BV hvl nV).trans HhV.out)
    · (focus (repeat' (first | (with_reducible exact Keep.refl _ _) | (with_reducible assumption) | (with_reducible refine Keep.setCell ?_ _ ?_ _) | (with_reducible refine Keep.alloc ?_ _) | (with_reducible refine Keep.drewN ?_ _) | (with_reducible refine Keep.drew ?_) | (with_reducible exact Or.inr (linkS_b _ _)) | (with_reducible exact Or.inr (linkS_g _ _)) | (refine Or.inr ?_; first | rfl | (simp; done) | omega) | (refine Or.inl ?_; first | omega | (simp; done) | (simp; omega)))))
    · have hW1 := HW1.out
      have hsW := hW1.size
      (focus (repeat' (first | (with_reducible exact Below.refl _ _) | (with_reducible assumption) | (with_reducible refine Below.setCell ?_ ?_ _) | (with_reducible refine Below.alloc ?_ ?_ _) | (with_reducible refine below_drewN ?_ _) | (with_reducible refine Below.drew ?_) | (with_reducible exact Nat.le_refl _) | omega | (simp; done) | (simp; omega))))
  · have hK2 : Keep (fun k => k = b ∨ k = BN) w w1 := HK1.out.mono fun k _ h => .inl h
    (focus (repeat' (first | (with_reducible exact Keep.refl _ _) | (with_reducible assumption) | (with_reducible refine Keep.setCell ?_ _ ?_ _) | (with_reducible refine Keep.alloc ?_ _) | (with_reducible refine Keep.drewN ?_ _) | (with_reducible refine Keep.drew ?_) | (with_reducible exact Or.inr (linkS_b _ _)) | (with_reducible exact Or.inr (linkS_g _ _)) | (refine Or.inr ?_; first | rfl | (simp; done) | omega) | (refine Or.inl ?_; first | omega | (simp; done) | (simp; omega)))))
end Go.Proofs.Ytpoeppehijhnnaa
