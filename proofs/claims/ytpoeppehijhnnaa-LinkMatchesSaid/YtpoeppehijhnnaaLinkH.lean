/- A link and the reference's link, side by side: what stays when one of them is changed. -/
import Derived.Test.YtpoeppehijhnnaaLinkG
import Derived.Test.YtpoeppehijhnnaaLinkO
namespace Go.Proofs.Ytpoeppehijhnnaa
open Go.RowKit

theorem same18 (base b : Nat) (g : Option Nat) (s : LSt) (A : Option Addr) (c : Nat) (w : World) (h : LinkAt w base b g s) (hA : MsgsRd w A s.msgs) (hc : s.msgs.length ≤ c) :
    Calls Try.prog 30 #[.pointer (some ⟨b, 0, none⟩), .agg #[.int .i64 s.cap, .slice A s.msgs.length c, .int .i64 s.recv, .int .i64 s.peak]] w fun e w' => e = .returned (.bool true) ∧ Below w.heap.size w w' := by
  rcases Nat.lt_or_ge s.recv s.msgs.length with hlt | hlt
  · exact same18_some base b g s A c w h hA hc hlt
  · exact same18_none base b g s A c w h hA hc (Nat.le_antisymm h.ok.rs hlt)

/-- The cells of the reference's link in a box. -/
def RefBox (w : World) (B : Nat) (A : Option Addr) (c : Nat) (s : LSt) : Prop :=
  w.heap[B]? = some (.cells #[.int .i64 s.cap, .slice A s.msgs.length c, .int .i64 s.recv, .int .i64 s.peak] 46 (0, 0))

theorem box4_set {w : World} {b : Nat} {x0 x1 x2 x3 : Value} {t : TypeId} (y0 y1 y2 y3 : Value) (h : w.heap[b]? = some (.cells #[x0, x1, x2, x3] t (0, 0))) :
    ((((w.setCell ⟨b, 0, none⟩ y0).setCell ⟨b, 1, none⟩ y1).setCell ⟨b, 2, none⟩ y2).setCell ⟨b, 3, none⟩ y3).heap[b]? = some (.cells #[y0, y1, y2, y3] t (0, 0)) := by
  have h1 := heap_setCell_same w b 0 _ _ y0 h
  have h2 := heap_setCell_same _ b 1 _ _ y1 h1
  have h3 := heap_setCell_same _ b 2 _ _ y2 h2
  exact heap_setCell_same _ b 3 _ _ y3 h3
theorem box4_keep {w : World} {b : Nat} (y0 y1 y2 y3 : Value) : Keep (fun i => i = b) w ((((w.setCell ⟨b, 0, none⟩ y0).setCell ⟨b, 1, none⟩ y1).setCell ⟨b, 2, none⟩ y2).setCell ⟨b, 3, none⟩ y3) :=
  Keep.setCell (S := fun i => i = b) (Keep.setCell (S := fun i => i = b) (Keep.setCell (S := fun i => i = b) (Keep.setCell (S := fun i => i = b) (Keep.refl _ w) ⟨b, 0, none⟩ (.inr rfl) y0) ⟨b, 1, none⟩ (.inr rfl) y1) ⟨b, 2, none⟩ (.inr rfl) y2) ⟨b, 3, none⟩ (.inr rfl) y3

/-- A link (block b, ring's block g) with the state sl, and the reference's link in box B with the state sr. The values of the messages are read in W. -/
structure BothAt (W w : World) (B b : Nat) (g : Option Nat) (A : Option Addr) (c : Nat) (sl sr : LSt) : Prop where
  hL : LinkAt w W.heap.size b g sl
  hbox : RefBox w B A c sr
  hM : MsgsIn W w A sr.msgs
  hc : sr.msgs.length ≤ c
  hA : ∀ a, A = some a → a.block < w.heap.size ∧ a.block ≠ b ∧ g ≠ some a.block ∧ a.block ≠ B
  hW : Below W.heap.size W w
  hb : W.heap.size ≤ b
  hB : W.heap.size ≤ B

section
variable {W w w' : World} {B b : Nat} {g : Option Nat} {A : Option Addr} {c : Nat} {sl sr : LSt}
theorem BothAt.below (h : BothAt W w B b g A c sl sr) (k : Below w.heap.size w w') : BothAt W w' B b g A c sl sr :=
  ⟨h.hL.below k, (k.block _ (lt_of_block h.hbox)).trans h.hbox, h.hM.keep (S := fun _ => False) (Keep.below k) (fun _ _ => id), h.hc, fun a ha => ⟨Nat.lt_of_lt_of_le (h.hA a ha).1 k.size, (h.hA a ha).2⟩, h.hW.trans (k.mono h.hW.size), h.hb, h.hB⟩
theorem BothAt.rd (h : BothAt W w B b g A c sl sr) : MsgsRd w A sr.msgs := h.hM.rd h.hW
theorem BothAt.bB (h : BothAt W w B b g A c sl sr) : B ≠ b := by
  obtain ⟨cs, hb⟩ := h.hL.blk
  exact blk_ne h.hbox hb (by decide)
theorem BothAt.gB (h : BothAt W w B b g A c sl sr) : g ≠ some B := by
  intro e
  have := h.hL
  rw [e] at this
  obtain ⟨cs, hg⟩ := this.ringBlk
  exact blk_ne h.hbox hg (by decide) rfl
theorem BothAt.setBox (h : BothAt W w B b g A c sl sr) (k : Keep (fun i => i = B) w w') {A' : Option Addr} {c' : Nat} {sr' : LSt} (hbox : RefBox w' B A' c' sr') (hM : MsgsIn W w' A' sr'.msgs) (hc : sr'.msgs.length ≤ c')
    (hA : ∀ a, A' = some a → a.block < w'.heap.size ∧ a.block ≠ b ∧ g ≠ some a.block ∧ a.block ≠ B) : BothAt W w' B b g A' c' sl sr' :=
  ⟨h.hL.other k h.hbox (by decide) (by decide) (by decide), hbox, hM, hc, hA, h.hW.trans (k.toBelow h.hW.size (fun i hi => by have := h.hB; omega)), h.hb, h.hB⟩
theorem BothAt.other (h : BothAt W w B b g A c sl sr) {x : Nat} {cs : Array Value} {t : TypeId} (k : Keep (fun i => i = x) w w') (hx : w.heap[x]? = some (.cells cs t (0, 0))) (h1 : t ≠ 81) (h2 : t ≠ 37) (h3 : t ≠ 2) (h4 : B ≠ x) (h5 : ∀ a, A = some a → a.block ≠ x) (h6 : W.heap.size ≤ x) : BothAt W w' B b g A c sl sr :=
  ⟨h.hL.other k hx h1 h2 h3, (k.block _ (lt_of_block h.hbox) h4).trans h.hbox, h.hM.keep k h5, h.hc, fun a ha => ⟨Nat.lt_of_lt_of_le (h.hA a ha).1 k.size, (h.hA a ha).2⟩, h.hW.trans (k.toBelow h.hW.size (fun i hi => by omega)), h.hb, h.hB⟩
theorem BothAt.link (h : BothAt W w B b g A c sl sr) (k : Keep (linkS b g) w w') {g' : Option Nat} {sl' : LSt} (hL : LinkAt w' W.heap.size b g' sl') (hg : g' = g ∨ ∃ k, g' = some k ∧ w.heap.size ≤ k) : BothAt W w' B b g' A c sl' sr := by
  have hS : ∀ a, A = some a → ¬ linkS b g a.block := fun a ha => by
    have := h.hA a ha
    rintro (e | e)
    · exact this.2.1 e
    · exact this.2.2.1 e
  refine ⟨hL, (k.block _ (lt_of_block h.hbox) ?_).trans h.hbox, h.hM.keep k hS, h.hc, fun a ha => ?_, h.hW.trans (keep_new k h.hW.size h.hb (fun i hi => (h.hL.blocks.2 i hi).1)), h.hb, h.hB⟩
  · rintro (e | e)
    · exact h.bB e
    · exact h.gB e
  · obtain ⟨h1, h2, h3, h4⟩ := h.hA a ha
    refine ⟨Nat.lt_of_lt_of_le h1 k.size, h2, ?_, h4⟩
    rcases hg with rfl | ⟨i, rfl, hi⟩
    · exact h3
    · intro e; injection e with e; omega
/-- What the reference's Send has given, laid into the box. -/
theorem BothAt.refSent (h : BothAt W w B b g A c sl sr) {w2 : World} (k2 : Below w.heap.size w w2) {A' : Option Addr} {c' : Nat} {sr' : LSt} (hne : sr'.msgs ≠ []) (hM : MsgsIn W w2 A' sr'.msgs) (hc : sr'.msgs.length ≤ c')
    (hA : ∀ a, A' = some a → w.heap.size ≤ a.block) (k : Keep (fun i => i = B) w2 w') (hbox : RefBox w' B A' c' sr') : BothAt W w' B b g A' c' sl sr' := by
  have hB := lt_of_block h.hbox
  have hb := h.hL.blocks
  have hM' : MsgsIn W w' A' sr'.msgs := hM.keep k fun a ha e => by have := hA a ha; omega
  refine (h.below k2).setBox k hbox hM' hc fun a ha => ?_
  have h1 := hA a ha
  have h2 : a.block < w2.heap.size := by
    obtain ⟨rows, hr, hrl, hr6, _⟩ := hM
    have h0 : 0 < sr'.msgs.length := List.length_pos_iff.2 hne
    have hfl := flatten_len hr6
    obtain ⟨u, hu⟩ : ∃ u, (List.flatten rows)[0]? = some u := ⟨_, List.getElem?_eq_getElem (by rw [hfl, hrl]; omega)⟩
    obtain ⟨bb, oo, e, hcell⟩ := hr 0 u hu
    rw [ha] at e; injection e with e; subst e
    exact lt_of_cell hcell
  refine ⟨Nat.lt_of_lt_of_le h2 k.size, by omega, ?_, by omega⟩
  intro e
  have := (hb.2 _ e).2
  omega
theorem BothAt.same (h : BothAt W w B b g A c sl sr) (he : sl = sr) :
    Calls Try.prog 30 #[.pointer (some ⟨b, 0, none⟩), .agg #[.int .i64 sr.cap, .slice A sr.msgs.length c, .int .i64 sr.recv, .int .i64 sr.peak]] w fun e w' => e = .returned (.bool true) ∧ Below w.heap.size w w' := by
  subst he
  exact same18 _ _ _ _ _ _ _ h.hL h.rd h.hc
end
end Go.Proofs.Ytpoeppehijhnnaa
