/- The walk of Receive. -/
import Derived.Test.YtpoeppehijhnnaaLinkX
namespace Go.Proofs.Ytpoeppehijhnnaa
open Go.RowKit

theorem Cells6.same {w w' : World} {g o : Nat} {t : Tg} {v : Value} (h : Cells6 w g o t v) (hb : w'.heap[g]? = w.heap[g]?) : Cells6 w' g o t v :=
  ⟨(World.cell?_of_block (w := w) hb).trans h.c0, (World.cell?_of_block (w := w) hb).trans h.c1, (World.cell?_of_block (w := w) hb).trans h.c2, (World.cell?_of_block (w := w) hb).trans h.c3, (World.cell?_of_block (w := w) hb).trans h.c4, (World.cell?_of_block (w := w) hb).trans h.c5⟩
theorem LinkCells.same {w w' : World} {b : Nat} {ring : Value} {cap sent recv peak : Nat} (h : LinkCells w b ring cap sent recv peak) (hb : w'.heap[b]? = w.heap[b]?) : LinkCells w' b ring cap sent recv peak := hb.trans h
theorem LinkAt.keep {S : Nat → Prop} {w w' : World} {base b : Nat} {g : Option Nat} {s : LSt} (h : LinkAt w base b g s) (k : Keep S w w') (h1 : ¬ S b) (h2 : ∀ i, g = some i → ¬ S i) (h3 : ∀ i c, w.heap[i]? = some (.cells c 2 (0, 0)) → base ≤ i → ¬ S i) : LinkAt w' base b g s := by
  obtain ⟨ok, ring, rows, hc, hown, hg, hrl, hr6, hm⟩ := h
  refine ⟨ok, ring, rows, hc.same (k.block _ (lt_of_block hc) h1), k.own hown (fun i hi => h2 i (hg.symm.trans hi)), hg, hrl, hr6, fun j hj1 hj2 => ?_⟩
  obtain ⟨A, c, e, ho⟩ := hm j hj1 hj2
  refine ⟨A, c, e, k.own ho fun i hi => ?_⟩
  rcases ho.2 with ⟨hn, _⟩ | ⟨gg, cap, cur, hv, hbg, hgg, _⟩
  · rw [hn] at hi; cases hi
  · rw [hv] at hi
    obtain rfl : gg = i := by simpa [Value.ownBlock] using hi
    exact h3 _ _ hgg hbg
theorem LinkAt.below {w w' : World} {base b : Nat} {g : Option Nat} {s : LSt} (h : LinkAt w base b g s) (hb : Below w.heap.size w w') : LinkAt w' base b g s :=
  h.keep (S := fun _ => False) (Keep.below hb) id (fun _ _ => id) (fun _ _ _ _ => id)

theorem linkRecv_nil (t : Tg) (w : World) :
    Calls Try.prog 21 #[.pointer none, .agg #[.int .i64 t.a, .int .i64 t.b, .int .i64 t.c, .int .i64 t.d, .int .i64 t.e]] w fun e w' => e = .returned (.tuple #[.agg #[.int .i64 0, .int .i64 0, .int .i64 0, .int .i64 0, .int .i64 0, .slice none 0 0], .int .i64 1]) ∧ Below w.heap.size w w' := by
  obtain ⟨t0, t1, t2, t3, t4⟩ := t
  go_enter Try.func21, Try.ntmps21
  go_wp2
  refine bodyPost_ret (v := .tuple #[.agg #[.int .i64 0, .int .i64 0, .int .i64 0, .int .i64 0, .int .i64 0, .slice none 0 0], .int .i64 1]) (by simp [results, Try.results21, go_sem]) rfl ⟨rfl, ?_⟩
  (focus (repeat' (first | (with_reducible exact Below.refl _ _) | (with_reducible assumption) | (with_reducible refine Below.setCell ?_ ?_ _) | (with_reducible refine Below.alloc ?_ ?_ _) | (with_reducible refine below_drewN ?_ _) | (with_reducible refine Below.drew ?_) | (with_reducible exact Nat.le_refl _) | omega | (simp; done) | (simp; omega))))

theorem linkRecv_none (base b : Nat) (g : Option Nat) (s : LSt) (t : Tg) (w : World) (h : LinkAt w base b g s) (hlt : s.recv = s.msgs.length) :
    Calls Try.prog 21 #[.pointer (some ⟨b, 0, none⟩), .agg #[.int .i64 t.a, .int .i64 t.b, .int .i64 t.c, .int .i64 t.d, .int .i64 t.e]] w fun e w' => e = .returned (.tuple #[.agg #[.int .i64 0, .int .i64 0, .int .i64 0, .int .i64 0, .int .i64 0, .slice none 0 0], .int .i64 12]) ∧ Below w.heap.size w w' := by
  obtain ⟨t0, t1, t2, t3, t4⟩ := t
  have hp := fun o1 o2 => linkPeek_none base b g s ((w.alloc o1).alloc o2) ((h.below ((Below.refl _ _).alloc (Nat.le_refl _) _)).below ((Below.refl _ _).alloc (Nat.le_refl _) _)) hlt
  have Hp := Lib.hid hp; clear hp hlt h
  go_enter Try.func21, Try.ntmps21
  go_wp2_with fail
  refine (Hp.out _ _).mono ?_
  rintro e w1 ⟨rfl, hb1⟩
  have hres : w1.heap[w.heap.size + 1]? = some (.cells #[.int .i64 0, .int .i64 0, .int .i64 0, .int .i64 0, .int .i64 0, .slice none 0 0] 37 (0, 0)) := by
    rw [hb1.block _ (by simp)]
    simpa using heap_alloc_new (w.alloc (.cells #[.int .i64 t0, .int .i64 t1, .int .i64 t2, .int .i64 t3, .int .i64 t4] 34)) (.cells #[.int .i64 0, .int .i64 0, .int .i64 0, .int .i64 0, .int .i64 0, .slice none 0 0] 37)
  have hs1 := lt_of_block hres
  have r0 : w1.cell? ⟨w.heap.size + 1, 0, none⟩ = some (.int .i64 0) := cell_of_row w1 _ 0 _ _ _ hres
  have r1 : w1.cell? ⟨w.heap.size + 1, 1, none⟩ = some (.int .i64 0) := cell_of_row w1 _ 1 _ _ _ hres
  have r2 : w1.cell? ⟨w.heap.size + 1, 2, none⟩ = some (.int .i64 0) := cell_of_row w1 _ 2 _ _ _ hres
  have r3 : w1.cell? ⟨w.heap.size + 1, 3, none⟩ = some (.int .i64 0) := cell_of_row w1 _ 3 _ _ _ hres
  have r4 : w1.cell? ⟨w.heap.size + 1, 4, none⟩ = some (.int .i64 0) := cell_of_row w1 _ 4 _ _ _ hres
  have r5 : w1.cell? ⟨w.heap.size + 1, 5, none⟩ = some (.slice none 0 0) := cell_of_row w1 _ 5 _ _ _ hres
  have fr := fun j => frozen_of_row w1 _ j _ _ hres
  have hW1 : Below w.heap.size w w1 := (((Below.refl _ w).alloc (Nat.le_refl _) _).alloc (by simp) _).trans (hb1.mono (by simp; omega))
  clear hb1 hres
  go_wp2
  refine bodyPost_ret (v := .tuple #[.agg #[.int .i64 0, .int .i64 0, .int .i64 0, .int .i64 0, .int .i64 0, .slice none 0 0], .int .i64 12]) (by simp [results, Try.results21, go_sem, r0, r1, r2, r3, r4, r5, hs1]) rfl ⟨rfl, ?_⟩
  (focus (repeat' (first | (with_reducible exact Below.refl _ _) | (with_reducible assumption) | (with_reducible refine Below.setCell ?_ ?_ _) | (with_reducible refine Below.alloc ?_ ?_ _) | (with_reducible refine below_drewN ?_ _) | (with_reducible refine Below.drew ?_) | (with_reducible exact Nat.le_refl _) | omega | (simp; done) | (simp; omega))))
theorem linkRecv_tag (base b : Nat) (g : Option Nat) (s : LSt) (t : Tg) (w : World) (h : LinkAt w base b g s) (hlt : s.recv < s.msgs.length) (hne : (msgAt s.msgs s.recv).tag ≠ t) :
    Calls Try.prog 21 #[.pointer (some ⟨b, 0, none⟩), .agg #[.int .i64 t.a, .int .i64 t.b, .int .i64 t.c, .int .i64 t.d, .int .i64 t.e]] w fun e w' => e = .returned (.tuple #[.agg #[.int .i64 0, .int .i64 0, .int .i64 0, .int .i64 0, .int .i64 0, .slice none 0 0], .int .i64 10]) ∧ Below w.heap.size w w' := by
  obtain ⟨t0, t1, t2, t3, t4⟩ := t
  have hp := fun o1 o2 => linkPeek base b g s ((w.alloc o1).alloc o2) ((h.below ((Below.refl _ _).alloc (Nat.le_refl _) _)).below ((Below.refl _ _).alloc (Nat.le_refl _) _)) hlt
  generalize (msgAt s.msgs s.recv).tag = tg at *
  obtain ⟨u0, u1, u2, u3, u4⟩ := tg
  dsimp only at hp
  have Hp := Lib.hid hp; clear hp hlt h
  have Hne := Lib.hid hne; clear hne
  go_enter Try.func21, Try.ntmps21
  go_wp2_with fail
  refine (Hp.out _ _).mono ?_
  rintro e w1 ⟨rfl, hb1⟩
  have hres : w1.heap[w.heap.size + 1]? = some (.cells #[.int .i64 0, .int .i64 0, .int .i64 0, .int .i64 0, .int .i64 0, .slice none 0 0] 37 (0, 0)) := by
    rw [hb1.block _ (by simp)]
    simpa using heap_alloc_new (w.alloc (.cells #[.int .i64 t0, .int .i64 t1, .int .i64 t2, .int .i64 t3, .int .i64 t4] 34)) (.cells #[.int .i64 0, .int .i64 0, .int .i64 0, .int .i64 0, .int .i64 0, .slice none 0 0] 37)
  have hs1 := lt_of_block hres
  have r0 : w1.cell? ⟨w.heap.size + 1, 0, none⟩ = some (.int .i64 0) := cell_of_row w1 _ 0 _ _ _ hres
  have r1 : w1.cell? ⟨w.heap.size + 1, 1, none⟩ = some (.int .i64 0) := cell_of_row w1 _ 1 _ _ _ hres
  have r2 : w1.cell? ⟨w.heap.size + 1, 2, none⟩ = some (.int .i64 0) := cell_of_row w1 _ 2 _ _ _ hres
  have r3 : w1.cell? ⟨w.heap.size + 1, 3, none⟩ = some (.int .i64 0) := cell_of_row w1 _ 3 _ _ _ hres
  have r4 : w1.cell? ⟨w.heap.size + 1, 4, none⟩ = some (.int .i64 0) := cell_of_row w1 _ 4 _ _ _ hres
  have r5 : w1.cell? ⟨w.heap.size + 1, 5, none⟩ = some (.slice none 0 0) := cell_of_row w1 _ 5 _ _ _ hres
  have fr := fun j => frozen_of_row w1 _ j _ _ hres
  have hp0 : w1.heap[w.heap.size]? = some (.cells #[.int .i64 t0, .int .i64 t1, .int .i64 t2, .int .i64 t3, .int .i64 t4] 34 (0, 0)) := by
    rw [hb1.block _ (by simp; omega), Below.heap_alloc _ _ _ (by simp)]
    exact heap_alloc_new w _
  have p0 : w1.cell? ⟨w.heap.size, 0, none⟩ = some (.int .i64 t0) := cell_of_row w1 _ 0 _ _ _ hp0
  have p1 : w1.cell? ⟨w.heap.size, 1, none⟩ = some (.int .i64 t1) := cell_of_row w1 _ 1 _ _ _ hp0
  have p2 : w1.cell? ⟨w.heap.size, 2, none⟩ = some (.int .i64 t2) := cell_of_row w1 _ 2 _ _ _ hp0
  have p3 : w1.cell? ⟨w.heap.size, 3, none⟩ = some (.int .i64 t3) := cell_of_row w1 _ 3 _ _ _ hp0
  have p4 : w1.cell? ⟨w.heap.size, 4, none⟩ = some (.int .i64 t4) := cell_of_row w1 _ 4 _ _ _ hp0
  have hW1 : Below w.heap.size w w1 := (((Below.refl _ w).alloc (Nat.le_refl _) _).alloc (by simp) _).trans (hb1.mono (by simp; omega))
  have hs0 : w.heap.size < w1.heap.size := by omega
  clear hb1 hres hp0
  go_wp2
  · exact absurd (by simp only [*]) Hne.out
  all_goals
    refine bodyPost_ret (v := .tuple #[.agg #[.int .i64 0, .int .i64 0, .int .i64 0, .int .i64 0, .int .i64 0, .slice none 0 0], .int .i64 10]) (by simp [results, Try.results21, go_sem, r0, r1, r2, r3, r4, r5, hs1]) rfl ⟨rfl, ?_⟩
    (focus (repeat' (first | (with_reducible exact Below.refl _ _) | (with_reducible assumption) | (with_reducible refine Below.setCell ?_ ?_ _) | (with_reducible refine Below.alloc ?_ ?_ _) | (with_reducible refine below_drewN ?_ _) | (with_reducible refine Below.drew ?_) | (with_reducible exact Nat.le_refl _) | omega | (simp; done) | (simp; omega))))

/-- What is left of a link behind a Receive. -/
theorem link_recv_end {w w' : World} {base b : Nat} {g : Option Nat} {s : LSt} {A' : Option Addr} {c' : Nat} (h : LinkAt w base b g s) (hlt : s.recv < s.msgs.length) (k : Keep (· = b) w w')
    (hv : w.ownsRow base 2 1 (.slice A' (msgAt s.msgs s.recv).vals.length c') (msgAt s.msgs s.recv).vals.length (nums .i64 (msgAt s.msgs s.recv).vals))
    {L c gg : Nat} (_hgg : g = some gg) (hc0 : LinkCells w b (.slice (some ⟨gg, 0, none⟩) L c) s.cap s.msgs.length s.recv s.peak) (hc : LinkCells w' b (.slice (some ⟨gg, 0, none⟩) L c) s.cap s.msgs.length (s.recv + 1) s.peak) :
    w'.ownsRow base 2 1 (.slice A' (msgAt s.msgs s.recv).vals.length c') (msgAt s.msgs s.recv).vals.length (nums .i64 (msgAt s.msgs s.recv).vals) ∧ LinkAt w' base b g { s with recv := s.recv + 1 } ∧ Keep (· = b) w w' := by
  have hne : ∀ i e cs, w.heap[i]? = some (.cells cs e (0, 0)) → e ≠ 81 → ¬ i = b := by
    rintro i e cs hi he rfl
    unfold LinkCells at hc0
    rw [hc0] at hi
    injection hi with hi
    injection hi with _ hi
    exact he hi.symm
  have hown : ∀ {e : TypeId} {size : Nat} {v : Value} {n : Nat} {xs : List Value}, w.ownsRow base e size v n xs → e ≠ 81 → w'.ownsRow base e size v n xs := fun {e size v n xs} ho he =>
    k.own ho fun i hi => by
      rcases ho.2 with ⟨hn, _⟩ | ⟨gg, cap, cur, hv, hbg, hgg, _⟩
      · rw [hn] at hi; cases hi
      · rw [hv] at hi
        obtain rfl : gg = i := by simpa [Value.ownBlock] using hi
        exact hne _ _ _ hgg he
  refine ⟨hown hv (by decide), ?_, k⟩
  obtain ⟨ok, ring, rows, hc1, ho, hg, hrl, hr6, hm⟩ := h
  obtain rfl : ring = .slice (some ⟨gg, 0, none⟩) L c := by
    have := hc1.c0.symm.trans hc0.c0
    injection this
  refine ⟨⟨ok.cap1, ok.cap2, hlt, by have := ok.sr; simp only; omega, ok.pk, ok.many, ok.vals⟩, _, rows, hc, hown ho (by decide), hg, hrl, hr6, fun j h1 h2 => ?_⟩
  obtain ⟨A, c2, e, hv2⟩ := hm j (by simp only at h1; omega) h2
  exact ⟨A, c2, e, hown hv2 (by decide)⟩

theorem LinkCells.set {w : World} {b : Nat} {ring : Value} {cap sent recv peak : Nat} (h : LinkCells w b ring cap sent recv peak) (n : Nat) (v : Int) (hv : v = (n : Int)) : LinkCells (w.setCell ⟨b, 3, none⟩ (.int .i64 v)) b ring cap sent n peak := by
  subst hv
  unfold LinkCells at h ⊢
  simp [World.setCell, Array.getElem?_modify, h]

theorem linkRecv_ok (base b : Nat) (g : Option Nat) (s : LSt) (t : Tg) (w : World) (h : LinkAt w base b g s) (hlt : s.recv < s.msgs.length) (heq : (msgAt s.msgs s.recv).tag = t) :
    Calls Try.prog 21 #[.pointer (some ⟨b, 0, none⟩), .agg #[.int .i64 t.a, .int .i64 t.b, .int .i64 t.c, .int .i64 t.d, .int .i64 t.e]] w fun e w' => ∃ A c,
      e = .returned (.tuple #[.agg #[.int .i64 t.a, .int .i64 t.b, .int .i64 t.c, .int .i64 t.d, .int .i64 t.e, .slice A (msgAt s.msgs s.recv).vals.length c], .int .i64 0]) ∧
      w'.ownsRow base 2 1 (.slice A (msgAt s.msgs s.recv).vals.length c) (msgAt s.msgs s.recv).vals.length (nums .i64 (msgAt s.msgs s.recv).vals) ∧
      LinkAt w' base b g { s with recv := s.recv + 1 } ∧ Keep (· = b) w w' := by
  subst heq
  have hp := fun o1 o2 => linkPeek base b g s ((w.alloc o1).alloc o2) ((h.below ((Below.refl _ _).alloc (Nat.le_refl _) _)).below ((Below.refl _ _).alloc (Nat.le_refl _) _)) hlt
  obtain ⟨gg, c, A', c', hgg, hc, hi, h6, hval⟩ := h.at_ s.recv (Nat.le_refl _) hlt
  have hok := h.ok
  have hrs : s.recv ≤ 100000000000 := by have := hok.many; omega
  have hc1 := hok.cap1
  have hc2 := hok.cap2
  obtain ⟨i, hie⟩ : ∃ i, s.recv % s.cap = i := ⟨_, rfl⟩
  rw [hie] at hi h6
  obtain ⟨L, hL⟩ : ∃ L, min s.msgs.length s.cap = L := ⟨_, rfl⟩
  rw [hL] at hi hc
  have hb := lt_of_block hc
  have hgl := lt_of_cell h6.c0
  generalize (msgAt s.msgs s.recv).tag = tg at *
  obtain ⟨t0, t1, t2, t3, t4⟩ := tg
  dsimp only at hp
  have Hp := Lib.hid hp; have Hok := Lib.hid hok; have H := Lib.hid h; have Hval := Lib.hid hval; have Hie := Lib.hid hie; have Hgg := Lib.hid hgg; clear hp hok h hval hie hgg hL
  go_enter Try.func21, Try.ntmps21
  go_wp2_with fail
  refine (Hp.out _ _).mono ?_
  rintro e w1 ⟨rfl, hb1⟩
  have hres : w1.heap[w.heap.size + 1]? = some (.cells #[.int .i64 0, .int .i64 0, .int .i64 0, .int .i64 0, .int .i64 0, .slice none 0 0] 37 (0, 0)) := by
    rw [hb1.block _ (by simp)]
    simpa using heap_alloc_new (w.alloc (.cells #[.int .i64 t0, .int .i64 t1, .int .i64 t2, .int .i64 t3, .int .i64 t4] 34)) (.cells #[.int .i64 0, .int .i64 0, .int .i64 0, .int .i64 0, .int .i64 0, .slice none 0 0] 37)
  have hs1 := lt_of_block hres
  have r0 : w1.cell? ⟨w.heap.size + 1, 0, none⟩ = some (.int .i64 0) := cell_of_row w1 _ 0 _ _ _ hres
  have r1 : w1.cell? ⟨w.heap.size + 1, 1, none⟩ = some (.int .i64 0) := cell_of_row w1 _ 1 _ _ _ hres
  have r2 : w1.cell? ⟨w.heap.size + 1, 2, none⟩ = some (.int .i64 0) := cell_of_row w1 _ 2 _ _ _ hres
  have r3 : w1.cell? ⟨w.heap.size + 1, 3, none⟩ = some (.int .i64 0) := cell_of_row w1 _ 3 _ _ _ hres
  have r4 : w1.cell? ⟨w.heap.size + 1, 4, none⟩ = some (.int .i64 0) := cell_of_row w1 _ 4 _ _ _ hres
  have r5 : w1.cell? ⟨w.heap.size + 1, 5, none⟩ = some (.slice none 0 0) := cell_of_row w1 _ 5 _ _ _ hres
  have fr := fun j => frozen_of_row w1 _ j _ _ hres
  have hp0 : w1.heap[w.heap.size]? = some (.cells #[.int .i64 t0, .int .i64 t1, .int .i64 t2, .int .i64 t3, .int .i64 t4] 34 (0, 0)) := by
    rw [hb1.block _ (by simp; omega), Below.heap_alloc _ _ _ (by simp)]
    exact heap_alloc_new w _
  have p0 : w1.cell? ⟨w.heap.size, 0, none⟩ = some (.int .i64 t0) := cell_of_row w1 _ 0 _ _ _ hp0
  have p1 : w1.cell? ⟨w.heap.size, 1, none⟩ = some (.int .i64 t1) := cell_of_row w1 _ 1 _ _ _ hp0
  have p2 : w1.cell? ⟨w.heap.size, 2, none⟩ = some (.int .i64 t2) := cell_of_row w1 _ 2 _ _ _ hp0
  have p3 : w1.cell? ⟨w.heap.size, 3, none⟩ = some (.int .i64 t3) := cell_of_row w1 _ 3 _ _ _ hp0
  have p4 : w1.cell? ⟨w.heap.size, 4, none⟩ = some (.int .i64 t4) := cell_of_row w1 _ 4 _ _ _ hp0
  have hW1 : Below w.heap.size w w1 := (((Below.refl _ w).alloc (Nat.le_refl _) _).alloc (by simp) _).trans (hb1.mono (by simp; omega))
  have hs0 : w.heap.size < w1.heap.size := by omega
  have hW1 : Below w.heap.size w w1 := (((Below.refl _ w).alloc (Nat.le_refl _) _).alloc (by simp) _).trans (hb1.mono (by simp; omega))
  have hc1 := hc.same (hW1.block b hb)
  have h61 := h6.same (hW1.block gg hgl)
  have hl1 := lt_of_block hc1
  have hg1 := lt_of_cell h61.c0
  have hpl := fun W hW => linkPlaceN b (.slice (some ⟨gg, 0, none⟩) L c) s.cap s.msgs.length s.recv s.peak s.recv i W hW Hok.out.cap1 Hok.out.cap2 Hie.out
  have k0 := hc1.c0
  have k3 := hc1.c3
  obtain ⟨m0, m1, m2, m3, m4, m5⟩ := h61
  have f3 := hc1.free 3
  have hbn : ¬ (b = w.heap.size + 1) := by omega
  have hbn' : ¬ (w.heap.size + 1 = b) := by omega
  have Hb1 := Lib.hid hb1; have Hc1 := Lib.hid hc1; have Hpl := Lib.hid hpl; have Hc := Lib.hid hc; have H6 := Lib.hid h6; clear hb1 hres hp0 hc1 hpl hc h6
  go_wp2_with fail
  go_region_held3 (fun w' => w'.cell? ⟨b, 0, none⟩ = some (.slice (some ⟨gg, 0, none⟩) L c) ∧ w'.cell? ⟨b, 3, none⟩ = some (.int .i64 (s.recv : Int)) ∧ w'.cell? ⟨gg, i * 6, none⟩ = some (.int .i64 t0) ∧ w'.cell? ⟨gg, i * 6 + 1, none⟩ = some (.int .i64 t1) ∧
      w'.cell? ⟨gg, i * 6 + 2, none⟩ = some (.int .i64 t2) ∧ w'.cell? ⟨gg, i * 6 + 3, none⟩ = some (.int .i64 t3) ∧ w'.cell? ⟨gg, i * 6 + 4, none⟩ = some (.int .i64 t4) ∧ w'.cell? ⟨gg, i * 6 + 5, none⟩ = some (.slice A' (msgAt s.msgs s.recv).vals.length c')) (simp [go_sem, *])
    ((go_at_call 44; refine (Hpl.out _ (Hc1.out.same (Below.block (B := w1.heap.size) ?_ b hl1))).mono ?_; (focus (repeat' (first | (with_reducible exact Below.refl _ _) | (with_reducible assumption) | (with_reducible refine Below.setCell ?_ ?_ _) | (with_reducible refine Below.alloc ?_ ?_ _) | (with_reducible refine below_drewN ?_ _) | (with_reducible refine Below.drew ?_) | (with_reducible exact Nat.le_refl _) | omega | (simp; done) | (simp; omega)))); rintro e w' ⟨rfl, rfl⟩))
  all_goals
    go_wp2_with fail
    have hwr : IntKind.i64.wrap ((s.recv : Int) + 1) = (s.recv : Int) + 1 := IntWalk.i64_in _ (by omega)
    go_region
    clear hwr
    go_wp2
    refine bodyPost_ret (v := .tuple #[.agg #[.int .i64 t0, .int .i64 t1, .int .i64 t2, .int .i64 t3, .int .i64 t4, .slice A' (msgAt s.msgs s.recv).vals.length c'], .int .i64 0]) (by simp [results, Try.results21, go_sem, r0, r1, r2, r3, r4, r5, hs0, hs1]) rfl ⟨A', c', rfl, ?_⟩
    refine link_recv_end H.out hlt ?_ Hval.out Hgg.out Hc.out ((Hc1.out.set (s.recv + 1) ((s.recv : Int) + 1) (by omega)).same (Below.block (B := w.heap.size) ?_ b hb))
    · have hK1 : Keep (· = b) w w1 := Keep.below hW1
      (focus (repeat' (first | (with_reducible exact Keep.refl _ _) | (with_reducible assumption) | (with_reducible refine Keep.setCell ?_ _ ?_ _) | (with_reducible refine Keep.alloc ?_ _) | (with_reducible refine Keep.drewN ?_ _) | (with_reducible refine Keep.drew ?_) | (with_reducible exact Or.inr (linkS_b _ _)) | (with_reducible exact Or.inr (linkS_g _ _)) | (refine Or.inr ?_; first | rfl | (simp; done) | omega) | (refine Or.inl ?_; first | omega | (simp; done) | (simp; omega)))))
    · (focus (repeat' (first | (with_reducible exact Below.refl _ _) | (with_reducible assumption) | (with_reducible refine Below.setCell ?_ ?_ _) | (with_reducible refine Below.alloc ?_ ?_ _) | (with_reducible refine below_drewN ?_ _) | (with_reducible refine Below.drew ?_) | (with_reducible exact Nat.le_refl _) | omega | (simp; done) | (simp; omega))))
end Go.Proofs.Ytpoeppehijhnnaa
