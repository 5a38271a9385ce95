/- sakialaw18.same: a link against the reference's. -/
import Derived.Test.YtpoeppehijhnnaaLinkF
import Derived.Test.YtpoeppehijhnnaaLinkM
namespace Go.Proofs.Ytpoeppehijhnnaa
open Go.RowKit

theorem refSameAllN (A1 A2 : Option Addr) (ms : List Msg) (n c1 c2 : Nat) (w : World) (hn : ms.length = n) (h1 : MsgsRd w A1 ms) (h2 : MsgsRd w A2 ms) (hl : ms.length ≤ 17592186043904) (hv : ∀ m ∈ ms, m.vals.length ≤ 17592186043904) :
    Calls Try.prog 48 #[.slice A1 n c1, .slice A2 n c2] w fun e w' => e = .returned (.bool true) ∧ Below w.heap.size w w' := by
  subst hn; exact refSameAll A1 A2 ms c1 c2 w h1 h2 hl hv
theorem MsgsOwn.rd {w : World} {base : Nat} {A : Option Addr} {n c : Nat} {ms : List Msg} (h : MsgsOwn w base (.slice A n c) ms) : MsgsRd w A ms := by
  obtain ⟨rows, h1, h2, h3, h4⟩ := h
  refine ⟨rows, ?_, h2, h3, fun j hj => ?_⟩
  · obtain rfl : n = ms.length := by
      obtain ⟨A9, c9, e9, _⟩ := own_form h1
      injection e9
    exact Rd.own h1
  · obtain ⟨A', c', e, ho⟩ := h4 j hj
    exact ⟨A', c', e, Rd.own ho⟩

set_option maxHeartbeats 1600000 in
theorem same18_some (base b : Nat) (g : Option Nat) (s : LSt) (A : Option Addr) (c : Nat) (w : World) (h : LinkAt w base b g s) (hA : MsgsRd w A s.msgs) (hc : s.msgs.length ≤ c) (hlt : s.recv < s.msgs.length) :
    Calls Try.prog 30 #[.pointer (some ⟨b, 0, none⟩), .agg #[.int .i64 s.cap, .slice A s.msgs.length c, .int .i64 s.recv, .int .i64 s.peak]] w fun e w' => e = .returned (.bool true) ∧ Below w.heap.size w w' := by
  obtain ⟨ok1, ok2, ok3, ok4, ok5, ok6, ok7⟩ := h.ok
  obtain ⟨n, hn⟩ : ∃ n, s.msgs.length - s.recv = n := ⟨_, rfl⟩
  have hn2 : (s.msgs.length : Int) - s.recv = (n : Int) := by omega
  have hnl : (s.msgs.drop s.recv).length = n := by rw [List.length_drop]; exact hn
  have hv : ∀ m ∈ s.msgs.drop s.recv, m.vals.length ≤ 17592186043904 := fun m hm => ok7 m (List.mem_of_mem_drop hm)
  have hp := fun w' (k : Below w.heap.size w w') => linkPeek base b g s w' (h.below k) hlt
  have h0 : msgAt s.msgs s.recv = msgAt (s.msgs.drop s.recv) 0 := by simp [msgAt]
  rw [h0] at hp
  generalize hm0 : msgAt (s.msgs.drop s.recv) 0 = m0 at *
  obtain ⟨⟨t0, t1, t2, t3, t4⟩, zs⟩ := m0
  dsimp only at hp
  have Hm0 := Lib.hid hm0; clear h0 hm0
  have hmsg := fun w' (k : Below w.heap.size w w') => refMsgs s.cap A s.msgs c s.recv s.peak w' (hA.below k) ok3 hc (by omega)
  have hlm := fun w' (k : Below w.heap.size w w') => linkMsgs base b g s w' (h.below k)
  rw [hn] at hmsg hlm
  have hcells : ∃ ring, LinkCells w b ring s.cap s.msgs.length s.recv s.peak := by obtain ⟨ring, rows, hc, _⟩ := h.ex; exact ⟨ring, hc⟩
  obtain ⟨ring, hcells⟩ := hcells
  have hb := lt_of_block hcells
  have hcnt := fun w' (k : Below w.heap.size w w') => linkCounts b ring s.cap s.msgs.length s.recv s.peak w' (hcells.same (k.block _ hb))
  have hlen := fun w' (k : Below w.heap.size w w') => linkLen b ring s.cap s.msgs.length s.recv s.peak w' (hcells.same (k.block _ hb)) ok3 (by omega)
  have hcap := fun w' (k : Below w.heap.size w w') => linkCap b ring s.cap s.msgs.length s.recv s.peak w' (hcells.same (k.block _ hb))
  have hpeak := fun w' (k : Below w.heap.size w w') => linkPeak b ring s.cap s.msgs.length s.recv s.peak w' (hcells.same (k.block _ hb))
  rw [hn2] at hlen
  have hn0 : 0 < n := by omega
  have hnb : n ≤ 17592186043904 := by omega
  have Hp := Lib.hid hp; have Hmsg := Lib.hid hmsg; have Hlm := Lib.hid hlm; have Hcnt := Lib.hid hcnt; have Hlen := Lib.hid hlen; have Hcap := Lib.hid hcap; have Hpeak := Lib.hid hpeak; have Hv := Lib.hid hv; have Hnl := Lib.hid hnl
  clear hp hmsg hlm hcnt hlen hcap hpeak hv hnl hn hn2 h hA hcells ok7 hlt
  go_enter Try.func30, Try.ntmps30
  go_wp2_with fail
  refine (Hp.out _ ?_).mono ?_
  · (focus (repeat' (first | (with_reducible exact Below.refl _ _) | (with_reducible assumption) | (with_reducible refine Below.setCell ?_ ?_ _) | (with_reducible refine Below.alloc ?_ ?_ _) | (with_reducible refine below_drewN ?_ _) | (with_reducible refine Below.drew ?_) | (with_reducible exact Nat.le_refl _) | omega | (simp; done) | (simp; omega))))
  rintro e w2 ⟨rfl, hb2⟩
  have hW2 : Below w.heap.size w w2 := by
    refine Below.trans ?_ (hb2.mono (by simp))
    (focus (repeat' (first | (with_reducible exact Below.refl _ _) | (with_reducible assumption) | (with_reducible refine Below.setCell ?_ ?_ _) | (with_reducible refine Below.alloc ?_ ?_ _) | (with_reducible refine below_drewN ?_ _) | (with_reducible refine Below.drew ?_) | (with_reducible exact Nat.le_refl _) | omega | (simp; done) | (simp; omega))))
  have hbox : w2.heap[w.heap.size]? = some (.cells #[.int .i64 s.cap, .slice A s.msgs.length c, .int .i64 s.recv, .int .i64 s.peak] 46 (0, 0)) := by
    rw [hb2.block _ (by simp)]
    exact heap_alloc_new w _
  have hs2 : w.heap.size < w2.heap.size := lt_of_block hbox
  have c0 : w2.cell? ⟨w.heap.size, 0, none⟩ = some (.int .i64 s.cap) := cell_of_row w2 _ 0 _ _ _ hbox
  have c1 : w2.cell? ⟨w.heap.size, 1, none⟩ = some (.slice A s.msgs.length c) := cell_of_row w2 _ 1 _ _ _ hbox
  have c2 : w2.cell? ⟨w.heap.size, 2, none⟩ = some (.int .i64 s.recv) := cell_of_row w2 _ 2 _ _ _ hbox
  have c3 : w2.cell? ⟨w.heap.size, 3, none⟩ = some (.int .i64 s.peak) := cell_of_row w2 _ 3 _ _ _ hbox
  have HW2 := Lib.hid hW2; have Hbox := Lib.hid hbox; clear hW2 hb2 hbox Hp
  go_wp2_with fail
  refine (Hmsg.out _ ?_).mono ?_
  · have hW2 := HW2.out
    (focus (repeat' (first | (with_reducible exact Below.refl _ _) | (with_reducible assumption) | (with_reducible refine Below.setCell ?_ ?_ _) | (with_reducible refine Below.alloc ?_ ?_ _) | (with_reducible refine below_drewN ?_ _) | (with_reducible refine Below.drew ?_) | (with_reducible exact Nat.le_refl _) | omega | (simp; done) | (simp; omega))))
  rintro e w4 ⟨A', c', rfl, hM, hb4⟩
  have hW4 : Below w.heap.size w w4 := by
    refine Below.trans ?_ (hb4.mono ?_)
    · have hW2 := HW2.out
      (focus (repeat' (first | (with_reducible exact Below.refl _ _) | (with_reducible assumption) | (with_reducible refine Below.setCell ?_ ?_ _) | (with_reducible refine Below.alloc ?_ ?_ _) | (with_reducible refine below_drewN ?_ _) | (with_reducible refine Below.drew ?_) | (with_reducible exact Nat.le_refl _) | omega | (simp; done) | (simp; omega))))
    · have := HW2.out.size; simp; omega
  have htag : w4.heap[w2.heap.size]? = some (.cells #[.int .i64 t0, .int .i64 t1, .int .i64 t2, .int .i64 t3, .int .i64 t4] 34 (0, 0)) := by
    rw [hb4.block _ (by simp)]
    exact heap_alloc_new w2 _
  have hbx : w4.heap[w.heap.size]? = some (.cells #[.int .i64 s.cap, .slice A s.msgs.length c, .int .i64 s.recv, .int .i64 s.peak] 46 (0, 0)) := by
    rw [hb4.block _ (by simp; omega)]
    exact (Below.heap_alloc _ _ _ hs2).trans Hbox.out
  have hs4 : w2.heap.size < w4.heap.size := lt_of_block htag
  have hs5 : w.heap.size < w4.heap.size := lt_of_block hbx
  have d0 : w4.cell? ⟨w.heap.size, 0, none⟩ = some (.int .i64 s.cap) := cell_of_row w4 _ 0 _ _ _ hbx
  have d1 : w4.cell? ⟨w.heap.size, 1, none⟩ = some (.slice A s.msgs.length c) := cell_of_row w4 _ 1 _ _ _ hbx
  have d2 : w4.cell? ⟨w.heap.size, 2, none⟩ = some (.int .i64 s.recv) := cell_of_row w4 _ 2 _ _ _ hbx
  have d3 : w4.cell? ⟨w.heap.size, 3, none⟩ = some (.int .i64 s.peak) := cell_of_row w4 _ 3 _ _ _ hbx
  have g0 : w4.cell? ⟨w2.heap.size, 0, none⟩ = some (.int .i64 t0) := cell_of_row w4 _ 0 _ _ _ htag
  have g1 : w4.cell? ⟨w2.heap.size, 1, none⟩ = some (.int .i64 t1) := cell_of_row w4 _ 1 _ _ _ htag
  have g2 : w4.cell? ⟨w2.heap.size, 2, none⟩ = some (.int .i64 t2) := cell_of_row w4 _ 2 _ _ _ htag
  have g3 : w4.cell? ⟨w2.heap.size, 3, none⟩ = some (.int .i64 t3) := cell_of_row w4 _ 3 _ _ _ htag
  have g4 : w4.cell? ⟨w2.heap.size, 4, none⟩ = some (.int .i64 t4) := cell_of_row w4 _ 4 _ _ _ htag
  obtain ⟨b7, o7, B7, e7, hA', x7, _⟩ := hM.at_ 0 (by rw [Hnl.out]; exact hn0)
  rw [Hm0.out] at x7
  obtain ⟨m0, m1, m2, m3, m4, m5⟩ := x7
  dsimp only at m0 m1 m2 m3 m4
  rw [Nat.zero_mul, Nat.add_zero] at m0 m1 m2 m3 m4
  subst hA'
  have HM := Lib.hid hM; have HW4 := Lib.hid hW4; clear hM hb4 hW4 htag hbx c0 c1 c2 c3 hs2
  go_wp2_with fail
  go_quiet (fail)
  go_wp2_with fail
  refine (Hcnt.out _ ?_).mono ?_
  · have hW4 := HW4.out
    (focus (repeat' (first | (with_reducible exact Below.refl _ _) | (with_reducible assumption) | (with_reducible refine Below.setCell ?_ ?_ _) | (with_reducible refine Below.alloc ?_ ?_ _) | (with_reducible refine below_drewN ?_ _) | (with_reducible refine Below.drew ?_) | (with_reducible exact Nat.le_refl _) | omega | (simp; done) | (simp; omega))))
  rintro e w5 ⟨rfl, n5, rfl⟩
  go_wp2_with fail
  have hW4 := HW4.out
  go_region_held3 (fun w' => w'.cell? ⟨w.heap.size, 0, none⟩ = some (.int .i64 (s.cap : Int)) ∧ w'.cell? ⟨w.heap.size, 1, none⟩ = some (.slice A s.msgs.length c) ∧ w'.cell? ⟨w.heap.size, 2, none⟩ = some (.int .i64 (s.recv : Int)) ∧ w'.cell? ⟨w.heap.size, 3, none⟩ = some (.int .i64 (s.peak : Int))) (simp [go_sem, *])
    (first
      | (go_at_call 23; refine (Hlen.out _ ?_).mono ?_; (focus (repeat' (first | (with_reducible exact Below.refl _ _) | (with_reducible assumption) | (with_reducible refine Below.setCell ?_ ?_ _) | (with_reducible refine Below.alloc ?_ ?_ _) | (with_reducible refine below_drewN ?_ _) | (with_reducible refine Below.drew ?_) | (with_reducible exact Nat.le_refl _) | omega | (simp; done) | (simp; omega)))); rintro e w6 ⟨rfl, n6, rfl⟩)
      | (go_at_call 36; refine (Hcap.out _ ?_).mono ?_; (focus (repeat' (first | (with_reducible exact Below.refl _ _) | (with_reducible assumption) | (with_reducible refine Below.setCell ?_ ?_ _) | (with_reducible refine Below.alloc ?_ ?_ _) | (with_reducible refine below_drewN ?_ _) | (with_reducible refine Below.drew ?_) | (with_reducible exact Nat.le_refl _) | omega | (simp; done) | (simp; omega)))); rintro e w6 ⟨rfl, rfl⟩)
      | (go_at_call 26; refine (Hpeak.out _ ?_).mono ?_; (focus (repeat' (first | (with_reducible exact Below.refl _ _) | (with_reducible assumption) | (with_reducible refine Below.setCell ?_ ?_ _) | (with_reducible refine Below.alloc ?_ ?_ _) | (with_reducible refine below_drewN ?_ _) | (with_reducible refine Below.drew ?_) | (with_reducible exact Nat.le_refl _) | omega | (simp; done) | (simp; omega)))); rintro e w6 ⟨rfl, rfl⟩)
      | (go_at_call 28; refine (Hlm.out _ ?_).mono ?_; (focus (repeat' (first | (with_reducible exact Below.refl _ _) | (with_reducible assumption) | (with_reducible refine Below.setCell ?_ ?_ _) | (with_reducible refine Below.alloc ?_ ?_ _) | (with_reducible refine below_drewN ?_ _) | (with_reducible refine Below.drew ?_) | (with_reducible exact Nat.le_refl _) | omega | (simp; done) | (simp; omega)))); rintro e w6 ⟨A6, c6, rfl, hM6, hb6⟩; refine first_then (p := Below w4.heap.size w4 w6) ?_ ?_; (focus (refine Below.trans ?_ (hb6.mono (by simp)); (focus (repeat' (first | (with_reducible exact Below.refl _ _) | (with_reducible assumption) | (with_reducible refine Below.setCell ?_ ?_ _) | (with_reducible refine Below.alloc ?_ ?_ _) | (with_reducible refine below_drewN ?_ _) | (with_reducible refine Below.drew ?_) | (with_reducible exact Nat.le_refl _) | omega | (simp; done) | (simp; omega)))); done)); intro hB6; have k0 := (hB6.cell (p := ⟨w.heap.size, 0, none⟩) hs5).trans d0; have k1 := (hB6.cell (p := ⟨w.heap.size, 1, none⟩) hs5).trans d1; have k2 := (hB6.cell (p := ⟨w.heap.size, 2, none⟩) hs5).trans d2; have k3 := (hB6.cell (p := ⟨w.heap.size, 3, none⟩) hs5).trans d3; have HM6 := Lib.hid hM6; have HB6 := Lib.hid hB6; clear hM6 hb6 hB6)
      | (go_at_call 48; refine (refSameAllN _ _ _ _ _ _ _ Hnl.out (MsgsRd.below HM6.out.rd ?_) (MsgsRd.below HM.out ?_) (by rw [Hnl.out]; omega) Hv.out).mono ?_; (focus (have hB6 := HB6.out; (focus (repeat' (first | (with_reducible exact Below.refl _ _) | (with_reducible assumption) | (with_reducible refine Below.setCell ?_ ?_ _) | (with_reducible refine Below.alloc ?_ ?_ _) | (with_reducible refine below_drewN ?_ _) | (with_reducible refine Below.drew ?_) | (with_reducible exact Nat.le_refl _) | omega | (simp; done) | (simp; omega)))); done)); (focus (have hB6 := HB6.out; (focus (repeat' (first | (with_reducible exact Below.refl _ _) | (with_reducible assumption) | (with_reducible refine Below.setCell ?_ ?_ _) | (with_reducible refine Below.alloc ?_ ?_ _) | (with_reducible refine below_drewN ?_ _) | (with_reducible refine Below.drew ?_) | (with_reducible exact Nat.le_refl _) | omega | (simp; done) | (simp; omega)))); done)); rintro e w7 ⟨rfl, hb7⟩; refine first_then (p := Below w4.heap.size w4 w7) ?_ ?_; (focus (have hB6 := HB6.out; have hs6 := hB6.size; refine Below.trans ?_ (hb7.mono ?_); (focus (repeat' (first | (with_reducible exact Below.refl _ _) | (with_reducible assumption) | (with_reducible refine Below.setCell ?_ ?_ _) | (with_reducible refine Below.alloc ?_ ?_ _) | (with_reducible refine below_drewN ?_ _) | (with_reducible refine Below.drew ?_) | (with_reducible exact Nat.le_refl _) | omega | (simp; done) | (simp; omega)))); (first | omega | (simp; omega)); done)); intro hB7; have k0 := (hB7.cell (p := ⟨w.heap.size, 0, none⟩) hs5).trans d0; have k1 := (hB7.cell (p := ⟨w.heap.size, 1, none⟩) hs5).trans d1; have k2 := (hB7.cell (p := ⟨w.heap.size, 2, none⟩) hs5).trans d2; have k3 := (hB7.cell (p := ⟨w.heap.size, 3, none⟩) hs5).trans d3; have HB7 := Lib.hid hB7; clear hb7 hB7))
  all_goals
    go_wp2_with fail
    go_ret
    refine ⟨rfl, ?_⟩
    have hB7 := HB7.out
    refine hW4.trans (Below.mono (B := w4.heap.size) ?_ hW4.size)
    (focus (repeat' (first | (with_reducible exact Below.refl _ _) | (with_reducible assumption) | (with_reducible refine Below.setCell ?_ ?_ _) | (with_reducible refine Below.alloc ?_ ?_ _) | (with_reducible refine below_drewN ?_ _) | (with_reducible refine Below.drew ?_) | (with_reducible exact Nat.le_refl _) | omega | (simp; done) | (simp; omega))))

set_option maxHeartbeats 1600000 in
theorem same18_none (base b : Nat) (g : Option Nat) (s : LSt) (A : Option Addr) (c : Nat) (w : World) (h : LinkAt w base b g s) (hA : MsgsRd w A s.msgs) (hc : s.msgs.length ≤ c) (hlt : s.recv = s.msgs.length) :
    Calls Try.prog 30 #[.pointer (some ⟨b, 0, none⟩), .agg #[.int .i64 s.cap, .slice A s.msgs.length c, .int .i64 s.recv, .int .i64 s.peak]] w fun e w' => e = .returned (.bool true) ∧ Below w.heap.size w w' := by
  obtain ⟨ok1, ok2, ok3, ok4, ok5, ok6, ok7⟩ := h.ok
  obtain ⟨n, hn⟩ : ∃ n, s.msgs.length - s.recv = n := ⟨_, rfl⟩
  have hn2 : (s.msgs.length : Int) - s.recv = (n : Int) := by omega
  have hnl : (s.msgs.drop s.recv).length = n := by rw [List.length_drop]; exact hn
  have hv : ∀ m ∈ s.msgs.drop s.recv, m.vals.length ≤ 17592186043904 := fun m hm => ok7 m (List.mem_of_mem_drop hm)
  have hp := fun w' (k : Below w.heap.size w w') => linkPeek_none base b g s w' (h.below k) hlt
  have hmsg := fun w' (k : Below w.heap.size w w') => refMsgs s.cap A s.msgs c s.recv s.peak w' (hA.below k) ok3 hc (by omega)
  have hlm := fun w' (k : Below w.heap.size w w') => linkMsgs base b g s w' (h.below k)
  rw [hn] at hmsg hlm
  have hcells : ∃ ring, LinkCells w b ring s.cap s.msgs.length s.recv s.peak := by obtain ⟨ring, rows, hc, _⟩ := h.ex; exact ⟨ring, hc⟩
  obtain ⟨ring, hcells⟩ := hcells
  have hb := lt_of_block hcells
  have hcnt := fun w' (k : Below w.heap.size w w') => linkCounts b ring s.cap s.msgs.length s.recv s.peak w' (hcells.same (k.block _ hb))
  have hlen := fun w' (k : Below w.heap.size w w') => linkLen b ring s.cap s.msgs.length s.recv s.peak w' (hcells.same (k.block _ hb)) ok3 (by omega)
  have hcap := fun w' (k : Below w.heap.size w w') => linkCap b ring s.cap s.msgs.length s.recv s.peak w' (hcells.same (k.block _ hb))
  have hpeak := fun w' (k : Below w.heap.size w w') => linkPeak b ring s.cap s.msgs.length s.recv s.peak w' (hcells.same (k.block _ hb))
  rw [hn2] at hlen
  have hn0 : n = 0 := by omega
  subst hn0
  have Hp := Lib.hid hp; have Hmsg := Lib.hid hmsg; have Hlm := Lib.hid hlm; have Hcnt := Lib.hid hcnt; have Hlen := Lib.hid hlen; have Hcap := Lib.hid hcap; have Hpeak := Lib.hid hpeak; have Hv := Lib.hid hv; have Hnl := Lib.hid hnl
  clear hp hmsg hlm hcnt hlen hcap hpeak hv hnl hn hn2 h hA hcells ok7 hlt
  go_enter Try.func30, Try.ntmps30
  go_wp2_with fail
  refine (Hp.out _ ?_).mono ?_
  · (focus (repeat' (first | (with_reducible exact Below.refl _ _) | (with_reducible assumption) | (with_reducible refine Below.setCell ?_ ?_ _) | (with_reducible refine Below.alloc ?_ ?_ _) | (with_reducible refine below_drewN ?_ _) | (with_reducible refine Below.drew ?_) | (with_reducible exact Nat.le_refl _) | omega | (simp; done) | (simp; omega))))
  rintro e w2 ⟨rfl, hb2⟩
  have hW2 : Below w.heap.size w w2 := by
    refine Below.trans ?_ (hb2.mono (by simp))
    (focus (repeat' (first | (with_reducible exact Below.refl _ _) | (with_reducible assumption) | (with_reducible refine Below.setCell ?_ ?_ _) | (with_reducible refine Below.alloc ?_ ?_ _) | (with_reducible refine below_drewN ?_ _) | (with_reducible refine Below.drew ?_) | (with_reducible exact Nat.le_refl _) | omega | (simp; done) | (simp; omega))))
  have hbox : w2.heap[w.heap.size]? = some (.cells #[.int .i64 s.cap, .slice A s.msgs.length c, .int .i64 s.recv, .int .i64 s.peak] 46 (0, 0)) := by
    rw [hb2.block _ (by simp)]
    exact heap_alloc_new w _
  have hs2 : w.heap.size < w2.heap.size := lt_of_block hbox
  have c0 : w2.cell? ⟨w.heap.size, 0, none⟩ = some (.int .i64 s.cap) := cell_of_row w2 _ 0 _ _ _ hbox
  have c1 : w2.cell? ⟨w.heap.size, 1, none⟩ = some (.slice A s.msgs.length c) := cell_of_row w2 _ 1 _ _ _ hbox
  have c2 : w2.cell? ⟨w.heap.size, 2, none⟩ = some (.int .i64 s.recv) := cell_of_row w2 _ 2 _ _ _ hbox
  have c3 : w2.cell? ⟨w.heap.size, 3, none⟩ = some (.int .i64 s.peak) := cell_of_row w2 _ 3 _ _ _ hbox
  have HW2 := Lib.hid hW2; have Hbox := Lib.hid hbox; clear hW2 hb2 hbox Hp
  go_wp2_with fail
  refine (Hmsg.out _ ?_).mono ?_
  · have hW2 := HW2.out
    (focus (repeat' (first | (with_reducible exact Below.refl _ _) | (with_reducible assumption) | (with_reducible refine Below.setCell ?_ ?_ _) | (with_reducible refine Below.alloc ?_ ?_ _) | (with_reducible refine below_drewN ?_ _) | (with_reducible refine Below.drew ?_) | (with_reducible exact Nat.le_refl _) | omega | (simp; done) | (simp; omega))))
  rintro e w4 ⟨A', c', rfl, hM, hb4⟩
  have hW4 : Below w.heap.size w w4 := by
    refine Below.trans ?_ (hb4.mono ?_)
    · have hW2 := HW2.out
      (focus (repeat' (first | (with_reducible exact Below.refl _ _) | (with_reducible assumption) | (with_reducible refine Below.setCell ?_ ?_ _) | (with_reducible refine Below.alloc ?_ ?_ _) | (with_reducible refine below_drewN ?_ _) | (with_reducible refine Below.drew ?_) | (with_reducible exact Nat.le_refl _) | omega | (simp; done) | (simp; omega))))
    · have := HW2.out.size; simp; omega
  have htag : w4.heap[w2.heap.size]? = some (.cells #[.int .i64 0, .int .i64 0, .int .i64 0, .int .i64 0, .int .i64 0] 34 (0, 0)) := by
    rw [hb4.block _ (by simp)]
    exact heap_alloc_new w2 _
  have hbx : w4.heap[w.heap.size]? = some (.cells #[.int .i64 s.cap, .slice A s.msgs.length c, .int .i64 s.recv, .int .i64 s.peak] 46 (0, 0)) := by
    rw [hb4.block _ (by simp; omega)]
    exact (Below.heap_alloc _ _ _ hs2).trans Hbox.out
  have hs4 : w2.heap.size < w4.heap.size := lt_of_block htag
  have hs5 : w.heap.size < w4.heap.size := lt_of_block hbx
  have d0 : w4.cell? ⟨w.heap.size, 0, none⟩ = some (.int .i64 s.cap) := cell_of_row w4 _ 0 _ _ _ hbx
  have d1 : w4.cell? ⟨w.heap.size, 1, none⟩ = some (.slice A s.msgs.length c) := cell_of_row w4 _ 1 _ _ _ hbx
  have d2 : w4.cell? ⟨w.heap.size, 2, none⟩ = some (.int .i64 s.recv) := cell_of_row w4 _ 2 _ _ _ hbx
  have d3 : w4.cell? ⟨w.heap.size, 3, none⟩ = some (.int .i64 s.peak) := cell_of_row w4 _ 3 _ _ _ hbx
  have g0 : w4.cell? ⟨w2.heap.size, 0, none⟩ = some (.int .i64 0) := cell_of_row w4 _ 0 _ _ _ htag
  have g1 : w4.cell? ⟨w2.heap.size, 1, none⟩ = some (.int .i64 0) := cell_of_row w4 _ 1 _ _ _ htag
  have g2 : w4.cell? ⟨w2.heap.size, 2, none⟩ = some (.int .i64 0) := cell_of_row w4 _ 2 _ _ _ htag
  have g3 : w4.cell? ⟨w2.heap.size, 3, none⟩ = some (.int .i64 0) := cell_of_row w4 _ 3 _ _ _ htag
  have g4 : w4.cell? ⟨w2.heap.size, 4, none⟩ = some (.int .i64 0) := cell_of_row w4 _ 4 _ _ _ htag
  have HM := Lib.hid hM; have HW4 := Lib.hid hW4; clear hM hb4 hW4 htag hbx c0 c1 c2 c3 hs2
  go_wp2_with fail
  go_quiet (fail)
  go_wp2_with fail
  refine (Hcnt.out _ ?_).mono ?_
  · have hW4 := HW4.out
    (focus (repeat' (first | (with_reducible exact Below.refl _ _) | (with_reducible assumption) | (with_reducible refine Below.setCell ?_ ?_ _) | (with_reducible refine Below.alloc ?_ ?_ _) | (with_reducible refine below_drewN ?_ _) | (with_reducible refine Below.drew ?_) | (with_reducible exact Nat.le_refl _) | omega | (simp; done) | (simp; omega))))
  rintro e w5 ⟨rfl, n5, rfl⟩
  go_wp2_with fail
  have hW4 := HW4.out
  go_region_held3 (fun w' => w'.cell? ⟨w.heap.size, 0, none⟩ = some (.int .i64 (s.cap : Int)) ∧ w'.cell? ⟨w.heap.size, 1, none⟩ = some (.slice A s.msgs.length c) ∧ w'.cell? ⟨w.heap.size, 2, none⟩ = some (.int .i64 (s.recv : Int)) ∧ w'.cell? ⟨w.heap.size, 3, none⟩ = some (.int .i64 (s.peak : Int))) (simp [go_sem, *])
    (first
      | (go_at_call 23; refine (Hlen.out _ ?_).mono ?_; (focus (repeat' (first | (with_reducible exact Below.refl _ _) | (with_reducible assumption) | (with_reducible refine Below.setCell ?_ ?_ _) | (with_reducible refine Below.alloc ?_ ?_ _) | (with_reducible refine below_drewN ?_ _) | (with_reducible refine Below.drew ?_) | (with_reducible exact Nat.le_refl _) | omega | (simp; done) | (simp; omega)))); rintro e w6 ⟨rfl, n6, rfl⟩)
      | (go_at_call 36; refine (Hcap.out _ ?_).mono ?_; (focus (repeat' (first | (with_reducible exact Below.refl _ _) | (with_reducible assumption) | (with_reducible refine Below.setCell ?_ ?_ _) | (with_reducible refine Below.alloc ?_ ?_ _) | (with_reducible refine below_drewN ?_ _) | (with_reducible refine Below.drew ?_) | (with_reducible exact Nat.le_refl _) | omega | (simp; done) | (simp; omega)))); rintro e w6 ⟨rfl, rfl⟩)
      | (go_at_call 26; refine (Hpeak.out _ ?_).mono ?_; (focus (repeat' (first | (with_reducible exact Below.refl _ _) | (with_reducible assumption) | (with_reducible refine Below.setCell ?_ ?_ _) | (with_reducible refine Below.alloc ?_ ?_ _) | (with_reducible refine below_drewN ?_ _) | (with_reducible refine Below.drew ?_) | (with_reducible exact Nat.le_refl _) | omega | (simp; done) | (simp; omega)))); rintro e w6 ⟨rfl, rfl⟩)
      | (go_at_call 28; refine (Hlm.out _ ?_).mono ?_; (focus (repeat' (first | (with_reducible exact Below.refl _ _) | (with_reducible assumption) | (with_reducible refine Below.setCell ?_ ?_ _) | (with_reducible refine Below.alloc ?_ ?_ _) | (with_reducible refine below_drewN ?_ _) | (with_reducible refine Below.drew ?_) | (with_reducible exact Nat.le_refl _) | omega | (simp; done) | (simp; omega)))); rintro e w6 ⟨A6, c6, rfl, hM6, hb6⟩; refine first_then (p := Below w4.heap.size w4 w6) ?_ ?_; (focus (refine Below.trans ?_ (hb6.mono (by simp)); (focus (repeat' (first | (with_reducible exact Below.refl _ _) | (with_reducible assumption) | (with_reducible refine Below.setCell ?_ ?_ _) | (with_reducible refine Below.alloc ?_ ?_ _) | (with_reducible refine below_drewN ?_ _) | (with_reducible refine Below.drew ?_) | (with_reducible exact Nat.le_refl _) | omega | (simp; done) | (simp; omega)))); done)); intro hB6; have k0 := (hB6.cell (p := ⟨w.heap.size, 0, none⟩) hs5).trans d0; have k1 := (hB6.cell (p := ⟨w.heap.size, 1, none⟩) hs5).trans d1; have k2 := (hB6.cell (p := ⟨w.heap.size, 2, none⟩) hs5).trans d2; have k3 := (hB6.cell (p := ⟨w.heap.size, 3, none⟩) hs5).trans d3; have HM6 := Lib.hid hM6; have HB6 := Lib.hid hB6; clear hM6 hb6 hB6)
      | (go_at_call 48; refine (refSameAllN _ _ _ _ _ _ _ Hnl.out (MsgsRd.below HM6.out.rd ?_) (MsgsRd.below HM.out ?_) (by rw [Hnl.out]; omega) Hv.out).mono ?_; (focus (have hB6 := HB6.out; (focus (repeat' (first | (with_reducible exact Below.refl _ _) | (with_reducible assumption) | (with_reducible refine Below.setCell ?_ ?_ _) | (with_reducible refine Below.alloc ?_ ?_ _) | (with_reducible refine below_drewN ?_ _) | (with_reducible refine Below.drew ?_) | (with_reducible exact Nat.le_refl _) | omega | (simp; done) | (simp; omega)))); done)); (focus (have hB6 := HB6.out; (focus (repeat' (first | (with_reducible exact Below.refl _ _) | (with_reducible assumption) | (with_reducible refine Below.setCell ?_ ?_ _) | (with_reducible refine Below.alloc ?_ ?_ _) | (with_reducible refine below_drewN ?_ _) | (with_reducible refine Below.drew ?_) | (with_reducible exact Nat.le_refl _) | omega | (simp; done) | (simp; omega)))); done)); rintro e w7 ⟨rfl, hb7⟩; refine first_then (p := Below w4.heap.size w4 w7) ?_ ?_; (focus (have hB6 := HB6.out; have hs6 := hB6.size; refine Below.trans ?_ (hb7.mono ?_); (focus (repeat' (first | (with_reducible exact Below.refl _ _) | (with_reducible assumption) | (with_reducible refine Below.setCell ?_ ?_ _) | (with_reducible refine Below.alloc ?_ ?_ _) | (with_reducible refine below_drewN ?_ _) | (with_reducible refine Below.drew ?_) | (with_reducible exact Nat.le_refl _) | omega | (simp; done) | (simp; omega)))); (first | omega | (simp; omega)); done)); intro hB7; have k0 := (hB7.cell (p := ⟨w.heap.size, 0, none⟩) hs5).trans d0; have k1 := (hB7.cell (p := ⟨w.heap.size, 1, none⟩) hs5).trans d1; have k2 := (hB7.cell (p := ⟨w.heap.size, 2, none⟩) hs5).trans d2; have k3 := (hB7.cell (p := ⟨w.heap.size, 3, none⟩) hs5).trans d3; have HB7 := Lib.hid hB7; clear hb7 hB7))
  all_goals
    go_wp2_with fail
    go_ret
    refine ⟨rfl, ?_⟩
    have hB7 := HB7.out
    refine hW4.trans (Below.mono (B := w4.heap.size) ?_ hW4.size)
    (focus (repeat' (first | (with_reducible exact Below.refl _ _) | (with_reducible assumption) | (with_reducible refine Below.setCell ?_ ?_ _) | (with_reducible refine Below.alloc ?_ ?_ _) | (with_reducible refine below_drewN ?_ _) | (with_reducible refine Below.drew ?_) | (with_reducible exact Nat.le_refl _) | omega | (simp; done) | (simp; omega))))
end Go.Proofs.Ytpoeppehijhnnaa
