/- The walks of package link: messages. -/
import Derived.Test.YtpoeppehijhnnaaLinkW
import Derived.Test.YtpoeppehijhnnaaCloneI64
namespace Go.Proofs.Ytpoeppehijhnnaa
open Go.RowKit

/-- A tag. -/
structure Tg where
  a : Int
  b : Int
  c : Int
  d : Int
  e : Int
/-- A message. -/
structure Msg where
  tag : Tg
  vals : List Int
/-- A tag's cells; as a value it is written out. -/
def Tg.cells (t : Tg) : List Value := [.int .i64 t.a, .int .i64 t.b, .int .i64 t.c, .int .i64 t.d, .int .i64 t.e]
def Tg.zero : Tg := ⟨0, 0, 0, 0, 0⟩
def Msg.zero : Msg := ⟨Tg.zero, []⟩

theorem et_msgs : ElemT Try.prog 44 37 (.agg #[.int .i64 0, .int .i64 0, .int .i64 0, .int .i64 0, .int .i64 0, .slice none 0 0]) 6 64 := ⟨Try.underlying44, info_parts (by kernel_rfl), rfl, by decide⟩

theorem copied_any (A : Option Addr) (zs : List Int) (c : Nat) (w : World) (hA : Rd w A (nums .i64 zs)) (hl : zs.length ≤ 17592186043904) :
    Calls Try.prog 46 #[.slice A zs.length c] w fun e w' => ∃ v, e = .returned v ∧ w'.ownsRow w.heap.size 2 1 v zs.length (nums .i64 zs) ∧ Below w.heap.size w w' := by
  have h := clone_any A zs c w hA hl
  go_enter Try.func46, Try.ntmps46
  go_wp2_with fail
  refine h.mono ?_
  rintro e w1 ⟨v, rfl, hown, hb⟩
  obtain ⟨A', c', rfl, _⟩ := own_form hown
  clear h
  have Hown := Lib.hid hown; have Hb := Lib.hid hb; clear hown hb
  go_wp2
  go_ret
  exact ⟨_, rfl, Hown.out, Hb.out⟩

/-- What lies in the cells of a message that the link holds. -/
def MsgOwn (w : World) (base : Nat) (cs : List Value) (m : Msg) : Prop :=
  ∃ A c, cs = m.tag.cells ++ [.slice A m.vals.length c] ∧ w.ownsRow base 2 1 (.slice A m.vals.length c) m.vals.length (nums .i64 m.vals)
/-- What lies in the cells of a message that is read. -/
def MsgRd (w : World) (cs : List Value) (m : Msg) : Prop :=
  ∃ A c, cs = m.tag.cells ++ [.slice A m.vals.length c] ∧ Rd w A (nums .i64 m.vals)

/-- A link's state: all messages that were sent, how many were received. -/
structure LSt where
  cap : Nat
  msgs : List Msg
  recv : Nat
  peak : Nat
def LSt.len (s : LSt) : Nat := s.msgs.length - s.recv
/-- Its bounds. -/
structure LSt.Ok (s : LSt) : Prop where
  cap1 : 1 ≤ s.cap
  cap2 : s.cap ≤ 1048576
  rs : s.recv ≤ s.msgs.length
  sr : s.msgs.length ≤ s.recv + s.cap
  pk : s.peak ≤ s.cap
  many : s.msgs.length ≤ 100000000000
  vals : ∀ m ∈ s.msgs, m.vals.length ≤ 17592186043904

def msgAt (l : List Msg) (j : Nat) : Msg := l.getD j Msg.zero
def rowAt (l : List (List Value)) (j : Nat) : List Value := l.getD j []

/-- A link in memory: b is its block, g the block of its ring (none: no ring yet). -/
structure LinkAt (w : World) (base b : Nat) (g : Option Nat) (s : LSt) : Prop where
  ok : s.Ok
  ex : ∃ ring rows, LinkCells w b ring s.cap s.msgs.length s.recv s.peak ∧ w.ownsRow base 37 6 ring (min s.msgs.length s.cap) (List.flatten rows) ∧ ring.ownBlock = g ∧
    rows.length = min s.msgs.length s.cap ∧ (∀ r ∈ rows, r.length = 6) ∧ ∀ j, s.recv ≤ j → j < s.msgs.length → MsgOwn w base (rowAt rows (j % s.cap)) (msgAt s.msgs j)

theorem linkPlaceN (b : Nat) (ring : Value) (cap sent recv peak n i : Nat) (w : World) (h : LinkCells w b ring cap sent recv peak) (hc : 1 ≤ cap) (hc2 : cap ≤ 1048576) (hi : n % cap = i) :
    Calls Try.prog 44 #[.pointer (some ⟨b, 0, none⟩), .int .i64 (n : Int)] w fun e w' => e = .returned (.int .i64 (i : Int)) ∧ w = w' := by
  subst hi
  refine (linkPlace b ring cap sent recv peak n w h hc (by omega) hc2).mono ?_
  rintro e w' ⟨rfl, rfl⟩
  exact ⟨by rw [Int.natCast_emod], rfl⟩

theorem flatten_get {rows : List (List Value)} {k : Nat} (h : ∀ r ∈ rows, r.length = k) (i t : Nat) (hi : i < rows.length) (ht : t < k) : (List.flatten rows)[i * k + t]? = (rowAt rows i)[t]? := by
  induction rows generalizing i with
  | nil => simp at hi
  | cons r l ih =>
    have hr : r.length = k := h r (by simp)
    cases i with
    | zero =>
      rw [List.flatten_cons, Nat.zero_mul, Nat.zero_add, List.getElem?_append_left (by omega)]
      simp [rowAt]
    | succ i =>
      rw [List.flatten_cons, List.getElem?_append_right (by rw [hr, Nat.add_mul]; omega), hr, show (i + 1) * k + t - k = i * k + t by rw [Nat.add_mul]; omega, ih (fun r hr => h r (by simp [hr])) i (by simpa using hi)]
      simp [rowAt]

/-- Six cells of a message at a place. -/
structure Cells6 (w : World) (g o : Nat) (t : Tg) (v : Value) : Prop where
  c0 : w.cell? ⟨g, o, none⟩ = some (.int .i64 t.a)
  c1 : w.cell? ⟨g, o + 1, none⟩ = some (.int .i64 t.b)
  c2 : w.cell? ⟨g, o + 2, none⟩ = some (.int .i64 t.c)
  c3 : w.cell? ⟨g, o + 3, none⟩ = some (.int .i64 t.d)
  c4 : w.cell? ⟨g, o + 4, none⟩ = some (.int .i64 t.e)
  c5 : w.cell? ⟨g, o + 5, none⟩ = some v

theorem mod_lt_min {j n r cap : Nat} (_h1 : r ≤ j) (h2 : j < n) (_h3 : n ≤ r + cap) (hc : 1 ≤ cap) : j % cap < min n cap := by
  have h := Nat.mod_lt j (show 0 < cap by omega)
  have h' := Nat.mod_le j cap
  omega

/-- The ring holds the message j of those that are there. -/
theorem LinkAt.at_ {w : World} {base b : Nat} {g : Option Nat} {s : LSt} (h : LinkAt w base b g s) (j : Nat) (h1 : s.recv ≤ j) (h2 : j < s.msgs.length) :
    ∃ gg c A' c', g = some gg ∧ LinkCells w b (.slice (some ⟨gg, 0, none⟩) (min s.msgs.length s.cap) c) s.cap s.msgs.length s.recv s.peak ∧ j % s.cap < min s.msgs.length s.cap ∧
      Cells6 w gg (j % s.cap * 6) (msgAt s.msgs j).tag (.slice A' (msgAt s.msgs j).vals.length c') ∧
      w.ownsRow base 2 1 (.slice A' (msgAt s.msgs j).vals.length c') (msgAt s.msgs j).vals.length (nums .i64 (msgAt s.msgs j).vals) := by
  obtain ⟨ok, ring, rows, hc, hown, hg, hrl, hr6, hm⟩ := h
  have hi := mod_lt_min h1 h2 ok.sr ok.cap1
  obtain ⟨A', c', hrow, hval⟩ := hm j h1 h2
  obtain ⟨gg, c, rfl, _, _⟩ := hown.form (by omega)
  refine ⟨gg, c, A', c', hg.symm, hc, hi, ?_, hval⟩
  have hcell : ∀ t, t < 6 → w.cell? ⟨gg, j % s.cap * 6 + t, none⟩ = ((msgAt s.msgs j).tag.cells ++ [Value.slice A' (msgAt s.msgs j).vals.length c'])[t]? := fun t ht => by
    rw [hown.cellAt _ (by have := Nat.mul_le_mul_right 6 (Nat.succ_le_of_lt hi); rw [Nat.succ_mul] at this; omega), flatten_get hr6 _ t (by omega) ht, hrow]
  exact ⟨hcell 0 (by omega), hcell 1 (by omega), hcell 2 (by omega), hcell 3 (by omega), hcell 4 (by omega), hcell 5 (by omega)⟩

theorem LinkCells.alloc {w : World} {b : Nat} {ring : Value} {cap sent recv peak : Nat} (h : LinkCells w b ring cap sent recv peak) (o : Obj) : LinkCells (w.alloc o) b ring cap sent recv peak := (Below.heap_alloc _ _ _ (lt_of_block h)).trans h

theorem linkPeek (base b : Nat) (g : Option Nat) (s : LSt) (w : World) (h : LinkAt w base b g s) (hlt : s.recv < s.msgs.length) :
    Calls Try.prog 35 #[.pointer (some ⟨b, 0, none⟩)] w fun e w' => e = .returned (.tuple #[.agg #[.int .i64 (msgAt s.msgs s.recv).tag.a, .int .i64 (msgAt s.msgs s.recv).tag.b, .int .i64 (msgAt s.msgs s.recv).tag.c, .int .i64 (msgAt s.msgs s.recv).tag.d, .int .i64 (msgAt s.msgs s.recv).tag.e], .bool true]) ∧ Below w.heap.size w w' := by
  obtain ⟨gg, c, A', c', rfl, hc, hi, h6, hval⟩ := h.at_ s.recv (Nat.le_refl _) hlt
  obtain ⟨ok1, ok2, ok3, ok4, ok5, ok6, ok7⟩ := h.ok
  clear ok7 hval
  obtain ⟨i, hie⟩ : ∃ i, s.recv % s.cap = i := ⟨_, rfl⟩
  rw [hie] at hi h6
  obtain ⟨L, hL⟩ : ∃ L, min s.msgs.length s.cap = L := ⟨_, rfl⟩
  rw [hL] at hi hc
  have hl := fun o => linkLen b _ _ _ _ _ _ (hc.alloc o) ok3 (by omega)
  have hp := fun o n => linkPlaceN b _ _ _ _ _ s.recv i _ (show LinkCells ((w.alloc o).drewN n) _ _ _ _ _ _ from hc.alloc o) ok1 ok2 hie
  have c0 := hc.c0
  have c3 := hc.c3
  have hb := lt_of_block hc
  have hg := lt_of_cell h6.c0
  obtain ⟨d0, d1, d2, d3, d4, d5⟩ := h6
  have Hl := Lib.hid hl; have Hp := Lib.hid hp; clear hl hp hie hL h
  generalize (msgAt s.msgs s.recv).tag = tg at *
  go_enter Try.func35, Try.ntmps35
  go_wp2_with fail
  refine (Hl.out _).mono ?_
  rintro e w1 ⟨rfl, n, rfl⟩
  go_wp2_with fail
  go_region_held3 (fun w' => w'.cell? ⟨b, 0, none⟩ = some (.slice (some ⟨gg, 0, none⟩) L c) ∧ w'.cell? ⟨b, 3, none⟩ = some (.int .i64 (s.recv : Int)) ∧ w'.cell? ⟨gg, i * 6, none⟩ = some (.int .i64 tg.a) ∧ w'.cell? ⟨gg, i * 6 + 1, none⟩ = some (.int .i64 tg.b) ∧
      w'.cell? ⟨gg, i * 6 + 2, none⟩ = some (.int .i64 tg.c) ∧ w'.cell? ⟨gg, i * 6 + 3, none⟩ = some (.int .i64 tg.d) ∧ w'.cell? ⟨gg, i * 6 + 4, none⟩ = some (.int .i64 tg.e)) (simp [go_sem, *])
    ((go_at_call 44; refine (Hp.out _ _).mono ?_; rintro e w' ⟨rfl, rfl⟩))
  go_wp2
  refine bodyPost_ret (v := .tuple #[.agg #[.int .i64 tg.a, .int .i64 tg.b, .int .i64 tg.c, .int .i64 tg.d, .int .i64 tg.e], .bool true]) (by simp [results, Try.results35, go_sem]) rfl ⟨rfl, ?_⟩
  (focus (repeat' (first | (with_reducible exact Below.refl _ _) | (with_reducible assumption) | (with_reducible refine Below.setCell ?_ ?_ _) | (with_reducible refine Below.alloc ?_ ?_ _) | (with_reducible refine below_drewN ?_ _) | (with_reducible refine Below.drew ?_) | (with_reducible exact Nat.le_refl _) | omega | (simp; done) | (simp; omega))))

theorem linkPeek_none (base b : Nat) (g : Option Nat) (s : LSt) (w : World) (h : LinkAt w base b g s) (hlt : s.recv = s.msgs.length) :
    Calls Try.prog 35 #[.pointer (some ⟨b, 0, none⟩)] w fun e w' => e = .returned (.tuple #[.agg #[.int .i64 0, .int .i64 0, .int .i64 0, .int .i64 0, .int .i64 0], .bool false]) ∧ Below w.heap.size w w' := by
  obtain ⟨ok, ring, rows, hc, _⟩ := h
  obtain ⟨ok1, ok2, ok3, ok4, ok5, ok6, ok7⟩ := ok
  clear ok7
  have hl := fun o => linkLen b _ _ _ _ _ _ (hc.alloc o) ok3 (by omega)
  rw [hlt, Int.sub_self] at hl
  have Hl := Lib.hid hl; clear hl hc hlt
  go_enter Try.func35, Try.ntmps35
  go_wp2_with fail
  refine (Hl.out _).mono ?_
  rintro e w1 ⟨rfl, n, rfl⟩
  go_wp2
  refine bodyPost_ret (v := .tuple #[.agg #[.int .i64 0, .int .i64 0, .int .i64 0, .int .i64 0, .int .i64 0], .bool false]) (by simp [results, Try.results35, go_sem]) rfl ⟨rfl, ?_⟩
  (focus (repeat' (first | (with_reducible exact Below.refl _ _) | (with_reducible assumption) | (with_reducible refine Below.setCell ?_ ?_ _) | (with_reducible refine Below.alloc ?_ ?_ _) | (with_reducible refine below_drewN ?_ _) | (with_reducible refine Below.drew ?_) | (with_reducible exact Nat.le_refl _) | omega | (simp; done) | (simp; omega))))

theorem linkPeek_nil (w : World) :
    Calls Try.prog 35 #[.pointer none] w fun e w' => e = .returned (.tuple #[.agg #[.int .i64 0, .int .i64 0, .int .i64 0, .int .i64 0, .int .i64 0], .bool false]) ∧ Below w.heap.size w w' := by
  go_enter Try.func35, Try.ntmps35
  go_wp2_with fail
  refine (linkLen_nil _).mono ?_
  rintro e w1 ⟨rfl, rfl⟩
  go_wp2
  refine bodyPost_ret (v := .tuple #[.agg #[.int .i64 0, .int .i64 0, .int .i64 0, .int .i64 0, .int .i64 0], .bool false]) (by simp [results, Try.results35, go_sem]) rfl ⟨rfl, ?_⟩
  (focus (repeat' (first | (with_reducible exact Below.refl _ _) | (with_reducible assumption) | (with_reducible refine Below.setCell ?_ ?_ _) | (with_reducible refine Below.alloc ?_ ?_ _) | (with_reducible refine below_drewN ?_ _) | (with_reducible refine Below.drew ?_) | (with_reducible exact Nat.le_refl _) | omega | (simp; done) | (simp; omega))))

end Go.Proofs.Ytpoeppehijhnnaa
