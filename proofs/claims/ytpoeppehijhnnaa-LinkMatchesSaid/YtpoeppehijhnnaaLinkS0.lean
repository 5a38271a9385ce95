/- Send: the lemmas outside the walk, and the short ways. -/
import Derived.Test.YtpoeppehijhnnaaLinkR
import Derived.Deep.RegionLaw
namespace Go.Proofs.Ytpoeppehijhnnaa
open Go.RowKit

/-- The blocks of a link. -/
def linkS (b : Nat) (g : Option Nat) (k : Nat) : Prop := k = b ∨ g = some k
theorem linkS_b (b : Nat) (g : Option Nat) : linkS b g b := .inl rfl
theorem linkS_g (b g : Nat) : linkS b (some g) g := .inr rfl
theorem LinkCells.drew {w : World} {b : Nat} {ring : Value} {cap sent recv peak : Nat} (h : LinkCells w b ring cap sent recv peak) : LinkCells w.drew b ring cap sent recv peak := h
theorem LinkCells.drewN {w : World} {b : Nat} {ring : Value} {cap sent recv peak : Nat} (h : LinkCells w b ring cap sent recv peak) (n : Nat) : LinkCells (w.drewN n) b ring cap sent recv peak := h
theorem LinkCells.far {w : World} {b : Nat} {ring : Value} {cap sent recv peak : Nat} (h : LinkCells w b ring cap sent recv peak) (p : Addr) (u : Value) (hp : ¬ (b = p.block)) : LinkCells (w.setCell p u) b ring cap sent recv peak := h.same (Below.heap_setCell w p u b hp)
theorem LinkCells.set0 {w : World} {b : Nat} {ring : Value} {cap sent recv peak : Nat} (h : LinkCells w b ring cap sent recv peak) (v : Value) : LinkCells (w.setCell ⟨b, 0, none⟩ v) b v cap sent recv peak := by
  unfold LinkCells at h ⊢
  simp [World.setCell, Array.getElem?_modify, h]
theorem LinkCells.set2 {w : World} {b : Nat} {ring : Value} {cap sent recv peak : Nat} (h : LinkCells w b ring cap sent recv peak) (n : Nat) (v : Int) (hv : v = (n : Int)) : LinkCells (w.setCell ⟨b, 2, none⟩ (.int .i64 v)) b ring cap n recv peak := by
  subst hv
  unfold LinkCells at h ⊢
  simp [World.setCell, Array.getElem?_modify, h]
theorem LinkCells.set4 {w : World} {b : Nat} {ring : Value} {cap sent recv peak : Nat} (h : LinkCells w b ring cap sent recv peak) (n : Nat) (v : Int) (hv : v = (n : Int)) : LinkCells (w.setCell ⟨b, 4, none⟩ (.int .i64 v)) b ring cap sent recv n := by
  subst hv
  unfold LinkCells at h ⊢
  simp [World.setCell, Array.getElem?_modify, h]

/-- A link's own block is not its ring's. -/
theorem ring_ne {w : World} {base b : Nat} {ring r2 : Value} {cap sent recv peak n : Nat} {xs : List Value} (h : LinkCells w b r2 cap sent recv peak) (ho : w.ownsRow base 37 6 ring n xs) : ring.ownBlock ≠ some b := fun e => by
  rcases ho.2 with ⟨hn, _⟩ | ⟨g2, cap2, cur, hv2, _, hg2, _⟩
  · rw [hn] at e; cases e
  · rw [hv2] at e
    obtain rfl : g2 = b := by simpa [Value.ownBlock] using e
    unfold LinkCells at h
    rw [h] at hg2; injection hg2 with hg2; injection hg2 with _ hg2; exact absurd hg2 (by decide)
theorem flatten_set (cs : List Value) (x0 x1 x2 x3 x4 x5 : Value) (hcs : cs = [x0, x1, x2, x3, x4, x5]) : ∀ (rows : List (List Value)) (i : Nat), (∀ r ∈ rows, r.length = 6) → i < rows.length →
    ((((((List.flatten rows).set (i * 6) x0).set (i * 6 + 1) x1).set (i * 6 + 2) x2).set (i * 6 + 3) x3).set (i * 6 + 4) x4).set (i * 6 + 5) x5 = List.flatten (rows.set i cs) := by
  intro rows
  induction rows with
  | nil => intro i _ hi; simp at hi
  | cons r l ih =>
    intro i h hi
    have hr : r.length = 6 := h r (by simp)
    cases i with
    | zero =>
      obtain ⟨a0, a1, a2, a3, a4, a5, rfl⟩ : ∃ a0 a1 a2 a3 a4 a5, r = [a0, a1, a2, a3, a4, a5] := by
        match r, hr with
        | [a0, a1, a2, a3, a4, a5], _ => exact ⟨a0, a1, a2, a3, a4, a5, rfl⟩
      subst hcs
      rfl
    | succ i =>
      have e : ∀ (xs : List Value) (k : Nat) (x : Value), (r ++ xs).set (6 + k) x = r ++ xs.set k x := fun xs k x => by
        rw [List.set_append_right _ _ (by omega), hr, show 6 + k - 6 = k by omega]
      rw [List.flatten_cons, show (i + 1) * 6 = 6 + i * 6 by omega]
      simp only [Nat.add_assoc, e]
      rw [List.set_cons_succ, List.flatten_cons, ← ih i (fun r hr => h r (by simp [hr])) (by simpa using hi)]

theorem rowAt_set_same (rows : List (List Value)) (i : Nat) (cs : List Value) (h : i < rows.length) : rowAt (rows.set i cs) i = cs := by simp [rowAt, h]
theorem rowAt_set_other (rows : List (List Value)) (i j : Nat) (cs : List Value) (h : i ≠ j) : rowAt (rows.set i cs) j = rowAt rows j := by simp [rowAt, h]
theorem rowAt_app_left (rows : List (List Value)) (cs : List Value) (j : Nat) (h : j < rows.length) : rowAt (rows ++ [cs]) j = rowAt rows j := by simp [rowAt, List.getElem?_append_left h]
theorem rowAt_app_last (rows : List (List Value)) (cs : List Value) : rowAt (rows ++ [cs]) rows.length = cs := by simp [rowAt]
theorem msgAt_app_left (l : List Msg) (m : Msg) (j : Nat) (h : j < l.length) : msgAt (l ++ [m]) j = msgAt l j := by simp [msgAt, List.getElem?_append_left h]
theorem msgAt_app_last (l : List Msg) (m : Msg) : msgAt (l ++ [m]) l.length = m := by simp [msgAt]

/-- Two messages that are there at once do not lie at one place. -/
theorem mod_ne {a b r cap : Nat} (h1 : r ≤ a) (h2 : a < b) (h3 : b < r + cap) : a % cap ≠ b % cap := fun e => by
  have hd : cap ∣ b - a := Nat.dvd_of_mod_eq_zero (Nat.sub_mod_eq_zero_of_mod_eq e.symm)
  have := Nat.le_of_dvd (by omega) hd
  omega

/-- The link behind a Send: what the walk has left, put together. rows' are the rows behind it. -/
theorem link_send_end {w w' : World} {base b : Nat} {g : Option Nat} {s : LSt} {ring : Value} {rows : List (List Value)} (ok : s.Ok) (hc0 : LinkCells w b ring s.cap s.msgs.length s.recv s.peak)
    (ho : w.ownsRow base 37 6 ring (min s.msgs.length s.cap) (List.flatten rows)) (hg0 : ring.ownBlock = g)
    (hm : ∀ j, s.recv ≤ j → j < s.msgs.length → MsgOwn w base (rowAt rows (j % s.cap)) (msgAt s.msgs j))
    (hroom : s.msgs.length < s.recv + s.cap) (hmany : s.msgs.length < 100000000000) (t : Tg) (zs : List Int) (hzl : zs.length ≤ 17592186043904)
    (k : Keep (linkS b g) w w') {ring' : Value} {g' : Option Nat} {rows' : List (List Value)} {A1 : Option Addr} {c1 : Nat} {P : Nat} (hP : P = max s.peak (s.msgs.length + 1 - s.recv))
    (hc : LinkCells w' b ring' s.cap (s.msgs.length + 1) s.recv P) (hown : w'.ownsRow base 37 6 ring' (min (s.msgs.length + 1) s.cap) (List.flatten rows')) (hg : ring'.ownBlock = g')
    (hrl : rows'.length = min (s.msgs.length + 1) s.cap) (hr6 : ∀ r ∈ rows', r.length = 6)
    (hold : ∀ j, s.recv ≤ j → j < s.msgs.length → rowAt rows' (j % s.cap) = rowAt rows (j % s.cap))
    (hnew : rowAt rows' (s.msgs.length % s.cap) = [.int .i64 t.a, .int .i64 t.b, .int .i64 t.c, .int .i64 t.d, .int .i64 t.e, .slice A1 zs.length c1])
    (hv : w'.ownsRow base 2 1 (.slice A1 zs.length c1) zs.length (nums .i64 zs)) :
    LinkAt w' base b g' { s with msgs := s.msgs ++ [⟨t, zs⟩], peak := max s.peak (s.msgs.length + 1 - s.recv) } := by
  subst hP
  have hty : ∀ i cs, w.heap[i]? = some (.cells cs 2 (0, 0)) → ¬ (i = b ∨ g = some i) := by
    rintro i cs hi (rfl | hgi)
    · unfold LinkCells at hc0
      rw [hc0] at hi; injection hi with hi; injection hi with _ hi; exact absurd hi (by decide)
    · rcases ho.2 with ⟨hn, _⟩ | ⟨g2, cap, cur, hv2, _, hg2, _⟩
      · rw [hn] at hg0; rw [hgi] at hg0; cases hg0
      · rw [hv2, hgi] at hg0
        obtain rfl : g2 = i := by simpa [Value.ownBlock] using hg0
        rw [hg2] at hi; injection hi with hi; injection hi with _ hi; exact absurd hi (by decide)
  refine ⟨⟨ok.cap1, ok.cap2, ?_, ?_, ?_, ?_, ?_⟩, ring', rows', ?_, ?_, hg, ?_, hr6, fun j h1 h2 => ?_⟩
  · have := ok.rs; simp; omega
  · simp; omega
  · have := ok.pk; simp only; omega
  · simp; omega
  · intro m hmm
    rcases List.mem_append.1 hmm with hmm | hmm
    · exact ok.vals m hmm
    · rw [List.mem_singleton.1 hmm]; exact hzl
  · simpa using hc
  · simpa using hown
  · simpa using hrl
  · simp only [List.length_append, List.length_singleton] at h1 h2
    rcases Nat.lt_or_ge j s.msgs.length with hj | hj
    · rw [msgAt_app_left _ _ _ hj]
      simp only
      rw [hold j h1 hj]
      obtain ⟨A, c2, e, hv2⟩ := hm j h1 hj
      refine ⟨A, c2, e, k.own hv2 fun i hi => ?_⟩
      rcases hv2.2 with ⟨hn, _⟩ | ⟨g2, cap, cur, hv3, _, hg2, _⟩
      · rw [hn] at hi; cases hi
      · rw [hv3] at hi
        obtain rfl : g2 = i := by simpa [Value.ownBlock] using hi
        exact hty _ _ hg2
    · obtain rfl : j = s.msgs.length := by omega
      rw [msgAt_app_last]
      exact ⟨A1, c1, hnew, hv⟩

theorem linkSend_nil (v : Value) (cs : Array Value) (hv : v = .agg cs) (w : World) :
    Calls Try.prog 24 #[.pointer none, v] w fun e w' => e = .returned (.int .i64 1) ∧ Below w.heap.size w w' := by
  subst hv
  go_enter Try.func24, Try.ntmps24
  go_wp2
  go_ret
  refine ⟨rfl, ?_⟩
  (focus (repeat' (first | (with_reducible exact Below.refl _ _) | (with_reducible assumption) | (with_reducible refine Below.setCell ?_ ?_ _) | (with_reducible refine Below.alloc ?_ ?_ _) | (with_reducible refine below_drewN ?_ _) | (with_reducible refine Below.drew ?_) | (with_reducible exact Nat.le_refl _) | omega | (simp; done) | (simp; omega))))

theorem linkSend_full (base b : Nat) (g : Option Nat) (s : LSt) (cs : Array Value) (w : World) (h : LinkAt w base b g s) (hfull : s.msgs.length = s.recv + s.cap) :
    Calls Try.prog 24 #[.pointer (some ⟨b, 0, none⟩), .agg cs] w fun e w' => e = .returned (.int .i64 11) ∧ Below w.heap.size w w' := by
  obtain ⟨ok, ring, rows, hc, _⟩ := h
  have ok2 := ok.cap2
  have ok3 := ok.rs
  have ok4 := ok.many
  have hl := fun o n => linkLen b _ _ _ _ _ _ (show LinkCells ((w.alloc o).drewN n) _ _ _ _ _ _ from hc.alloc o) ok3 (by omega)
  rw [show (s.msgs.length : Int) - (s.recv : Int) = (s.cap : Int) by omega] at hl
  have c1 := hc.c1
  have hb := lt_of_block hc
  have Hl := Lib.hid hl; have Hok := Lib.hid ok; have Hc := Lib.hid hc; have Hf := Lib.hid hfull; clear hl hc ok hfull ok3 ok4
  go_enter Try.func24, Try.ntmps24
  go_wp2_with fail
  go_quiet ((go_at_call 23; exact Calls.quiet_of (Hl.out _ _)))
  go_wp2_with fail
  go_ret
  refine ⟨rfl, ?_⟩
  (focus (repeat' (first | (with_reducible exact Below.refl _ _) | (with_reducible assumption) | (with_reducible refine Below.setCell ?_ ?_ _) | (with_reducible refine Below.alloc ?_ ?_ _) | (with_reducible refine below_drewN ?_ _) | (with_reducible refine Below.drew ?_) | (with_reducible exact Nat.le_refl _) | omega | (simp; done) | (simp; omega))))

end Go.Proofs.Ytpoeppehijhnnaa
