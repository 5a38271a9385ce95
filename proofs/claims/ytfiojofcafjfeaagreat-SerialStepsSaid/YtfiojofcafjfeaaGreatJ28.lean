/- The walks of Sampler's Steps, Epoch, view, Batch. A run of package serial: New, State, Steps. No condition. -/
import Derived.Test.YtfiojofcafjfeaaGreatJ18
import Derived.Test.YtfiojofcafjfeaaGreatJ06
import Derived.Test.YtfiojofcafjfeaaGreatJ21
import Derived.Test.YtfiojofcafjfeaaGreatJ27
set_option linter.unusedSimpArgs false
set_option linter.unusedVariables false
namespace Go.Proofs.YtfiojofcafjfeaaGreat
open Go.RowKit

theorem ssteps_any (S n b steps : Nat) (l : List Int) (w : World) (h : SampAt w S n b steps l) :
    Calls Tryz.prog 58 #[.pointer (some ⟨S, 0, none⟩)] w fun e w' => e = .returned (.int .i64 steps) ∧ w = w' := by
  obtain ⟨Ab, cb, Ao, co, vs, h1, h2, h3, h4, h5⟩ := h
  have r0 := cell_of_row w _ 0 _ _ _ h1
  have r1 := cell_of_row w _ 1 _ _ _ h1
  have r2 := cell_of_row w _ 2 _ _ _ h1
  have r3 := cell_of_row w _ 3 _ _ _ h1
  have rf := fun j => frozen_of_row w _ j _ _ h1
  clear h1 h2 h3 h4 h5
  go_enter Tryz.func58, Tryz.ntmps58
  go_wp2
  go_ret
  exact ⟨rfl, rfl⟩

theorem sepoch_any (S n b steps t : Nat) (l : List Int) (w : World) (h : SampAt w S n b steps l) (hn : n ≤ 1048576) (hnb : 1 ≤ n / b) (hst : steps ≤ 1048576) (ht : t < steps) :
    Calls Tryz.prog 132 #[.pointer (some ⟨S, 0, none⟩), .int .i64 t] w fun e w' => e = .returned (.tuple #[.int .i64 ((t / (n / b) : Nat) : Int), .int .i64 ((t % (n / b) : Nat) : Int), .bool true]) ∧ ∃ d, w' = w.drewN d := by
  have hs := ssteps_any S n b steps l w h
  obtain ⟨Ab, cb, Ao, co, vs, h1, h2, h3, h4, h5⟩ := h
  have hle := Nat.div_le_self n b
  obtain ⟨nb, hnb'⟩ : ∃ nb, n / b = nb := ⟨_, rfl⟩
  rw [hnb'] at h1 hnb hle ⊢
  have r0 := cell_of_row w _ 0 _ _ _ h1
  have r1 := cell_of_row w _ 1 _ _ _ h1
  have r2 := cell_of_row w _ 2 _ _ _ h1
  have r3 := cell_of_row w _ 3 _ _ _ h1
  have rf := fun j => frozen_of_row w _ j _ _ h1
  obtain ⟨e0, he0⟩ : ∃ e0, t / nb = e0 := ⟨_, rfl⟩
  obtain ⟨p0, hp0⟩ : ∃ p0, t % nb = p0 := ⟨_, rfl⟩
  have hq1 : (t : Int).tdiv (nb : Int) = (e0 : Int) := by rw [← he0]; rfl
  have hq2 : (t : Int).tmod (nb : Int) = (p0 : Int) := by rw [← hp0]; rfl
  have he1 : e0 ≤ t := by rw [← he0]; exact Nat.div_le_self _ _
  have hp1 : p0 ≤ t := by rw [← hp0]; exact Nat.mod_le _ _
  have hq3 : IntKind.i64.wrap (e0 : Int) = (e0 : Int) := IntWalk.i64_in _ (by omega)
  have hq4 : IntKind.i64.wrap (p0 : Int) = (p0 : Int) := IntWalk.i64_in _ (by omega)
  have hq5 : ¬ (nb = 0) := by omega
  have hti : (t : Int) < steps := by omega
  have ht0 : ¬ ((t : Int) < 0) := by omega
  have hti2 : ¬ ((steps : Int) ≤ t) := by omega
  rw [he0, hp0]
  have Hs := Lib.hid hs; clear hs h1 h2 h3 h4 h5 hnb' he0 hp0
  go_enter Tryz.func132, Tryz.ntmps132
  go_wp2_with fail
  refine Hs.out.mono ?_
  rintro e w' ⟨rfl, rfl⟩
  go_wp2_with fail
  go_quiet (fail)
  go_wp2_with fail
  go_ret3
  exact ⟨rfl, _, rfl⟩

/-- The examples of a step. -/
def batchN (l : List Int) (n b t : Nat) : List Int := ((permN l n ((t / (n / b)) * (n - 1))).drop (t % (n / b) * b)).take b
theorem epoch_lt {n b steps t : Nat} (ht : t < steps) : t / (n / b) < epN n b steps := by
  unfold epN cntQ
  rw [if_neg (by omega)]
  have := Nat.div_le_div_right (c := n / b) (show t ≤ steps - 1 by omega)
  omega
theorem batchN_len (l : List Int) {n b t : Nat} (hnb : 1 ≤ n / b) : (batchN l n b t).length = b := by
  unfold batchN
  have h1 := whole_le n b (t % (n / b)) (Nat.mod_lt _ hnb)
  rw [List.length_take, List.length_drop, permN_len]
  omega
theorem batchN_bd (l : List Int) {n b t : Nat} (hnb : 1 ≤ n / b) : ∀ k, k < b → 0 ≤ nth (batchN l n b t) k ∧ nth (batchN l n b t) k < n := fun k hk => by
  have h1 := whole_le n b (t % (n / b)) (Nat.mod_lt _ hnb)
  unfold batchN
  rw [nth_take hk, nth_drop]
  exact permN_bd l n _ _ (by omega)

set_option maxHeartbeats 1000000 in
theorem sview_any (S n b steps t : Nat) (l : List Int) (w : World) (h : SampAt w S n b steps l) (hb : 1 ≤ b) (hn : n ≤ 1048576) (hnb : 1 ≤ n / b) (hst : steps ≤ 1048576) (ht : t < steps) :
    Calls Tryz.prog 100 #[.pointer (some ⟨S, 0, none⟩), .int .i64 t] w fun e w' => ∃ A c, e = .returned (.slice A b c) ∧ Rd w' A (nums .i64 (batchN l n b t)) ∧ Below w.heap.size w w' := by
  have hep := sepoch_any S n b steps t l w h hn hnb hst ht
  obtain ⟨Ab, cb, Ao, co, vs, h1, h2, h3, h4, h5⟩ := h
  have hle := Nat.div_le_self n b
  have he := epoch_lt (n := n) (b := b) ht
  have hm := Nat.mod_lt t hnb
  have hwh := whole_le n b _ hm
  have hmn := whole_min n b _ hb hm
  have hb2 := blkVals_at (n - n % b) b hm
  rw [hmn] at hb2
  obtain ⟨A1, c1, k1, k2, k3⟩ := h5 _ he
  have hbt : batchN l n b t = ((permN l n ((t / (n / b)) * (n - 1))).drop (t % (n / b) * b)).take b := rfl
  rw [hbt]
  have hel : epN n b steps ≤ steps := cntQ_le _ _
  obtain ⟨pl, hpl⟩ : ∃ pl, permN l n ((t / (n / b)) * (n - 1)) = pl := ⟨_, rfl⟩
  have hpn : pl.length = n := by rw [← hpl]; exact permN_len _ _ _
  rw [hpl] at k3 ⊢
  obtain ⟨E, hE⟩ : ∃ E, epN n b steps = E := ⟨_, rfl⟩
  rw [hE] at he h1 h4 hel
  obtain ⟨e0, he0⟩ : ∃ e0, t / (n / b) = e0 := ⟨_, rfl⟩
  obtain ⟨p0, hp0⟩ : ∃ p0, t % (n / b) = p0 := ⟨_, rfl⟩
  rw [he0] at hep he k1
  rw [hp0] at hep hm hwh hb2 ⊢
  obtain ⟨nb, hnb'⟩ : ∃ nb, n / b = nb := ⟨_, rfl⟩
  rw [hnb'] at h1 h2 hnb hm hle hb2
  obtain ⟨lo, hlo⟩ : ∃ lo, p0 * b = lo := ⟨_, rfl⟩
  rw [hlo] at hwh hb2 ⊢
  obtain ⟨bb, ob, rfl, q0⟩ := h2 _ _ hb2.1
  obtain ⟨_, _, e2, q1⟩ := h2 _ _ hb2.2
  injection e2 with e2; injection e2 with i1 i2 _; subst i1; subst i2
  obtain ⟨bo, oo, rfl, q2⟩ := h3 _ _ k1
  obtain ⟨bg, og, rfl, q3⟩ := k3.num (show 0 < pl.length by omega)
  rw [← Nat.add_assoc] at q1
  have hm2 : (p0 : Int) < nb := by omega
  have he2 : (e0 : Int) < E := by omega
  have hl1 : (lo : Int) ≤ ((lo + b : Nat) : Int) := by omega
  have hl2 : ((lo + b : Nat) : Int) ≤ c1 := by omega
  have hl3 : lo ≤ lo + b := by omega
  have hl4 : lo + b ≤ c1 := by omega
  have hl5 : ¬ (c1 = lo) := by omega
  have b1 : bo < w.heap.size := lt_of_cell q2
  have b2 : bb < w.heap.size := lt_of_cell q0
  have r0 := cell_of_row w _ 0 _ _ _ h1
  have r1 := cell_of_row w _ 1 _ _ _ h1
  have r2 := cell_of_row w _ 2 _ _ _ h1
  have r3 := cell_of_row w _ 3 _ _ _ h1
  have rf := fun j => frozen_of_row w _ j _ _ h1
  have b3 : S < w.heap.size := lt_of_block h1
  have H1 := Lib.hid h1; have Hep := Lib.hid hep; have K3 := Lib.hid k3
  clear hep k3 h1 h2 h3 h4 h5 hE he0 hp0 hnb' hlo hpl hpn hb2 k1 q3 hmn hbt
  go_enter Tryz.func100, Tryz.ntmps100
  go_wp2_with fail
  refine Hep.out.mono ?_
  rintro e w' ⟨rfl, d, rfl⟩
  have hb1 : Below w.heap.size w (w.drewN d) := below_drewN (Below.refl _ _) d
  have hz1 : (w.drewN d).heap.size = w.heap.size := by simp
  generalize w.drewN d = w1 at hb1 hz1 ⊢
  have q0' := cell_below hb1 q0
  have q1' := cell_below hb1 q1
  have q2' := cell_below hb1 q2
  have H1_ := (hb1.block _ b3).trans H1.out
  have y0 := cell_of_row w1 _ 0 _ _ _ H1_
  have y1 := cell_of_row w1 _ 1 _ _ _ H1_
  have y2 := cell_of_row w1 _ 2 _ _ _ H1_
  have y3 := cell_of_row w1 _ 3 _ _ _ H1_
  have yf := fun j => frozen_of_row w1 _ j _ _ H1_
  rw [← hz1] at b1 b2 b3
  have Hb1 := Lib.hid hb1; have Hz1 := Lib.hid hz1
  clear q0 q1 q2 r0 r1 r2 r3 rf hb1 hz1 H1_
  go_wp2_with fail
  have hl6 : (lo : Int) + b ≤ c1 := by omega
  have hl7 : ((lo : Int) + b).toNat = lo + b := by omega
  have hl8 : (0 : Int) ≤ (lo : Int) + b := by omega
  have hl9 : (lo : Int) ≤ (lo : Int) + b := by omega
  have hl0 : lo + b - lo = b := by omega
  have hlx : ¬ (lo + b = lo) := by omega
  go_quiet (fail)
  go_wp2_with fail
  go_ret
  refine ⟨_, _, rfl, ?_, below_drewN (Hb1.out.alloc (by have := Hz1.out; omega) _) _⟩
  have := ((((K3.out.below Hb1.out).alloc (.cells #[.int .i64 (lo : Int), .int .i64 ((lo : Int) + b)] 140)).drewN nq).drop lo).take b
  rwa [nums_drop, nums_take] at this

theorem sbatch_any (S n b steps t : Nat) (l : List Int) (w : World) (h : SampAt w S n b steps l) (hb : 1 ≤ b) (hbn : b ≤ n) (hn : n ≤ 1048576) (hst : steps ≤ 1048576) (ht : t < steps) :
    Calls Tryz.prog 59 #[.pointer (some ⟨S, 0, none⟩), .int .i64 t] w fun e w' => ∃ A c, e = .returned (.slice A b c) ∧ b ≤ c ∧ Rd w' A (nums .i64 (batchN l n b t)) ∧ Below w.heap.size w w' := by
  have hnb : 1 ≤ n / b := Nat.div_pos hbn hb
  have hv := sview_any S n b steps t l w h hb hn hnb hst ht
  have hbl := batchN_len l (t := t) hnb
  obtain ⟨bl, hbl'⟩ : ∃ bl, batchN l n b t = bl := ⟨_, rfl⟩
  rw [hbl'] at hv hbl ⊢
  have hic := fun A c w' (hA : Rd w' A (nums .i64 bl)) => iclone_any A bl c w' hA (by omega)
  rw [hbl] at hic
  have Hv := Lib.hid hv; have Hic := Lib.hid hic; clear hv hic hbl' h hbl
  go_enter Tryz.func59, Tryz.ntmps59
  go_wp2_with fail
  refine Hv.out.mono ?_
  rintro e w1 ⟨A, c, rfl, hr, hb1⟩
  have hi := Hic.out A c w1 hr
  have Hi := Lib.hid hi; have Hb1 := Lib.hid hb1; clear hi hr hb1
  go_wp2_with fail
  refine Hi.out.mono ?_
  rintro e w2 ⟨v, rfl, ho, hb2⟩
  obtain ⟨A2, c2, rfl, hc2⟩ := own_form ho
  have Ho := Lib.hid (Rd.own ho); have Hb2 := Lib.hid (Hb1.out.trans (hb2.mono Hb1.out.size)); have Hc2 := Lib.hid hc2; clear ho hb2 hc2
  go_wp2
  go_ret
  exact ⟨_, _, rfl, Hc2.out, Ho.out, Hb2.out⟩
end Go.Proofs.YtfiojofcafjfeaaGreat
namespace Go.Proofs.YtfiojofcafjfeaaGreat
open Go.RowKit

/-- A run: its input, its parameters and momenta, the steps that are done. -/
def RunAt (w : World) (b : Nat) (i : Inp) (P M : List Int) (k : Nat) : Prop := ∃ V F E ce S Ap cp Am cm,
  w.heap[b]? = some (.cells #[.pointer (some ⟨F, 0, none⟩), .slice E i.data.length ce, .pointer (some ⟨S, 0, none⟩), .int .i64 i.cfg.rate, .int .i64 i.cfg.mom, .int .i64 i.cfg.shift, .slice Ap (cnt i) cp, .slice Am (cnt i) cm, .int .i64 k] 109 (0, 0)) ∧
  ShapeAt 138 V F i.cfg.sizes ∧ SlRd rEx 2 V E i.data ∧ SampAt V S i.data.length i.cfg.batch.toNat i.cfg.steps.toNat i.draws ∧ V.heap.size ≤ b ∧ Below V.heap.size V w ∧
  Rd w Ap (nums .i64 P) ∧ Rd w Am (nums .i64 M) ∧ P.length = cnt i ∧ M.length = cnt i ∧ W64 P ∧ W64 M ∧ (∀ a, Ap = some a → a.block ≠ b) ∧ (∀ a, Am = some a → a.block ≠ b) ∧ w.ownsRow 0 2 1 (.slice Ap (cnt i) cp) (cnt i) (nums .i64 P) ∧ w.ownsRow 0 2 1 (.slice Am (cnt i) cm) (cnt i) (nums .i64 M)
theorem RunAt.below {w w' : World} {b k : Nat} {i : Inp} {P M : List Int} (h : RunAt w b i P M k) (hb : Below w.heap.size w w') : RunAt w' b i P M k := by
  obtain ⟨V, F, E, ce, S, Ap, cp, Am, cm, h0, h1, h2, h3, h4, h5, h6, h7, h8, h9, h10, h11, h12, h13, h14, h15⟩ := h
  exact ⟨V, F, E, ce, S, Ap, cp, Am, cm, (hb.block b (lt_of_block h0)).trans h0, h1, h2, h3, h4, h5.trans (hb.mono h5.size), h6.below hb, h7.below hb, h8, h9, h10, h11, h12, h13, own_below h14 hb, own_below h15 hb⟩
/-- A run stays where a row of another type grows. -/
theorem RunAt.grown {w w' : World} {b k base n : Nat} {i : Inp} {P M : List Int} {e : TypeId} {v : Value} {xs : List Value} (h : RunAt w b i P M k) (hv : w.ownsRow base e 2 v n xs) (hb : Below base w w') (hg : w.grownBy w' v.ownBlock) (hbb : b < base) (he : e ≠ 2) : RunAt w' b i P M k := by
  obtain ⟨V, F, E, ce, S, Ap, cp, Am, cm, h0, h1, h2, h3, h4, h5, h6, h7, h8, h9, h10, h11, h12, h13, h14, h15⟩ := h
  have k1 := own_pushed h14 hv hg he
  have k2 := own_pushed h15 hv hg he
  exact ⟨V, F, E, ce, S, Ap, cp, Am, cm, (hb.block b hbb).trans h0, h1, h2, h3, h4, h5.trans (hb.mono (by omega)), Rd.own k1, Rd.own k2, h8, h9, h10, h11, h12, h13, k1, k2⟩
theorem RunAt.lt {w : World} {b k : Nat} {i : Inp} {P M : List Int} (h : RunAt w b i P M k) : b < w.heap.size := by
  obtain ⟨V, F, E, ce, S, Ap, cp, Am, cm, h0, _⟩ := h
  exact lt_of_block h0
theorem cnt_pos {i : Inp} (h : GoodSz i.cfg.sizes) : 1 ≤ cnt i := by
  unfold cnt
  have h1 := h.1.1
  have := cntN_mono i.cfg.sizes (show 1 ≤ i.cfg.sizes.length - 1 by omega)
  have h2 : cntN i.cfg.sizes 1 = 0 + (szN i.cfg.sizes 0 + 1) * szN i.cfg.sizes 1 := rfl
  have h3 := (h.1.at (k := 1) (by omega)).1
  have h4 : 1 * 1 ≤ (szN i.cfg.sizes 0 + 1) * szN i.cfg.sizes 1 := Nat.mul_le_mul (by omega) h3
  omega
theorem rd_lt {w : World} {A : Option Addr} {l : List Int} (h : Rd w A (nums .i64 l)) (hl : 0 < l.length) : ∀ a, A = some a → a.block < w.heap.size := fun a ha => by
  obtain ⟨b, o, e, p⟩ := h.num hl
  rw [ha] at e
  injection e with e
  subst e
  exact lt_of_cell p

theorem steps_nil (w : World) : Calls Tryz.prog 26 #[.pointer none] w fun e w' => e = .returned (.int .i64 0) ∧ w = w' := by
  go_enter Tryz.func26, Tryz.ntmps26
  go_wp2
  go_ret
  exact ⟨rfl, rfl⟩
theorem steps_any (b k : Nat) (i : Inp) (P M : List Int) (w : World) (h : RunAt w b i P M k) : Calls Tryz.prog 26 #[.pointer (some ⟨b, 0, none⟩)] w fun e w' => e = .returned (.int .i64 k) ∧ w = w' := by
  obtain ⟨V, F, E, ce, S, Ap, cp, Am, cm, h0, h1, h2, h3, h4, h5, h6⟩ := h
  have r0 := cell_of_row w _ 0 _ _ _ h0
  have r1 := cell_of_row w _ 1 _ _ _ h0
  have r2 := cell_of_row w _ 2 _ _ _ h0
  have r3 := cell_of_row w _ 3 _ _ _ h0
  have r4 := cell_of_row w _ 4 _ _ _ h0
  have r5 := cell_of_row w _ 5 _ _ _ h0
  have r6 := cell_of_row w _ 6 _ _ _ h0
  have r7 := cell_of_row w _ 7 _ _ _ h0
  have r8 := cell_of_row w _ 8 _ _ _ h0
  have rf := fun j => frozen_of_row w _ j _ _ h0
  clear h0 h1 h2 h3 h4 h5 h6
  go_enter Tryz.func26, Tryz.ntmps26
  go_wp2
  go_ret
  exact ⟨rfl, rfl⟩

/-- A state that is handed out. -/
def StateIs (n : Nat) (P M : List Int) (w : World) (e : Ending) (w' : World) : Prop := ∃ A1 c1 A2 c2, e = .returned (.agg #[.slice A1 n c1, .slice A2 n c2]) ∧ n ≤ c1 ∧ n ≤ c2 ∧ w'.ownsRow w.heap.size 2 1 (.slice A1 n c1) n (nums .i64 P) ∧ w'.ownsRow w.heap.size 2 1 (.slice A2 n c2) n (nums .i64 M) ∧
  (∀ j, (Value.slice A1 n c1).ownBlock = some j → (Value.slice A2 n c2).ownBlock ≠ some j) ∧ Below w.heap.size w w'
set_option maxRecDepth 100000 in
theorem state_any (b k : Nat) (i : Inp) (P M : List Int) (w : World) (h : RunAt w b i P M k) (hc : cnt i ≤ 1048576) : Calls Tryz.prog 29 #[.pointer (some ⟨b, 0, none⟩)] w (StateIs (cnt i) P M w) := by
  obtain ⟨V, F, E, ce, S, Ap, cp, Am, cm, h0, h1, h2, h3, h4, h5, h6, h7, h8, h9, h10, h11, h12, h13⟩ := h
  have hcl := fun w' (q : Below w.heap.size w w') => stclone_any Ap Am (cnt i) cp cm P M w' (h6.below q) (h7.below q) h8 h9 hc
  unfold StateIs
  obtain ⟨n, hn⟩ : ∃ n, cnt i = n := ⟨_, rfl⟩
  rw [hn] at h0 hcl hc ⊢
  have r0 := cell_of_row w _ 0 _ _ _ h0
  have r1 := cell_of_row w _ 1 _ _ _ h0
  have r2 := cell_of_row w _ 2 _ _ _ h0
  have r3 := cell_of_row w _ 3 _ _ _ h0
  have r4 := cell_of_row w _ 4 _ _ _ h0
  have r5 := cell_of_row w _ 5 _ _ _ h0
  have r6 := cell_of_row w _ 6 _ _ _ h0
  have r7 := cell_of_row w _ 7 _ _ _ h0
  have r8 := cell_of_row w _ 8 _ _ _ h0
  have rf := fun j => frozen_of_row w _ j _ _ h0
  have hl := lt_of_block h0
  have Hcl := Lib.hid hcl
  clear h0 h1 h2 h3 h4 h5 h6 h7 h8 h9 h10 h11 h12 h13 hn hcl
  go_enter Tryz.func29, Tryz.ntmps29
  go_wp2_with fail
  refine (Hcl.out _ ?_).mono ?_
  · (focus (repeat' (first | (with_reducible exact Below.refl _ _) | (with_reducible assumption) | (with_reducible refine Below.setCell ?_ ?_ _) | (with_reducible refine Below.alloc ?_ ?_ _) | (with_reducible refine below_drewN ?_ _) | (with_reducible refine Below.drew ?_) | (with_reducible exact Nat.le_refl _) | omega | (simp; done) | (simp; omega))))
  rintro e w1 ⟨A1, c1, A2, c2, rfl, hc1, hc2, ho1, ho2, hdis, hb1⟩
  have hz : w1.heap[w.heap.size]? = some (.cells #[.slice none 0 0, .slice none 0 0] 71 (0, 0)) := (hb1.block w.heap.size (by simp)).trans (heap_alloc_new w _)
  have hB1 : Below w.heap.size w w1 := ((Below.refl _ w).alloc (Nat.le_refl _) _).trans (hb1.mono (by simp))
  have lz := lt_of_block hz
  have z0 := cell_of_row w1 _ 0 _ _ _ hz
  have z1 := cell_of_row w1 _ 1 _ _ _ hz
  have zf := fun j => frozen_of_row w1 _ j _ _ hz
  have Hz := Lib.hid hz; have HB1 := Lib.hid hB1; have Hc1 := Lib.hid hc1; have Hc2 := Lib.hid hc2; have Ho1 := Lib.hid (own_base (base' := w.heap.size) ho1 (by simp)); have Ho2 := Lib.hid (own_base (base' := w.heap.size) ho2 (by simp)); have Hdis := Lib.hid hdis
  clear hz hB1 hb1 hc1 hc2 ho1 ho2 hdis r0 r1 r2 r3 r4 r5 r6 r7 r8 rf
  go_wp2_with fail
  have e1 := heap_setCell_same w1 w.heap.size 0 _ _ (.slice A1 n c1) Hz.out
  have e2 := heap_setCell_same _ w.heap.size 1 _ _ (.slice A2 n c2) e1
  have e3 : ((w1.setCell ⟨w.heap.size, 0, none⟩ (.slice A1 n c1)).setCell ⟨w.heap.size, 1, none⟩ (.slice A2 n c2)).heap[w.heap.size]? = some (.cells #[.slice A1 n c1, .slice A2 n c2] 71 (0, 0)) := by simpa using e2
  have hk : Keep (fun j => j = w.heap.size) w1 ((w1.setCell ⟨w.heap.size, 0, none⟩ (.slice A1 n c1)).setCell ⟨w.heap.size, 1, none⟩ (.slice A2 n c2)) := Keep.setCell (S := fun j => j = w.heap.size) (Keep.setCell (S := fun j => j = w.heap.size) (Keep.refl _ _) ⟨w.heap.size, 0, none⟩ (.inr rfl) _) ⟨w.heap.size, 1, none⟩ (.inr rfl) _
  obtain ⟨W9, hW9⟩ : ∃ W9, W9 = (w1.setCell ⟨w.heap.size, 0, none⟩ (.slice A1 n c1)).setCell ⟨w.heap.size, 1, none⟩ (.slice A2 n c2) := ⟨_, rfl⟩
  rw [← hW9] at e3 hk ⊢
  have x0 := cell_of_row W9 _ 0 _ _ _ e3
  have x1 := cell_of_row W9 _ 1 _ _ _ e3
  have xf := fun j => frozen_of_row W9 _ j _ _ e3
  have hp9 := hk.own Ho1.out (fun j hj e => block_notrow Hz.out (by decide) Ho1.out (by rw [hj, e]))
  have hm9 := hk.own Ho2.out (fun j hj e => block_notrow Hz.out (by decide) Ho2.out (by rw [hj, e]))
  exact bodyPost_ret (v := .agg #[.slice A1 n c1, .slice A2 n c2]) (by simp [results, Tryz.results29, go_sem, x0, x1]) rfl ⟨A1, c1, A2, c2, rfl, Hc1.out, Hc2.out, hp9, hm9, Hdis.out, HB1.out.trans (hk.toBelow HB1.out.size (fun j hj => by omega))⟩
set_option maxRecDepth 100000 in
theorem state_nil (w : World) : Calls Tryz.prog 29 #[.pointer none] w fun e w' => e = .returned (.agg #[.slice none 0 0, .slice none 0 0]) ∧ Below w.heap.size w w' := by
  go_enter Tryz.func29, Tryz.ntmps29
  go_wp2_with fail
  have e3 := heap_alloc_new w (.cells #[.slice none 0 0, .slice none 0 0] 71)
  obtain ⟨W9, hW9⟩ : ∃ W9, W9 = w.alloc (.cells #[.slice none 0 0, .slice none 0 0] 71) := ⟨_, rfl⟩
  have hb : Below w.heap.size w W9 := by rw [hW9]; exact (Below.refl _ _).alloc (Nat.le_refl _) _
  rw [← hW9] at e3 ⊢
  have x0 := cell_of_row W9 _ 0 _ _ _ e3
  have x1 := cell_of_row W9 _ 1 _ _ _ e3
  have xf := fun j => frozen_of_row W9 _ j _ _ e3
  exact bodyPost_ret (v := .agg #[.slice none 0 0, .slice none 0 0]) (by simp [results, Tryz.results29, go_sem, x0, x1]) rfl ⟨rfl, hb⟩

set_option maxRecDepth 100000 in
theorem sernew_bad (A : Option Addr) (c : Nat) (D : Option Addr) (cd : Nat) (T : Option Addr) (ct : Nat) (R : Option Addr) (cr : Nat) (i : Inp) (w : World) (h : InpRd w A c D T ct R i) (hbad : inCode i ≠ 0) :
    Calls Tryz.prog 16 #[.agg (inpVals A c D cd T ct R cr i)] w fun e w' => e = .returned (.tuple #[.pointer none, .int .i64 (inCode i)]) ∧ Below w.heap.size w w' := by
  have hin := fun w' (q : Below w.heap.size w w') => input_any A c D cd T ct R cr i w' (h.below q)
  obtain ⟨code, hcode⟩ : ∃ code, inCode i = code := ⟨_, rfl⟩
  rw [hcode] at hin hbad ⊢
  clear hcode h
  obtain ⟨⟨sz, sh, ra, mo, wk, ba, mi, st, bu, ch, wi, ca⟩, data, start, draws⟩ := i
  dsimp only [inpVals] at *
  obtain ⟨L, hL⟩ : ∃ L, sz.length = L := ⟨_, rfl⟩
  obtain ⟨N, hN⟩ : ∃ N, data.length = N := ⟨_, rfl⟩
  obtain ⟨M, hM⟩ : ∃ M, start.length = M := ⟨_, rfl⟩
  obtain ⟨Q, hQ⟩ : ∃ Q, draws.length = Q := ⟨_, rfl⟩
  rw [hL, hN, hM, hQ] at hin ⊢
  have hq : (code != 0) = true := by rw [bne_iff_ne]; exact hbad
  have Hin := Lib.hid hin
  clear hin hL hN hM hQ hbad
  go_enter Tryz.func16, Tryz.ntmps16
  go_wp2_with fail
  refine (Hin.out _ ?_).mono ?_
  · (focus (repeat' (first | (with_reducible exact Below.refl _ _) | (with_reducible assumption) | (with_reducible refine Below.setCell ?_ ?_ _) | (with_reducible refine Below.alloc ?_ ?_ _) | (with_reducible refine below_drewN ?_ _) | (with_reducible refine Below.drew ?_) | (with_reducible exact Nat.le_refl _) | omega | (simp; done) | (simp; omega))))
  rintro e w1 ⟨rfl, hb1⟩
  have HB := Lib.hid (((Below.refl _ w).alloc (Nat.le_refl _) _).trans (hb1.mono (by simp)))
  clear hb1
  go_wp2_with fail
  go_ret2
  exact ⟨rfl, HB.out⟩
end Go.Proofs.YtfiojofcafjfeaaGreat
