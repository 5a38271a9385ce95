/- serial.Train. The reference's Train. No condition. -/
import Derived.Test.YtfiojofcafjfeaaGreatJ41
import Derived.Test.YtfiojofcafjfeaaGreatJ34
import Derived.Test.YtfiojofcafjfeaaGreatJ37
import Derived.Test.YtfiojofcafjfeaaGreatJ38
import Derived.Test.YtfiojofcafjfeaaGreatJ39
import Derived.Test.YtfiojofcafjfeaaGreatJ40
set_option linter.unusedSimpArgs false
set_option linter.unusedVariables false
namespace Go.Proofs.YtfiojofcafjfeaaGreat
open Go.RowKit

theorem et_sts : ElemT Tryz.prog 32 71 (.agg #[.slice none 0 0, .slice none 0 0]) 2 48 := ⟨Tryz.underlying32, info_parts (by kernel_rfl), rfl, by decide⟩
/-- The first n states. -/
def trajL (i : Inp) (n : Nat) : List Ex := (List.range n).map (traj i)
theorem trajL_len (i : Inp) (n : Nat) : (trajL i n).length = n := by simp [trajL]
theorem trajL_at (i : Inp) {n j : Nat} (h : j < n) : (trajL i n)[j]? = some (traj i j) := by simp [trajL, h]
theorem traj_len (i : Inp) (h : i.start.length = cnt i) : ∀ k, (traj i k).1.length = cnt i ∧ (traj i k).2.length = cnt i := by
  intro k
  induction k with
  | zero => exact ⟨h, by simp [traj]⟩
  | succ k ih => exact ⟨by rw [traj]; dsimp only; rw [nextP_len]; exact ih.1, by rw [traj]; dsimp only; rw [nextM_len]; exact ih.2⟩

/-- A list of states in rows behind base. -/
def MapS (base : Nat) (w : World) (i : Inp) (n : Nat) (v : Value) : Prop := ∃ rows, w.ownsRow base 71 2 v n (List.flatten rows) ∧ rows.length = n ∧ (∀ r ∈ rows, r.length = 2) ∧ (∀ j, j < n → ExOwn w base (rowOf rows j) (traj i j))
theorem MapS.form {base : Nat} {w : World} {i : Inp} {n : Nat} {v : Value} (h : MapS base w i n v) : ∃ A c, v = .slice A n c ∧ n ≤ c := by
  obtain ⟨rows, h1, _⟩ := h
  exact own_form h1
theorem MapS.keep {base : Nat} {w w' : World} {i : Inp} {n : Nat} {v : Value} (h : MapS base w i n v) {S : Nat → Prop} (k : Keep S w w') (hS : ∀ j, S j → j < base) : MapS base w' i n v := by
  obtain ⟨rows, h1, h2, h3, h4⟩ := h
  exact ⟨rows, k.own h1 (fun j hj hs => by have := hS j hs; have := (h1.lt j hj).1; omega), h2, h3, fun j hj => (h4 j hj).keep k hS⟩
theorem MapS.below {base : Nat} {w w' : World} {i : Inp} {n : Nat} {v : Value} (h : MapS base w i n v) (hb : Below w.heap.size w w') : MapS base w' i n v := h.keep (S := fun _ => False) (Keep.below hb) (fun _ h => h.elim)
theorem MapS.rd {base : Nat} {w : World} {i : Inp} {A : Option Addr} {n c : Nat} (h : MapS base w i n (.slice A n c)) : SlRd rEx 2 w A (trajL i n) := by
  obtain ⟨rows, h1, h2, h3, h4⟩ := h
  exact ⟨rows, Rd.own h1, by rw [trajL_len]; exact h2, h3, fun j x hx => by
    have hj : j < n := by have := (List.getElem?_eq_some_iff.1 hx).1; rwa [trajL_len] at this
    rw [trajL_at i hj] at hx
    injection hx with hx
    rw [← hx]
    exact (h4 j hj).rd⟩
theorem MapS.push {base : Nat} {W3 w6 : World} {i : Inp} {k : Nat} {v v' u1 u2 : Value} {rows : List (List Value)} (h1 : W3.ownsRow base 71 2 v k (List.flatten rows)) (h2 : rows.length = k) (h3 : ∀ r ∈ rows, r.length = 2) (h4 : ∀ j, j < k → ExOwn W3 base (rowOf rows j) (traj i j))
    (hu : ExOwn W3 base [u1, u2] (traj i k)) (ho : w6.ownsRow base 71 2 v' (k + 1) (List.flatten rows ++ [u1, u2])) (hg : W3.grownBy w6 v.ownBlock) : MapS base w6 i (k + 1) v' := by
  refine ⟨rows ++ [[u1, u2]], by rw [List.flatten_append, List.flatten_cons, List.flatten_nil, List.append_nil]; exact ho, by simp [h2], ?_, ?_⟩
  · intro r hr
    rcases List.mem_append.1 hr with hr | hr
    · exact h3 r hr
    · rw [List.mem_singleton.1 hr]; rfl
  · intro j hj
    rcases Nat.lt_or_ge j k with h | h
    · have e : rowOf (rows ++ [[u1, u2]]) j = rowOf rows j := by simp [rowOf, List.getElem?_append_left (show j < rows.length by omega)]
      rw [e]; exact (h4 j h).pushed h1 hg (by decide)
    · obtain rfl : j = k := by omega
      have e : rowOf (rows ++ [[u1, u2]]) j = [u1, u2] := by rw [← h2]; simp [rowOf]
      rw [e]; exact hu.pushed h1 hg (by decide)
theorem MapS.one {base : Nat} {w : World} {i : Inp} {u1 u2 : Value} (hb : base ≤ w.heap.size) (hu : ExOwn w base [u1, u2] (traj i 0)) : MapS base (w.alloc (.cells #[u1, u2] 71)) i 1 (.slice (some ⟨w.heap.size, 0, none⟩) 1 1) := by
  refine ⟨[[u1, u2]], ⟨by simp, .inr ⟨w.heap.size, 1, #[u1, u2], rfl, hb, heap_alloc_new w _, Nat.le_refl _, by unfold maxLen; omega, by simp, by simp⟩⟩, rfl, by simp, fun j hj => ?_⟩
  obtain rfl : j = 0 := by omega
  exact hu.below ((Below.refl _ _).alloc (Nat.le_refl _) _)
theorem state_ex {n base : Nat} {w w' : World} {x : Ex} {A1 A2 : Option Addr} {c1 c2 : Nat} (h1 : w'.ownsRow w.heap.size 2 1 (.slice A1 n c1) n (nums .i64 x.1)) (h2 : w'.ownsRow w.heap.size 2 1 (.slice A2 n c2) n (nums .i64 x.2)) (hb : base ≤ w.heap.size) (l1 : x.1.length = n) (l2 : x.2.length = n) (hn : n ≤ 1048576) (w1 : W64 x.1) (w2 : W64 x.2) : ExOwn w' base [.slice A1 n c1, .slice A2 n c2] x :=
  ⟨_, _, rfl, by rw [l1]; exact own_base h1 hb, by rw [l2]; exact own_base h2 hb, by omega, by omega, w1, w2⟩

def lenOf : Value → Nat
  | .slice _ n _ => n
  | _ => 0
def TrainOk (i : Inp) (s : Nat) (w : World) (e : Ending) (w' : World) : Prop := Below w.heap.size w w' ∧ ∃ A c, e = .returned (.tuple #[.slice A (s + 1) c, .int .i64 0]) ∧ s + 1 ≤ c ∧ SlRd rEx 2 w' A (trajL i (s + 1))
/-- What Train answers. -/
def TrainIs (i : Inp) (w : World) (e : Ending) (w' : World) : Prop := Below w.heap.size w w' ∧
  ((GoodIn i ∧ ∃ A c, e = .returned (.tuple #[.slice A (i.cfg.steps.toNat + 1) c, .int .i64 0]) ∧ i.cfg.steps.toNat + 1 ≤ c ∧ SlRd rEx 2 w' A (trajL i (i.cfg.steps.toNat + 1))) ∨ (¬ GoodIn i ∧ e = .returned (.tuple #[.slice none 0 0, .int .i64 (inCode i)])))

set_option maxRecDepth 100000 in
set_option maxHeartbeats 4000000 in
theorem train_good (A : Option Addr) (c : Nat) (D : Option Addr) (cd : Nat) (T : Option Addr) (ct : Nat) (R : Option Addr) (cr : Nat) (i : Inp) (w : World) (h : InpRd w A c D T ct R i) (hg : GoodIn i) :
    Calls Tryz.prog 11 #[.agg (inpVals A c D cd T ct R cr i)] w (TrainOk i i.cfg.steps.toNat w) := by
  have hnw := fun w' (q : Below w.heap.size w w') => sernew_good A c D cd T ct R cr i w' (h.below q) hg
  have hcb : cnt i ≤ 1048576 := hg.c.z.bound (k := i.cfg.sizes.length - 1) (by have := hg.c.z.1.1; omega)
  have hsta := fun b k w' (hr : RunAt w' b i (traj i k).1 (traj i k).2 k) => state_any b k i _ _ w' hr hcb
  have hstp := fun b k w' (hr : RunAt w' b i (traj i k).1 (traj i k).2 k) (hk : k < i.cfg.steps.toNat) => step_any b k i _ _ w' hr hg hk h.ra h.rm
  have hste := fun b k w' (hr : RunAt w' b i (traj i k).1 (traj i k).2 k) (hk : i.cfg.steps.toNat ≤ k) => step_end b k i _ _ w' hr hk
  have hst := hg.c.st
  have htl := traj_len i hg.s
  have htw : ∀ b k w', RunAt w' b i (traj i k).1 (traj i k).2 k → W64 (traj i k).1 ∧ W64 (traj i k).2 := fun b k w' hr => by
    obtain ⟨V, F, E, ce, S, Ap, cp, Am, cm, _, _, _, _, _, _, _, _, _, _, wP, wM, _⟩ := hr
    exact ⟨wP, wM⟩
  obtain ⟨s, hs⟩ : ∃ s, i.cfg.steps.toNat = s := ⟨_, rfl⟩
  have hsb : s ≤ 1048576 := by omega
  unfold StateIs at hsta
  rw [hs] at hstp hste ⊢
  obtain ⟨n, hn⟩ : ∃ n, cnt i = n := ⟨_, rfl⟩
  rw [hn] at hsta hcb htl
  obtain ⟨vs, hvs⟩ : ∃ vs, inpVals A c D cd T ct R cr i = vs := ⟨_, rfl⟩
  have hvl : ∃ a0 a1 a2 a3 a4 a5 a6 a7 a8 a9 a10 a11 a12 a13 a14, vs = #[a0, a1, a2, a3, a4, a5, a6, a7, a8, a9, a10, a11, a12, a13, a14] := ⟨_, _, _, _, _, _, _, _, _, _, _, _, _, _, _, hvs.symm⟩
  rw [hvs] at hnw ⊢
  obtain ⟨a0, a1, a2, a3, a4, a5, a6, a7, a8, a9, a10, a11, a12, a13, a14, rfl⟩ := hvl
  have Hnw := Lib.hid hnw; have Hsta := Lib.hid hsta; have Hstp := Lib.hid hstp; have Hste := Lib.hid hste; have Htl := Lib.hid htl; have Htw := Lib.hid htw
  clear hnw hsta hstp hste hst htl htw hs hn hvs h hg
  go_enter Tryz.func11, Tryz.ntmps11
  go_wp2_with fail
  have hB0 : Below w.heap.size w (w.alloc (.cells #[a0, a1, a2, a3, a4, a5, a6, a7, a8, a9, a10, a11, a12, a13, a14] 29)) := (Below.refl _ w).alloc (Nat.le_refl _) _
  refine (Hnw.out _ hB0).mono ?_
  rintro e w1 ⟨b, rfl, hr, hbz, hb1⟩
  have hrt : RunAt w1 b i (traj i 0).1 (traj i 0).2 0 := hr
  have hbl := hr.lt
  have hst := Hsta.out b 0 w1 hrt
  have HB := Lib.hid (hB0.trans (hb1.mono hB0.size)); have Hr := Lib.hid hrt; have Hst := Lib.hid hst
  have hbw : w.heap.size ≤ b := by have := hbz; simp at this; omega
  clear hB0 hb1 hr hrt hst hbz
  go_wp2_with fail
  refine Hst.out.mono ?_
  rintro e w2 ⟨A1, c1, A2, c2, rfl, _, _, ho1, ho2, _, hb2⟩
  have hex := state_ex (base := w1.heap.size) (x := traj i 0) ho1 ho2 (Nat.le_refl _) (Htl.out 0).1 (Htl.out 0).2 hcb (Htw.out b 0 w1 Hr.out).1 (Htw.out b 0 w1 Hr.out).2
  have hm1 := MapS.one hb2.size hex
  have hba : Below w1.heap.size w1 (w2.alloc (.cells #[.slice A1 n c1, .slice A2 n c2] 71)) := hb2.alloc hb2.size _
  have hr1 := Hr.out.below hba
  have hBa := HB.out.trans (hba.mono HB.out.size)
  have HM1 := Lib.hid hm1; have HR1 := Lib.hid hr1; have HBa := Lib.hid hBa
  have HZ1 := Lib.hid hba.size
  clear ho1 ho2 hb2 hex hm1 hba hr1 hBa
  go_wp2_with fail
  go_loopw [6] (fun v wr => ∃ k Ao co, k ≤ s ∧ v = .slice Ao (k + 1) co ∧ RunAt wr b i (traj i k).1 (traj i k).2 k ∧ MapS w1.heap.size wr i (k + 1) (.slice Ao (k + 1) co) ∧ Below w.heap.size w wr ∧ w1.heap.size ≤ wr.heap.size) (fun v _ => s - (lenOf v - 1))
  case atStart => exact ⟨0, _, 1, Nat.zero_le _, rfl, HR1.out, HM1.out, HBa.out, HZ1.out⟩
  case round =>
    obtain ⟨k, Ao, co, hk, rfl, hR, hM, hBw, hzr⟩ := hrel
    by_cases hlt : k < s
    · have hsp := Hstp.out b k wr hR hlt
      have Hsp := Lib.hid hsp; have HM := Lib.hid hM; have HBw := Lib.hid hBw
      clear hsp hM hBw hR
      go_wp2_with fail
      refine Hsp.out.mono ?_
      rintro e w5 ⟨rfl, hR5, hK5⟩
      have hR5' : RunAt w5 b i (traj i (k + 1)).1 (traj i (k + 1)).2 (k + 1) := hR5
      have hM5 := HM.out.keep hK5 (fun j hj => by omega)
      have hB5 : Below w.heap.size w w5 := HBw.out.trans (hK5.toBelow HBw.out.size (fun j hj => by omega))
      have hs5 := hK5.size
      have hst := Hsta.out b (k + 1) w5 hR5'
      have HR5 := Lib.hid hR5'; have HM5 := Lib.hid hM5; have HB5 := Lib.hid hB5; have Hst5 := Lib.hid hst
      clear hR5 hR5' hM5 hB5 hst hK5
      go_wp2_with fail
      refine Hst5.out.mono ?_
      rintro e w6 ⟨A3, c3, A4, c4, rfl, _, _, ho1, ho2, _, hb6⟩
      have hs1 : w1.heap.size ≤ w5.heap.size := Nat.le_trans hzr hs5
      have hex := state_ex (base := w1.heap.size) (x := traj i (k + 1)) ho1 ho2 hs1 (Htl.out (k + 1)).1 (Htl.out (k + 1)).2 hcb (Htw.out b (k + 1) w5 HR5.out).1 (Htw.out b (k + 1) w5 HR5.out).2
      have hM6 := HM5.out.below hb6
      have hR6 := HR5.out.below hb6
      have hB6 := HB5.out.trans (hb6.mono HB5.out.size)
      have hs6 : w1.heap.size ≤ w6.heap.size := Nat.le_trans hs1 hb6.size
      obtain ⟨rows, m1, m2, m3, m4⟩ := hM6
      have R1 := Lib.hid m1; have R2 := Lib.hid m2; have R3 := Lib.hid m3; have R4 := Lib.hid m4; have HEx := Lib.hid hex; have HR6 := Lib.hid hR6; have HB6 := Lib.hid hB6
      clear ho1 ho2 hb6 hex hR6 hB6 m1 m2 m3 m4 hs1
      go_wp2_with (at_builtin; refine wpList_push et_sts _ rfl (.tmp 20) (.tmp 23) rfl w1.heap.size (.slice Ao (k + 1) co) (k + 1) _ rfl R1.out [.slice A3 n c3, .slice A4 n c4] rfl rfl (by simp [Value.oneCell']) (by omega) (by unfold maxLen; omega) hs6 ?_)
      intro g9 c9 w9 ho9 hb9 hg9
      have hM9 := MapS.push R1.out R2.out R3.out R4.out HEx.out ho9 hg9
      have hR9 : RunAt w9 b i (traj i (k + 1)).1 (traj i (k + 1)).2 (k + 1) := HR6.out.grown R1.out hb9 hg9 hbl (by decide)
      have hB9 : Below w.heap.size w w9 := HB6.out.trans (hb9.mono (by have := HB.out.size; omega))
      have HM9 := Lib.hid hM9; have HR9 := Lib.hid hR9; have HB9 := Lib.hid hB9
      have hs9 : w1.heap.size ≤ w9.heap.size := Nat.le_trans hs6 hb9.size
      clear ho9 hb9 hg9 hM9 hR9 hB9
      go_wp2_with fail
      go_roundw
      case rel => exact ⟨k + 1, _, c9, by omega, rfl, HR9.out, HM9.out, HB9.out, hs9⟩
      case measure => simp [lenOf]; omega
    · obtain rfl : s = k := by omega
      have hse := Hste.out b s wr hR (Nat.le_refl _)
      have Hse := Lib.hid hse; have HM := Lib.hid hM; have HBw := Lib.hid hBw
      clear hse hM hBw hR
      go_wp2_with fail
      refine Hse.out.mono ?_
      rintro e w5 ⟨rfl, d5, rfl⟩
      have hMd : SlRd rEx 2 (wr.drewN d5) Ao (trajL i (s + 1)) := HM.out.rd.below stays_ex (below_drewN (Below.refl _ _) _)
      have hcap : s + 1 ≤ co := by
        obtain ⟨_, c9, hfm, hcap⟩ := HM.out.form
        injection hfm with _ _ e3
        omega
      have HMd := Lib.hid hMd; have Hcap := Lib.hid hcap; have HB9 := Lib.hid (below_drewN HBw.out d5)
      clear hMd hcap
      go_wp2_with fail
      go_ret2
      exact ⟨HB9.out, Ao, co, rfl, Hcap.out, HMd.out⟩

set_option maxRecDepth 100000 in
theorem train_bad (A : Option Addr) (c : Nat) (D : Option Addr) (cd : Nat) (T : Option Addr) (ct : Nat) (R : Option Addr) (cr : Nat) (i : Inp) (w : World) (h : InpRd w A c D T ct R i) (hbad : inCode i ≠ 0) :
    Calls Tryz.prog 11 #[.agg (inpVals A c D cd T ct R cr i)] w fun e w' => e = .returned (.tuple #[.slice none 0 0, .int .i64 (inCode i)]) ∧ Below w.heap.size w w' := by
  have hnw := fun w' (q : Below w.heap.size w w') => sernew_bad A c D cd T ct R cr i w' (h.below q) hbad
  obtain ⟨code, hcode⟩ : ∃ code, inCode i = code := ⟨_, rfl⟩
  rw [hcode] at hnw hbad ⊢
  obtain ⟨vs, hvs⟩ : ∃ vs, inpVals A c D cd T ct R cr i = vs := ⟨_, rfl⟩
  have hvl : ∃ a0 a1 a2 a3 a4 a5 a6 a7 a8 a9 a10 a11 a12 a13 a14, vs = #[a0, a1, a2, a3, a4, a5, a6, a7, a8, a9, a10, a11, a12, a13, a14] := ⟨_, _, _, _, _, _, _, _, _, _, _, _, _, _, _, hvs.symm⟩
  rw [hvs] at hnw ⊢
  obtain ⟨a0, a1, a2, a3, a4, a5, a6, a7, a8, a9, a10, a11, a12, a13, a14, rfl⟩ := hvl
  have hq : (code != 0) = true := by rw [bne_iff_ne]; exact hbad
  have Hnw := Lib.hid hnw
  clear hnw hcode hvs h hbad
  go_enter Tryz.func11, Tryz.ntmps11
  go_wp2_with fail
  refine (Hnw.out _ ?_).mono ?_
  · (focus (repeat' (first | (with_reducible exact Below.refl _ _) | (with_reducible assumption) | (with_reducible refine Below.setCell ?_ ?_ _) | (with_reducible refine Below.alloc ?_ ?_ _) | (with_reducible refine below_drewN ?_ _) | (with_reducible refine Below.drew ?_) | (with_reducible exact Nat.le_refl _) | omega | (simp; done) | (simp; omega))))
  rintro e w1 ⟨rfl, hb1⟩
  have HB := Lib.hid (((Below.refl _ w).alloc (Nat.le_refl _) _).trans (hb1.mono (by simp)))
  clear hb1
  go_wp2_with fail
  go_ret2
  exact ⟨rfl, HB.out⟩
theorem train_any (A : Option Addr) (c : Nat) (D : Option Addr) (cd : Nat) (T : Option Addr) (ct : Nat) (R : Option Addr) (cr : Nat) (i : Inp) (w : World) (h : InpRd w A c D T ct R i) :
    Calls Tryz.prog 11 #[.agg (inpVals A c D cd T ct R cr i)] w (TrainIs i w) := by
  by_cases hg : GoodIn i
  · exact (train_good A c D cd T ct R cr i w h hg).mono fun e w' ⟨h1, h2⟩ => ⟨h1, .inl ⟨hg, h2⟩⟩
  · exact (train_bad A c D cd T ct R cr i w h (fun e => hg (in_good.1 e))).mono fun e w' ⟨h1, h2⟩ => ⟨h2, .inr ⟨hg, h1⟩⟩
end Go.Proofs.YtfiojofcafjfeaaGreat
namespace Go.Proofs.YtfiojofcafjfeaaGreat
open Go.RowKit

theorem et_rsts : ElemT Tryz.prog 36 68 (.agg #[.slice none 0 0, .slice none 0 0]) 2 48 := ⟨Tryz.underlying36, info_parts (by kernel_rfl), rfl, by decide⟩
/-- Numbers that lay there before, or a row of the call's own. -/
def RdOr (Z : Option Addr) (w0 w : World) (u : Value) (zs : List Int) : Prop := (∃ c, u = .slice Z zs.length c ∧ zs.length ≤ c ∧ Rd w0 Z (nums .i64 zs) ∧ Rd w Z (nums .i64 zs)) ∨ w.ownsRow w0.heap.size 2 1 u zs.length (nums .i64 zs)
theorem RdOr.below {Z : Option Addr} {w0 w w' : World} {u : Value} {zs : List Int} (h : RdOr Z w0 w u zs) (hb : Below w.heap.size w w') : RdOr Z w0 w' u zs := by
  rcases h with ⟨c, e, hc, h0, h1⟩ | h
  · exact .inl ⟨c, e, hc, h0, h1.below hb⟩
  · exact .inr (own_below h hb)
theorem RdOr.box {Z : Option Addr} {w0 w w' : World} {u : Value} {zs : List Int} (h : RdOr Z w0 w u zs) {b : Nat} {cs : Array Value} {t : TypeId} {sg : Nat × Nat} (hb : w.heap[b]? = some (.cells cs t sg)) (ht : t ≠ 2) (hw : w0.heap.size ≤ b) (k : Keep (fun j => j = b) w w') : RdOr Z w0 w' u zs := by
  rcases h with ⟨c, e, hc, h0, h1⟩ | h
  · exact .inl ⟨c, e, hc, h0, keep_rd k h0 h1 (fun j hj => by omega)⟩
  · exact .inr (k.own h (fun j hj e => block_notrow hb ht h (by rw [hj, e])))
theorem RdOr.pushed {Z : Option Addr} {w0 w w' : World} {u v : Value} {zs : List Int} {e size n base : Nat} {xs : List Value} (h : RdOr Z w0 w u zs) (hv : w.ownsRow base e size v n xs) (hbs : w0.heap.size ≤ base) (hg : w.grownBy w' v.ownBlock) (h1 : e ≠ 2) : RdOr Z w0 w' u zs := by
  rcases h with ⟨c, e, hc, h0, h2⟩ | h
  · refine .inl ⟨c, e, hc, h0, ?_⟩
    cases zs with
    | nil => exact Rd.nil _ _
    | cons z zs =>
      obtain ⟨b, o, rfl, c0⟩ := h0.num (k := 0) (by simp)
      refine h2.grown hg fun a ha => ?_
      injection ha with ha
      intro e9
      have h5 := (hv.lt _ e9.symm).1
      have h6 : b < w0.heap.size := lt_of_cell c0
      rw [← ha] at h5
      dsimp only at h5
      omega
  · exact .inr (own_pushed h hv hg h1)
theorem RdOr.form {Z : Option Addr} {w0 w : World} {u : Value} {zs : List Int} (h : RdOr Z w0 w u zs) : ∃ A c, u = .slice A zs.length c ∧ zs.length ≤ c ∧ Rd w A (nums .i64 zs) := by
  rcases h with ⟨c, e, hc, h0, h1⟩ | h
  · exact ⟨Z, c, e, hc, h1⟩
  · obtain ⟨A, c, rfl, hc⟩ := own_form h
    exact ⟨A, c, rfl, hc, Rd.own h⟩
/-- A block that is older changes. -/
theorem RdOr.old {Z : Option Addr} {w0 w w' : World} {u : Value} {zs : List Int} (h : RdOr Z w0 w u zs) {S : Nat → Prop} (hz : ∀ a, Z = some a → ¬ S a.block) (hw : ∀ j, S j → j < w0.heap.size) (k : Keep S w w') : RdOr Z w0 w' u zs := by
  rcases h with ⟨c, e, hc, h0, h1⟩ | h
  · exact .inl ⟨c, e, hc, h0, k.rd h1 fun a ha e => hz a ha e⟩
  · exact .inr (k.own h (fun j hj e => by have := (h.lt j hj).1; have := hw j e; omega))
/-- A state of the reference. -/
def RSt (Z : Option Addr) (w0 w : World) (cs : List Value) (x : Ex) : Prop := ∃ u v, cs = [u, v] ∧ RdOr Z w0 w u x.1 ∧ RdOr Z w0 w v x.2 ∧ x.1.length ≤ 1048576 ∧ x.2.length ≤ 1048576 ∧ W64 x.1 ∧ W64 x.2
theorem RSt.rd {Z : Option Addr} {w0 w : World} {cs : List Value} {x : Ex} (h : RSt Z w0 w cs x) : rEx w cs x := by
  obtain ⟨u, v, rfl, h1, h2, h3, h4, h5, h6⟩ := h
  obtain ⟨A, c, rfl, hc, r1⟩ := h1.form
  obtain ⟨B, d, rfl, hd, r2⟩ := h2.form
  exact ⟨A, c, B, d, rfl, ⟨hc, by omega, r1, h5⟩, ⟨hd, by omega, r2, h6⟩⟩
theorem RSt.below {Z : Option Addr} {w0 w w' : World} {cs : List Value} {x : Ex} (h : RSt Z w0 w cs x) (hb : Below w.heap.size w w') : RSt Z w0 w' cs x := by
  obtain ⟨u, v, e, h1, h2, h3⟩ := h; exact ⟨u, v, e, h1.below hb, h2.below hb, h3⟩
theorem RSt.box {Z : Option Addr} {w0 w w' : World} {cs : List Value} {x : Ex} (h : RSt Z w0 w cs x) {b : Nat} {ds : Array Value} {t : TypeId} {sg : Nat × Nat} (hb : w.heap[b]? = some (.cells ds t sg)) (ht : t ≠ 2) (hw : w0.heap.size ≤ b) (k : Keep (fun j => j = b) w w') : RSt Z w0 w' cs x := by
  obtain ⟨u, v, e, h1, h2, h3⟩ := h; exact ⟨u, v, e, h1.box hb ht hw k, h2.box hb ht hw k, h3⟩
theorem RSt.pushed {Z : Option Addr} {w0 w w' : World} {cs : List Value} {x : Ex} {v : Value} {e size n base : Nat} {xs : List Value} (h : RSt Z w0 w cs x) (hv : w.ownsRow base e size v n xs) (hbs : w0.heap.size ≤ base) (hg : w.grownBy w' v.ownBlock) (h1 : e ≠ 2) : RSt Z w0 w' cs x := by
  obtain ⟨u, v, e, k1, k2, k3⟩ := h; exact ⟨u, v, e, k1.pushed hv hbs hg h1, k2.pushed hv hbs hg h1, k3⟩
/-- A list of states. -/
def MapR (Z : Option Addr) (w0 : World) (base : Nat) (w : World) (i : Inp) (n : Nat) (v : Value) : Prop := ∃ rows, w.ownsRow base 68 2 v n (List.flatten rows) ∧ rows.length = n ∧ (∀ r ∈ rows, r.length = 2) ∧ (∀ j, j < n → RSt Z w0 w (rowOf rows j) (traj i j))
theorem MapR.form {Z : Option Addr} {w0 w : World} {base n : Nat} {i : Inp} {v : Value} (h : MapR Z w0 base w i n v) : ∃ A c, v = .slice A n c ∧ n ≤ c := by
  obtain ⟨rows, h1, _⟩ := h; exact own_form h1
theorem MapR.below {Z : Option Addr} {w0 w w' : World} {base n : Nat} {i : Inp} {v : Value} (h : MapR Z w0 base w i n v) (hb : Below w.heap.size w w') : MapR Z w0 base w' i n v := by
  obtain ⟨rows, h1, h2, h3, h4⟩ := h
  exact ⟨rows, own_below h1 hb, h2, h3, fun j hj => (h4 j hj).below hb⟩
theorem MapR.box {Z : Option Addr} {w0 w w' : World} {base n : Nat} {i : Inp} {v : Value} (h : MapR Z w0 base w i n v) {b : Nat} {ds : Array Value} {t : TypeId} {sg : Nat × Nat} (hb : w.heap[b]? = some (.cells ds t sg)) (ht : t ≠ 2) (hw : w0.heap.size ≤ b) (hbb : b < base) (k : Keep (fun j => j = b) w w') : MapR Z w0 base w' i n v := by
  obtain ⟨rows, h1, h2, h3, h4⟩ := h
  exact ⟨rows, k.own h1 (fun j hj e => by have := (h1.lt j hj).1; omega), h2, h3, fun j hj => (h4 j hj).box hb ht hw k⟩
theorem MapR.old {Z : Option Addr} {w0 w w' : World} {base n : Nat} {i : Inp} {v : Value} (h : MapR Z w0 base w i n v) {S : Nat → Prop} (hz : ∀ a, Z = some a → ¬ S a.block) (hw : ∀ j, S j → j < w0.heap.size) (hb : w0.heap.size ≤ base) (k : Keep S w w') : MapR Z w0 base w' i n v := by
  obtain ⟨rows, h1, h2, h3, h4⟩ := h
  exact ⟨rows, k.own h1 (fun j hj e => by have := (h1.lt j hj).1; have := hw j e; omega), h2, h3, fun j hj => by
    obtain ⟨u, v, e, k1, k2, k3⟩ := h4 j hj
    exact ⟨u, v, e, k1.old hz hw k, k2.old hz hw k, k3⟩⟩
theorem MapR.rd {Z : Option Addr} {w0 w : World} {base n c : Nat} {i : Inp} {A : Option Addr} (h : MapR Z w0 base w i n (.slice A n c)) : SlRd rEx 2 w A (trajL i n) := by
  obtain ⟨rows, h1, h2, h3, h4⟩ := h
  exact ⟨rows, Rd.own h1, by rw [trajL_len]; exact h2, h3, fun j x hx => by
    have hj : j < n := by have := (List.getElem?_eq_some_iff.1 hx).1; rwa [trajL_len] at this
    rw [trajL_at i hj] at hx
    injection hx with hx
    rw [← hx]
    exact (h4 j hj).rd⟩
theorem MapR.push {Z : Option Addr} {w0 w w' : World} {base k : Nat} {i : Inp} {v v' u1 u2 : Value} {rows : List (List Value)} (h1 : w.ownsRow base 68 2 v k (List.flatten rows)) (h2 : rows.length = k) (h3 : ∀ r ∈ rows, r.length = 2) (h4 : ∀ j, j < k → RSt Z w0 w (rowOf rows j) (traj i j)) (hbs : w0.heap.size ≤ base)
    (hu : RSt Z w0 w [u1, u2] (traj i k)) (ho : w'.ownsRow base 68 2 v' (k + 1) (List.flatten rows ++ [u1, u2])) (hg : w.grownBy w' v.ownBlock) : MapR Z w0 base w' i (k + 1) v' := by
  refine ⟨rows ++ [[u1, u2]], by rw [List.flatten_append, List.flatten_cons, List.flatten_nil, List.append_nil]; exact ho, by simp [h2], ?_, ?_⟩
  · intro r hr
    rcases List.mem_append.1 hr with hr | hr
    · exact h3 r hr
    · rw [List.mem_singleton.1 hr]; rfl
  · intro j hj
    rcases Nat.lt_or_ge j k with h | h
    · have e : rowOf (rows ++ [[u1, u2]]) j = rowOf rows j := by simp [rowOf, List.getElem?_append_left (show j < rows.length by omega)]
      rw [e]; exact (h4 j h).pushed h1 hbs hg (by decide)
    · obtain rfl : j = k := by omega
      have e : rowOf (rows ++ [[u1, u2]]) j = [u1, u2] := by rw [← h2]; simp [rowOf]
      rw [e]; exact hu.pushed h1 hbs hg (by decide)
theorem MapR.one {Z : Option Addr} {w0 w : World} {base : Nat} {i : Inp} {u1 u2 : Value} (hb : base ≤ w.heap.size) (hu : RSt Z w0 w [u1, u2] (traj i 0)) : MapR Z w0 base (w.alloc (.cells #[u1, u2] 68)) i 1 (.slice (some ⟨w.heap.size, 0, none⟩) 1 1) := by
  refine ⟨[[u1, u2]], ⟨by simp, .inr ⟨w.heap.size, 1, #[u1, u2], rfl, hb, heap_alloc_new w _, Nat.le_refl _, by unfold maxLen; omega, by simp, by simp⟩⟩, rfl, by simp, fun j hj => ?_⟩
  obtain rfl : j = 0 := by omega
  exact hu.below ((Below.refl _ _).alloc (Nat.le_refl _) _)
theorem traj_W64 (i : Inp) (h : W64 i.start) : ∀ k, W64 (traj i k).1 ∧ W64 (traj i k).2 := by
  intro k
  cases k with
  | zero => exact ⟨h, fun k hk => by rw [traj] at hk ⊢; rw [nth_eq _ _ hk]; simp⟩
  | succ k => exact ⟨nextP_W64 _ _ _ _ _ _, nextM_W64 _ _ _ _⟩

def RTrainIs (i : Inp) (w : World) (e : Ending) (w' : World) : Prop := Below w.heap.size w w' ∧
  ((GoodIn i ∧ ∃ A c, e = .returned (.tuple #[.slice A (i.cfg.steps.toNat + 1) c, .int .i64 0]) ∧ SlRd rEx 2 w' A (trajL i (i.cfg.steps.toNat + 1))) ∨ (¬ GoodIn i ∧ e = .returned (.tuple #[.slice none 0 0, .int .i64 (inCode i)])))

/-- The same, with where the rows lie. -/
def RTrainT (T : Option Addr) (i : Inp) (w : World) (e : Ending) (w' : World) : Prop := Below w.heap.size w w' ∧ ∃ A c base, e = .returned (.tuple #[.slice A (i.cfg.steps.toNat + 1) c, .int .i64 0]) ∧ MapR T w base w' i (i.cfg.steps.toNat + 1) (.slice A (i.cfg.steps.toNat + 1) c) ∧ w.heap.size ≤ base
theorem RTrainT.is {T : Option Addr} {i : Inp} {w w' : World} {e : Ending} (hg : GoodIn i) (h : RTrainT T i w e w') : RTrainIs i w e w' := by
  obtain ⟨hb, A, c, base, he, hm, _⟩ := h
  exact ⟨hb, .inl ⟨hg, A, c, he, hm.rd⟩⟩

set_option maxRecDepth 100000 in
set_option maxHeartbeats 1000000 in
theorem rtrain_bad (A : Option Addr) (c : Nat) (D : Option Addr) (cd : Nat) (T : Option Addr) (ct : Nat) (R : Option Addr) (cr : Nat) (i : Inp) (w : World) (h : InpRd w A c D T ct R i) (hbad : inCode i ≠ 0) :
    Calls Tryz.prog 12 #[.agg (inpVals A c D cd T ct R cr i)] w (RTrainIs i w) := by
  have hin := fun w' (q : Below w.heap.size w w') => rinput_any A c D cd T ct R cr i w' (h.below q)
  have hng : ¬ GoodIn i := fun hg => hbad (in_good.2 hg)
  obtain ⟨z, hz⟩ : ∃ z, inCode i = z := ⟨_, rfl⟩
  have hres : RTrainIs i w = fun e w' => Below w.heap.size w w' ∧ ((GoodIn i ∧ ∃ A c, e = .returned (.tuple #[.slice A (i.cfg.steps.toNat + 1) c, .int .i64 0]) ∧ SlRd rEx 2 w' A (trajL i (i.cfg.steps.toNat + 1))) ∨ (¬ GoodIn i ∧ e = .returned (.tuple #[.slice none 0 0, .int .i64 z]))) := by
    funext e w'; unfold RTrainIs; rw [hz]
  rw [hz] at hin hbad
  have hzb : (z != 0) = true := by rw [bne_iff_ne]; exact hbad
  have Hin := Lib.hid hin; have Hng := Lib.hid hng; have Hres := Lib.hid hres
  clear hin hng hres hz h
  have hb0 : Below w.heap.size w (w.alloc (.cells (inpVals A c D cd T ct R cr i) 29)) := (Below.refl _ w).alloc (Nat.le_refl _) _
  obtain ⟨W1, hW1⟩ : ∃ W1, W1 = w.alloc (.cells (inpVals A c D cd T ct R cr i) 29) := ⟨_, rfl⟩
  rw [← hW1] at hb0
  have HB0 := Lib.hid hb0; clear hb0
  dsimp only [inpVals] at hW1
  have hin := Hin.out W1 HB0.out
  dsimp only [inpVals] at hin
  have Hin2 := Lib.hid hin; clear hin
  go_enter Tryz.func12, Tryz.ntmps12
  dsimp only [inpVals]
  go_wp2_with fail
  rw [← hW1]
  clear hW1
  refine Hin2.out.mono ?_
  rintro e w2 ⟨rfl, hb2⟩
  have HB2 := Lib.hid (HB0.out.trans (hb2.mono HB0.out.size)); clear hb2
  go_wp2_with fail
  go_ret2
  rw [Hres.out]
  exact ⟨HB2.out, .inr ⟨Hng.out, rfl⟩⟩
end Go.Proofs.YtfiojofcafjfeaaGreat
