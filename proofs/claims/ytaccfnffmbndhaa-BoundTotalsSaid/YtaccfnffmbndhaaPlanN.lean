/- The walks of plan.New and Total. -/
import Derived.Test.YtaccfnffmbndhaaPlanI
import Derived.Test.YtaccfnffmbndhaaTop
set_option linter.unusedSimpArgs false
set_option linter.unusedVariables false
namespace Go.Proofs.Ytaccfnffmbndhaa
open Go.RowKit

/-- How many items each worker has in a step. -/
def lensL (p : Pln) (m : Nat) : List Int := (List.range m).map fun x => ((itemsL p x 0).length : Int)
theorem lensL_succ (p : Pln) (m : Nat) : lensL p (m + 1) = lensL p m ++ [((itemsL p m 0).length : Int)] := by simp [lensL, List.range_succ]
theorem lensL_len (p : Pln) (m : Nat) : (lensL p m).length = m := by simp [lensL]
/-- A plan in memory. -/
def PlanAt (w : World) (P : Nat) (p : Pln) (a0 a1 a2 a3 a5 a7 a11 : Value) : Prop := ∃ BA bc GA gc LA lc, w.heap[P]? = some (.cells #[a0, a1, a2, a3, .int .i64 (p.W : Nat), a5, .int .i64 (p.mi : Nat), a7, .int .i64 (p.bu : Nat), .int .i64 (p.ck : Nat), .int .i64 (p.wi : Nat), a11, .slice BA p.buks.length bc, .slice GA p.grps.length gc, .slice LA p.W lc] 50 (0, 0)) ∧ Rd w BA (rgVals p.buks) ∧ Rd w GA (rgVals p.grps) ∧ Rd w LA (nums .i64 (lensL p p.W))
theorem PlanAt.below {w w' : World} {P : Nat} {p : Pln} {a0 a1 a2 a3 a5 a7 a11 : Value} (h : PlanAt w P p a0 a1 a2 a3 a5 a7 a11) (hb : Below w.heap.size w w') : PlanAt w' P p a0 a1 a2 a3 a5 a7 a11 := by
  obtain ⟨BA, bc, GA, gc, LA, lc, h1, h2, h3, h4⟩ := h
  exact ⟨BA, bc, GA, gc, LA, lc, sb h1 _ hb, h2.below hb, h3.below hb, h4.below hb⟩
theorem PlanAt.agr {B : Nat} {u v : World} {P : Nat} {p : Pln} {a0 a1 a2 a3 a5 a7 a11 : Value} (h : PlanAt (topW B u) P p a0 a1 a2 a3 a5 a7 a11) (hb : Agr B u v) : PlanAt v P p a0 a1 a2 a3 a5 a7 a11 := by
  obtain ⟨BA, bc, GA, gc, LA, lc, h1, h2, h3, h4⟩ := h
  exact ⟨BA, bc, GA, gc, LA, lc, top_heap (xs := [_, _, _, _, _, _, _, _, _, _, _, _, _, _]) h1 hb, top_rd h2 hb, top_rd h3 hb, top_rd h4 hb⟩
set_option maxRecDepth 100000 in
set_option maxHeartbeats 4000000 in
theorem pnew_good (p : Pln) (a0 a1 a2 a3 a5 a7 a11 : Value) (w : World) (hp : PlnOk p) (hn : 1 ≤ p.n) (hbu : p.bu ≤ 1048576) (hwi : p.wi ≤ 1048576)
    (hck : ∀ w', Below w.heap.size w w' → Calls Try.prog 18 #[.agg #[a0, a1, a2, a3, .int .i64 (p.W : Nat), a5, .int .i64 (p.mi : Nat), a7, .int .i64 (p.bu : Nat), .int .i64 (p.ck : Nat), .int .i64 (p.wi : Nat), a11]] w' fun e w'' => e = .returned (.int .i64 0) ∧ Below w'.heap.size w' w'') :
    Calls Try.prog 12 #[.agg #[a0, a1, a2, a3, .int .i64 (p.W : Nat), a5, .int .i64 (p.mi : Nat), a7, .int .i64 (p.bu : Nat), .int .i64 (p.ck : Nat), .int .i64 (p.wi : Nat), a11], .int .i64 (p.n : Nat)] w fun e w' => ∃ P, e = .returned (.tuple #[.pointer (some ⟨P, 0, none⟩), .bool true]) ∧ w.heap.size ≤ P ∧ PlanAt (topW w.heap.size w') P p a0 a1 a2 a3 a5 a7 a11 ∧ Below w.heap.size w w' := by
  obtain ⟨W0, hW0⟩ : ∃ W0, w.alloc (.cells #[a0, a1, a2, a3, .int .i64 (p.W : Nat), a5, .int .i64 (p.mi : Nat), a7, .int .i64 (p.bu : Nat), .int .i64 (p.ck : Nat), .int .i64 (p.wi : Nat), a11] 24) = W0 := ⟨_, rfl⟩
  have g0 : W0.heap[w.heap.size]? = some (.cells #[a0, a1, a2, a3, .int .i64 (p.W : Nat), a5, .int .i64 (p.mi : Nat), a7, .int .i64 (p.bu : Nat), .int .i64 (p.ck : Nat), .int .i64 (p.wi : Nat), a11] 24 (0, 0)) := by rw [← hW0]; exact heap_alloc_new w _
  have hB0 : Below w.heap.size w W0 := by rw [← hW0]; exact (br w).alloc (Nat.le_refl _) _
  have hc0 := fun w' (q : Below W0.heap.size W0 w') => hck w' (hB0.trans (q.mono hB0.size))
  have t0 := fun w' q => bx12 (sb g0 w' q)
  have hn1 : ¬ ((p.n : Int) < 1) := by omega
  have hn60 := hp.n
  have hn2 : ¬ ((p.n : Int) > 1048576) := by omega
  have hn3 : ¬ (1048576 < (p.n : Int)) := by omega
  have hW1 := hp.W1; have hW8 := hp.W8; have hbu1 := hp.bu; have hwi1 := hp.wi
  have hbuk : p.buks = bukR p.n p.bu := rfl
  have hgrp : p.grps = blkR p.buks.length p.wi := rfl
  have hbl := hp.buks
  have HW0 := Lib.hid hW0; have HB0 := Lib.hid hB0; have HC0 := Lib.hid hc0; have HG0 := Lib.hid g0; have Hbuk := Lib.hid hbuk; have Hgrp := Lib.hid hgrp
  have q0 := br W0
  clear hW0 g0 hB0 hc0 hck hbuk hgrp
  go_enter Try.func12, Try.ntmps12
  go_wp2_with fail
  rw [HW0.out]
  refine (HC0.out _ q0).mono ?_
  rintro e w1 ⟨rfl, k1⟩
  have q1 := bt q0 k1
  go_wp2_with fail
  refine (buckets_any p.n p.bu _ (by omega) hbu1 hbu).mono ?_
  rintro e w2 ⟨v2, rfl, o2, k2⟩
  have q2 := bt q1 k2
  rw [← Hbuk.out] at o2
  obtain ⟨BA, bc, rfl, _⟩ := own_form o2
  go_wp2_with fail
  refine HA.g (fun w' : World => Below W0.heap.size W0 w') ?_
  refine HA.t ?_ [0, 1, 2, 3, 4, 5] q2.drew ?_
  refine HA.c 6 (groups_any p.buks.length p.wi _ (by omega) hwi1 hwi) ?_
  rintro e w3 ⟨v3, rfl, o3, k3⟩
  have q3 := bt q2.drew k3
  rw [← Hgrp.out] at o3
  obtain ⟨GA, gc, rfl, _⟩ := own_form o3
  refine ⟨_, rfl, q3, fun _ => ?_⟩
  refine HA.t ?_ [7, 8] q3 ?_
  obtain ⟨W5, hW5⟩ : ∃ W5, w3.alloc (.cells #[a0, a1, a2, a3, .int .i64 (p.W : Nat), a5, .int .i64 (p.mi : Nat), a7, .int .i64 (p.bu : Nat), .int .i64 (p.ck : Nat), .int .i64 (p.wi : Nat), a11, .slice BA p.buks.length bc, .slice GA p.grps.length gc, .slice none 0 0] 50) = W5 := ⟨_, rfl⟩
  have k5 : Below w3.heap.size w3 W5 := by rw [← hW5]; exact (br w3).alloc (Nat.le_refl _) _
  refine HA.v 9 W5 (.pointer (some ⟨w3.heap.size, 0, none⟩)) (bt q3 k5) ?_ (he := by subst hW5; go_simp)
  refine HA.t ?_ [10] (bt q3 k5) ?_
  refine HA.d ?_
  simp only [Exit.then]
  have g5 : W5.heap[w3.heap.size]? = some (.cells #[a0, a1, a2, a3, .int .i64 (p.W : Nat), a5, .int .i64 (p.mi : Nat), a7, .int .i64 (p.bu : Nat), .int .i64 (p.ck : Nat), .int .i64 (p.wi : Nat), a11, .slice BA p.buks.length bc, .slice GA p.grps.length gc, .slice none 0 0] 50 (0, 0)) := by rw [← hW5]; exact heap_alloc_new w3 _
  have hs5 : W5.heap.size = w3.heap.size + 1 := by rw [← hW5]; simp
  have q5 := bt q3 k5
  have hB2 := (HB0.out.trans (q2.mono HB0.out.size))
  have hwn : w.heap.size ≤ w3.heap.size := Nat.le_trans hB2.size (Nat.le_trans (Nat.le_refl _) k3.size)
  have o2' := own_below (own_below (own_drewN o2 1) k3) k5
  have o3' := own_below o3 k5
  have rB2 := Rd.own o2'
  have rG2 := Rd.own o3'
  have hBA : ∀ y, BA = some y → y.block < W5.heap.size := fun y hy => (own_at o2' y hy).2
  have hGA : ∀ y, GA = some y → y.block < W5.heap.size := fun y hy => (own_at o3' y hy).2
  have hBA3 : ∀ y, BA = some y → w.heap.size ≤ y.block ∧ y.block < w3.heap.size := fun y hy => ⟨Nat.le_trans (Nat.le_trans HB0.out.size q1.size) (own_at o2 y hy).1, Nat.lt_of_lt_of_le (own_at o2 y hy).2 k3.size⟩
  have hGA3 : ∀ y, GA = some y → w.heap.size ≤ y.block ∧ y.block < w3.heap.size := fun y hy => ⟨Nat.le_trans hB2.size (own_at o3 y hy).1, (own_at o3 y hy).2⟩
  have HRB := Lib.hid rB2; have HRG := Lib.hid rG2; have HBA := Lib.hid hBA3; have HGA := Lib.hid hGA3; have H5 := Lib.hid g5; have Hs5 := Lib.hid hs5; have Hq5 := Lib.hid q5; have Hwn := Lib.hid hwn
  have t5 := fun w' q => t0 w' (bt q5 q)
  have q55 := br W5
  clear hW5 g5 hs5 o2' o3' o2 o3 rB2 rG2 hBA hGA hBA3 hGA3 k3 k5 q0 q1 q2 q3 q5 t0 hwn
  go_wp2_with fail
  clear t5 q55
  go_loopw [36] (fun y wr => ∃ m : Nat, m ≤ p.W ∧ y = .int .i64 m ∧ ∃ v, wr.heap[w3.heap.size]? = some (.cells #[a0, a1, a2, a3, .int .i64 (p.W : Nat), a5, .int .i64 (p.mi : Nat), a7, .int .i64 (p.bu : Nat), .int .i64 (p.ck : Nat), .int .i64 (p.wi : Nat), a11, .slice BA p.buks.length bc, .slice GA p.grps.length gc, v] 50 (0, 0)) ∧ wr.ownsRow W5.heap.size 3 1 v m (nums .i64 (lensL p m)) ∧ Keep (fun j => j = w3.heap.size) W5 wr) (fun y _ => p.W - (intOf y).toNat)
  case atStart => exact ⟨0, Nat.zero_le _, rfl, _, H5.out, World.ownsRow_nil _ _ _ _, Keep.refl _ _⟩
  case round =>
    obtain ⟨m, hm, rfl, v, hP, hO, hK⟩ := hrel
    by_cases hlt : m < p.W
    · have hmi : (m : Int) < p.W := by omega
      have hw1 : IntKind.i64.wrap ((m : Int) + 1) = ((m + 1 : Nat) : Int) := by rw [IntWalk.i64_in _ (by omega)]; push_cast; rfl
      have hPl := lt_of_block hP
      have kP := fun w' (q : Keep (fun j => v.ownBlock = some j) wr w') => (q.block _ hPl (fun h => block_notrow hP (by decide) hO h.symm)).trans hP
      have tP := fun w' q => bx15 (kP w' q)
      have hs5 := Hs5.out
      have hit : ∀ w', Keep (fun j => v.ownBlock = some j) wr w' → Calls Try.prog 21 #[.agg #[a0, a1, a2, a3, .int .i64 (p.W : Nat), a5, .int .i64 (p.mi : Nat), a7, .int .i64 (p.bu : Nat), .int .i64 (p.ck : Nat), .int .i64 (p.wi : Nat), a11, .slice BA p.buks.length bc, .slice GA p.grps.length gc], .int .i64 (m : Nat), .int .i64 0] w' fun e w'' => ∃ v, e = .returned v ∧ w''.ownsRow w'.heap.size 95 12 v (itemsL p m 0).length (itVals (itemsL p m 0)) ∧ Below w'.heap.size w' w'' := fun w' q =>
        items_any p 0 m a0 a1 a2 a3 a5 a7 (.int .i64 (p.bu : Nat)) (.int .i64 (p.wi : Nat)) a11 BA GA bc gc w' hp hlt
          (q.rd (hK.rd HRB.out (fun y hy => by have := HBA.out y hy; omega)) (fun y hy e => by have := (hO.lt _ e).1; have := HBA.out y hy; omega))
          (q.rd (hK.rd HRG.out (fun y hy => by have := HGA.out y hy; omega)) (fun y hy e => by have := (hO.lt _ e).1; have := HGA.out y hy; omega))
          (fun y hy => by have := HBA.out y hy; have := q.size; have := hK.size; omega) (fun y hy => by have := HGA.out y hy; have := q.size; have := hK.size; omega)
      have hil : (itemsL p m 0).length ≤ 8000000 := by
        have h1 := grpsL_le hp m 0 (Nat.le_refl p.grps.length)
        have h2 := hp.grps
        have : (itemsL p m 0).length = (grpsL p m 0 p.grps.length).length + 1 := by simp [itemsL, grpsL]; omega
        omega
      have hsz := hK.size
      have HPk := Lib.hid kP; have Hit := Lib.hid hit; have HO := Lib.hid hO; have HK := Lib.hid hK
      have q0 : Keep (fun j => v.ownBlock = some j) wr wr.drew := (Keep.refl _ _).drew
      obtain ⟨n, hn⟩ : ∃ n, (itemsL p m 0).length = n := ⟨_, rfl⟩
      have hll := lensL_succ p m
      rw [hn] at hil Hit hll
      have Hll := Lib.hid hll
      clear kP hit hP hO hK hn hll
      go_wp2_with fail
      refine XA.g 14 (fun w' : World => Keep (fun j => v.ownBlock = some j) wr w') ?_
      refine XA.t ?_ [0, 1, 2, 3, 4, 5, 6, 7, 8, 9] q0 ?_
      refine XA.c 10 (Hit.out _ q0) ?_
      rintro e w6 ⟨v6, rfl, o6, k6⟩
      obtain ⟨A6, c6, rfl, _⟩ := own_form o6
      have q6 : Keep (fun j => v.ownBlock = some j) wr w6 := q0.trans (Keep.below k6)
      refine ⟨_, rfl, q6, fun _ => ?_⟩
      refine XA.t ?_ [11] q6 ?_
      refine XA.v 12 (w6.alloc (.cells #[.int .i64 (n : Nat)] 3)) (.slice (some ⟨w6.heap.size, 0, none⟩) 1 1) (q6.alloc _) ?_
      refine XA.o 13 (fun K' hK' => ?_)
      have hOw := (own_below (HO.out.drew) k6).alloc (.cells #[.int .i64 (n : Nat)] 3)
      have hs6 := q6.size
      refine step_appX et_ints (.tmp 43) (.tmp 51) rfl rfl W5.heap.size v m _ rfl hOw (some ⟨w6.heap.size, 0, none⟩) 1 1 [.int .i64 (n : Nat)] rfl (fun k u hu => ⟨_, _, rfl, by rw [Nat.zero_add, cell_of_row _ w6.heap.size k _ 3 (0, 0) (heap_alloc_new w6 _)]; simpa using hu⟩) rfl (by simp [Value.oneCell']) (by omega) (by unfold maxLen; omega) (by simp; omega) ?_
      intro A7 c7 w7 ho7 hb7 hg7 _
      have q7 : Keep (fun j => v.ownBlock = some j) wr w7 := (q6.alloc _).grown hg7 (fun k hk => .inr hk)
      refine hK'.out _ _ q7 fun _ => ?_
      refine XA.e ?_
      simp only [List.drop_succ_cons, List.drop_zero]
      have hP7 := HPk.out w7 q7
      have e3 := heap_setCell_same w7 w3.heap.size 14 _ _ (.slice A7 (m + 1) c7) hP7
      have k1 : Keep (fun j => j = w3.heap.size) w7 (w7.setCell ⟨w3.heap.size, 14, none⟩ (.slice A7 (m + 1) c7)) := Keep.setCell (S := fun j => j = w3.heap.size) (Keep.refl _ _) ⟨w3.heap.size, 14, none⟩ (.inr rfl) _
      have o8 := k1.own ho7 (fun j hj e => block_notrow hP7 (by decide) ho7 (by rw [hj, e]))
      have kk : Keep (fun j => j = w3.heap.size) W5 (w7.setCell ⟨w3.heap.size, 14, none⟩ (.slice A7 (m + 1) c7)) := by
        refine Keep.trans (b := w7) ?_ k1
        have h1 := HK.out
        refine ⟨q7.os.trans h1.os, q7.tape.trans h1.tape, q7.output.trans h1.output, Nat.le_trans h1.size q7.size, fun j hj hn => (q7.block j (Nat.lt_of_lt_of_le hj h1.size) (fun e => by have := (HO.out.lt _ e).1; omega)).trans (h1.block j hj hn)⟩
      rw [show nums .i64 (lensL p m) ++ [Value.int .i64 (n : Nat)] = nums .i64 (lensL p (m + 1)) by rw [Hll.out, nums_append]; rfl] at o8
      have E3 := Lib.hid e3; have O8 := Lib.hid o8; have KK := Lib.hid kk
      have xP := tP w7 q7
      clear ho7 hb7 hg7 hP7 e3 k1 o8 kk tP hK' K' q7 q6 q0 hOw o6 k6
      go_wp2_with fail
      go_roundw
      case rel => exact ⟨m + 1, by omega, by go_num, _, by simpa using E3.out, O8.out, KK.out⟩
      case measure => simp [intOf]; omega
    · have hmi : ¬ ((m : Int) < p.W) := by omega
      have hme : m = p.W := by omega
      have hs5 := Hs5.out
      have hsz := hK.size
      obtain ⟨LA, lc, rfl, _⟩ := own_form hO
      rw [hme] at hO hP
      have hpa : PlanAt (topW w.heap.size wr) w3.heap.size p a0 a1 a2 a3 a5 a7 a11 := by
        have hw := Hwn.out
        refine ⟨BA, bc, GA, gc, LA, lc, (top_blk hw).trans hP, (top_keep _ _).rd (hK.rd HRB.out (fun y hy => by have := (HBA.out y hy).2; omega)) (fun y hy => by have := (HBA.out y hy).1; omega), (top_keep _ _).rd (hK.rd HRG.out (fun y hy => by have := (HGA.out y hy).2; omega)) (fun y hy => by have := (HGA.out y hy).1; omega), Rd.own (own_top hO (by omega))⟩
      have HPa := Lib.hid hpa
      have hBl := HB0.out.trans (Hq5.out.mono HB0.out.size)
      have HBl := Lib.hid (hBl.trans (hK.toBelow (B := w.heap.size) hBl.size (fun j hj => by have := Hwn.out; omega)))
      clear hP hO hK hpa hBl hme
      go_wp2_with fail
      go_ret2
      exact ⟨_, rfl, Hwn.out, HPa.out, HBl.out⟩
end Go.Proofs.Ytaccfnffmbndhaa
