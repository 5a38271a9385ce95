/- The reference's Items. The reference's Right, Few, Total and Steps. Whether an input is small enough (the reference's Few). The reference's Step: the items of one step. No condition. -/
import Derived.Test.YtaccfnffmbndhaaGreatK26
import Derived.Test.YtaccfnffmbndhaaGreatK10
import Derived.Test.YtaccfnffmbndhaaGreatK21
import Derived.Test.YtaccfnffmbndhaaGreatK23
import Derived.Test.YtaccfnffmbndhaaGreatK22
set_option linter.unusedSimpArgs false
set_option linter.unusedVariables false
namespace Go.Proofs.YtaccfnffmbndhaaGreat
open Go.RowKit
def micL (st k : Nat) : List Itm := (List.range k).map (fun a => (⟨1, st, a, none⟩ : Itm))
theorem micL_succ (st k : Nat) : micL st (k + 1) = micL st k ++ [(⟨1, st, k, none⟩ : Itm)] := microL_succ st k
theorem micL_len (st k : Nat) : (micL st k).length = k := by simp [micL]
set_option maxRecDepth 100000 in
set_option maxHeartbeats 4000000 in
theorem ritems_any (p : Pln) (st x : Nat) (a0 a1 a2 a3 a5 a7 a11 : Value) (w : World) (hp : PlnOk p) (hbu : p.bu ≤ 1048576) (hwi : p.wi ≤ 1048576) (hx : x < p.W) :
    Calls Tryz.prog 26 #[.agg #[a0, a1, a2, a3, .int .i64 (p.W : Nat), a5, .int .i64 (p.mi : Nat), a7, .int .i64 (p.bu : Nat), .int .i64 (p.ck : Nat), .int .i64 (p.wi : Nat), a11, .int .i64 (p.n : Nat)], .int .i64 x, .int .i64 (st : Nat)] w fun e w' => ∃ v, e = .returned v ∧ w'.ownsRow w.heap.size 136 12 v (itemsL p x st).length (itVals (itemsL p x st)) ∧ Below w.heap.size w w' := by
  obtain ⟨W0, hW0⟩ : ∃ W0, w.alloc (.cells #[a0, a1, a2, a3, .int .i64 (p.W : Nat), a5, .int .i64 (p.mi : Nat), a7, .int .i64 (p.bu : Nat), .int .i64 (p.ck : Nat), .int .i64 (p.wi : Nat), a11, .int .i64 (p.n : Nat)] 79) = W0 := ⟨_, rfl⟩
  have g0 : W0.heap[w.heap.size]? = some (.cells #[a0, a1, a2, a3, .int .i64 (p.W : Nat), a5, .int .i64 (p.mi : Nat), a7, .int .i64 (p.bu : Nat), .int .i64 (p.ck : Nat), .int .i64 (p.wi : Nat), a11, .int .i64 (p.n : Nat)] 79 (0, 0)) := by rw [← hW0]; exact heap_alloc_new w _
  have hB0 : Below w.heap.size w W0 := by rw [← hW0]; exact (br w).alloc (Nat.le_refl _) _
  have hxW : ¬ ((p.W : Int) ≤ x) := by omega
  have hbl := hp.buks; have hgl := hp.grps; have hmi := hp.mi; have hwi1 := hp.wi
  have hs0 : w.heap.size < W0.heap.size := lt_of_block g0
  have hgrp : p.grps = blkR p.buks.length p.wi := rfl
  have HW0 := Lib.hid hW0; have HB0 := Lib.hid hB0; have G0 := Lib.hid g0; have Hgrp := Lib.hid hgrp
  have tP := fun w' (q : Below W0.heap.size W0 w') => bx13 (sb g0 w' q)
  have q0 := br W0
  clear hW0 g0 hB0 hgrp
  go_enter Tryz.func26, Tryz.ntmps26
  go_wp2_with fail
  rw [HW0.out]
  clear q0
  go_loopw [7, 8] (fun vv y wr => ∃ k : Nat, k ≤ p.mi ∧ y = .int .i64 k ∧ wr.ownsRow W0.heap.size 136 12 vv k (itVals (micL st k)) ∧ Below W0.heap.size W0 wr) (fun _ y _ => p.mi - (intOf y).toNat)
  case atStart => exact ⟨0, Nat.zero_le _, rfl, World.ownsRow_nil _ _ _ _, br W0⟩
  case round =>
    obtain ⟨k, hk, rfl, ho, q⟩ := hrel
    obtain ⟨Av, cv, rfl, _⟩ := own_form ho
    have hsz := q.size
    by_cases hlt : k < p.mi
    · have hki : (k : Int) < p.mi := by omega
      have hw1 : IntKind.i64.wrap ((k : Int) + 1) = ((k + 1 : Nat) : Int) := by rw [IntWalk.i64_in _ (by omega)]; push_cast; rfl
      have Ho := Lib.hid ho; have Hq := Lib.hid q
      clear ho
      go_wp2_with (at_builtin; refine wpList_push et_ritems _ rfl (.tmp 27) (.tmp 31) rfl W0.heap.size (.slice Av k cv) k _ rfl Ho.out [.int .i64 1, .int .i64 (st : Nat), .int .i64 (k : Nat), .bool false, .bool false, .int .i64 0, .int .i64 0, .int .i64 0, .int .i64 0, .int .i64 0, .int .i64 0, .int .i64 0] rfl rfl (by simp [Value.oneCell']) (by omega) (by unfold maxLen; omega) hsz ?_)
      intro g6 c6 w6 ho6 hb6 hg6
      have HO6 := Lib.hid ho6; have HB6 := Lib.hid (Hq.out.trans hb6)
      clear ho6 hb6 hg6 q
      go_wp2_with fail
      go_roundw
      case rel => exact ⟨k + 1, by omega, by go_num, by rw [micL_succ, itVals_snoc]; exact HO6.out, HB6.out⟩
      case measure => simp [intOf]; omega
    · obtain rfl : p.mi = k := by omega
      have hki : ¬ ((p.mi : Int) < p.mi) := by omega
      have Ho := Lib.hid ho
      clear ho
      go_wp2_with fail
      refine HA.g (fun w' : World => Below W0.heap.size W0 w') ?_
      refine HA.t ?_ [0, 3, 4, 5] q.drew ?_
      refine HA.c 1 (rbuk_any p a0 a1 a2 a3 a5 (.int .i64 (p.mi : Nat)) a7 (.int .i64 (p.wi : Nat)) a11 _ hp hbu) ?_
      rintro e w2 ⟨v2, rfl, o2, k2⟩
      have q2 := bt q.drew k2
      obtain ⟨A2, c2, rfl, _⟩ := own_form o2
      refine ⟨_, rfl, q2, fun _ => ?_⟩
      refine HA.t ?_ [2] q2 ?_
      refine HA.c 6 (rgroups_any p.buks.length p.wi w2 (by omega) hwi1 hwi) ?_
      rintro e w3 ⟨v3, rfl, o3, k3⟩
      have q3 := bt q2 k3
      obtain ⟨A3, c3, rfl, _⟩ := own_form o3
      rw [← Hgrp.out] at o3 ⊢
      refine ⟨_, rfl, q3, fun _ => ?_⟩
      refine HA.t ?_ [7] q3 ?_
      refine HA.d ?_
      try simp only [Exit.then]
      have hr3 := Rd.own o3
      have l3 : RowAt w3 W0.heap.size (.slice Av p.mi cv) (micL st p.mi) := by
        unfold RowAt
        rw [micL_len]
        exact own_below (own_below (own_drewN Ho.out 1) k2) k3
      have hg3 : ∀ y, A3 = some y → w2.heap.size ≤ y.block ∧ y.block < w3.heap.size := fun y hy => own_at o3 y hy
      have hvb : ∀ k, (Value.slice Av p.mi cv).ownBlock = some k → k < w2.heap.size := fun k hk => by
        have := (Ho.out.lt k hk).2
        have := k2.size
        have e : wr.drew.heap.size = wr.heap.size := rfl
        omega
      have HR3 := Lib.hid hr3; have L3 := Lib.hid l3; have HG3 := Lib.hid hg3; have Hvb := Lib.hid hvb; have Q3 := Lib.hid q3
      clear hr3 l3 hg3 hvb o2 o3 k2 k3 q q2
      go_wp2_with fail
      obtain ⟨v3, hv3⟩ : ∃ v, Value.slice Av p.mi cv = v := ⟨_, rfl⟩
      rw [hv3] at L3 Hvb ⊢
      clear hv3
      go_loopw [7, 10] (fun vv y wr => ∃ k : Nat, k ≤ p.grps.length ∧ y = .int .i64 k ∧ RowAt wr W0.heap.size vv (grpsL p x st k) ∧ ApdV w3 v3 wr vv) (fun _ y _ => p.grps.length - (intOf y).toNat)
      case atStart => exact ⟨0, Nat.zero_le _, rfl, by simpa [grpsL, micL] using L3.out, ApdV.refl _ _⟩
      case round =>
        obtain ⟨k, hk, rfl, l2, A2⟩ := hrel
        obtain ⟨Aw, cw, rfl, _⟩ := own_form l2
        have hgrl := grpsL_le hp x st hk
        have hsz := Nat.le_trans Q3.out.size A2.1.size
        by_cases hlt : k < p.grps.length
        · have hki : (k : Int) < p.grps.length := by omega
          have hw1 : IntKind.i64.wrap ((k : Int) + 1) = ((k + 1 : Nat) : Int) := by rw [IntWalk.i64_in _ (by omega)]; push_cast; rfl
          have hrd := A2.1.rd HR3.out (fun y hy e => by
            have h1 := (HG3.out y hy).1
            have h2 := Hvb.out _ e
            omega)
          have hrv := rgVals_get hlt
          obtain ⟨bb, bo, rfl, cb0⟩ := hrd _ _ hrv.1
          obtain ⟨bb', bo', e', cb1⟩ := hrd _ _ hrv.2
          obtain ⟨rfl, rfl⟩ : bb' = bb ∧ bo' = bo := by simpa using e'.symm
          rw [← Nat.add_assoc] at cb1
          have hgr := hp.grp hlt
          have hgsu := grpsL_succ (p := p) x st hlt
          obtain ⟨lo, hi, hlh⟩ : ∃ lo hi, rgAt p.grps k = (lo, hi) := ⟨_, _, rfl⟩
          rw [hlh] at hgr cb0 cb1 hgsu
          dsimp only at hgr cb0 cb1
          obtain ⟨lk, hlk⟩ : ∃ lk, grpsL p x st k = lk := ⟨_, rfl⟩
          rw [hlk] at l2 A2 hgsu hgrl ⊢
          obtain ⟨v2, hv2⟩ : ∃ v, Value.slice Aw lk.length cw = v := ⟨_, rfl⟩
          rw [hv2] at l2 A2 ⊢
          have kP : wr.heap[w.heap.size]? = some (.cells #[a0, a1, a2, a3, .int .i64 (p.W : Nat), a5, .int .i64 (p.mi : Nat), a7, .int .i64 (p.bu : Nat), .int .i64 (p.ck : Nat), .int .i64 (p.wi : Nat), a11, .int .i64 (p.n : Nat)] 79 (0, 0)) := (A2.1.block _ (by have := Q3.out.size; omega) (fun e => by have := (L3.out.lt _ e).1; omega)).trans (sb G0.out w3 Q3.out)
          have nP : ¬ v2.ownBlock = some w.heap.size := fun e => by have := (l2.lt _ e).1; omega
          have nB : ¬ v2.ownBlock = some bb' := fun e => by
            have h1 := HG3.out _ rfl
            dsimp only at h1
            rcases A2.2 with h | h
            · rw [h] at e
              have h2 := Hvb.out _ e
              omega
            · have h2 := h _ e
              omega
          have uP := fun w' (q' : Keep (fun j => v2.ownBlock = some j) wr w') => bx13 ((q'.block _ (lt_of_block kP) nP).trans kP)
          have d0 := fun w' (q' : Keep (fun j => v2.ownBlock = some j) wr w') => q'.cell cb0 nB
          have d1 := fun w' (q' : Keep (fun j => v2.ownBlock = some j) wr w') => q'.cell cb1 nB
          have hgc := rgroup_any p W0.heap.size st x lo hi a0 a1 a2 a3 a5 (.int .i64 (p.mi : Nat)) a7 (.int .i64 (p.wi : Nat)) a11 v2 lk wr.drew hp hbu (own_drewN l2 1) hsz hx hgr.1 hgr.2 (by omega)
          rw [← hgsu] at hgc
          have Hgc := Lib.hid hgc; have HA2 := Lib.hid A2
          have q1 : Keep (fun j => v2.ownBlock = some j) wr wr.drew := (Keep.refl _ _).drew
          clear hgc l2 A2 hgsu hlk hv2 kP cb0 cb1 hrd hrv e' hlh
          go_wp2_with fail
          refine HA.g (fun w' : World => Keep (fun j => v2.ownBlock = some j) wr w') ?_
          refine HA.t ?_ [0, 1, 2, 3, 4, 5, 6, 7] q1 ?_
          refine HA.c 8 Hgc.out ?_
          rintro e w8 ⟨v8, rfl, l8, A8'⟩
          have A8 : ApdV wr v2 w8 v8 := (ApdV.below (br wr).drew).trans A8'
          have q8 : Keep (fun j => v2.ownBlock = some j) wr w8 := A8.1
          refine ⟨_, rfl, q8, fun _ => ?_⟩
          refine HA.t ?_ [9] q8 ?_
          refine HA.d ?_
          try simp only [Exit.then]
          have L8 := Lib.hid l8; have B8 := Lib.hid (HA2.out.trans A8)
          clear l8 A8 A8' q8 q1 uP d0 d1 nP nB
          go_wp2_with fail
          go_roundw
          case rel => exact ⟨k + 1, by omega, by go_num, L8.out, B8.out⟩
          case measure => simp [intOf]; omega
        · have hki : ¬ ((p.grps.length : Int) < p.grps.length) := by omega
          have hke : k = p.grps.length := by omega
          subst hke 
          obtain ⟨n, hn⟩ : ∃ n, (grpsL p x st p.grps.length).length = n := ⟨_, rfl⟩
          have l2' : wr.ownsRow W0.heap.size 136 12 (.slice Aw n cw) n (itVals (grpsL p x st p.grps.length)) := by rw [← hn]; exact l2
          rw [hn] at A2 hgrl ⊢
          have e : itVals (grpsL p x st p.grps.length) ++ [.int .i64 6, .int .i64 (st : Nat), .int .i64 0, .bool false, .bool false, .int .i64 0, .int .i64 0, .int .i64 0, .int .i64 0, .int .i64 0, .int .i64 0, .int .i64 0] = itVals (itemsL p x st) := by
            have : itemsL p x st = grpsL p x st p.grps.length ++ [(⟨6, st, 0, none⟩ : Itm)] := by
              unfold grpsL itemsL
              rw [List.take_length]
            rw [this, itVals_snoc]; rfl
          have hnl : n + 1 = (itemsL p x st).length := by
            rw [← hn]
            unfold grpsL itemsL
            rw [List.take_length]; simp only [List.length_append, List.length_cons, List.length_nil]
          have HA2 := Lib.hid A2; have L2 := Lib.hid l2'; have He := Lib.hid e; have Hnl := Lib.hid hnl
          clear l2 l2' A2 hn e hnl
          go_wp2_with (at_builtin; refine wpList_pushN et_ritems _ rfl (.tmp 55) (.tmp 58) rfl W0.heap.size (.slice Aw n cw) n _ rfl L2.out [.int .i64 6, .int .i64 (st : Nat), .int .i64 0, .bool false, .bool false, .int .i64 0, .int .i64 0, .int .i64 0, .int .i64 0, .int .i64 0, .int .i64 0, .int .i64 0] rfl rfl (by simp [Value.oneCell']) (by omega) (by unfold maxLen; omega) hsz ?_)
          intro g6 c6 w6 ho6 ha6
          have ho7 : w6.ownsRow W0.heap.size 136 12 (.slice g6 (n + 1) c6) (n + 1) (itVals (grpsL p x st p.grps.length) ++ [.int .i64 6, .int .i64 (st : Nat), .int .i64 0, .bool false, .bool false, .int .i64 0, .int .i64 0, .int .i64 0, .int .i64 0, .int .i64 0, .int .i64 0, .int .i64 0]) := ho6
          rw [He.out] at ho7
          have B6 := (HA2.out.trans ha6).1.toBelow (B := W0.heap.size) Q3.out.size (fun j hj => (L3.out.lt j hj).1)
          have O6 : Hid (w6.ownsRow w.heap.size 136 12 (.slice g6 (n + 1) c6) (itemsL p x st).length (itVals (itemsL p x st))) := Lib.hid (by rw [← Hnl.out]; exact own_base ho7 HB0.out.size)
          have HB6 := Lib.hid (HB0.out.trans ((Q3.out.trans B6).mono HB0.out.size))
          clear ho6 ho7 ha6 B6
          go_wp2_with fail
          go_ret
          exact ⟨_, rfl, O6.out, HB6.out⟩
end Go.Proofs.YtaccfnffmbndhaaGreat
namespace Go.Proofs.YtaccfnffmbndhaaGreat
open Go.RowKit
noncomputable def rightQ (k : Cfg) (n : Int) : Bool := decide (cfgCode k = 0) && (decide (1 ≤ n) && decide (n ≤ 1048576))
set_option maxRecDepth 100000 in
theorem rright20_any (A : Option Addr) (c : Nat) (k : Cfg) (n : Int) (w : World) (h : CfgRd w A c k) :
    Calls Tryz.prog 87 #[.agg #[.slice A k.sizes.length c, .int .i64 k.shift, .int .i64 k.rate, .int .i64 k.mom, .int .i64 k.workers, .int .i64 k.batch, .int .i64 k.micros, .int .i64 k.steps, .int .i64 k.bucket, .int .i64 k.chunk, .int .i64 k.window, .int .i64 k.cap, .int .i64 n]] w fun e w' => e = .returned (.bool (rightQ k n)) ∧ Below w.heap.size w w' := by
  obtain ⟨W0, hW0⟩ : ∃ W0, w.alloc (.cells #[.slice A k.sizes.length c, .int .i64 k.shift, .int .i64 k.rate, .int .i64 k.mom, .int .i64 k.workers, .int .i64 k.batch, .int .i64 k.micros, .int .i64 k.steps, .int .i64 k.bucket, .int .i64 k.chunk, .int .i64 k.window, .int .i64 k.cap, .int .i64 n] 79) = W0 := ⟨_, rfl⟩
  have g0 : W0.heap[w.heap.size]? = some (.cells #[.slice A k.sizes.length c, .int .i64 k.shift, .int .i64 k.rate, .int .i64 k.mom, .int .i64 k.workers, .int .i64 k.batch, .int .i64 k.micros, .int .i64 k.steps, .int .i64 k.bucket, .int .i64 k.chunk, .int .i64 k.window, .int .i64 k.cap, .int .i64 n] 79 (0, 0)) := by rw [← hW0]; exact heap_alloc_new w _
  have hB0 : Below w.heap.size w W0 := by rw [← hW0]; exact (br w).alloc (Nat.le_refl _) _
  have hc := rcfg_any A c k W0 (h.below hB0)
  have t0 := fun w' q => bx13 (sb g0 w' q)
  have HW0 := Lib.hid hW0; have HB0 := Lib.hid hB0; have Hc := Lib.hid hc
  have q0 := br W0
  clear hW0 g0 hB0 hc h
  unfold rightQ
  obtain ⟨code, hcode⟩ : ∃ code, cfgCode k = code := ⟨_, rfl⟩
  rw [hcode] at Hc ⊢
  clear hcode
  by_cases h1 : code = 0
  · by_cases h2 : 1 ≤ n
    · by_cases h3 : n ≤ 1048576
      · go_enter Tryz.func87, Tryz.ntmps87
        go_wp2_with fail
        rw [HW0.out]
        refine Hc.out.mono ?_
        rintro e w1 ⟨rfl, k1⟩
        have q1 := bt q0 k1
        have HB := Lib.hid (HB0.out.trans (q1.mono HB0.out.size))
        clear k1
        go_wp2_with fail
        go_ret
        exact ⟨by simp [h1, h2, h3], HB.out⟩
      · go_enter Tryz.func87, Tryz.ntmps87
        go_wp2_with fail
        rw [HW0.out]
        refine Hc.out.mono ?_
        rintro e w1 ⟨rfl, k1⟩
        have q1 := bt q0 k1
        have HB := Lib.hid (HB0.out.trans (q1.mono HB0.out.size))
        clear k1
        go_wp2_with fail
        go_ret
        exact ⟨by rw [show decide (n ≤ 1048576) = false from decide_eq_false (by omega)]; simp, HB.out⟩
    · go_enter Tryz.func87, Tryz.ntmps87
      go_wp2_with fail
      rw [HW0.out]
      refine Hc.out.mono ?_
      rintro e w1 ⟨rfl, k1⟩
      have q1 := bt q0 k1
      have HB := Lib.hid (HB0.out.trans (q1.mono HB0.out.size))
      clear k1
      go_wp2_with fail
      go_ret
      exact ⟨by rw [show decide (1 ≤ n) = false from decide_eq_false (by omega)]; simp, HB.out⟩
  · go_enter Tryz.func87, Tryz.ntmps87
    go_wp2_with fail
    rw [HW0.out]
    refine Hc.out.mono ?_
    rintro e w1 ⟨rfl, k1⟩
    have q1 := bt q0 k1
    have HB := Lib.hid (HB0.out.trans (q1.mono HB0.out.size))
    clear k1
    go_wp2_with fail
    go_ret
    exact ⟨by simp [h1], HB.out⟩
def SmallP (k : Cfg) (n : Int) (r : Bool) : Prop := r = true → n ≤ 60 ∧ k.workers ≤ 8 ∧ k.micros ≤ 20 ∧ k.steps ≤ 12
def FewP (q : Prop) (w : World) (e : Ending) (w' : World) : Prop := (∃ b : Bool, e = .returned (.bool b) ∧ (b = true → q)) ∧ Below w.heap.size w w'
set_option maxRecDepth 100000 in
theorem rfew20_any (A : Option Addr) (c : Nat) (k : Cfg) (n : Int) (w : World) (h : CfgRd w A c k) :
    Calls Tryz.prog 41 #[.agg #[.slice A k.sizes.length c, .int .i64 k.shift, .int .i64 k.rate, .int .i64 k.mom, .int .i64 k.workers, .int .i64 k.batch, .int .i64 k.micros, .int .i64 k.steps, .int .i64 k.bucket, .int .i64 k.chunk, .int .i64 k.window, .int .i64 k.cap, .int .i64 n]] w (FewP (SmallP k n (rightQ k n)) w) := by
  obtain ⟨W0, hW0⟩ : ∃ W0, w.alloc (.cells #[.slice A k.sizes.length c, .int .i64 k.shift, .int .i64 k.rate, .int .i64 k.mom, .int .i64 k.workers, .int .i64 k.batch, .int .i64 k.micros, .int .i64 k.steps, .int .i64 k.bucket, .int .i64 k.chunk, .int .i64 k.window, .int .i64 k.cap, .int .i64 n] 79) = W0 := ⟨_, rfl⟩
  have g0 : W0.heap[w.heap.size]? = some (.cells #[.slice A k.sizes.length c, .int .i64 k.shift, .int .i64 k.rate, .int .i64 k.mom, .int .i64 k.workers, .int .i64 k.batch, .int .i64 k.micros, .int .i64 k.steps, .int .i64 k.bucket, .int .i64 k.chunk, .int .i64 k.window, .int .i64 k.cap, .int .i64 n] 79 (0, 0)) := by rw [← hW0]; exact heap_alloc_new w _
  have hB0 : Below w.heap.size w W0 := by rw [← hW0]; exact (br w).alloc (Nat.le_refl _) _
  have hc := rright20_any A c k n W0 (h.below hB0)
  have t0 := fun w' q => bx13 (sb g0 w' q)
  have HW0 := Lib.hid hW0; have HB0 := Lib.hid hB0; have Hc := Lib.hid hc
  have q0 := br W0
  clear hW0 g0 hB0 hc h
  obtain ⟨r, hr⟩ : ∃ r, rightQ k n = r := ⟨_, rfl⟩
  rw [hr] at Hc ⊢
  clear hr
  obtain ⟨L, hL⟩ : ∃ L, k.sizes.length = L := ⟨_, rfl⟩
  rw [hL] at HW0 Hc t0 ⊢
  clear hL
  by_cases hl : (L : Int) ≤ 40
  · have hl' : ¬ (40 < (L : Int)) := by omega
    cases r with
    | false =>
      go_enter Tryz.func41, Tryz.ntmps41
      go_wp2_with fail
      rw [HW0.out]
      refine Hc.out.mono ?_
      rintro e w1 ⟨rfl, k1⟩
      have q1 := bt q0 k1
      have HB := Lib.hid (HB0.out.trans (q1.mono HB0.out.size))
      clear k1
      go_wp2_with fail
      go_ret
      exact ⟨⟨_, rfl, fun _ h => by cases h⟩, HB.out⟩
    | true =>
      have fin : ∀ b : Bool, (b = true → n ≤ 60 ∧ k.workers ≤ 8 ∧ k.micros ≤ 20 ∧ k.steps ≤ 12) → b = true → SmallP k n true := fun b hb hb' _ => hb hb'
      have Fin := Lib.hid fin
      clear fin
      by_cases h1 : n ≤ 60
      · by_cases h2 : k.workers ≤ 8
        · by_cases h3 : k.micros ≤ 20
          · go_enter Tryz.func41, Tryz.ntmps41
            go_wp2_with fail
            rw [HW0.out]
            refine Hc.out.mono ?_
            rintro e w1 ⟨rfl, k1⟩
            have q1 := bt q0 k1
            have HB := Lib.hid (HB0.out.trans (q1.mono HB0.out.size))
            clear k1
            go_wp2_with fail
            go_ret
            exact ⟨⟨_, rfl, Fin.out _ (fun hb => ⟨h1, h2, h3, by simpa using hb⟩)⟩, HB.out⟩
          · go_enter Tryz.func41, Tryz.ntmps41
            go_wp2_with fail
            rw [HW0.out]
            refine Hc.out.mono ?_
            rintro e w1 ⟨rfl, k1⟩
            have q1 := bt q0 k1
            have HB := Lib.hid (HB0.out.trans (q1.mono HB0.out.size))
            clear k1
            go_wp2_with fail
            go_ret
            exact ⟨⟨_, rfl, fun hb => by simp [h3] at hb⟩, HB.out⟩
        · go_enter Tryz.func41, Tryz.ntmps41
          go_wp2_with fail
          rw [HW0.out]
          refine Hc.out.mono ?_
          rintro e w1 ⟨rfl, k1⟩
          have q1 := bt q0 k1
          have HB := Lib.hid (HB0.out.trans (q1.mono HB0.out.size))
          clear k1
          go_wp2_with fail
          go_ret
          exact ⟨⟨_, rfl, fun hb => by simp [h2] at hb⟩, HB.out⟩
      · go_enter Tryz.func41, Tryz.ntmps41
        go_wp2_with fail
        rw [HW0.out]
        refine Hc.out.mono ?_
        rintro e w1 ⟨rfl, k1⟩
        have q1 := bt q0 k1
        have HB := Lib.hid (HB0.out.trans (q1.mono HB0.out.size))
        clear k1
        go_wp2_with fail
        go_ret
        exact ⟨⟨_, rfl, fun hb => by simp [h1] at hb⟩, HB.out⟩
  · have hl' : 40 < (L : Int) := by omega
    go_enter Tryz.func41, Tryz.ntmps41
    go_wp2_with fail
    rw [HW0.out]
    try go_wp2_with fail
    go_ret
    exact ⟨⟨_, rfl, fun hb => by simp at hb⟩, HB0.out⟩
theorem itemsL_le {p : Pln} (hp : PlnOk p) (x st : Nat) : (itemsL p x st).length ≤ 8000000 := by
  have h1 := grpsL_le hp x st (Nat.le_refl p.grps.length)
  have h2 := hp.grps
  have : (itemsL p x st).length = (grpsL p x st p.grps.length).length + 1 := by simp [itemsL, grpsL]; omega
  omega
end Go.Proofs.YtaccfnffmbndhaaGreat
namespace Go.Proofs.YtaccfnffmbndhaaGreat
open Go.RowKit
def FewM (i : Inp) : Prop := SmallI i ∧ (inCode i = 0 → SmallP i.cfg i.start.length (rightQ i.cfg i.start.length) ∧ i.cfg.steps ≤ 6 ∧ i.data.length ≤ 40)
theorem FewM.sm {i : Inp} (h : FewM i) (h0 : inCode i = 0) : SmIn i := by
  have hg := in_good.1 h0
  obtain ⟨hs, hr⟩ := h
  obtain ⟨h1, h2, h3⟩ := hr h0
  have hc := cfg_good.2 hg.c
  have hp := cnt_pos hg.c.z
  have he := hg.s
  have hn : 1 ≤ i.start.length := by rw [he]; exact hp
  have hm := hs.2.1
  obtain ⟨k1, k2, k3, _⟩ := h1 (by simp only [rightQ, hc, Bool.and_eq_true, decide_eq_true_eq]; exact ⟨trivial, by omega, by omega⟩)
  exact ⟨hg, by omega, k2, k3, h2, h3⟩
set_option maxRecDepth 100000 in
set_option maxHeartbeats 4000000 in
theorem rfew21_any (A : Option Addr) (c : Nat) (D : Option Addr) (cd : Nat) (T : Option Addr) (ct : Nat) (R : Option Addr) (cr : Nat) (i : Inp) (w : World) (h : InpRaw w A c D T ct R i) :
    Calls Tryz.prog 8 #[.agg (inpVals A c D cd T ct R cr i)] w (FewI (FewM i) w) := by
  obtain ⟨W0, hW0⟩ : ∃ W0, w.alloc (.cells (inpVals A c D cd T ct R cr i) 29) = W0 := ⟨_, rfl⟩
  have g0 : W0.heap[w.heap.size]? = some (.cells (inpVals A c D cd T ct R cr i) 29 (0, 0)) := by rw [← hW0]; exact heap_alloc_new w _
  have hB0 : Below w.heap.size w W0 := by rw [← hW0]; exact (br w).alloc (Nat.le_refl _) _
  have hf := fewrun_any A c D cd T ct R cr i W0 (h.below hB0)
  have hin := fun (hs : SmallI i) w' (q : Below W0.heap.size W0 w') => rinput_any A c D cd T ct R cr i w' (((h.rd hs).below hB0).below q)
  have hpl := rplan21_any A i.cfg.sizes.length c i.cfg.shift i.cfg.rate i.cfg.mom i.cfg.workers i.cfg.batch i.cfg.micros i.cfg.steps i.cfg.bucket i.cfg.chunk i.cfg.window i.cfg.cap D i.data.length cd T i.start.length ct R i.draws.length cr
  have hfw := fun w' (q : Below W0.heap.size W0 w') => rfew20_any A c i.cfg i.start.length w' ((h.c.below hB0).below q)
  unfold FewI FewM
  dsimp only [inpVals] at *
  have t0 := fun w' q => bx15 (sb g0 w' q)
  have HW0 := Lib.hid hW0; have HB0 := Lib.hid hB0; have Hf := Lib.hid hf; have Hin := Lib.hid hin; have Hpl := Lib.hid hpl; have Hfw := Lib.hid hfw
  have q0 := br W0
  clear hW0 g0 hB0 hf hin hpl hfw h
  go_enter Tryz.func8, Tryz.ntmps8
  go_wp2_with fail
  rw [HW0.out]
  refine Hf.out.mono ?_
  rintro e w1 ⟨⟨b, rfl, hb⟩, k1⟩
  have q1 := bt q0 k1
  have HB1 := Lib.hid (HB0.out.trans (k1.mono HB0.out.size))
  have Hb := Lib.hid hb
  clear hb k1 q0
  cases b with
  | false =>
    go_wp2_with fail
    go_ret
    exact ⟨⟨false, rfl, fun h => by cases h⟩, HB1.out⟩
  | true =>
    go_wp2_with fail
    refine (Hin.out (Hb.out (by trivial)) w1 q1).mono ?_
    rintro e w2 ⟨rfl, k2⟩
    have q2 := bt q1 k2
    have HB2 := Lib.hid (HB1.out.trans (k2.mono HB1.out.size))
    clear k2 q1
    obtain ⟨C, hC⟩ : ∃ C, inCode i = C := ⟨_, rfl⟩
    rw [hC]
    have HC := Lib.hid hC
    clear hC
    by_cases h0 : C = 0
    · subst h0
      go_wp2_with fail
      refine (Hpl.out w2).mono ?_
      rintro e w3 ⟨rfl, k3⟩
      have q3 := bt q2 k3
      have HB3 := Lib.hid (HB2.out.trans (k3.mono HB2.out.size))
      clear k3 q2
      go_wp2_with fail
      refine (Hfw.out w3 q3).mono ?_
      rintro e w4 ⟨⟨b2, rfl, hb2⟩, k4⟩
      have q4 := bt q3 k4
      have HB4 := Lib.hid (HB3.out.trans (k4.mono HB3.out.size))
      have Hb2 := Lib.hid hb2
      clear hb2 k4 q3
      cases b2 with
      | false =>
        go_wp2_with fail
        go_ret
        exact ⟨⟨false, rfl, fun h => by cases h⟩, HB4.out⟩
      | true =>
        by_cases h6 : i.cfg.steps ≤ 6
        · go_wp2_with fail
          go_ret
          exact ⟨⟨_, rfl, fun h => ⟨Hb.out (by trivial), fun _ => ⟨Hb2.out (by trivial), h6, by simp at h; omega⟩⟩⟩, HB4.out⟩
        · go_wp2_with fail
          go_ret
          exact ⟨.inl rfl, HB4.out⟩
    · go_wp2_with fail
      go_ret
      exact ⟨⟨true, rfl, fun _ => ⟨Hb.out (by trivial), fun h => absurd (HC.out.symm.trans h) h0⟩⟩, HB2.out⟩
end Go.Proofs.YtaccfnffmbndhaaGreat
namespace Go.Proofs.YtaccfnffmbndhaaGreat
open Go.RowKit
set_option maxRecDepth 100000 in
set_option maxHeartbeats 2000000 in
theorem rstep_any (p : Pln) (st stp x : Nat) (A : Option Addr) (n0 c : Nat) (z1 z2 z3 z5 z11 : Int) (w : World) (hp : PlnOk p) (hbu : p.bu ≤ 1048576) (hwi : p.wi ≤ 1048576) (hx : x < p.W) (hst : st < stp) :
    Calls Tryz.prog 53 #[.agg #[.slice A n0 c, .int .i64 z1, .int .i64 z2, .int .i64 z3, .int .i64 (p.W : Nat), .int .i64 z5, .int .i64 (p.mi : Nat), .int .i64 (stp : Nat), .int .i64 (p.bu : Nat), .int .i64 (p.ck : Nat), .int .i64 (p.wi : Nat), .int .i64 z11, .int .i64 (p.n : Nat)], .int .i64 (x : Nat), .int .i64 (st : Nat)] w fun e w' => ∃ v, e = .returned v ∧ w'.ownsRow w.heap.size 136 12 v (itemsL p x st).length (itVals (itemsL p x st)) ∧ Below w.heap.size w w' := by
  obtain ⟨W0, hW0⟩ : ∃ W0, w.alloc (.cells #[.slice A n0 c, .int .i64 z1, .int .i64 z2, .int .i64 z3, .int .i64 (p.W : Nat), .int .i64 z5, .int .i64 (p.mi : Nat), .int .i64 (stp : Nat), .int .i64 (p.bu : Nat), .int .i64 (p.ck : Nat), .int .i64 (p.wi : Nat), .int .i64 z11, .int .i64 (p.n : Nat)] 79) = W0 := ⟨_, rfl⟩
  have g0 : W0.heap[w.heap.size]? = some (.cells #[.slice A n0 c, .int .i64 z1, .int .i64 z2, .int .i64 z3, .int .i64 (p.W : Nat), .int .i64 z5, .int .i64 (p.mi : Nat), .int .i64 (stp : Nat), .int .i64 (p.bu : Nat), .int .i64 (p.ck : Nat), .int .i64 (p.wi : Nat), .int .i64 z11, .int .i64 (p.n : Nat)] 79 (0, 0)) := by rw [← hW0]; exact heap_alloc_new w _
  have hB0 : Below w.heap.size w W0 := by rw [← hW0]; exact (br w).alloc (Nat.le_refl _) _
  have hc := ritems_any p st x (.slice A n0 c) (.int .i64 z1) (.int .i64 z2) (.int .i64 z3) (.int .i64 z5) (.int .i64 (stp : Nat)) (.int .i64 z11) W0 hp hbu hwi hx
  have h1 : ¬ ((st : Int) < 0) := by omega
  have h2 : ¬ ((stp : Int) ≤ st) := by omega
  have t0 := fun w' q => bx13 (sb g0 w' q)
  have HW0 := Lib.hid hW0; have HB0 := Lib.hid hB0; have Hc := Lib.hid hc
  have q0 := br W0
  clear hW0 g0 hB0 hc
  go_enter Tryz.func53, Tryz.ntmps53
  go_wp2_with fail
  rw [HW0.out]
  refine Hc.out.mono ?_
  rintro e w1 ⟨v, rfl, ho, k1⟩
  have fin := own_base ho HB0.out.size
  have HB := HB0.out.trans (k1.mono HB0.out.size)
  have Fin := Lib.hid fin; have HB1 := Lib.hid HB
  clear fin HB ho k1
  go_wp2_with fail
  go_ret
  exact ⟨v, rfl, Fin.out, HB1.out⟩
end Go.Proofs.YtaccfnffmbndhaaGreat
