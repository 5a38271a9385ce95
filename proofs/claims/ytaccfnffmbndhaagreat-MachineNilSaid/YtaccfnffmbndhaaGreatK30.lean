/- The reference's Open. slices.Equal at []int. The reference's rule and net; a state turned back. The reference's Gradient of a run. The reference's Train. States turned back. The reference's SameAll. No condition. -/
import Derived.Test.YtaccfnffmbndhaaGreatK29
import Derived.Test.YtaccfnffmbndhaaGreatProg
import Derived.Test.YtaccfnffmbndhaaGreatK01
import Derived.BigQuiet
import Derived.Deep.QuietTactic
import Derived.Test.YtaccfnffmbndhaaGreatK16
import Derived.Test.YtaccfnffmbndhaaGreatK12
import Derived.Test.YtaccfnffmbndhaaGreatK28
import Derived.Test.YtaccfnffmbndhaaGreatK17
import Derived.IntWalk
import Derived.Test.YtaccfnffmbndhaaGreatK04
import Derived.Test.YtaccfnffmbndhaaGreatK11
import Derived.Deep.RegionHeld3
import Derived.Test.YtaccfnffmbndhaaGreatK21
import Derived.Test.YtaccfnffmbndhaaGreatK13
import Derived.Test.YtaccfnffmbndhaaGreatK14
import Derived.Test.YtaccfnffmbndhaaGreatK03
import Derived.Test.YtaccfnffmbndhaaGreatK22
set_option linter.unusedSimpArgs false
set_option linter.unusedVariables false
namespace Go.Proofs.YtaccfnffmbndhaaGreat
open Go.RowKit
theorem rt_it : RowTy Tryz.prog 136 12 := ⟨⟨_, Tryz.underlying136, rfl⟩, by kernel_rfl⟩
theorem rt_it' (y : Itm) : RowTy Tryz.prog 136 (itCells y).length := by rw [it_len]; exact rt_it
theorem it_ones (y : Itm) : ∀ u ∈ itCells y, u.oneCell' = true := fun u hu => it_one [y] u (by simpa [itVals] using hu)
theorem it_range {w : World} {A : Option Addr} {l : List Itm} (h : Rd w A (itVals l)) {k : Nat} {y : Itm} (hy : l[k]? = some y) : ∃ b o, A = some ⟨b, o, none⟩ ∧ w.rangeAt b (o + k * 12) (itCells y) := by
  obtain ⟨b, o, hA, hc⟩ := it_cell h hy
  refine ⟨b, o, hA, fun j v hv => ?_⟩
  have hj := (List.getElem?_eq_some_iff.1 hv).1
  rw [it_len] at hj
  rw [Nat.add_assoc, hc j hj, hv]
set_option maxRecDepth 100000 in
set_option maxHeartbeats 4000000 in
theorem ropen_any {vs : Array Value} {i : Inp} {x : Nat} {m : Mst} (w : World) (h : RMach w vs i x m) (hs : SmIn i) (hdn : doneN i x m ≤ (allL i x).length) :
    Calls Tryz.prog 58 #[.agg vs] w fun e w' => ∃ v, e = .returned v ∧ w'.ownsRow w.heap.size 3 1 v (opnN (allL i x) (doneN i x m) (plnI i).buks.length).length (nums .i64 (intsN (opnN (allL i x) (doneN i x m) (plnI i).buks.length))) ∧ Below w.heap.size w w' := by
  obtain ⟨A, c, D, cd, T, ct, R, cr, PA, pc, MA, mc, GA, gc, SA, sc, IA, ic, rfl, hI, hP, hM, hG, hR, hIt, hl⟩ := h
  have hc := hs.g.c
  have ew : (((plnI i).W : Nat) : Int) = i.cfg.workers := by have := hc.w; simp only [plnI]; omega
  have eu : (((plnI i).bu : Nat) : Int) = i.cfg.bucket := by have := hc.bu; simp only [plnI]; omega
  have ec : (((plnI i).ck : Nat) : Int) = i.cfg.chunk := by have := hc.ch; simp only [plnI]; omega
  have en : (plnI i).n = i.start.length := rfl
  have hal : (allL i x).length ≤ 48000000 := allN_le hs x (Nat.le_refl _)
  have hnb := hs.ok.buks
  have hplan := fun w' => rplan21_any A i.cfg.sizes.length c i.cfg.shift i.cfg.rate i.cfg.mom i.cfg.workers i.cfg.batch i.cfg.micros i.cfg.steps i.cfg.bucket i.cfg.chunk i.cfg.window i.cfg.cap D i.data.length cd T i.start.length ct R i.draws.length cr w'
  have hbuk := fun w' => rbuk_any (plnI i) (.slice A i.cfg.sizes.length c) (.int .i64 i.cfg.shift) (.int .i64 i.cfg.rate) (.int .i64 i.cfg.mom) (.int .i64 i.cfg.batch) (.int .i64 i.cfg.micros) (.int .i64 i.cfg.steps) (.int .i64 i.cfg.window) (.int .i64 i.cfg.cap) w' hs.ok (by have := hc.bu; simp only [plnI]; omega)
  simp only [ew, eu, ec, en] at hbuk
  obtain ⟨nb, hnb'⟩ : ∃ nb, (plnI i).buks.length = nb := ⟨_, rfl⟩
  obtain ⟨dn, hdn'⟩ : ∃ dn, doneN i x m = dn := ⟨_, rfl⟩
  obtain ⟨its, hits⟩ : ∃ its, allL i x = its := ⟨_, rfl⟩
  rw [hnb'] at hbuk hnb ⊢
  rw [hits] at hdn hIt hal ⊢
  rw [hdn'] at hdn ⊢
  obtain ⟨W0, hW0⟩ : ∃ W0, w.alloc (.cells #[.slice A i.cfg.sizes.length c, .int .i64 i.cfg.shift, .int .i64 i.cfg.rate, .int .i64 i.cfg.mom, .int .i64 i.cfg.workers, .int .i64 i.cfg.batch, .int .i64 i.cfg.micros, .int .i64 i.cfg.steps, .int .i64 i.cfg.bucket, .int .i64 i.cfg.chunk, .int .i64 i.cfg.window, .int .i64 i.cfg.cap, .slice D i.data.length cd, .slice T i.start.length ct, .slice R i.draws.length cr, .int .i64 (x : Nat), .slice PA i.start.length pc, .slice MA i.start.length mc, .slice GA i.start.length gc, .slice SA m.rc.length sc, .slice IA its.length ic, .int .i64 (dn : Nat)] 43) = W0 := ⟨_, rfl⟩
  have g0 : W0.heap[w.heap.size]? = some (.cells #[.slice A i.cfg.sizes.length c, .int .i64 i.cfg.shift, .int .i64 i.cfg.rate, .int .i64 i.cfg.mom, .int .i64 i.cfg.workers, .int .i64 i.cfg.batch, .int .i64 i.cfg.micros, .int .i64 i.cfg.steps, .int .i64 i.cfg.bucket, .int .i64 i.cfg.chunk, .int .i64 i.cfg.window, .int .i64 i.cfg.cap, .slice D i.data.length cd, .slice T i.start.length ct, .slice R i.draws.length cr, .int .i64 (x : Nat), .slice PA i.start.length pc, .slice MA i.start.length mc, .slice GA i.start.length gc, .slice SA m.rc.length sc, .slice IA its.length ic, .int .i64 (dn : Nat)] 43 (0, 0)) := by rw [← hW0]; exact heap_alloc_new w _
  have k0 : Below w.heap.size w W0 := by rw [← hW0]; exact (br w).alloc (Nat.le_refl _) _
  have t20 : ∀ w', Below W0.heap.size W0 w' → w'.cell? ⟨w.heap.size, 20, none⟩ = some (.slice IA its.length ic) := fun w' q => cell_of_row w' w.heap.size 20 _ _ _ (sb g0 w' q)
  have t21 : ∀ w', Below W0.heap.size W0 w' → w'.cell? ⟨w.heap.size, 21, none⟩ = some (.int .i64 (dn : Nat)) := fun w' q => cell_of_row w' w.heap.size 21 _ _ _ (sb g0 w' q)
  have tl := sl g0
  have HW0 := Lib.hid hW0; have G0 := Lib.hid g0; have K0 := Lib.hid k0; have Hplan := Lib.hid hplan; have Hbuk := Lib.hid hbuk; have HIt := Lib.hid (hIt.below k0); have Hnb := Lib.hid hnb; have Hal := Lib.hid hal
  clear hW0 g0 k0 hplan hbuk hI hP hM hG hR hIt hl ew eu ec en hs hc hnb' hdn' hits hnb hal
  go_enter Tryz.func58, Tryz.ntmps58
  go_wp2_with fail
  rw [HW0.out]
  go_loopw [3, 4] (fun y3 y4 wr => ∃ j : Nat, j ≤ nb ∧ y4 = .int .i64 j ∧ wr.ownsRow W0.heap.size 3 1 y3 (opnN its dn j).length (nums .i64 (intsN (opnN its dn j))) ∧ Below W0.heap.size W0 wr) (fun _ y _ => nb - (intOf y).toNat)
  case atStart => exact ⟨0, Nat.zero_le _, rfl, by rw [show opnN its dn 0 = [] by simp [opnN]]; exact World.ownsRow_nil _ _ _ _, br W0⟩
  case round =>
    obtain ⟨j, hj, rfl, ho, q⟩ := hrel
    have Ho := Lib.hid ho
    clear ho
    go_wp2_with (refine wpl_load (inpVals A c D cd T ct R cr i) (sb G0.out _ q) rt_inp rfl rfl rfl rfl ?_)
    refine (Hplan.out _).mono ?_
    rintro e w1 ⟨rfl, k1⟩
    go_wp2_with fail
    refine (Hbuk.out w1).mono ?_
    rintro e w2 ⟨v, rfl, ob, k2⟩
    obtain ⟨BA, bc, rfl, _⟩ := own_form ob
    have q2 := (q.trans (k1.mono q.size)).trans (k2.mono (Nat.le_trans q.size k1.size))
    have Ho2 := Lib.hid (own_below (own_below Ho.out k1) k2)
    clear ob k1 k2 q
    by_cases hlt : j < nb
    · have hji : (j : Int) < nb := by omega
      have hw1 : IntKind.i64.wrap ((j : Int) + 1) = ((j + 1 : Nat) : Int) := by have := Hnb.out; rw [IntWalk.i64_in _ (by omega)]; push_cast; rfl
      go_wp2_with fail
      go_loopw [5, 6] (fun y5 y6 wr => ∃ k : Nat, k ≤ dn ∧ y6 = .int .i64 k ∧ y5 = .bool (isOp its k j) ∧ Below w2.heap.size w2 wr) (fun _ y _ => dn - (intOf y).toNat)
      case atStart => exact ⟨0, Nat.zero_le _, rfl, rfl, br w2⟩
      case round =>
        obtain ⟨k, hk, rfl, rfl, q3⟩ := hrel
        have q4 := q2.trans (q3.mono q2.size)
        by_cases hkl : k < dn
        · have hki : (k : Int) < dn := by omega
          have hkn : (k : Int) < its.length := by omega
          have hk0 : ¬ (k : Int) < 0 := by omega
          have hwk : IntKind.i64.wrap ((k : Int) + 1) = ((k + 1 : Nat) : Int) := by have := Hal.out; rw [IntWalk.i64_in _ (by omega)]; push_cast; rfl
          obtain ⟨y, hy⟩ : ∃ y, its[k]? = some y := ⟨_, List.getElem?_eq_getElem (by omega)⟩
          obtain ⟨ib, io, hA, hr5⟩ := it_range (HIt.out.below q4) hy
          subst hA
          have HS5 := Lib.hid (isOp_succ hy j)
          have Q3 := Lib.hid q3
          clear hy
          by_cases h2 : y.kind = 2
          · have hz2 : (y.kind : Int) = 2 := by omega
            have H2 := Lib.hid h2
            clear h2
            by_cases hn : y.n = j
            · have hzn : (y.n : Int) = j := by omega
              have HN := Lib.hid hn
              clear hn
              go_wp2_with (first | (refine wpl_rng hr5 (rt_it' y) rfl rfl rfl ?_) | (refine wpl_store (heap_alloc_new _ _) (rt_it' y) rfl rfl rfl rfl (by simp) (by simp [it_len]) (List.all_eq_true.2 (it_ones y)) ?_; intro w5 e5 k5; have c0 : w5.cell? ⟨wr.heap.size, 0, none⟩ = some (.int .i64 (y.kind : Nat)) := cell_of_row w5 wr.heap.size 0 _ _ _ e5; have c2 : w5.cell? ⟨wr.heap.size, 2, none⟩ = some (.int .i64 (y.n : Nat)) := cell_of_row w5 wr.heap.size 2 _ _ _ e5; have K5 := Lib.hid ((Q3.out.alloc Q3.out.size _).trans (k5.toBelow (Q3.out.alloc Q3.out.size _).size (fun j hj => by rw [hj]; exact Q3.out.size))); clear e5 k5)); go_roundw; (case rel => exact ⟨k + 1, by omega, by go_num, by rw [HS5.out]; simp [opStep, H2.out, HN.out], K5.out⟩); (case measure => simp [intOf]; omega)
            · have hzn : ¬ (y.n : Int) = j := by omega
              have HN := Lib.hid hn
              clear hn
              go_wp2_with (first | (refine wpl_rng hr5 (rt_it' y) rfl rfl rfl ?_) | (refine wpl_store (heap_alloc_new _ _) (rt_it' y) rfl rfl rfl rfl (by simp) (by simp [it_len]) (List.all_eq_true.2 (it_ones y)) ?_; intro w5 e5 k5; have c0 : w5.cell? ⟨wr.heap.size, 0, none⟩ = some (.int .i64 (y.kind : Nat)) := cell_of_row w5 wr.heap.size 0 _ _ _ e5; have c2 : w5.cell? ⟨wr.heap.size, 2, none⟩ = some (.int .i64 (y.n : Nat)) := cell_of_row w5 wr.heap.size 2 _ _ _ e5; have K5 := Lib.hid ((Q3.out.alloc Q3.out.size _).trans (k5.toBelow (Q3.out.alloc Q3.out.size _).size (fun j hj => by rw [hj]; exact Q3.out.size))); clear e5 k5)); go_roundw; (case rel => exact ⟨k + 1, by omega, by go_num, by rw [HS5.out]; simp [opStep, H2.out, HN.out], K5.out⟩); (case measure => simp [intOf]; omega)
          · by_cases h5 : y.kind = 5
            · have hz2 : (y.kind : Int) = 5 := by omega
              have H2 := Lib.hid h5
              clear h2 h5
              by_cases hn : y.n = j
              · have hzn : (y.n : Int) = j := by omega
                have HN := Lib.hid hn
                clear hn
                go_wp2_with (first | (refine wpl_rng hr5 (rt_it' y) rfl rfl rfl ?_) | (refine wpl_store (heap_alloc_new _ _) (rt_it' y) rfl rfl rfl rfl (by simp) (by simp [it_len]) (List.all_eq_true.2 (it_ones y)) ?_; intro w5 e5 k5; have c0 : w5.cell? ⟨wr.heap.size, 0, none⟩ = some (.int .i64 (y.kind : Nat)) := cell_of_row w5 wr.heap.size 0 _ _ _ e5; have c2 : w5.cell? ⟨wr.heap.size, 2, none⟩ = some (.int .i64 (y.n : Nat)) := cell_of_row w5 wr.heap.size 2 _ _ _ e5; have K5 := Lib.hid ((Q3.out.alloc Q3.out.size _).trans (k5.toBelow (Q3.out.alloc Q3.out.size _).size (fun j hj => by rw [hj]; exact Q3.out.size))); clear e5 k5)); go_roundw; (case rel => exact ⟨k + 1, by omega, by go_num, by rw [HS5.out]; simp [opStep, H2.out, HN.out], K5.out⟩); (case measure => simp [intOf]; omega)
              · have hzn : ¬ (y.n : Int) = j := by omega
                have HN := Lib.hid hn
                clear hn
                go_wp2_with (first | (refine wpl_rng hr5 (rt_it' y) rfl rfl rfl ?_) | (refine wpl_store (heap_alloc_new _ _) (rt_it' y) rfl rfl rfl rfl (by simp) (by simp [it_len]) (List.all_eq_true.2 (it_ones y)) ?_; intro w5 e5 k5; have c0 : w5.cell? ⟨wr.heap.size, 0, none⟩ = some (.int .i64 (y.kind : Nat)) := cell_of_row w5 wr.heap.size 0 _ _ _ e5; have c2 : w5.cell? ⟨wr.heap.size, 2, none⟩ = some (.int .i64 (y.n : Nat)) := cell_of_row w5 wr.heap.size 2 _ _ _ e5; have K5 := Lib.hid ((Q3.out.alloc Q3.out.size _).trans (k5.toBelow (Q3.out.alloc Q3.out.size _).size (fun j hj => by rw [hj]; exact Q3.out.size))); clear e5 k5)); go_roundw; (case rel => exact ⟨k + 1, by omega, by go_num, by rw [HS5.out]; simp [opStep, H2.out, HN.out], K5.out⟩); (case measure => simp [intOf]; omega)
            · have hz2 : ¬ (y.kind : Int) = 2 := by omega
              have hz5 : ¬ (y.kind : Int) = 5 := by omega
              have H2 := Lib.hid h2
              have HN := Lib.hid h5
              clear h2 h5
              go_wp2_with (first | (refine wpl_rng hr5 (rt_it' y) rfl rfl rfl ?_) | (refine wpl_store (heap_alloc_new _ _) (rt_it' y) rfl rfl rfl rfl (by simp) (by simp [it_len]) (List.all_eq_true.2 (it_ones y)) ?_; intro w5 e5 k5; have c0 : w5.cell? ⟨wr.heap.size, 0, none⟩ = some (.int .i64 (y.kind : Nat)) := cell_of_row w5 wr.heap.size 0 _ _ _ e5; have c2 : w5.cell? ⟨wr.heap.size, 2, none⟩ = some (.int .i64 (y.n : Nat)) := cell_of_row w5 wr.heap.size 2 _ _ _ e5; have K5 := Lib.hid ((Q3.out.alloc Q3.out.size _).trans (k5.toBelow (Q3.out.alloc Q3.out.size _).size (fun j hj => by rw [hj]; exact Q3.out.size))); clear e5 k5)); go_roundw; (case rel => exact ⟨k + 1, by omega, by go_num, by rw [HS5.out]; simp [opStep, H2.out, HN.out], K5.out⟩); (case measure => simp [intOf]; omega)
        · obtain rfl : k = dn := by omega
          have hki : ¬ (k : Int) < k := by omega
          have Ho3 := Lib.hid (own_below Ho2.out q3); have Q3 := Lib.hid q3
          have hle := opnN_le its k j
          cases hb : isOp its k j with
          | true =>
            have HO := Lib.hid hb; have Q4 := Lib.hid q4
            clear hb q2 q3
            go_wp2_with (at_builtin; refine wpList_push et_ints _ rfl (.tmp 47) (.tmp 49) rfl W0.heap.size _ _ _ rfl Ho3.out [.int .i64 (j : Nat)] rfl rfl (by simp [Value.oneCell']) (by have := Hnb.out; omega) (by have := Hnb.out; unfold maxLen; omega) Q4.out.size ?_)
            intro g6 c6 w6 ho6 hb6 hg6
            have HO6 := Lib.hid ho6; have HB6 := Lib.hid (Q4.out.trans hb6)
            clear ho6 hb6 hg6 q4
            go_wp2_with fail
            go_roundw
            case rel => exact ⟨j + 1, by omega, by go_num, by rw [opnN_succ, HO.out]; simpa [intsN, nums] using HO6.out, HB6.out⟩
            case measure => simp [intOf]; omega
          | false =>
            have HO := Lib.hid hb; have Q4 := Lib.hid q4
            clear hb q2 q3
            go_wp2_with fail
            go_roundw
            case rel => exact ⟨j + 1, by omega, by go_num, by rw [opnN_succ, HO.out]; simpa using Ho3.out, Q4.out⟩
            case measure => simp [intOf]; omega
    · obtain rfl : j = nb := by omega
      have hji : ¬ (j : Int) < j := by omega
      have Q2 := Lib.hid q2
      clear q2
      go_wp2_with fail
      go_ret
      exact ⟨_, rfl, own_base Ho2.out K0.out.size, K0.out.trans (Q2.out.mono K0.out.size)⟩
end Go.Proofs.YtaccfnffmbndhaaGreat
namespace Go.Proofs.YtaccfnffmbndhaaGreat
open Go.RowKit
theorem equal_any (A1 A2 : Option Addr) (l1 l2 : List Int) (c1 c2 : Nat) (w : World) (h1 : Rd w A1 (nums .i64 l1)) (h2 : Rd w A2 (nums .i64 l2)) (hl : l1.length ≤ 140737488355328) :
    Calls Tryz.prog 57 #[.slice A1 l1.length c1, .slice A2 l2.length c2] w fun e w' => e = .returned (.bool (decide (l1 = l2))) ∧ ∃ n, w' = w.drewN n := by
  by_cases hln : l1.length = l2.length
  · have hlb : ((l1.length : Int) != (l2.length : Int)) = false := by simp [hln]
    go_enter Tryz.func57, Tryz.ntmps57
    go_wp2
    go_loopw [5, 13] (fun _ i wr => ∃ k : Nat, k ≤ l1.length ∧ i = .int .i64 k ∧ l1.take k = l2.take k ∧ ∃ n, wr = w.drewN n) (fun _ i _ => l1.length - (intOf i).toNat)
    case atStart => exact ⟨0, Nat.zero_le _, rfl, rfl, 0, rfl⟩
    case round =>
      obtain ⟨k, hk, rfl, hpre, n, rfl⟩ := hrel
      by_cases hlt : k < l2.length
      · obtain ⟨b1, o1, rfl, hc1⟩ := h1.num (k := k) (by omega)
        obtain ⟨b2, o2, rfl, hc2⟩ := h2.num (k := k) (by omega)
        go_wp2
        go_quiet (fail)
        go_wp2
        · have hx : (nth l1 k != nth l2 k) = true := by assumption
          go_ret
          refine ⟨ret_bool ?_, _, World.drewN_drewN _ _ _⟩
          symm; rw [decide_eq_false_iff_not]
          rintro rfl
          simp at hx
        · have hx : (nth l1 k != nth l2 k) = false := by assumption
          go_roundw
          case rel => exact ⟨k+1, by omega, by go_num, take_eq_succ (by omega) (by omega) hpre (by simpa using hx), _, rfl⟩
          case measure => simp [intOf]; omega
      · go_wp2
        go_ret
        refine ⟨ret_bool ?_, n, rfl⟩
        symm; rw [decide_eq_true_iff]
        obtain rfl : k = l1.length := by omega
        exact eq_of_take hln hpre
  · have hlb : ((l1.length : Int) != (l2.length : Int)) = true := by simp; omega
    go_enter Tryz.func57, Tryz.ntmps57
    go_wp2
    go_ret
    refine ⟨ret_bool ?_, 0, rfl⟩
    symm; rw [decide_eq_false_iff_not]
    rintro rfl
    exact hln rfl
end Go.Proofs.YtaccfnffmbndhaaGreat
namespace Go.Proofs.YtaccfnffmbndhaaGreat
open Go.RowKit
set_option maxRecDepth 100000 in
theorem back_any (A B : Option Addr) (n c m d : Nat) (w : World) :
    Calls Tryz.prog 56 #[.agg #[.slice A n c, .slice B m d]] w fun e w' => e = .returned (.agg #[.slice A n c, .slice B m d]) ∧ Below w.heap.size w w' := by
  go_enter Tryz.func56, Tryz.ntmps56
  go_wp2_with fail
  have e3 := heap_alloc_new (w.alloc (.cells #[.slice A n c, .slice B m d] 68)) (.cells #[.slice A n c, .slice B m d] 39)
  rw [show (w.alloc (.cells #[.slice A n c, .slice B m d] 68)).heap.size = w.heap.size + 1 by simp] at e3
  have hB : Below w.heap.size w ((w.alloc (.cells #[.slice A n c, .slice B m d] 68)).alloc (.cells #[.slice A n c, .slice B m d] 39)) := ((Below.refl _ w).alloc (Nat.le_refl _) _).alloc (by simp) _
  obtain ⟨W9, hW9⟩ : ∃ W9, W9 = (w.alloc (.cells #[.slice A n c, .slice B m d] 68)).alloc (.cells #[.slice A n c, .slice B m d] 39) := ⟨_, rfl⟩
  rw [← hW9] at e3 hB ⊢
  clear hW9
  obtain ⟨⟨r0, r1⟩, rf⟩ := bx2 e3
  exact bodyPost_ret (v := .agg #[.slice A n c, .slice B m d]) (by simp [results, Tryz.results56, go_sem, r0, r1]) rfl ⟨rfl, hB⟩
end Go.Proofs.YtaccfnffmbndhaaGreat
namespace Go.Proofs.YtaccfnffmbndhaaGreat
open Go.RowKit
theorem nx_m2 {n k : Nat} (h : k < n) : n - (k + 1) < n - k := by omega
end Go.Proofs.YtaccfnffmbndhaaGreat
namespace Go.Proofs.YtaccfnffmbndhaaGreat
open Go.RowKit
theorem et_rsts : ElemT Tryz.prog 40 39 (.agg #[.slice none 0 0, .slice none 0 0]) 2 48 := ⟨Tryz.underlying40, info_parts (by kernel_rfl), rfl, by decide⟩
end Go.Proofs.YtaccfnffmbndhaaGreat
namespace Go.Proofs.YtaccfnffmbndhaaGreat
open Go.RowKit
def BackS (w wr : World) (l : List Ex) (k : Nat) (v : Value) : Prop := ∃ rows, wr.ownsRow w.heap.size 39 2 v k (List.flatten rows) ∧ rows.length = k ∧ (∀ r ∈ rows, r.length = 2) ∧ (∀ j x, j < k → l[j]? = some x → rEx w (rowOf rows j) x) ∧ Below w.heap.size w wr
theorem BackS.push {w w3 w6 : World} {l : List Ex} {k : Nat} {v' u1 u2 : Value} {x : Ex} {rows : List (List Value)} (h2 : rows.length = k) (h3 : ∀ r ∈ rows, r.length = 2) (h4 : ∀ j x, j < k → l[j]? = some x → rEx w (rowOf rows j) x) (h5 : Below w.heap.size w w3)
    (hx : l[k]? = some x) (hu : rEx w [u1, u2] x) (ho : w6.ownsRow w.heap.size 39 2 v' (k + 1) (List.flatten rows ++ [u1, u2])) (hb : Below w.heap.size w3 w6) : BackS w w6 l (k + 1) v' := by
  refine ⟨rows ++ [[u1, u2]], by rw [List.flatten_append, List.flatten_cons, List.flatten_nil, List.append_nil]; exact ho, by simp [h2], ?_, ?_, h5.trans hb⟩
  · intro r hr
    rcases List.mem_append.1 hr with hr | hr
    · exact h3 r hr
    · rw [List.mem_singleton.1 hr]; rfl
  · intro j y hj hy
    rcases Nat.lt_or_ge j k with h | h
    · have e : rowOf (rows ++ [[u1, u2]]) j = rowOf rows j := by simp [rowOf, List.getElem?_append_left (show j < rows.length by omega)]
      rw [e]; exact h4 j y h hy
    · obtain rfl : j = k := by omega
      rw [hx] at hy; injection hy with hy; subst hy
      have e : rowOf (rows ++ [[u1, u2]]) j = [u1, u2] := by rw [← h2]; simp [rowOf]
      rw [e]; exact hu
theorem BackS.rd {w wr : World} {l : List Ex} {n c : Nat} {A : Option Addr} (h : BackS w wr l n (.slice A n c)) (hn : l.length = n) : SlRd rEx 2 wr A l := by
  obtain ⟨rows, h1, h2, h3, h4, h5⟩ := h
  exact ⟨rows, Rd.own h1, by omega, h3, fun j x hx => stays_ex h5 (h4 j x (by rw [← hn]; exact (List.getElem?_eq_some_iff.1 hx).1) hx)⟩
set_option maxRecDepth 100000 in
set_option maxHeartbeats 1000000 in
theorem backs_any (A : Option Addr) (l : List Ex) (c : Nat) (w : World) (h : SlRd rEx 2 w A l) (hl : l.length ≤ 1048577) :
    Calls Tryz.prog 30 #[.slice A l.length c] w fun e w' => ∃ A' c', e = .returned (.slice A' l.length c') ∧ SlRd rEx 2 w' A' l ∧ Below w.heap.size w w' := by
  obtain ⟨n, hn⟩ : ∃ n, l.length = n := ⟨_, rfl⟩
  rw [hn] at hl ⊢
  have H := Lib.hid h; have Hn := Lib.hid hn; clear h hn
  go_enter Tryz.func30, Tryz.ntmps30
  go_wp2_with fail
  go_loopw [3, 8] (fun v i wr => ∃ k : Nat, k ≤ n ∧ i = .int .i64 k ∧ BackS w wr l k v) (fun _ i _ => n - (intOf i).toNat)
  case atStart => exact ⟨0, Nat.zero_le _, rfl, [], World.ownsRow_nil _ _ _ _, rfl, by simp, fun j x hj => by omega, Below.refl _ _⟩
  case round =>
    obtain ⟨k, hk, rfl, rows, h1, h2, h3, h4, h5⟩ := hrel
    obtain ⟨Al, cl, rfl, _⟩ := own_form h1
    have R1 := Lib.hid h1; have R2 := Lib.hid h2; have R3 := Lib.hid h3; have R4 := Lib.hid h4; have R5 := Lib.hid h5
    have hrs := h5.size
    clear h1 h2 h3 h4 h5
    by_cases hlt : k < n
    · have hlti : (k : Int) < n := by omega
      obtain ⟨x, hx⟩ : ∃ x, l[k]? = some x := ⟨_, List.getElem?_eq_getElem (by rw [Hn.out]; exact hlt)⟩
      obtain ⟨b, o, A1, c1, A2, c2, rfl, hbl, p1, p2, r1, r2⟩ := ex_cells H.out hx
      have q1 := (R5.out.cell (p := ⟨b, o + k * 2, none⟩) hbl).trans p1
      have q2 := (R5.out.cell (p := ⟨b, o + k * 2 + 1, none⟩) hbl).trans p2
      have hu : rEx w [.slice A1 x.1.length c1, .slice A2 x.2.length c2] x := ⟨_, _, _, _, rfl, r1, r2⟩
      obtain ⟨n1, hn1⟩ : ∃ n1, x.1.length = n1 := ⟨_, rfl⟩
      obtain ⟨n2, hn2⟩ : ∃ n2, x.2.length = n2 := ⟨_, rfl⟩
      rw [hn1, hn2] at hu
      rw [hn1] at q1
      rw [hn2] at q2
      have Hu := Lib.hid hu; have Hx := Lib.hid hx
      have hbw : b < wr.heap.size := Nat.lt_of_lt_of_le hbl hrs
      clear hu hx hn1 hn2 r1 r2 p1 p2
      go_wp2_with fail
      refine (back_any A1 A2 n1 c1 n2 c2 _).mono ?_
      rintro e w3 ⟨rfl, hb3⟩
      have hb3' : Below w.heap.size w w3 := (R5.out.alloc hrs _).trans (hb3.mono (by simp; omega))
      have ho3 := own_below (R1.out.alloc _) hb3
      have hz3 := hb3'.size
      have HB3 := Lib.hid hb3'; have HO3 := Lib.hid ho3
      clear hb3 hb3' ho3 q1 q2
      go_wp2_with (at_builtin; refine wpList_push et_rsts _ rfl (.tmp 12) (.tmp 15) rfl w.heap.size (.slice Al k cl) k _ rfl HO3.out [.slice A1 n1 c1, .slice A2 n2 c2] rfl rfl (by simp [Value.oneCell']) (by omega) (by unfold maxLen; omega) hz3 ?_)
      intro g6 c6 w6 ho6 hb6 hg6
      have hM6 := BackS.push R2.out R3.out R4.out HB3.out Hx.out Hu.out ho6 hb6
      have HM6 := Lib.hid hM6
      clear ho6 hb6 hg6 hM6
      go_wp2_with fail
      go_roundw
      case rel => exact ⟨k + 1, hlt, by go_num, HM6.out⟩
      case measure => exact nx_m2 hlt
    · obtain rfl : n = k := by omega
      have hfin : SlRd rEx 2 wr Al l := BackS.rd ⟨rows, R1.out, R2.out, R3.out, R4.out, R5.out⟩ Hn.out
      have HF := Lib.hid hfin; clear hfin
      go_wp2_with fail
      go_ret
      exact ⟨_, _, rfl, HF.out, R5.out⟩
end Go.Proofs.YtaccfnffmbndhaaGreat
namespace Go.Proofs.YtaccfnffmbndhaaGreat
open Go.RowKit
set_option maxRecDepth 100000 in
set_option maxHeartbeats 1000000 in
theorem stall_any (A1 A2 : Option Addr) (l1 l2 : List Ex) (c1 c2 : Nat) (w : World) (h1 : SlRd rEx 2 w A1 l1) (h2 : SlRd rEx 2 w A2 l2) (hl1 : l1.length ≤ 1048577) (hl2 : l2.length ≤ 1048577) :
    Calls Tryz.prog 29 #[.slice A1 l1.length c1, .slice A2 l2.length c2] w fun e w' => e = .returned (.bool (decide (l1 = l2))) ∧ Below w.heap.size w w' := by
  obtain ⟨n, hn⟩ : ∃ n, l1.length = n := ⟨_, rfl⟩
  obtain ⟨m, hm⟩ : ∃ m, l2.length = m := ⟨_, rfl⟩
  obtain ⟨b, hb⟩ : ∃ b, decide (l1 = l2) = b := ⟨_, rfl⟩
  rw [hn] at hl1 ⊢
  rw [hm] at hl2 ⊢
  rw [hb]
  have H1 := Lib.hid h1; have H2 := Lib.hid h2; have Hn := Lib.hid hn; have Hm := Lib.hid hm; have Hb := Lib.hid hb
  clear h1 h2 hn hm hb
  by_cases hnm : n ≠ m
  · have hq : ((n : Int) != (m : Int)) = true := by rw [bne_iff_ne]; omega
    have hbf : b = false := by
      rw [← Hb.out]; refine decide_eq_false fun e => hnm ?_
      rw [← Hn.out, ← Hm.out, e]
    go_enter Tryz.func29, Tryz.ntmps29
    go_wp2_with fail
    go_ret
    exact ⟨by rw [hbf]; rfl, Below.refl _ _⟩
  obtain rfl : n = m := by omega
  clear hnm
  go_enter Tryz.func29, Tryz.ntmps29
  go_wp2_with fail
  go_loopw [5] (fun i wr => ∃ k : Nat, k ≤ n ∧ i = .int .i64 k ∧ Hid (∀ j, j < k → l1[j]? = l2[j]?) ∧ Below w.heap.size w wr) (fun i _ => n - (intOf i).toNat)
  case atStart => exact ⟨0, Nat.zero_le _, rfl, Lib.hid fun j hj => by omega, Below.refl _ _⟩
  case round =>
    obtain ⟨k, hk, rfl, Hall, hbw⟩ := hrel
    have HB := Lib.hid hbw; clear hbw
    by_cases hlt : k < n
    · have hlti : (k : Int) < n := by omega
      obtain ⟨x, hx⟩ : ∃ x, l1[k]? = some x := ⟨_, List.getElem?_eq_getElem (by rw [Hn.out]; exact hlt)⟩
      obtain ⟨y, hy⟩ : ∃ y, l2[k]? = some y := ⟨_, List.getElem?_eq_getElem (by rw [Hm.out]; exact hlt)⟩
      have g1 : SlRd rEx 2 wr A1 l1 := H1.out.below stays_ex HB.out
      have g2 : SlRd rEx 2 wr A2 l2 := H2.out.below stays_ex HB.out
      obtain ⟨b1, o1, P1, d1, Q1, f1, rfl, hbl1, p1, p2, r1, r2⟩ := ex_cells g1 hx
      obtain ⟨b2, o2, P2, d2, Q2, f2, rfl, hbl2, q1, q2, s1, s2⟩ := ex_cells g2 hy
      have hcl := fun w' (k : Below wr.heap.size wr w') => stsame_any P1 Q1 P2 Q2 x.1 x.2 y.1 y.2 d1 f1 d2 f2 w' (r1.below k) (r2.below k) (s1.below k) (s2.below k)
      obtain ⟨eq, heq⟩ : ∃ eq, (decide (x.1 = y.1) && decide (x.2 = y.2)) = eq := ⟨_, rfl⟩
      have hxy : eq = true ↔ x = y := by
        rw [← heq, Bool.and_eq_true, decide_eq_true_eq, decide_eq_true_eq]
        exact ⟨fun h => Prod.ext h.1 h.2, fun h => by rw [h]; exact ⟨rfl, rfl⟩⟩
      obtain ⟨n1, hn1⟩ : ∃ n, x.1.length = n := ⟨_, rfl⟩
      obtain ⟨n2, hn2⟩ : ∃ n, x.2.length = n := ⟨_, rfl⟩
      obtain ⟨m1, hm1⟩ : ∃ n, y.1.length = n := ⟨_, rfl⟩
      obtain ⟨m2, hm2⟩ : ∃ n, y.2.length = n := ⟨_, rfl⟩
      rw [heq, hn1, hn2, hm1, hm2] at hcl
      rw [hn1] at p1
      rw [hn2] at p2
      rw [hm1] at q1
      rw [hm2] at q2
      have Hcl := Lib.hid hcl; have Hx := Lib.hid hx; have Hy := Lib.hid hy; have Hxy := Lib.hid hxy
      clear hcl hx hy hxy heq hn1 hn2 hm1 hm2 g1 g2 r1 r2 s1 s2
      go_wp2_with fail
      have hSw : (fun w' : World => w'.cell? ⟨b1, o1 + k * 2, none⟩ = some (.slice P1 n1 d1) ∧ w'.cell? ⟨b1, o1 + k * 2 + 1, none⟩ = some (.slice Q1 n2 f1) ∧ w'.cell? ⟨b2, o2 + k * 2, none⟩ = some (.slice P2 m1 d2) ∧ w'.cell? ⟨b2, o2 + k * 2 + 1, none⟩ = some (.slice Q2 m2 f2)) wr.drew := ⟨p1, p2, q1, q2⟩
      refine HA.g (fun w' : World => w'.cell? ⟨b1, o1 + k * 2, none⟩ = some (.slice P1 n1 d1) ∧ w'.cell? ⟨b1, o1 + k * 2 + 1, none⟩ = some (.slice Q1 n2 f1) ∧ w'.cell? ⟨b2, o2 + k * 2, none⟩ = some (.slice P2 m1 d2) ∧ w'.cell? ⟨b2, o2 + k * 2 + 1, none⟩ = some (.slice Q2 m2 f2)) ?_
      refine HA.t ?_ [0, 1, 2, 3, 4, 5, 6, 7] hSw ?_
      refine HA.o 8 (fun K hK => ?_)
      go_simp
      refine (Hcl.out _ ((Below.refl _ _).drew)).mono ?_
      rintro e w3 ⟨rfl, hb3⟩
      have hS3 := And.intro (cell_below hb3 hSw.1) (And.intro (cell_below hb3 hSw.2.1) (And.intro (cell_below hb3 hSw.2.2.1) (cell_below hb3 hSw.2.2.2)))
      have HB3 := Lib.hid (HB.out.trans (((Below.refl wr.heap.size wr).drew.trans hb3).mono HB.out.size))
      clear hb3 hSw
      dsimp only
      refine hK.out _ _ hS3 (fun hSw => ?_)
      clear hK K hS3
      refine HA.t ?_ [9] hSw ?_
      refine HA.d ?_
      clear hSw p1 p2 q1 q2
      rcases bool_ft eq with rfl | rfl
      · go_wp2_with fail
        go_ret
        have hbf : b = false := by
          rw [← Hb.out]; refine decide_eq_false fun e => ?_
          have h := Hx.out; rw [e, Hy.out] at h; injection h with h
          have := Hxy.out.2 h.symm; cases this
        exact ⟨by rw [hbf]; rfl, HB3.out⟩
      · have Hxe := Lib.hid (Hxy.out.1 rfl)
        go_wp2_with fail
        go_roundw
        case rel => exact ⟨k + 1, by omega, by go_num, Lib.hid (p := ∀ j, j < k + 1 → l1[j]? = l2[j]?) fun j hj => by
          rcases Nat.lt_or_ge j k with h | h
          · exact Hall.out j h
          · obtain rfl : j = k := by omega
            rw [Hx.out, Hy.out, Hxe.out], HB3.out⟩
        case measure => simp [intOf]; omega
    · obtain rfl : n = k := by omega
      have hbt : b = true := by
        rw [← Hb.out]; refine decide_eq_true (List.ext_getElem? fun j => ?_)
        rcases Nat.lt_or_ge j n with h | h
        · exact Hall.out j h
        · rw [List.getElem?_eq_none (by rw [Hn.out]; exact h), List.getElem?_eq_none (by rw [Hm.out]; exact h)]
      go_wp2_with fail
      go_ret
      exact ⟨by rw [hbt]; rfl, HB.out⟩
end Go.Proofs.YtaccfnffmbndhaaGreat
