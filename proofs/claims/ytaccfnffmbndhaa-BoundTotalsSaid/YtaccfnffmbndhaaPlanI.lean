/- The walk of plan.setting.items. -/
import Derived.Test.YtaccfnffmbndhaaPlanW
set_option linter.unusedSimpArgs false
set_option linter.unusedVariables false
namespace Go.Proofs.Ytaccfnffmbndhaa
open Go.RowKit

theorem blkR_in2 {n s : Nat} : ∀ r ∈ blkR n s, r.1 ≤ r.2 ∧ r.2 ≤ n := by
  intro r hr
  simp only [blkR, List.mem_map, List.mem_range] at hr
  obtain ⟨i, hi, rfl⟩ := hr
  have := cntQ_lt hi
  exact ⟨by simp only; omega, by simp only; omega⟩
theorem PlnOk.grp {p : Pln} (h : PlnOk p) {i : Nat} (hi : i < p.grps.length) : (rgAt p.grps i).1 ≤ (rgAt p.grps i).2 ∧ (rgAt p.grps i).2 ≤ p.buks.length := by
  have := blkR_in2 _ (List.getElem_mem hi)
  rwa [← rgAt_eq _ _ hi] at this
theorem PlnOk.grps {p : Pln} (h : PlnOk p) : p.grps.length ≤ 60 := by
  have := cntQ_len p.buks.length p.wi
  have := h.buks
  rw [Pln.grps, blkR_len]; omega
theorem groupL_le {p : Pln} (h : PlnOk p) (w st : Nat) (g : Rg) (hg : g.2 - g.1 ≤ 60) : (groupL p w st g).length ≤ 100920 := by
  unfold groupL
  rw [← roundsL_all]
  simp only [List.length_append, List.length_map, List.length_range']
  have h1 := roundsL_le (w := w) (st := st) (k := 2 * (p.W - 1)) (g := g) (M := 120) (p := p) (fun ph r j => h.round w st ph r j)
  have h2 := h.W8
  have h4 : 2 * (p.W - 1) * ((g.2 - g.1) * 120) ≤ 14 * (60 * 120) := Nat.mul_le_mul (by omega) (Nat.mul_le_mul hg (Nat.le_refl _))
  omega
/-- The items of the first groups. -/
def grpsL (p : Pln) (w st k : Nat) : List Itm := (List.range p.mi).map (fun a => (⟨1, st, a, none⟩ : Itm)) ++ (p.grps.take k).flatMap (groupL p w st)
theorem grpsL_succ {p : Pln} (w st : Nat) {k : Nat} (hk : k < p.grps.length) : grpsL p w st (k + 1) = grpsL p w st k ++ groupL p w st (rgAt p.grps k) := by
  unfold grpsL
  rw [List.take_succ_eq_append_getElem hk, ← rgAt_eq _ _ hk, List.flatMap_append, ← List.append_assoc]
  simp
theorem grpsL_le {p : Pln} (h : PlnOk p) (w st : Nat) {k : Nat} (hk : k ≤ p.grps.length) : (grpsL p w st k).length ≤ 20 + k * 100920 := by
  induction k with
  | zero => have := h.mi; simp [grpsL]; omega
  | succ k ih =>
    have h1 := h.grp (show k < p.grps.length by omega)
    have h2 := h.buks
    have := groupL_le h w st (rgAt p.grps k) (by omega)
    rw [grpsL_succ w st (by omega), List.length_append]
    have := ih (by omega)
    omega
def launL (st lo n : Nat) (kd : Nat) : List Itm := (List.range' lo n).map (fun j => (⟨kd, st, j, none⟩ : Itm))
theorem launL_succ (st lo n kd : Nat) : launL st lo (n + 1) kd = launL st lo n kd ++ [(⟨kd, st, lo + n, none⟩ : Itm)] := by simp [launL, List.range'_concat]
theorem launL_len (st lo n kd : Nat) : (launL st lo n kd).length = n := by simp [launL]
theorem groupL_eq (p : Pln) (w st lo hi : Nat) : groupL p w st (lo, hi) = launL st lo (hi - lo) 2 ++ roundsL p w st (lo, hi) (2 * (p.W - 1)) ++ launL st lo (hi - lo) 5 := by
  rw [roundsL_all]; rfl
theorem microL_succ (st k : Nat) : (List.range (k + 1)).map (fun a => (⟨1, st, a, none⟩ : Itm)) = (List.range k).map (fun a => (⟨1, st, a, none⟩ : Itm)) ++ [(⟨1, st, k, none⟩ : Itm)] := by simp [List.range_succ]
set_option maxRecDepth 100000 in
set_option maxHeartbeats 4000000 in
theorem items_any (p : Pln) (st x : Nat) (a0 a1 a2 a3 a5 a7 a8 a10 a11 : Value) (BA GA : Option Addr) (bc gc : Nat) (w : World)
    (hp : PlnOk p) (hx : x < p.W) (hBr : Rd w BA (rgVals p.buks)) (hGr : Rd w GA (rgVals p.grps)) (hBa : ∀ y, BA = some y → y.block < w.heap.size) (hGa : ∀ y, GA = some y → y.block < w.heap.size) :
    Calls Try.prog 21 #[.agg #[a0, a1, a2, a3, .int .i64 (p.W : Nat), a5, .int .i64 (p.mi : Nat), a7, a8, .int .i64 (p.ck : Nat), a10, a11, .slice BA p.buks.length bc, .slice GA p.grps.length gc], .int .i64 x, .int .i64 (st : Nat)] w fun e w' => ∃ v, e = .returned v ∧ w'.ownsRow w.heap.size 95 12 v (itemsL p x st).length (itVals (itemsL p x st)) ∧ Below w.heap.size w w' := by
  obtain ⟨W0, hW0⟩ : ∃ W0, (w.alloc (.cells #[a0, a1, a2, a3, .int .i64 (p.W : Nat), a5, .int .i64 (p.mi : Nat), a7, a8, .int .i64 (p.ck : Nat), a10, a11, .slice BA p.buks.length bc, .slice GA p.grps.length gc] 48)).alloc (.cells #[.int .i64 (st : Nat), .slice none 0 0] 75) = W0 := ⟨_, rfl⟩
  have g0 : W0.heap[w.heap.size]? = some (.cells #[a0, a1, a2, a3, .int .i64 (p.W : Nat), a5, .int .i64 (p.mi : Nat), a7, a8, .int .i64 (p.ck : Nat), a10, a11, .slice BA p.buks.length bc, .slice GA p.grps.length gc] 48 (0, 0)) := by
    rw [← hW0, Below.heap_alloc _ _ _ (by simp)]; exact heap_alloc_new w _
  have g1 : W0.heap[w.heap.size + 1]? = some (.cells #[.int .i64 (st : Nat), .slice none 0 0] 75 (0, 0)) := by
    rw [← hW0]; have := heap_alloc_new (w.alloc (.cells #[a0, a1, a2, a3, .int .i64 (p.W : Nat), a5, .int .i64 (p.mi : Nat), a7, a8, .int .i64 (p.ck : Nat), a10, a11, .slice BA p.buks.length bc, .slice GA p.grps.length gc] 48)) (.cells #[.int .i64 (st : Nat), .slice none 0 0] 75); simpa using this
  have hB0 : Below w.heap.size w W0 := by rw [← hW0]; exact ((br w).alloc (Nat.le_refl _) _).alloc (by simp) _
  have hl0 : LstAt W0 (w.heap.size + 1) (w.heap.size + 1) st (.slice none 0 0) [] := ⟨g1, World.ownsRow_nil _ _ _ _⟩
  have hs0 : w.heap.size + 1 + 1 = W0.heap.size := by rw [← hW0]; simp
  have hz : w.heap.size + 1 < W0.heap.size := by omega
  have kS := fun w' (q : Keep (fun j => j = w.heap.size + 1 ∨ (Value.slice none 0 0).ownBlock = some j) W0 w') => (q.block _ (lt_of_block g0) (fun e => e.elim (fun h => by omega) (fun h => by cases h))).trans g0
  have hBr0 : Rd W0 BA (rgVals p.buks) := hBr.below hB0
  have hGr0 : Rd W0 GA (rgVals p.grps) := hGr.below hB0
  have kB := fun w' (q : Keep (fun j => j = w.heap.size + 1 ∨ (Value.slice none 0 0).ownBlock = some j) W0 w') => q.rd hBr0 (fun y hy => by
    have := hBa y hy
    rintro (h | h)
    · omega
    · cases h)
  have kG := fun w' (q : Keep (fun j => j = w.heap.size + 1 ∨ (Value.slice none 0 0).ownBlock = some j) W0 w') => q.rd hGr0 (fun y hy => by
    have := hGa y hy
    rintro (h | h)
    · omega
    · cases h)
  have hgl := hp.grps; have hbl := hp.buks; have hmi := hp.mi
  have HW0 := Lib.hid hW0; have HB0 := Lib.hid hB0; have HL0 := Lib.hid hl0; have HS := Lib.hid kS; have HBk := Lib.hid kB; have HGk := Lib.hid kG; have Hs0 := Lib.hid hs0; have HBa := Lib.hid hBa
  have tS := fun w' (q : Below W0.heap.size W0 w') => bx14 (kS w' (Keep.below q))
  have q0 := br W0
  clear hW0 g0 g1 hB0 hl0 hBr hBr0 hGr hGr0 kS kB kG hs0 hBa hGa
  go_enter Try.func21, Try.ntmps21
  go_wp2_with fail
  rw [HW0.out]
  clear tS q0
  go_loopw [22] (fun y wr => ∃ k : Nat, k ≤ p.mi ∧ y = .int .i64 k ∧ ∃ v', LstAt wr (w.heap.size + 1) (w.heap.size + 1) st v' ((List.range k).map (fun a => (⟨1, st, a, none⟩ : Itm))) ∧ Apd (w.heap.size + 1) W0 (Value.slice none 0 0) wr v') (fun y _ => p.mi - (intOf y).toNat)
  case atStart => exact ⟨0, Nat.zero_le _, rfl, _, HL0.out, Apd.refl _ _ _⟩
  case round =>
    obtain ⟨k, hk, rfl, v1, l1, A1⟩ := hrel
    by_cases hlt : k < p.mi
    · have hki : (k : Int) < p.mi := by omega
      have hw1 : IntKind.i64.wrap ((k : Int) + 1) = ((k + 1 : Nat) : Int) := by rw [IntWalk.i64_in _ (by omega)]; push_cast; rfl
      have hc := ladd_none (w.heap.size + 1) (w.heap.size + 1) st k 1 1 rfl v1 _ wr l1 (by have := A1.1.size; have := Hs0.out; omega) (by simp; omega)
      have Hc := Lib.hid hc; have HA1 := Lib.hid A1
      clear hc A1 l1
      go_wp2_with fail
      refine Hc.out.mono ?_
      rintro e w5 ⟨rfl, v5, l5, A5⟩
      rw [← microL_succ] at l5
      have L5 := Lib.hid l5; have B5 := Lib.hid (HA1.out.trans A5)
      clear l5 A5
      go_wp2_with fail
      go_roundw
      case rel => exact ⟨k + 1, by omega, by go_num, v5, L5.out, B5.out⟩
      case measure => simp [intOf]; omega
    · obtain rfl : p.mi = k := by omega
      have hki : ¬ ((p.mi : Int) < p.mi) := by omega
      have tS := fun w' (q : Below wr.heap.size wr w') => bx14 (sb (HS.out wr A1.1) w' q)
      have q0 := br wr
      have HL1 := Lib.hid l1; have HA1 := Lib.hid A1
      clear l1 A1
      go_wp2_with fail
      clear tS q0
      go_loopw [33] (fun y wr => ∃ k : Nat, k ≤ p.grps.length ∧ y = .int .i64 k ∧ ∃ v', LstAt wr (w.heap.size + 1) (w.heap.size + 1) st v' (grpsL p x st k) ∧ Apd (w.heap.size + 1) W0 (Value.slice none 0 0) wr v') (fun y _ => p.grps.length - (intOf y).toNat)
      case atStart => exact ⟨0, Nat.zero_le _, rfl, _, by simpa [grpsL] using HL1.out, HA1.out⟩
      case round =>
        obtain ⟨k, hk, rfl, v2, l2, A2⟩ := hrel
        by_cases hlt : k < p.grps.length
        · have hki : (k : Int) < p.grps.length := by omega
          have hw0 : IntKind.i64.wrap ((k : Int) + 1) = ((k + 1 : Nat) : Int) := by rw [IntWalk.i64_in _ (by omega)]; push_cast; rfl
          obtain ⟨wi, rfl⟩ : ∃ wi : World, wi = wr := ⟨_, rfl⟩
          have hrv := rgVals_get hlt
          obtain ⟨bb, bo, rfl, cb0⟩ := HGk.out wi A2.1 _ _ hrv.1
          obtain ⟨bb', bo', e', cb1⟩ := HGk.out wi A2.1 _ _ hrv.2
          obtain ⟨rfl, rfl⟩ : bb' = bb ∧ bo' = bo := by simpa using e'.symm
          rw [← Nat.add_assoc] at cb1
          have hgr := hp.grp hlt
          have hgsu := grpsL_succ (p := p) x st hlt
          have hgrl := grpsL_le hp x st hk
          obtain ⟨lo, hi, hlh⟩ : ∃ lo hi, rgAt p.grps k = (lo, hi) := ⟨_, _, rfl⟩
          rw [hlh] at hgr cb0 cb1 hgsu
          rw [groupL_eq] at hgsu
          dsimp only at hgr cb0 cb1
          obtain ⟨W3, hW3⟩ : ∃ W3, wi.alloc (.cells #[.int .i64 (lo : Nat), .int .i64 (hi : Nat)] 54) = W3 := ⟨_, rfl⟩
          have h3 : W3.heap[wi.heap.size]? = some (.cells #[.int .i64 (lo : Nat), .int .i64 (hi : Nat)] 54 (0, 0)) := by rw [← hW3]; exact heap_alloc_new wi _
          have k3 : Below wi.heap.size wi W3 := by rw [← hW3]; exact (br wi).alloc (Nat.le_refl _) _
          have hsw : (w.heap.size + 1) < wi.heap.size := by have := A2.1.size; have := Hs0.out; omega
          have l3' := l2.below k3
          have hR3 := fun w' (q : Keep (fun j => j = (w.heap.size + 1) ∨ v2.ownBlock = some j) W3 w') => (q.block _ (lt_of_block h3) (fun e => e.elim (fun h => by omega) (fun h => block_notrow h3 (by decide) l3'.2 h.symm))).trans h3
          have hs3 : (w.heap.size + 1) ≤ W3.heap.size := by have := k3.size; omega
          have A3' := A2.trans (Apd.below k3)
          have HW3 := Lib.hid hW3; have HR3 := Lib.hid hR3; have Hs3 := Lib.hid hs3; have HA3 := Lib.hid A3'; have HL3 := Lib.hid l3'; have Hgsu := Lib.hid hgsu; have Hgrl := Lib.hid hgrl
          clear hW3 h3 k3 l3' hR3 hs3 A3' hgsu hgrl l2 A2 hrv e' hlh
          go_wp2_with fail
          rw [HW3.out]
          clear cb0 cb1
          have hrl : (roundsL p x st (lo, hi) (2 * (p.W - 1))).length ≤ 100800 := by
            have h1 := roundsL_le (w := x) (st := st) (k := 2 * (p.W - 1)) (g := (lo, hi)) (M := 120) (p := p) (fun ph r j => hp.round x st ph r j)
            have h2 := hp.W8
            have h4 : 2 * (p.W - 1) * ((hi - lo) * 120) ≤ 14 * (60 * 120) := Nat.mul_le_mul (by omega) (Nat.mul_le_mul (by omega) (Nat.le_refl _))
            dsimp only at h1
            omega
          have Hrl := Lib.hid hrl
          clear hrl
          go_loopw [12] (fun y wr => ∃ j : Nat, lo ≤ j ∧ j ≤ hi ∧ y = .int .i64 j ∧ ∃ v3, LstAt wr (w.heap.size + 1) (w.heap.size + 1) st v3 (grpsL p x st k ++ launL st lo (j - lo) 2) ∧ Apd (w.heap.size + 1) W3 v2 wr v3) (fun y _ => hi - (intOf y).toNat)
          case atStart => exact ⟨lo, Nat.le_refl _, hgr.1, rfl, v2, by simpa [launL] using HL3.out, Apd.refl _ _ _⟩
          case round =>
            obtain ⟨j, hj, hj2, rfl, v3, l3, A3⟩ := hrel
            have uR := fun w' (q : Below wr.heap.size wr w') => bx2 (sb (HR3.out wr A3.1) w' q)
            have q1 := br wr
            by_cases hjl : j < hi
            · have hji : (j : Int) < hi := by omega
              have hw1 : IntKind.i64.wrap ((j : Int) + 1) = ((j + 1 : Nat) : Int) := by rw [IntWalk.i64_in _ (by omega)]; push_cast; rfl
              have e : grpsL p x st k ++ launL st lo (j + 1 - lo) 2 = (grpsL p x st k ++ launL st lo (j - lo) 2) ++ [(⟨2, st, j, none⟩ : Itm)] := by rw [show j + 1 - lo = (j - lo) + 1 by omega, launL_succ, show lo + (j - lo) = j by omega]; simp only [List.append_assoc]
              have hlen : (grpsL p x st k ++ launL st lo (j - lo) 2).length ≤ 8388608 := by
                have := Hgrl.out
                have := Hrl.out
                simp only [List.length_append, launL_len]
                omega
              have hc := ladd_none (w.heap.size + 1) (w.heap.size + 1) st j 2 2 rfl v3 _ wr l3 (by have := A3.1.size; have := Hs3.out; omega) hlen
              have Hc := Lib.hid hc; have HA4 := Lib.hid A3; have He := Lib.hid e
              clear hc A3 e l3 hlen
              go_wp2_with fail
              refine Hc.out.mono ?_
              rintro e w5 ⟨rfl, v5, l5, A5⟩
              rw [← He.out] at l5
              have L5 := Lib.hid l5; have B5 := Lib.hid (HA4.out.trans A5)
              clear l5 A5 uR q1
              go_wp2_with fail
              go_roundw
              case rel => exact ⟨j + 1, by omega, by omega, by go_num, v5, L5.out, B5.out⟩
              case measure => simp [intOf]; omega
            · have hji : ¬ ((j : Int) < hi) := by omega
              obtain rfl : hi = j := by omega
              have uS := fun w' (q : Below wr.heap.size wr w') => bx14 (sb (HS.out wr (HA3.out.trans A3).1) w' q)
              have hro := rounds_any p (w.heap.size + 1) (w.heap.size + 1) st x lo hi a0 a1 a2 a3 a5 (.int .i64 (p.mi : Nat)) a7 a8 a10 a11 (.slice (some ⟨bb', bo', none⟩) p.grps.length gc) BA bc v3 _ wr hp l3 (by have := A3.1.size; have := Hs3.out; omega) (HBk.out wr (HA3.out.trans A3).1) (fun y hy => by have := HBa.out y hy; omega) (Nat.le_refl _) hx (by omega) (by
                have := Hgrl.out
                simp only [List.length_append, launL_len]
                omega)
              have Hro := Lib.hid hro; have HA4 := Lib.hid A3
              clear hro A3 l3
              go_wp2_with fail
              refine Hro.out.mono ?_
              rintro e w6 ⟨rfl, v6, l6, A6⟩
              have A7 := HA4.out.trans A6
              have uR6 := fun w' (q : Below w6.heap.size w6 w') => bx2 (sb (HR3.out w6 A7.1) w' q)
              have q6 := br w6
              have L6 := Lib.hid l6; have HA7 := Lib.hid A7
              clear l6 A7 A6 uR q1 uS
              go_wp2_with fail
              clear uR6 q6
              go_loopw [13] (fun y wr => ∃ j : Nat, lo ≤ j ∧ j ≤ hi ∧ y = .int .i64 j ∧ ∃ v3, LstAt wr (w.heap.size + 1) (w.heap.size + 1) st v3 ((grpsL p x st k ++ launL st lo (hi - lo) 2 ++ roundsL p x st (lo, hi) (2 * (p.W - 1))) ++ launL st lo (j - lo) 5) ∧ Apd (w.heap.size + 1) W3 v2 wr v3) (fun y _ => hi - (intOf y).toNat)
              case atStart => exact ⟨lo, Nat.le_refl _, hgr.1, rfl, v6, by simpa [launL] using L6.out, HA7.out⟩
              case round =>
                obtain ⟨j, hj, hj2, rfl, v3, l3, A3⟩ := hrel
                have uR := fun w' (q : Below wr.heap.size wr w') => bx2 (sb (HR3.out wr A3.1) w' q)
                have q1 := br wr
                by_cases hjl : j < hi
                · have hji : (j : Int) < hi := by omega
                  have hw1 : IntKind.i64.wrap ((j : Int) + 1) = ((j + 1 : Nat) : Int) := by rw [IntWalk.i64_in _ (by omega)]; push_cast; rfl
                  have e : (grpsL p x st k ++ launL st lo (hi - lo) 2 ++ roundsL p x st (lo, hi) (2 * (p.W - 1))) ++ launL st lo (j + 1 - lo) 5 = ((grpsL p x st k ++ launL st lo (hi - lo) 2 ++ roundsL p x st (lo, hi) (2 * (p.W - 1))) ++ launL st lo (j - lo) 5) ++ [(⟨5, st, j, none⟩ : Itm)] := by rw [show j + 1 - lo = (j - lo) + 1 by omega, launL_succ, show lo + (j - lo) = j by omega]; simp only [List.append_assoc]
                  have hlen : ((grpsL p x st k ++ launL st lo (hi - lo) 2 ++ roundsL p x st (lo, hi) (2 * (p.W - 1))) ++ launL st lo (j - lo) 5).length ≤ 8388608 := by
                    have := Hgrl.out
                    have := Hrl.out
                    simp only [List.length_append, launL_len]
                    omega
                  have hc := ladd_none (w.heap.size + 1) (w.heap.size + 1) st j 5 5 rfl v3 _ wr l3 (by have := A3.1.size; have := Hs3.out; omega) hlen
                  have Hc := Lib.hid hc; have HA4 := Lib.hid A3; have He := Lib.hid e
                  clear hc A3 e l3 hlen
                  go_wp2_with fail
                  refine Hc.out.mono ?_
                  rintro e w5 ⟨rfl, v5, l5, A5⟩
                  rw [← He.out] at l5
                  have L5 := Lib.hid l5; have B5 := Lib.hid (HA4.out.trans A5)
                  clear l5 A5 uR q1
                  go_wp2_with fail
                  go_roundw
                  case rel => exact ⟨j + 1, by omega, by omega, by go_num, v5, L5.out, B5.out⟩
                  case measure => simp [intOf]; omega
                · have hji : ¬ ((j : Int) < hi) := by omega
                  obtain rfl : hi = j := by omega
                  rw [List.append_assoc, List.append_assoc] at l3
                  rw [show grpsL p x st k ++ (launL st lo (hi - lo) 2 ++ (roundsL p x st (lo, hi) (2 * (p.W - 1)) ++ launL st lo (hi - lo) 5)) = grpsL p x st (k + 1) by rw [Hgsu.out]; simp only [List.append_assoc]] at l3
                  have L9 := Lib.hid l3; have B9 := Lib.hid (HA3.out.trans A3)
                  clear l3 A3
                  go_wp2_with fail
                  go_roundw
                  case rel => exact ⟨k + 1, by omega, by go_num, v3, L9.out, B9.out⟩
                  case measure => simp [intOf]; omega
        · have hki : ¬ ((k : Int) < p.grps.length) := by omega
          have hke : k = p.grps.length := by omega
          have hgrl := grpsL_le hp x st hk
          have hc := ladd_none (w.heap.size + 1) (w.heap.size + 1) st 0 6 6 rfl v2 _ wr l2 (by have := A2.1.size; have := Hs0.out; omega) (by omega)
          have e : grpsL p x st k ++ [(⟨6, st, 0, none⟩ : Itm)] = itemsL p x st := by
            unfold grpsL itemsL
            rw [hke, List.take_length]
          rw [e] at hc
          have Hc := Lib.hid hc; have HA2 := Lib.hid A2
          clear hc A2 l2 e hke hgrl
          go_wp2_with fail
          refine Hc.out.mono ?_
          rintro e w5 ⟨rfl, v5, l5, A5⟩
          have hbl := (HA2.out.trans A5).1.toBelow (B := w.heap.size) (by have := Hs0.out; omega) (by
            rintro j (rfl | hj)
            · omega
            · cases hj)
          have xL := bx2 l5.1
          have hz5 := lt_of_block l5.1
          have O5 := Lib.hid (own_base (base' := w.heap.size) l5.2 (by omega)); have HB := Lib.hid (HB0.out.trans hbl)
          clear l5 A5 hbl
          go_wp2_with fail
          go_ret
          exact ⟨_, rfl, O5.out, HB.out⟩
end Go.Proofs.Ytaccfnffmbndhaa
