/- The closure 'add' of ring.Round. -/
import Derived.Test.YtaccfnffmbndhaaRingS
set_option linter.unusedSimpArgs false
set_option linter.unusedVariables false
namespace Go.Proofs.Ytaccfnffmbndhaa
open Go.RowKit

/-- A step that comes up and gives a value: an alloc. -/
theorem XA.v {P : Program} {ops : Array Oper} {Q : Exit → Act → World → Prop} {S : World → Prop} {n : Nat} {L : List Nat} {a : Act} {w : World} {o : Oper} (i : Nat) (w' : World) (v : Value) (hS : S w') (k : XA P ops Q S n (i :: L) (a.put o.dst v) w') (ho : ops[i]? = some o := by (simp only [List.getElem?_toArray, List.getElem?_cons_succ, List.getElem?_cons_zero]; rfl))
    (hr : readyF ops L = [i] := by decide +kernel) (hw : Region.wanted o (yielded ops a.tmps) = true := by rfl) (he : (execOp a.eval o).run P w = .ok (.value v) w' := by go_simp) : XA P ops Q S n L a w := by
  refine XA.one i ho hr fun K' hK => ?_
  rw [if_pos hw]
  unfold Oper.wp
  rw [he]
  exact hK.out _ _ hS fun _ => k
/-- An action's cells. -/
def acnCells (a : Acn) : List Value := [.bool a.send, .bool a.add, .int .i64 (a.st : Nat), .int .i64 (a.bk : Nat), .int .i64 (a.ph : Nat), .int .i64 (a.rd : Nat), .int .i64 (a.ch : Nat), .int .i64 (a.at'.1 : Nat), .int .i64 (a.at'.2 : Nat)]
def acnVals (l : List Acn) : List Value := l.flatMap acnCells
theorem acnVals_snoc (l : List Acn) (a : Acn) : acnVals (l ++ [a]) = acnVals l ++ acnCells a := by simp [acnVals]
theorem et_acts : ElemT Try.prog 98 78 (.agg #[.bool false, .bool false, .int .i64 0, .int .i64 0, .int .i64 0, .int .i64 0, .int .i64 0, .int .i64 0, .int .i64 0]) 9 64 := ⟨Try.underlying98, info_parts (by kernel_rfl), rfl, by decide⟩
set_option maxRecDepth 100000 in
theorem add_out (snd : Bool) (i : Nat) (A : Option Addr) (n c J Pb Rb N : Nat) (w : World) (hi : n ≤ i) :
    Calls Try.prog 57 #[.bool snd, .int .i64 i, .slice A n c, .pointer (some ⟨J, 0, none⟩), .pointer (some ⟨Pb, 0, none⟩), .pointer (some ⟨Rb, 0, none⟩), .pointer (some ⟨N, 0, none⟩)] w fun e w' => e = .returned (.tuple #[]) ∧ w' = w := by
  have hi2 : ¬ ((i : Int) < n) := by omega
  go_enter Try.func57, Try.ntmps57
  go_wp2_with fail
  go_end0
  exact ⟨rfl, rfl⟩
set_option maxRecDepth 100000 in
set_option maxHeartbeats 1000000 in
theorem add_in (snd : Bool) (i : Nat) (A : Option Addr) (rs : List Rg) (n c J Pb Rb N base : Nat) (st bk lo hi W cc ph r : Nat) (x : Rg) (v : Value) (l : List Acn) (m : Nat) (w : World)
    (hJ : w.heap[J]? = some (.cells #[.int .i64 (st : Nat), .int .i64 (bk : Nat), .int .i64 (lo : Nat), .int .i64 (hi : Nat), .int .i64 (W : Nat), .int .i64 (cc : Nat)] 97 (0, 0)))
    (hP : w.heap[Pb]? = some (.cells #[.int .i64 (ph : Nat)] 3 (0, 0))) (hR : w.heap[Rb]? = some (.cells #[.int .i64 (r : Nat)] 3 (0, 0)))
    (hN : w.heap[N]? = some (.cells #[v] 98 (0, 0))) (ho : w.ownsRow base 78 9 v m (acnVals l)) (hb : base ≤ w.heap.size)
    (hA : Rd w A (rgVals rs)) (hn : rs.length = n) (hx : rs[i]? = some x) (hm : m ≤ 8388608) (hn2 : n ≤ 1048576) (hAb : ∀ y, A = some y → y.block < base) :
    Calls Try.prog 57 #[.bool snd, .int .i64 i, .slice A n c, .pointer (some ⟨J, 0, none⟩), .pointer (some ⟨Pb, 0, none⟩), .pointer (some ⟨Rb, 0, none⟩), .pointer (some ⟨N, 0, none⟩)] w fun e w' => e = .returned (.tuple #[]) ∧
      ∃ v', w'.heap[N]? = some (.cells #[v'] 98 (0, 0)) ∧ w'.ownsRow base 78 9 v' (m + 1) (acnVals (l ++ [⟨snd, !snd && ph == 0, st, bk, ph, r, i, x⟩])) ∧ Keep (fun j => j = N ∨ v.ownBlock = some j) w w' := by
  have hlt : i < n := by rw [← hn]; exact (List.getElem?_eq_some_iff.1 hx).1
  have hlt2 : (i : Int) < n := by omega
  have hrv := rgVals_at hx
  obtain ⟨g, o, rfl, c0⟩ := hA _ _ hrv.1
  obtain ⟨g', o', e', c1⟩ := hA _ _ hrv.2
  obtain ⟨rfl, rfl⟩ : g' = g ∧ o' = o := by simpa using e'.symm
  rw [← Nat.add_assoc] at c1
  obtain ⟨W0, hW0⟩ : ∃ W0, w.alloc (.cells #[.int .i64 (st : Nat), .int .i64 (bk : Nat), .int .i64 (ph : Nat), .int .i64 (r : Nat), .int .i64 (i : Nat)] 59) = W0 := ⟨_, rfl⟩
  have h0 : W0.heap[w.heap.size]? = some (.cells #[.int .i64 (st : Nat), .int .i64 (bk : Nat), .int .i64 (ph : Nat), .int .i64 (r : Nat), .int .i64 (i : Nat)] 59 (0, 0)) := by rw [← hW0]; exact heap_alloc_new w _
  have hB0 : Below w.heap.size w W0 := by rw [← hW0]; exact (br w).alloc (Nat.le_refl _) _
  have xJ := bx6 hJ
  have xP := bx1 hP
  have xR := bx1 hR
  have hO0 := own_below ho hB0
  have nt := fun b cs t' sg (hb' : W0.heap[b]? = some (.cells cs t' sg)) (hne : t' ≠ 78) (e : v.ownBlock = some b) => block_notrow hb' hne hO0 e.symm
  have hP0 := sb hP _ hB0
  have hN0 := sb hN _ hB0
  have kP := fun w' (q : Keep (fun j => v.ownBlock = some j) W0 w') => (q.block _ (lt_of_block hP0) (nt _ _ _ _ hP0 (by decide))).trans hP0
  have kN := fun w' (q : Keep (fun j => v.ownBlock = some j) W0 w') => (q.block _ (lt_of_block hN0) (nt _ _ _ _ hN0 (by decide))).trans hN0
  have tP := fun w' q => bx1 (kP w' q)
  have tN := fun w' q => bx1 (kN w' q)
  have t0 := fun w' (q : Keep (fun j => v.ownBlock = some j) W0 w') => bx5 ((q.block _ (lt_of_block h0) (nt _ _ _ _ h0 (by decide))).trans h0)
  have hnb : ¬ v.ownBlock = some g' := fun e => by
    have h1 := (hO0.lt g' e).1
    have h2 := hAb _ rfl
    simp only at h2
    omega
  have d0 := fun w' (q : Keep (fun j => v.ownBlock = some j) W0 w') => q.cell (cell_below hB0 c0) hnb
  have d1 := fun w' (q : Keep (fun j => v.ownBlock = some j) W0 w') => q.cell (cell_below hB0 c1) hnb
  have HN := Lib.hid kN; have HO := Lib.hid hO0; have HB0 := Lib.hid hB0; have HW0 := Lib.hid hW0
  clear hJ hP hR hN ho hB0 hW0 hrv hA e' hx hn h0 hP0 hN0 kP kN hO0 nt hnb c0 c1 hAb
  go_enter Try.func57, Try.ntmps57
  have q0 : Keep (fun j => v.ownBlock = some j) W0 W0.drew := (Keep.refl _ _).drew
  go_wp2_with fail
  rw [HW0.out]
  have hpe : ((ph : Int) == 0) = (ph == 0) := by rw [Bool.eq_iff_iff]; simp
  cases snd
  · refine XA.g 16 (fun w' : World => Keep (fun j => v.ownBlock = some j) W0 w') ?_
    refine XA.t ?_ [0, 1, 2, 3, 4, 5, 6, 7, 8, 9, 10, 11, 12, 13] q0 ?_
    obtain ⟨a, ha⟩ : ∃ a : Acn, a = ⟨false, (!false && ph == 0), st, bk, ph, r, i, x⟩ := ⟨_, rfl⟩
    refine XA.v 14 (W0.drew.alloc (.cells (acnCells a).toArray 78)) (.slice (some ⟨W0.heap.size, 0, none⟩) 1 1) (q0.alloc _) ?_ rfl (by decide +kernel) rfl (by subst ha; go_simp; simp [acnCells, hpe]; try rfl)
    refine XA.o 15 (fun K' hK => ?_) rfl (by decide +kernel)
    have hO := (HO.out.drew).alloc (.cells (acnCells a).toArray 78)
    have hbs := HB0.out.size
    refine step_appX et_acts (.tmp 23) (.tmp 37) rfl rfl base v m _ rfl hO (some ⟨W0.heap.size, 0, none⟩) 1 1 (acnCells a) rfl (fun k u hu => ⟨_, _, rfl, by rw [Nat.zero_add, cell_of_row _ W0.heap.size k (acnCells a).toArray 78 (0, 0) (heap_alloc_new W0.drew _)]; simpa using hu⟩) rfl (by simp [acnCells, Value.oneCell']) (by omega) (by unfold maxLen; omega) (by simp; omega) ?_
    intro A5 c5 w5 ho5 hb5 hg5 _
    have q5 : Keep (fun j => v.ownBlock = some j) W0 w5 := (q0.alloc _).grown hg5 (fun k hk => .inr hk)
    refine hK.out _ _ q5 fun _ => ?_
    refine XA.e ?_
    simp only [List.drop_succ_cons, List.drop_zero]
    have hN5 := HN.out w5 q5
    have e3 := heap_setCell_same w5 N 0 _ _ (.slice A5 (m + 1) c5) hN5
    have k1 : Keep (fun j => j = N) w5 (w5.setCell ⟨N, 0, none⟩ (.slice A5 (m + 1) c5)) := Keep.setCell (S := fun j => j = N) (Keep.refl _ _) ⟨N, 0, none⟩ (.inr rfl) _
    have o6 := k1.own ho5 (fun j hj e => block_notrow hN5 (by decide) ho5 (by rw [hj, e]))
    have k6 : Keep (fun j => j = N ∨ v.ownBlock = some j) w (w5.setCell ⟨N, 0, none⟩ (.slice A5 (m + 1) c5)) := Keep.setCell (S := fun j => j = N ∨ v.ownBlock = some j) ((Keep.below HB0.out).trans (q5.mono fun k _ hk => .inr hk)) ⟨N, 0, none⟩ (.inr (.inl rfl)) _
    have E3 := Lib.hid e3; have O6 := Lib.hid o6; have K6 := Lib.hid k6; have HA := Lib.hid ha
    have xN := tN w5 q5
    clear ho5 hb5 hg5 hN5 e3 k1 o6 k6 tN tP t0 d0 d1 hK K' ha q5 hO
    go_wp2_with fail
    go_end0
    refine ⟨rfl, _, by simpa using E3.out, ?_, K6.out⟩
    rw [acnVals_snoc, ← HA.out]
    exact O6.out
  · refine XA.g 16 (fun w' : World => Keep (fun j => v.ownBlock = some j) W0 w') ?_
    refine XA.t ?_ [0, 1, 2, 3, 4, 5, 6, 7, 8, 9, 10, 11, 12, 13] q0 ?_
    obtain ⟨a, ha⟩ : ∃ a : Acn, a = ⟨true, (!true && ph == 0), st, bk, ph, r, i, x⟩ := ⟨_, rfl⟩
    refine XA.v 14 (W0.drew.alloc (.cells (acnCells a).toArray 78)) (.slice (some ⟨W0.heap.size, 0, none⟩) 1 1) (q0.alloc _) ?_ rfl (by decide +kernel) rfl (by subst ha; go_simp; simp [acnCells, hpe]; try rfl)
    refine XA.o 15 (fun K' hK => ?_) rfl (by decide +kernel)
    have hO := (HO.out.drew).alloc (.cells (acnCells a).toArray 78)
    have hbs := HB0.out.size
    refine step_appX et_acts (.tmp 23) (.tmp 37) rfl rfl base v m _ rfl hO (some ⟨W0.heap.size, 0, none⟩) 1 1 (acnCells a) rfl (fun k u hu => ⟨_, _, rfl, by rw [Nat.zero_add, cell_of_row _ W0.heap.size k (acnCells a).toArray 78 (0, 0) (heap_alloc_new W0.drew _)]; simpa using hu⟩) rfl (by simp [acnCells, Value.oneCell']) (by omega) (by unfold maxLen; omega) (by simp; omega) ?_
    intro A5 c5 w5 ho5 hb5 hg5 _
    have q5 : Keep (fun j => v.ownBlock = some j) W0 w5 := (q0.alloc _).grown hg5 (fun k hk => .inr hk)
    refine hK.out _ _ q5 fun _ => ?_
    refine XA.e ?_
    simp only [List.drop_succ_cons, List.drop_zero]
    have hN5 := HN.out w5 q5
    have e3 := heap_setCell_same w5 N 0 _ _ (.slice A5 (m + 1) c5) hN5
    have k1 : Keep (fun j => j = N) w5 (w5.setCell ⟨N, 0, none⟩ (.slice A5 (m + 1) c5)) := Keep.setCell (S := fun j => j = N) (Keep.refl _ _) ⟨N, 0, none⟩ (.inr rfl) _
    have o6 := k1.own ho5 (fun j hj e => block_notrow hN5 (by decide) ho5 (by rw [hj, e]))
    have k6 : Keep (fun j => j = N ∨ v.ownBlock = some j) w (w5.setCell ⟨N, 0, none⟩ (.slice A5 (m + 1) c5)) := Keep.setCell (S := fun j => j = N ∨ v.ownBlock = some j) ((Keep.below HB0.out).trans (q5.mono fun k _ hk => .inr hk)) ⟨N, 0, none⟩ (.inr (.inl rfl)) _
    have E3 := Lib.hid e3; have O6 := Lib.hid o6; have K6 := Lib.hid k6; have HA := Lib.hid ha
    have xN := tN w5 q5
    clear ho5 hb5 hg5 hN5 e3 k1 o6 k6 tN tP t0 d0 d1 hK K' ha q5 hO
    go_wp2_with fail
    go_end0
    refine ⟨rfl, _, by simpa using E3.out, ?_, K6.out⟩
    rw [acnVals_snoc, ← HA.out]
    exact O6.out
/-- What 'add' appends. -/
def actAdd (snd : Bool) (i : Nat) (rs : List Rg) (st bk ph r : Nat) (l : List Acn) : List Acn := if i < rs.length then l ++ [⟨snd, !snd && ph == 0, st, bk, ph, r, i, rgAt rs i⟩] else l
theorem add_any (snd : Bool) (i : Nat) (A : Option Addr) (rs : List Rg) (c J Pb Rb N base : Nat) (st bk lo hi W cc ph r : Nat) (v : Value) (l : List Acn) (w : World)
    (hJ : w.heap[J]? = some (.cells #[.int .i64 (st : Nat), .int .i64 (bk : Nat), .int .i64 (lo : Nat), .int .i64 (hi : Nat), .int .i64 (W : Nat), .int .i64 (cc : Nat)] 97 (0, 0)))
    (hP : w.heap[Pb]? = some (.cells #[.int .i64 (ph : Nat)] 3 (0, 0))) (hR : w.heap[Rb]? = some (.cells #[.int .i64 (r : Nat)] 3 (0, 0)))
    (hN : w.heap[N]? = some (.cells #[v] 98 (0, 0))) (ho : w.ownsRow base 78 9 v l.length (acnVals l)) (hb : base ≤ w.heap.size) (hNb : base ≤ N)
    (hA : Rd w A (rgVals rs)) (hm : l.length ≤ 8388608) (hn2 : rs.length ≤ 1048576) (hAb : ∀ y, A = some y → y.block < base) :
    Calls Try.prog 57 #[.bool snd, .int .i64 i, .slice A rs.length c, .pointer (some ⟨J, 0, none⟩), .pointer (some ⟨Pb, 0, none⟩), .pointer (some ⟨Rb, 0, none⟩), .pointer (some ⟨N, 0, none⟩)] w fun e w' => e = .returned (.tuple #[]) ∧
      ∃ v', w'.heap[N]? = some (.cells #[v'] 98 (0, 0)) ∧ w'.ownsRow base 78 9 v' (actAdd snd i rs st bk ph r l).length (acnVals (actAdd snd i rs st bk ph r l)) ∧ Below base w w' := by
  by_cases h : i < rs.length
  · refine (add_in snd i A rs rs.length c J Pb Rb N base st bk lo hi W cc ph r (rgAt rs i) v l l.length w hJ hP hR hN ho hb hA rfl (by rw [rgAt_eq rs i h]; simp [h]) hm hn2 hAb).mono ?_
    rintro e w' ⟨rfl, v', n1, o1, k1⟩
    have e1 : actAdd snd i rs st bk ph r l = l ++ [⟨snd, !snd && ph == 0, st, bk, ph, r, i, rgAt rs i⟩] := if_pos h
    refine ⟨rfl, v', n1, ?_, k1.toBelow hb ?_⟩
    · rw [e1, List.length_append]; exact o1
    · rintro j (rfl | hj)
      · exact hNb
      · exact (ho.lt j hj).1
  · refine (add_out snd i A rs.length c J Pb Rb N w (by omega)).mono ?_
    rintro e w' ⟨rfl, rfl⟩
    have e1 : actAdd snd i rs st bk ph r l = l := if_neg h
    exact ⟨rfl, v, hN, by rw [e1]; exact ho, Below.refl _ _⟩
end Go.Proofs.Ytaccfnffmbndhaa
