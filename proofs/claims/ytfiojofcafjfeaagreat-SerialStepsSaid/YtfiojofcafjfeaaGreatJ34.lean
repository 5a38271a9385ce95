/- The reference's Gradient of a run. No condition. -/
import Derived.Test.YtfiojofcafjfeaaGreatJ22
import Derived.Test.YtfiojofcafjfeaaGreatJ24
import Derived.Test.YtfiojofcafjfeaaGreatJ33
import Derived.Deep.RegionHeld3
set_option linter.unusedSimpArgs false
set_option linter.unusedVariables false
namespace Go.Proofs.YtfiojofcafjfeaaGreat
open Go.RowKit

theorem addL_zero {n : Nat} {s : List Int} (hs : s.length = n) (ws : W64 s) : addL (List.replicate n 0) s = s := by
  refine ext_nth (by rw [addL_len, List.length_replicate, hs]) fun k hk => ?_
  rw [addL_len, List.length_replicate] at hk
  unfold addL
  rw [upTo_nth _ (by rw [List.length_replicate]; exact hk), nth_eq _ k (by rw [List.length_replicate]; exact hk)]
  have h1 := ws.nth k
  simp only [List.getElem_replicate]
  generalize nth s k = y at h1 ⊢
  unfold wrap64; omega
theorem sumR_two {n : Nat} {s g : List Int} (hs : s.length = n) (ws : W64 s) : sumR n [s, g] = addL s g := by
  unfold sumR; simp only [List.foldl_cons, List.foldl_nil]; rw [addL_zero hs ws]
theorem pick_snoc (l : List Ex) (idx : List Int) {k : Nat} (hk : k < idx.length) {x : Ex} {j : Nat} (hj : nth idx k = (j : Int)) (hx : l[j]? = some x) : pickL l (idx.take (k + 1)) = pickL l (idx.take k) ++ [x] := by
  rw [take_succ_nth _ _ hk]; unfold pickL; rw [List.map_append]
  simp [hj, List.getD, hx]

theorem nx_m2 {n k : Nat} (h : k < n) : n - (k + 1) < n - k := by omega
def RGrad14Is (i : Inp) (P idx : List Int) (w : World) (e : Ending) (w' : World) : Prop := Below w.heap.size w w' ∧
  ((allGood i idx ∧ ∃ v, e = .returned (.tuple #[v, .bool true]) ∧ w'.ownsRow w.heap.size 2 1 v (cnt i) (nums .i64 (gradAcc i P (pickL i.data idx)))) ∨ (¬ allGood i idx ∧ e = .returned (.tuple #[.slice none 0 0, .bool false])))
theorem vv_two (w : World) (u v : Value) (A1 A2 : Option Addr) (n c1 c2 : Nat) (s g : List Int) (hu : u = .slice A1 n c1) (hv : v = .slice A2 n c2) (hs : s.length = n) (hg : g.length = n) (hn : n ≤ 1048576) (r1 : Rd w A1 (nums .i64 s)) (r2 : Rd w A2 (nums .i64 g)) :
    SlRd rVec0 1 (w.alloc (.cells #[u, v] 26)) (some ⟨w.heap.size, 0, none⟩) [s, g] := by
  refine slrd_one (rd_newN w [u, v] _ _ rfl) rfl fun j x hx => ?_
  match j, hx with
  | 0, hx => injection hx with hx; subst hx; exact ⟨u, rfl, A1, c1, by rw [hu, hs], by omega, r1.alloc _⟩
  | 1, hx => injection hx with hx; subst hx; exact ⟨v, rfl, A2, c2, by rw [hv, hg], by omega, r2.alloc _⟩

set_option maxRecDepth 100000 in
set_option maxHeartbeats 2000000 in
theorem rgrad14_any (A : Option Addr) (c : Nat) (D : Option Addr) (cd : Nat) (T : Option Addr) (ct : Nat) (R : Option Addr) (cr : Nat) (i : Inp) (Ap X : Option Addr) (P idx : List Int) (n cp cx : Nat) (w : World) (hA : Rd w A (nums .i64 i.cfg.sizes)) (hc : i.cfg.sizes.length ≤ c) (hD : SlRd rEx 2 w D i.data) (hg : GoodIn i) (hP : Rd w Ap (nums .i64 P)) (hPl : P.length = n) (hn : cnt i = n) (wP : W64 P) (hX : Rd w X (nums .i64 idx)) (hil : idx.length ≤ 17592186043904) :
    Calls Tryz.prog 17 #[.agg (inpVals A c D cd T ct R cr i), .slice Ap n cp, .slice X idx.length cx] w (RGrad14Is i P idx w) := by
  have hcb := hg.c.z.bound (k := i.cfg.sizes.length - 1) (by have := hg.c.z.1.1; omega)
  have hcn : cntN i.cfg.sizes (i.cfg.sizes.length - 1) = n := hn
  rw [hcn] at hcb
  have hnet := fun w' => rnet14_any A c D cd T ct R cr i Ap n cp w'
  have hgr := fun w' (q : Below w.heap.size w w') X1 Y1 x c1 c2 (hf : fitEx (inN i) (outN i) x) (r1 : NumsRd w' X1 x.1 c1) (r2 : NumsRd w' Y1 x.2 c2) => rgrad_any A Ap X1 Y1 i.cfg.sizes P x.1 x.2 c cp c1 c2 i.cfg.shift w' ⟨hA.below q, hP.below q, hg.c.z, by rw [hPl, hcn], hc, wP⟩ r1.hr hf.1 r1.hw r1.hc r2.hr hf.2
  rw [hcn, hPl] at hgr
  have hmk := fun w' => run_mk et_ri64s w' rfl n (by omega) (by unfold maxLen; omega)
  simp only [nums_rep] at hmk
  have hz0 : gradAcc i P (pickL i.data (idx.take 0)) = List.replicate n 0 := by simp [gradAcc, pickL, hn]
  obtain ⟨m, hm⟩ : ∃ m, idx.length = m := ⟨_, rfl⟩
  obtain ⟨N, hN⟩ : ∃ N, i.data.length = N := ⟨_, rfl⟩
  have hNb : N ≤ 1048576 := by rw [← hN]; exact hg.b.2
  rw [hm] at hil ⊢
  have hbl : (w.alloc (.cells (inpVals A c D cd T ct R cr i) 29)).heap.size = w.heap.size + 1 := by simp
  have hbx := blk_new w (inpVals A c D cd T ct R cr i) 29 rfl
  have hb0 : Below w.heap.size w (w.alloc (.cells (inpVals A c D cd T ct R cr i) 29)) := (Below.refl _ w).alloc (Nat.le_refl _) _
  obtain ⟨W1, hW1⟩ : ∃ W1, W1 = w.alloc (.cells (inpVals A c D cd T ct R cr i) 29) := ⟨_, rfl⟩
  rw [← hW1] at hbl hbx hb0
  obtain ⟨W2, hrun, ho2, hb2⟩ := hmk W1
  rw [hbl] at hrun ho2
  rw [hW1] at hrun
  dsimp only [inpVals] at hrun
  have hbx2 := (hb2.block _ (by omega)).trans hbx
  have hB2 := hb0.trans (hb2.mono hb0.size)
  have HD := Lib.hid hD; have HX := Lib.hid hX; have Hnet := Lib.hid hnet; have Hgr := Lib.hid hgr; have Hm := Lib.hid hm; have HN := Lib.hid hN; have HG := Lib.hid hg; have HO2 := Lib.hid ho2; have HBx2 := Lib.hid hbx2; have HB2 := Lib.hid hB2; have Hz0 := Lib.hid hz0; have Hn := Lib.hid hn
  clear hA hc hD hg hP hPl hn wP hX hnet hgr hmk hm hN hbl hbx hb0 ho2 hbx2 hB2 hb2 hcn hz0 hW1
  go_enter Tryz.func17, Tryz.ntmps17
  dsimp only [inpVals]
  go_wp2_with fail
  clear hrun
  go_loopw [8, 9] (fun v x wr => ∃ k : Nat, k ≤ m ∧ x = .int .i64 k ∧ wr.ownsRow w.heap.size 2 1 v n (nums .i64 (gradAcc i P (pickL i.data (idx.take k)))) ∧ Hid (∀ j, j < k → goodI N (nth idx j)) ∧ Below (w.heap.size + 1) W2 wr) (fun _ x _ => m - (intOf x).toNat)
  case atStart => exact ⟨0, Nat.zero_le _, rfl, by rw [Hz0.out]; exact own_base HO2.out (by omega), Lib.hid fun j hj => by omega, Below.refl _ _⟩
  case round =>
    obtain ⟨k, hk, rfl, hown, Hall, hbw⟩ := hrel
    obtain ⟨As, cs, rfl, hcs⟩ := own_form hown
    have hbx := (hbw.block _ (by omega)).trans HBx2.out
    have hB := HB2.out.trans (hbw.mono (by omega))
    have hrs := hB.size
    have HO := Lib.hid hown; have HBW := Lib.hid hbw; have HB := Lib.hid hB; have HBX := Lib.hid hbx; have HCS := Lib.hid hcs
    dsimp only [inpVals] at hbx
    have t0 := cell_of_row wr _ 0 _ _ _ hbx
    have t1 := cell_of_row wr _ 1 _ _ _ hbx
    have t2 := cell_of_row wr _ 2 _ _ _ hbx
    have t3 := cell_of_row wr _ 3 _ _ _ hbx
    have t4 := cell_of_row wr _ 4 _ _ _ hbx
    have t5 := cell_of_row wr _ 5 _ _ _ hbx
    have t6 := cell_of_row wr _ 6 _ _ _ hbx
    have t7 := cell_of_row wr _ 7 _ _ _ hbx
    have t8 := cell_of_row wr _ 8 _ _ _ hbx
    have t9 := cell_of_row wr _ 9 _ _ _ hbx
    have t10 := cell_of_row wr _ 10 _ _ _ hbx
    have t11 := cell_of_row wr _ 11 _ _ _ hbx
    have t12 := cell_of_row wr _ 12 _ _ _ hbx
    have t13 := cell_of_row wr _ 13 _ _ _ hbx
    have t14 := cell_of_row wr _ 14 _ _ _ hbx
    have tf := fun j => frozen_of_row wr _ j _ _ hbx
    have hlx := lt_of_block hbx
    clear hown hbw hB hbx hcs
    by_cases hlt : k < m
    · have hlti : (k : Int) < m := by omega
      obtain ⟨bx, ox, rfl, px⟩ := HX.out.num (show k < idx.length by rw [Hm.out]; exact hlt)
      have px' := (HB.out.cell (p := ⟨bx, ox + k, none⟩) (lt_of_cell px)).trans px
      clear px
      by_cases hgd : goodI N (nth idx k)
      · obtain ⟨j, hj⟩ : ∃ j : Nat, nth idx k = (j : Int) := ⟨(nth idx k).toNat, by have := hgd.1; omega⟩
        have hjN : j < N := by have := hgd.2; omega
        rw [hj] at px'
        obtain ⟨x, hx⟩ : ∃ x, i.data[j]? = some x := ⟨_, List.getElem?_eq_getElem (by rw [HN.out]; exact hjN)⟩
        obtain ⟨bd, od, X1, c1, Y1, c2, rfl, hbd, p1, p2, r1, r2⟩ := ex_cells (HD.out.below stays_ex HB.out) hx
        have hfit : fitEx (inN i) (outN i) x := HG.out.f _ (by obtain ⟨q1, q2⟩ := List.getElem?_eq_some_iff.1 hx; rw [← q2]; exact List.getElem_mem _)
        have hgr := fun w' (q : Below wr.heap.size wr w') => Hgr.out w' (HB.out.trans (q.mono HB.out.size)) X1 Y1 x c1 c2 hfit (r1.below q) (r2.below q)
        have hgl := gradL_len (sz := i.cfg.sizes) (ps := P) (q := i.cfg.shift) (x := x.1) (y := x.2) hfit.1 (by have := HG.out.c.z.1.1; omega)
        have hgn : cntN i.cfg.sizes (i.cfg.sizes.length - 1) = n := Hn.out
        rw [hgn] at hgl
        have hps := pick_snoc i.data idx (k := k) (by rw [Hm.out]; exact hlt) hj hx
        have q1 : ¬ ((j : Int) < 0) := by omega
        have hN := HN.out
        have q2 : ¬ ((i.data.length : Int) ≤ j) := by omega
        have q3 : (j : Int) < i.data.length := by omega
        have Hj := Lib.hid hj; have Hgr2 := Lib.hid hgr; have Hgl := Lib.hid hgl; have Hps := Lib.hid hps; have Hgd := Lib.hid hgd
        obtain ⟨n1, hn1⟩ : ∃ n1, x.1.length = n1 := ⟨_, rfl⟩
        obtain ⟨n2, hn2⟩ : ∃ n2, x.2.length = n2 := ⟨_, rfl⟩
        rw [hn1] at p1; rw [hn2] at p2
        have Hn1 := Lib.hid hn1; have Hn2 := Lib.hid hn2
        clear hj hx r1 r2 hfit hgr hgl hgn hps hgd hN hn1 hn2
        go_upto_region 8 with (fail)
        clear px' t0 t1 t2 t3 t4 t5 t6 t7 t8 t9 t10 t11 t12 t13 t14 tf
        have hbx := HBX.out
        dsimp only [inpVals] at hbx
        have hSw : (fun w' : World => w'.heap[w.heap.size]? = some (.cells #[.slice A i.cfg.sizes.length c, .int .i64 i.cfg.shift, .int .i64 i.cfg.rate, .int .i64 i.cfg.mom, .int .i64 i.cfg.workers, .int .i64 i.cfg.batch, .int .i64 i.cfg.micros, .int .i64 i.cfg.steps, .int .i64 i.cfg.bucket, .int .i64 i.cfg.chunk, .int .i64 i.cfg.window, .int .i64 i.cfg.cap, .slice (some ⟨bd, od, none⟩) i.data.length cd, .slice T i.start.length ct, .slice R i.draws.length cr] 29 (0, 0)) ∧ w'.cell? ⟨bd, od + j * 2, none⟩ = some (.slice X1 n1 c1) ∧ w'.cell? ⟨bd, od + j * 2 + 1, none⟩ = some (.slice Y1 n2 c2)) wr.drew := ⟨hbx, p1, p2⟩
        refine wp_region_held (S := (fun w' : World => w'.heap[w.heap.size]? = some (.cells #[.slice A i.cfg.sizes.length c, .int .i64 i.cfg.shift, .int .i64 i.cfg.rate, .int .i64 i.cfg.mom, .int .i64 i.cfg.workers, .int .i64 i.cfg.batch, .int .i64 i.cfg.micros, .int .i64 i.cfg.steps, .int .i64 i.cfg.bucket, .int .i64 i.cfg.chunk, .int .i64 i.cfg.window, .int .i64 i.cfg.cap, .slice (some ⟨bd, od, none⟩) i.data.length cd, .slice T i.start.length ct, .slice R i.draws.length cr] 29 (0, 0)) ∧ w'.cell? ⟨bd, od + j * 2, none⟩ = some (.slice X1 n1 c1) ∧ w'.cell? ⟨bd, od + j * 2 + 1, none⟩ = some (.slice Y1 n2 c2))) (by kernel_rfl) ?_
        change wpAnyH _ _ _ _ _ _ _ _ wr.drew
        refine wpAnyH_take (i := 0) (v := ?_) rfl (by kernel_rfl) (by kernel_rfl) (by kernel_rfl) (fun _ _ _ h => h) (Or.inl ⟨by rfl, ?_⟩) hSw ?_
        rotate_left
        · intro w9 hS9; (try dsimp only at hS9); obtain ⟨s1, s2, s3⟩ := hS9; have t0 := cell_of_row w9 _ 0 _ _ _ s1; have t1 := cell_of_row w9 _ 1 _ _ _ s1; have t2 := cell_of_row w9 _ 2 _ _ _ s1; have t3 := cell_of_row w9 _ 3 _ _ _ s1; have t4 := cell_of_row w9 _ 4 _ _ _ s1; have t5 := cell_of_row w9 _ 5 _ _ _ s1; have t6 := cell_of_row w9 _ 6 _ _ _ s1; have t7 := cell_of_row w9 _ 7 _ _ _ s1; have t8 := cell_of_row w9 _ 8 _ _ _ s1; have t9 := cell_of_row w9 _ 9 _ _ _ s1; have t10 := cell_of_row w9 _ 10 _ _ _ s1; have t11 := cell_of_row w9 _ 11 _ _ _ s1; have t12 := cell_of_row w9 _ 12 _ _ _ s1; have t13 := cell_of_row w9 _ 13 _ _ _ s1; have t14 := cell_of_row w9 _ 14 _ _ _ s1; clear s1; go_simp; (try with_reducible rfl)
        simp only [List.getElem_toArray, List.getElem_cons_succ, List.getElem_cons_zero, Act.put, List.setIfInBounds_toArray, List.set_cons_zero, List.set_cons_succ]
        refine wpAnyH_take (i := 1) (v := ?_) rfl (by kernel_rfl) (by kernel_rfl) (by kernel_rfl) (fun _ _ _ h => h) (Or.inl ⟨by rfl, ?_⟩) hSw ?_
        rotate_left
        · intro w9 hS9; (try dsimp only at hS9); obtain ⟨s1, s2, s3⟩ := hS9; have t0 := cell_of_row w9 _ 0 _ _ _ s1; have t1 := cell_of_row w9 _ 1 _ _ _ s1; have t2 := cell_of_row w9 _ 2 _ _ _ s1; have t3 := cell_of_row w9 _ 3 _ _ _ s1; have t4 := cell_of_row w9 _ 4 _ _ _ s1; have t5 := cell_of_row w9 _ 5 _ _ _ s1; have t6 := cell_of_row w9 _ 6 _ _ _ s1; have t7 := cell_of_row w9 _ 7 _ _ _ s1; have t8 := cell_of_row w9 _ 8 _ _ _ s1; have t9 := cell_of_row w9 _ 9 _ _ _ s1; have t10 := cell_of_row w9 _ 10 _ _ _ s1; have t11 := cell_of_row w9 _ 11 _ _ _ s1; have t12 := cell_of_row w9 _ 12 _ _ _ s1; have t13 := cell_of_row w9 _ 13 _ _ _ s1; have t14 := cell_of_row w9 _ 14 _ _ _ s1; clear s1; go_simp; (try with_reducible rfl)
        simp only [List.getElem_toArray, List.getElem_cons_succ, List.getElem_cons_zero, Act.put, List.setIfInBounds_toArray, List.set_cons_zero, List.set_cons_succ]
        refine wpAnyH_take (i := 2) (v := ?_) rfl (by kernel_rfl) (by kernel_rfl) (by kernel_rfl) (fun _ _ _ h => h) (Or.inl ⟨by rfl, ?_⟩) hSw ?_
        rotate_left
        · intro w9 hS9; (try dsimp only at hS9); obtain ⟨s1, s2, s3⟩ := hS9; have t0 := cell_of_row w9 _ 0 _ _ _ s1; have t1 := cell_of_row w9 _ 1 _ _ _ s1; have t2 := cell_of_row w9 _ 2 _ _ _ s1; have t3 := cell_of_row w9 _ 3 _ _ _ s1; have t4 := cell_of_row w9 _ 4 _ _ _ s1; have t5 := cell_of_row w9 _ 5 _ _ _ s1; have t6 := cell_of_row w9 _ 6 _ _ _ s1; have t7 := cell_of_row w9 _ 7 _ _ _ s1; have t8 := cell_of_row w9 _ 8 _ _ _ s1; have t9 := cell_of_row w9 _ 9 _ _ _ s1; have t10 := cell_of_row w9 _ 10 _ _ _ s1; have t11 := cell_of_row w9 _ 11 _ _ _ s1; have t12 := cell_of_row w9 _ 12 _ _ _ s1; have t13 := cell_of_row w9 _ 13 _ _ _ s1; have t14 := cell_of_row w9 _ 14 _ _ _ s1; clear s1; go_simp; (try with_reducible rfl)
        simp only [List.getElem_toArray, List.getElem_cons_succ, List.getElem_cons_zero, Act.put, List.setIfInBounds_toArray, List.set_cons_zero, List.set_cons_succ]
        refine wpAnyH_take (i := 4) (v := ?_) rfl (by kernel_rfl) (by kernel_rfl) (by kernel_rfl) (fun _ _ _ h => h) (Or.inl ⟨by rfl, ?_⟩) hSw ?_
        rotate_left
        · intro w9 hS9; (try dsimp only at hS9); obtain ⟨s1, s2, s3⟩ := hS9; have t0 := cell_of_row w9 _ 0 _ _ _ s1; have t1 := cell_of_row w9 _ 1 _ _ _ s1; have t2 := cell_of_row w9 _ 2 _ _ _ s1; have t3 := cell_of_row w9 _ 3 _ _ _ s1; have t4 := cell_of_row w9 _ 4 _ _ _ s1; have t5 := cell_of_row w9 _ 5 _ _ _ s1; have t6 := cell_of_row w9 _ 6 _ _ _ s1; have t7 := cell_of_row w9 _ 7 _ _ _ s1; have t8 := cell_of_row w9 _ 8 _ _ _ s1; have t9 := cell_of_row w9 _ 9 _ _ _ s1; have t10 := cell_of_row w9 _ 10 _ _ _ s1; have t11 := cell_of_row w9 _ 11 _ _ _ s1; have t12 := cell_of_row w9 _ 12 _ _ _ s1; have t13 := cell_of_row w9 _ 13 _ _ _ s1; have t14 := cell_of_row w9 _ 14 _ _ _ s1; clear s1; go_simp; (try with_reducible rfl)
        simp only [List.getElem_toArray, List.getElem_cons_succ, List.getElem_cons_zero, Act.put, List.setIfInBounds_toArray, List.set_cons_zero, List.set_cons_succ]
        refine wpAnyH_take (i := 5) (v := ?_) rfl (by kernel_rfl) (by kernel_rfl) (by kernel_rfl) (fun _ _ _ h => h) (Or.inl ⟨by rfl, ?_⟩) hSw ?_
        rotate_left
        · intro w9 hS9; (try dsimp only at hS9); obtain ⟨s1, s2, s3⟩ := hS9; have t0 := cell_of_row w9 _ 0 _ _ _ s1; have t1 := cell_of_row w9 _ 1 _ _ _ s1; have t2 := cell_of_row w9 _ 2 _ _ _ s1; have t3 := cell_of_row w9 _ 3 _ _ _ s1; have t4 := cell_of_row w9 _ 4 _ _ _ s1; have t5 := cell_of_row w9 _ 5 _ _ _ s1; have t6 := cell_of_row w9 _ 6 _ _ _ s1; have t7 := cell_of_row w9 _ 7 _ _ _ s1; have t8 := cell_of_row w9 _ 8 _ _ _ s1; have t9 := cell_of_row w9 _ 9 _ _ _ s1; have t10 := cell_of_row w9 _ 10 _ _ _ s1; have t11 := cell_of_row w9 _ 11 _ _ _ s1; have t12 := cell_of_row w9 _ 12 _ _ _ s1; have t13 := cell_of_row w9 _ 13 _ _ _ s1; have t14 := cell_of_row w9 _ 14 _ _ _ s1; clear s1; go_simp; (try with_reducible rfl)
        simp only [List.getElem_toArray, List.getElem_cons_succ, List.getElem_cons_zero, Act.put, List.setIfInBounds_toArray, List.set_cons_zero, List.set_cons_succ]
        refine wpAnyH_take (i := 6) (v := ?_) rfl (by kernel_rfl) (by kernel_rfl) (by kernel_rfl) (fun _ _ _ h => h) (Or.inl ⟨by rfl, ?_⟩) hSw ?_
        rotate_left
        · intro w9 hS9; (try dsimp only at hS9); obtain ⟨s1, s2, s3⟩ := hS9; have t0 := cell_of_row w9 _ 0 _ _ _ s1; have t1 := cell_of_row w9 _ 1 _ _ _ s1; have t2 := cell_of_row w9 _ 2 _ _ _ s1; have t3 := cell_of_row w9 _ 3 _ _ _ s1; have t4 := cell_of_row w9 _ 4 _ _ _ s1; have t5 := cell_of_row w9 _ 5 _ _ _ s1; have t6 := cell_of_row w9 _ 6 _ _ _ s1; have t7 := cell_of_row w9 _ 7 _ _ _ s1; have t8 := cell_of_row w9 _ 8 _ _ _ s1; have t9 := cell_of_row w9 _ 9 _ _ _ s1; have t10 := cell_of_row w9 _ 10 _ _ _ s1; have t11 := cell_of_row w9 _ 11 _ _ _ s1; have t12 := cell_of_row w9 _ 12 _ _ _ s1; have t13 := cell_of_row w9 _ 13 _ _ _ s1; have t14 := cell_of_row w9 _ 14 _ _ _ s1; clear s1; go_simp; (try with_reducible rfl)
        simp only [List.getElem_toArray, List.getElem_cons_succ, List.getElem_cons_zero, Act.put, List.setIfInBounds_toArray, List.set_cons_zero, List.set_cons_succ]
        refine wpAnyH_take (i := 7) (v := ?_) rfl (by kernel_rfl) (by kernel_rfl) (by kernel_rfl) (fun _ _ _ h => h) (Or.inl ⟨by rfl, ?_⟩) hSw ?_
        rotate_left
        · intro w9 hS9; (try dsimp only at hS9); obtain ⟨s1, s2, s3⟩ := hS9; have t0 := cell_of_row w9 _ 0 _ _ _ s1; have t1 := cell_of_row w9 _ 1 _ _ _ s1; have t2 := cell_of_row w9 _ 2 _ _ _ s1; have t3 := cell_of_row w9 _ 3 _ _ _ s1; have t4 := cell_of_row w9 _ 4 _ _ _ s1; have t5 := cell_of_row w9 _ 5 _ _ _ s1; have t6 := cell_of_row w9 _ 6 _ _ _ s1; have t7 := cell_of_row w9 _ 7 _ _ _ s1; have t8 := cell_of_row w9 _ 8 _ _ _ s1; have t9 := cell_of_row w9 _ 9 _ _ _ s1; have t10 := cell_of_row w9 _ 10 _ _ _ s1; have t11 := cell_of_row w9 _ 11 _ _ _ s1; have t12 := cell_of_row w9 _ 12 _ _ _ s1; have t13 := cell_of_row w9 _ 13 _ _ _ s1; have t14 := cell_of_row w9 _ 14 _ _ _ s1; clear s1; go_simp; (try with_reducible rfl)
        simp only [List.getElem_toArray, List.getElem_cons_succ, List.getElem_cons_zero, Act.put, List.setIfInBounds_toArray, List.set_cons_zero, List.set_cons_succ]
        refine wpAnyH_take (i := 8) (v := ?_) rfl (by kernel_rfl) (by kernel_rfl) (by kernel_rfl) (fun _ _ _ h => h) (Or.inl ⟨by rfl, ?_⟩) hSw ?_
        rotate_left
        · intro w9 hS9; (try dsimp only at hS9); obtain ⟨s1, s2, s3⟩ := hS9; have t0 := cell_of_row w9 _ 0 _ _ _ s1; have t1 := cell_of_row w9 _ 1 _ _ _ s1; have t2 := cell_of_row w9 _ 2 _ _ _ s1; have t3 := cell_of_row w9 _ 3 _ _ _ s1; have t4 := cell_of_row w9 _ 4 _ _ _ s1; have t5 := cell_of_row w9 _ 5 _ _ _ s1; have t6 := cell_of_row w9 _ 6 _ _ _ s1; have t7 := cell_of_row w9 _ 7 _ _ _ s1; have t8 := cell_of_row w9 _ 8 _ _ _ s1; have t9 := cell_of_row w9 _ 9 _ _ _ s1; have t10 := cell_of_row w9 _ 10 _ _ _ s1; have t11 := cell_of_row w9 _ 11 _ _ _ s1; have t12 := cell_of_row w9 _ 12 _ _ _ s1; have t13 := cell_of_row w9 _ 13 _ _ _ s1; have t14 := cell_of_row w9 _ 14 _ _ _ s1; clear s1; go_simp; (try with_reducible rfl)
        simp only [List.getElem_toArray, List.getElem_cons_succ, List.getElem_cons_zero, Act.put, List.setIfInBounds_toArray, List.set_cons_zero, List.set_cons_succ]
        refine wpAnyH_take (i := 9) (v := ?_) rfl (by kernel_rfl) (by kernel_rfl) (by kernel_rfl) (fun _ _ _ h => h) (Or.inl ⟨by rfl, ?_⟩) hSw ?_
        rotate_left
        · intro w9 hS9; (try dsimp only at hS9); obtain ⟨s1, s2, s3⟩ := hS9; have t0 := cell_of_row w9 _ 0 _ _ _ s1; have t1 := cell_of_row w9 _ 1 _ _ _ s1; have t2 := cell_of_row w9 _ 2 _ _ _ s1; have t3 := cell_of_row w9 _ 3 _ _ _ s1; have t4 := cell_of_row w9 _ 4 _ _ _ s1; have t5 := cell_of_row w9 _ 5 _ _ _ s1; have t6 := cell_of_row w9 _ 6 _ _ _ s1; have t7 := cell_of_row w9 _ 7 _ _ _ s1; have t8 := cell_of_row w9 _ 8 _ _ _ s1; have t9 := cell_of_row w9 _ 9 _ _ _ s1; have t10 := cell_of_row w9 _ 10 _ _ _ s1; have t11 := cell_of_row w9 _ 11 _ _ _ s1; have t12 := cell_of_row w9 _ 12 _ _ _ s1; have t13 := cell_of_row w9 _ 13 _ _ _ s1; have t14 := cell_of_row w9 _ 14 _ _ _ s1; clear s1; go_simp; (try with_reducible rfl)
        simp only [List.getElem_toArray, List.getElem_cons_succ, List.getElem_cons_zero, Act.put, List.setIfInBounds_toArray, List.set_cons_zero, List.set_cons_succ]
        refine wpAnyH_take (i := 10) (v := ?_) rfl (by kernel_rfl) (by kernel_rfl) (by kernel_rfl) (fun _ _ _ h => h) (Or.inl ⟨by rfl, ?_⟩) hSw ?_
        rotate_left
        · intro w9 hS9; (try dsimp only at hS9); obtain ⟨s1, s2, s3⟩ := hS9; have t0 := cell_of_row w9 _ 0 _ _ _ s1; have t1 := cell_of_row w9 _ 1 _ _ _ s1; have t2 := cell_of_row w9 _ 2 _ _ _ s1; have t3 := cell_of_row w9 _ 3 _ _ _ s1; have t4 := cell_of_row w9 _ 4 _ _ _ s1; have t5 := cell_of_row w9 _ 5 _ _ _ s1; have t6 := cell_of_row w9 _ 6 _ _ _ s1; have t7 := cell_of_row w9 _ 7 _ _ _ s1; have t8 := cell_of_row w9 _ 8 _ _ _ s1; have t9 := cell_of_row w9 _ 9 _ _ _ s1; have t10 := cell_of_row w9 _ 10 _ _ _ s1; have t11 := cell_of_row w9 _ 11 _ _ _ s1; have t12 := cell_of_row w9 _ 12 _ _ _ s1; have t13 := cell_of_row w9 _ 13 _ _ _ s1; have t14 := cell_of_row w9 _ 14 _ _ _ s1; clear s1; go_simp; (try with_reducible rfl)
        simp only [List.getElem_toArray, List.getElem_cons_succ, List.getElem_cons_zero, Act.put, List.setIfInBounds_toArray, List.set_cons_zero, List.set_cons_succ]
        refine wpAnyH_take (i := 11) (v := ?_) rfl (by kernel_rfl) (by kernel_rfl) (by kernel_rfl) (fun _ _ _ h => h) (Or.inl ⟨by rfl, ?_⟩) hSw ?_
        rotate_left
        · intro w9 hS9; (try dsimp only at hS9); obtain ⟨s1, s2, s3⟩ := hS9; have t0 := cell_of_row w9 _ 0 _ _ _ s1; have t1 := cell_of_row w9 _ 1 _ _ _ s1; have t2 := cell_of_row w9 _ 2 _ _ _ s1; have t3 := cell_of_row w9 _ 3 _ _ _ s1; have t4 := cell_of_row w9 _ 4 _ _ _ s1; have t5 := cell_of_row w9 _ 5 _ _ _ s1; have t6 := cell_of_row w9 _ 6 _ _ _ s1; have t7 := cell_of_row w9 _ 7 _ _ _ s1; have t8 := cell_of_row w9 _ 8 _ _ _ s1; have t9 := cell_of_row w9 _ 9 _ _ _ s1; have t10 := cell_of_row w9 _ 10 _ _ _ s1; have t11 := cell_of_row w9 _ 11 _ _ _ s1; have t12 := cell_of_row w9 _ 12 _ _ _ s1; have t13 := cell_of_row w9 _ 13 _ _ _ s1; have t14 := cell_of_row w9 _ 14 _ _ _ s1; clear s1; go_simp; (try with_reducible rfl)
        simp only [List.getElem_toArray, List.getElem_cons_succ, List.getElem_cons_zero, Act.put, List.setIfInBounds_toArray, List.set_cons_zero, List.set_cons_succ]
        refine wpAnyH_take (i := 12) (v := ?_) rfl (by kernel_rfl) (by kernel_rfl) (by kernel_rfl) (fun _ _ _ h => h) (Or.inl ⟨by rfl, ?_⟩) hSw ?_
        rotate_left
        · intro w9 hS9; (try dsimp only at hS9); obtain ⟨s1, s2, s3⟩ := hS9; have t0 := cell_of_row w9 _ 0 _ _ _ s1; have t1 := cell_of_row w9 _ 1 _ _ _ s1; have t2 := cell_of_row w9 _ 2 _ _ _ s1; have t3 := cell_of_row w9 _ 3 _ _ _ s1; have t4 := cell_of_row w9 _ 4 _ _ _ s1; have t5 := cell_of_row w9 _ 5 _ _ _ s1; have t6 := cell_of_row w9 _ 6 _ _ _ s1; have t7 := cell_of_row w9 _ 7 _ _ _ s1; have t8 := cell_of_row w9 _ 8 _ _ _ s1; have t9 := cell_of_row w9 _ 9 _ _ _ s1; have t10 := cell_of_row w9 _ 10 _ _ _ s1; have t11 := cell_of_row w9 _ 11 _ _ _ s1; have t12 := cell_of_row w9 _ 12 _ _ _ s1; have t13 := cell_of_row w9 _ 13 _ _ _ s1; have t14 := cell_of_row w9 _ 14 _ _ _ s1; clear s1; go_simp; (try with_reducible rfl)
        simp only [List.getElem_toArray, List.getElem_cons_succ, List.getElem_cons_zero, Act.put, List.setIfInBounds_toArray, List.set_cons_zero, List.set_cons_succ]
        refine wpAnyH_take (i := 13) (v := ?_) rfl (by kernel_rfl) (by kernel_rfl) (by kernel_rfl) (fun _ _ _ h => h) (Or.inl ⟨by rfl, ?_⟩) hSw ?_
        rotate_left
        · intro w9 hS9; (try dsimp only at hS9); obtain ⟨s1, s2, s3⟩ := hS9; have t0 := cell_of_row w9 _ 0 _ _ _ s1; have t1 := cell_of_row w9 _ 1 _ _ _ s1; have t2 := cell_of_row w9 _ 2 _ _ _ s1; have t3 := cell_of_row w9 _ 3 _ _ _ s1; have t4 := cell_of_row w9 _ 4 _ _ _ s1; have t5 := cell_of_row w9 _ 5 _ _ _ s1; have t6 := cell_of_row w9 _ 6 _ _ _ s1; have t7 := cell_of_row w9 _ 7 _ _ _ s1; have t8 := cell_of_row w9 _ 8 _ _ _ s1; have t9 := cell_of_row w9 _ 9 _ _ _ s1; have t10 := cell_of_row w9 _ 10 _ _ _ s1; have t11 := cell_of_row w9 _ 11 _ _ _ s1; have t12 := cell_of_row w9 _ 12 _ _ _ s1; have t13 := cell_of_row w9 _ 13 _ _ _ s1; have t14 := cell_of_row w9 _ 14 _ _ _ s1; clear s1; go_simp; (try with_reducible rfl)
        simp only [List.getElem_toArray, List.getElem_cons_succ, List.getElem_cons_zero, Act.put, List.setIfInBounds_toArray, List.set_cons_zero, List.set_cons_succ]
        refine wpAnyH_take (i := 14) (v := ?_) rfl (by kernel_rfl) (by kernel_rfl) (by kernel_rfl) (fun _ _ _ h => h) (Or.inl ⟨by rfl, ?_⟩) hSw ?_
        rotate_left
        · intro w9 hS9; (try dsimp only at hS9); obtain ⟨s1, s2, s3⟩ := hS9; have t0 := cell_of_row w9 _ 0 _ _ _ s1; have t1 := cell_of_row w9 _ 1 _ _ _ s1; have t2 := cell_of_row w9 _ 2 _ _ _ s1; have t3 := cell_of_row w9 _ 3 _ _ _ s1; have t4 := cell_of_row w9 _ 4 _ _ _ s1; have t5 := cell_of_row w9 _ 5 _ _ _ s1; have t6 := cell_of_row w9 _ 6 _ _ _ s1; have t7 := cell_of_row w9 _ 7 _ _ _ s1; have t8 := cell_of_row w9 _ 8 _ _ _ s1; have t9 := cell_of_row w9 _ 9 _ _ _ s1; have t10 := cell_of_row w9 _ 10 _ _ _ s1; have t11 := cell_of_row w9 _ 11 _ _ _ s1; have t12 := cell_of_row w9 _ 12 _ _ _ s1; have t13 := cell_of_row w9 _ 13 _ _ _ s1; have t14 := cell_of_row w9 _ 14 _ _ _ s1; clear s1; go_simp; (try with_reducible rfl)
        simp only [List.getElem_toArray, List.getElem_cons_succ, List.getElem_cons_zero, Act.put, List.setIfInBounds_toArray, List.set_cons_zero, List.set_cons_succ]
        refine wpAnyH_take (i := 15) (v := ?_) rfl (by kernel_rfl) (by kernel_rfl) (by kernel_rfl) (fun _ _ _ h => h) (Or.inl ⟨by rfl, ?_⟩) hSw ?_
        rotate_left
        · intro w9 hS9; (try dsimp only at hS9); obtain ⟨s1, s2, s3⟩ := hS9; have t0 := cell_of_row w9 _ 0 _ _ _ s1; have t1 := cell_of_row w9 _ 1 _ _ _ s1; have t2 := cell_of_row w9 _ 2 _ _ _ s1; have t3 := cell_of_row w9 _ 3 _ _ _ s1; have t4 := cell_of_row w9 _ 4 _ _ _ s1; have t5 := cell_of_row w9 _ 5 _ _ _ s1; have t6 := cell_of_row w9 _ 6 _ _ _ s1; have t7 := cell_of_row w9 _ 7 _ _ _ s1; have t8 := cell_of_row w9 _ 8 _ _ _ s1; have t9 := cell_of_row w9 _ 9 _ _ _ s1; have t10 := cell_of_row w9 _ 10 _ _ _ s1; have t11 := cell_of_row w9 _ 11 _ _ _ s1; have t12 := cell_of_row w9 _ 12 _ _ _ s1; have t13 := cell_of_row w9 _ 13 _ _ _ s1; have t14 := cell_of_row w9 _ 14 _ _ _ s1; clear s1; go_simp; (try with_reducible rfl)
        simp only [List.getElem_toArray, List.getElem_cons_succ, List.getElem_cons_zero, Act.put, List.setIfInBounds_toArray, List.set_cons_zero, List.set_cons_succ]
        refine wpAnyH_ready (rs := [3]) (by kernel_rfl) (by simp) ?_
        refine AllReadyH.cons rfl (fun K hK => ?_) AllReadyH.nil
        simp only [List.getElem_toArray, List.getElem_cons_succ, List.getElem_cons_zero]
        clear hbx
        have hnet := Hnet.out wr.drew
        dsimp only [inpVals] at hnet
        go_simp
        refine hnet.mono ?_
        clear hnet
        rintro e w3 ⟨rfl, hb3⟩
        have hS3 := And.intro ((hb3.block _ hlx).trans hSw.1) (And.intro (cell_below hb3 hSw.2.1) (cell_below hb3 hSw.2.2))
        have HB3 := Lib.hid (show Below wr.heap.size wr w3 from (Below.refl _ wr).drew.trans hb3)
        clear hb3 hSw
        dsimp only
        refine hK.out _ _ hS3 (fun hSw => ?_)
        clear hK K hS3
        refine wpAnyH_ready (rs := [16]) (by kernel_rfl) (by simp) ?_
        refine AllReadyH.cons rfl (fun K hK => ?_) AllReadyH.nil
        simp only [List.getElem_toArray, List.getElem_cons_succ, List.getElem_cons_zero]
        have hgr := Hgr2.out w3 HB3.out
        rw [Hn1.out, Hn2.out] at hgr
        go_simp
        refine hgr.mono ?_
        clear hgr
        rintro e w4 ⟨A4, c4, rfl, hr4, hb4⟩
        have hS4 := And.intro ((hb4.block _ (lt_of_block hSw.1)).trans hSw.1) (And.intro (cell_below hb4 hSw.2.1) (cell_below hb4 hSw.2.2))
        have HB4 := Lib.hid (HB3.out.trans (hb4.mono HB3.out.size))
        have HR4 := Lib.hid hr4
        clear hb4 hSw hr4
        dsimp only
        refine hK.out _ _ hS4 (fun hSw => ?_)
        clear hK K hS4
        refine wpAnyH_ready (rs := [17]) (by kernel_rfl) (by simp) ?_
        refine AllReadyH.cons rfl (fun K hK => ?_) AllReadyH.nil
        simp only [List.getElem_toArray, List.getElem_cons_succ, List.getElem_cons_zero]
        go_simp
        have hz4 := HB4.out.size
        have hs4 : SlRd rVec0 1 (w4.alloc (.cells #[.slice As n cs, .slice A4 n c4] 26)) (some ⟨w4.heap.size, 0, none⟩) [gradAcc i P (pickL i.data (idx.take k)), gradL i.cfg.sizes P i.cfg.shift x.1 x.2] :=
          vv_two w4 _ _ As A4 n cs c4 _ _ rfl rfl (by rw [gradAcc_len]; exact Hn.out) Hgl.out hcb (Rd.own (own_below HO.out HB4.out)) HR4.out
        have hsum := rsumv_any (some ⟨w4.heap.size, 0, none⟩) [gradAcc i P (pickL i.data (idx.take k)), gradL i.cfg.sizes P i.cfg.shift x.1 x.2] 2 n _ _ hs4 (by simp) rfl (by rw [gradAcc_len]; exact Hn.out)
        have hsum : Calls Tryz.prog 21 #[.slice (some ⟨w4.heap.size, 0, none⟩) 2 2] (w4.alloc (.cells #[.slice As n cs, .slice A4 n c4] 26)) _ := hsum
        have Hsum := Lib.hid hsum
        clear hs4 hsum
        refine hK.out _ _ ⟨blk_alloc hSw.1 _, cell_alloc hSw.2.1 _, cell_alloc hSw.2.2 _⟩ (fun hSw => ?_)
        clear hK K
        refine wpAnyH_ready (rs := [18]) (by kernel_rfl) (by simp) ?_
        refine AllReadyH.cons rfl (fun K hK => ?_) AllReadyH.nil
        simp only [List.getElem_toArray, List.getElem_cons_succ, List.getElem_cons_zero]
        go_simp
        refine Hsum.out.mono ?_
        rintro e w5 ⟨v5, ok, rfl, hb5, hgood⟩
        obtain ⟨rfl, ho5⟩ := hgood (fun t y hy => by
          match t, hy with
          | 0, hy => injection hy with hy; rw [← hy, gradAcc_len]; exact Hn.out
          | 1, hy => injection hy with hy; rw [← hy]; exact Hgl.out)
        rw [sumR_two (by rw [gradAcc_len]; exact Hn.out) (gradAcc_W64 _ _ _), ← gradAcc_snoc, ← Hps.out] at ho5
        have hS5 := And.intro ((hb5.block _ (lt_of_block hSw.1)).trans hSw.1) (And.intro (cell_below hb5 hSw.2.1) (cell_below hb5 hSw.2.2))
        have hb5' : Below wr.heap.size wr w5 := (HB4.out.alloc hz4 _).trans (hb5.mono (by simp; omega))
        have HO5 := Lib.hid (own_base (base' := w.heap.size) ho5 (by simp; omega))
        have HB5 := Lib.hid (HBW.out.trans (hb5'.mono (by omega)))
        clear hb5 hb5' ho5 hgood hSw Hsum
        obtain ⟨A5, c5, rfl, _⟩ := own_form HO5.out
        dsimp only
        refine hK.out _ _ hS5 (fun hSw => ?_)
        clear hK K hS5
        refine wpAnyH_take (i := 19) (v := ?_) rfl (by kernel_rfl) (by kernel_rfl) (by kernel_rfl) (fun _ _ _ h => h) (Or.inl ⟨by rfl, ?_⟩) hSw ?_
        rotate_left
        · intro w9 hS9; (try dsimp only at hS9); obtain ⟨s1, s2, s3⟩ := hS9; have t0 := cell_of_row w9 _ 0 _ _ _ s1; have t1 := cell_of_row w9 _ 1 _ _ _ s1; have t2 := cell_of_row w9 _ 2 _ _ _ s1; have t3 := cell_of_row w9 _ 3 _ _ _ s1; have t4 := cell_of_row w9 _ 4 _ _ _ s1; have t5 := cell_of_row w9 _ 5 _ _ _ s1; have t6 := cell_of_row w9 _ 6 _ _ _ s1; have t7 := cell_of_row w9 _ 7 _ _ _ s1; have t8 := cell_of_row w9 _ 8 _ _ _ s1; have t9 := cell_of_row w9 _ 9 _ _ _ s1; have t10 := cell_of_row w9 _ 10 _ _ _ s1; have t11 := cell_of_row w9 _ 11 _ _ _ s1; have t12 := cell_of_row w9 _ 12 _ _ _ s1; have t13 := cell_of_row w9 _ 13 _ _ _ s1; have t14 := cell_of_row w9 _ 14 _ _ _ s1; clear s1; go_simp; (try with_reducible rfl)
        simp only [List.getElem_toArray, List.getElem_cons_succ, List.getElem_cons_zero, Act.put, List.setIfInBounds_toArray, List.set_cons_zero, List.set_cons_succ]
        refine wpAnyH_take (i := 20) (v := ?_) rfl (by kernel_rfl) (by kernel_rfl) (by kernel_rfl) (fun _ _ _ h => h) (Or.inl ⟨by rfl, ?_⟩) hSw ?_
        rotate_left
        · intro w9 hS9; (try dsimp only at hS9); obtain ⟨s1, s2, s3⟩ := hS9; have t0 := cell_of_row w9 _ 0 _ _ _ s1; have t1 := cell_of_row w9 _ 1 _ _ _ s1; have t2 := cell_of_row w9 _ 2 _ _ _ s1; have t3 := cell_of_row w9 _ 3 _ _ _ s1; have t4 := cell_of_row w9 _ 4 _ _ _ s1; have t5 := cell_of_row w9 _ 5 _ _ _ s1; have t6 := cell_of_row w9 _ 6 _ _ _ s1; have t7 := cell_of_row w9 _ 7 _ _ _ s1; have t8 := cell_of_row w9 _ 8 _ _ _ s1; have t9 := cell_of_row w9 _ 9 _ _ _ s1; have t10 := cell_of_row w9 _ 10 _ _ _ s1; have t11 := cell_of_row w9 _ 11 _ _ _ s1; have t12 := cell_of_row w9 _ 12 _ _ _ s1; have t13 := cell_of_row w9 _ 13 _ _ _ s1; have t14 := cell_of_row w9 _ 14 _ _ _ s1; clear s1; go_simp; (try with_reducible rfl)
        simp only [List.getElem_toArray, List.getElem_cons_succ, List.getElem_cons_zero, Act.put, List.setIfInBounds_toArray, List.set_cons_zero, List.set_cons_succ]
        refine wpAnyH_take (i := 21) (v := ?_) rfl (by kernel_rfl) (by kernel_rfl) (by kernel_rfl) (fun _ _ _ h => h) (Or.inl ⟨by rfl, ?_⟩) hSw ?_
        rotate_left
        · intro w9 hS9; (try dsimp only at hS9); obtain ⟨s1, s2, s3⟩ := hS9; have t0 := cell_of_row w9 _ 0 _ _ _ s1; have t1 := cell_of_row w9 _ 1 _ _ _ s1; have t2 := cell_of_row w9 _ 2 _ _ _ s1; have t3 := cell_of_row w9 _ 3 _ _ _ s1; have t4 := cell_of_row w9 _ 4 _ _ _ s1; have t5 := cell_of_row w9 _ 5 _ _ _ s1; have t6 := cell_of_row w9 _ 6 _ _ _ s1; have t7 := cell_of_row w9 _ 7 _ _ _ s1; have t8 := cell_of_row w9 _ 8 _ _ _ s1; have t9 := cell_of_row w9 _ 9 _ _ _ s1; have t10 := cell_of_row w9 _ 10 _ _ _ s1; have t11 := cell_of_row w9 _ 11 _ _ _ s1; have t12 := cell_of_row w9 _ 12 _ _ _ s1; have t13 := cell_of_row w9 _ 13 _ _ _ s1; have t14 := cell_of_row w9 _ 14 _ _ _ s1; clear s1; go_simp; (try with_reducible rfl)
        simp only [List.getElem_toArray, List.getElem_cons_succ, List.getElem_cons_zero, Act.put, List.setIfInBounds_toArray, List.set_cons_zero, List.set_cons_succ]
        refine wpAnyH_take (i := 22) (v := ?_) rfl (by kernel_rfl) (by kernel_rfl) (by kernel_rfl) (fun _ _ _ h => h) (Or.inl ⟨by rfl, ?_⟩) hSw ?_
        rotate_left
        · intro w9 hS9; (try dsimp only at hS9); obtain ⟨s1, s2, s3⟩ := hS9; have t0 := cell_of_row w9 _ 0 _ _ _ s1; have t1 := cell_of_row w9 _ 1 _ _ _ s1; have t2 := cell_of_row w9 _ 2 _ _ _ s1; have t3 := cell_of_row w9 _ 3 _ _ _ s1; have t4 := cell_of_row w9 _ 4 _ _ _ s1; have t5 := cell_of_row w9 _ 5 _ _ _ s1; have t6 := cell_of_row w9 _ 6 _ _ _ s1; have t7 := cell_of_row w9 _ 7 _ _ _ s1; have t8 := cell_of_row w9 _ 8 _ _ _ s1; have t9 := cell_of_row w9 _ 9 _ _ _ s1; have t10 := cell_of_row w9 _ 10 _ _ _ s1; have t11 := cell_of_row w9 _ 11 _ _ _ s1; have t12 := cell_of_row w9 _ 12 _ _ _ s1; have t13 := cell_of_row w9 _ 13 _ _ _ s1; have t14 := cell_of_row w9 _ 14 _ _ _ s1; clear s1; go_simp; (try with_reducible rfl)
        simp only [List.getElem_toArray, List.getElem_cons_succ, List.getElem_cons_zero, Act.put, List.setIfInBounds_toArray, List.set_cons_zero, List.set_cons_succ]
        refine wpAnyH_done (by kernel_rfl) ?_ _
        clear hSw p1 p2
        go_wp2_with fail
        go_roundw
        case rel =>
          refine ⟨k + 1, hlt, by go_num, HO5.out, Lib.hid fun t ht => ?_, HB5.out⟩
          rcases Nat.lt_or_ge t k with h | h
          · exact Hall.out t h
          · obtain rfl : t = k := by omega
            exact Hgd.out
        case measure => exact nx_m2 hlt
      · have hgi : nth idx k < 0 ∨ (i.data.length : Int) ≤ nth idx k := by
          have hN := HN.out
          unfold goodI at hgd; omega
        have hng : ¬ allGood i idx := fun h => hgd (by rw [← HN.out]; exact h k (by rw [Hm.out]; exact hlt))
        have Hng := Lib.hid hng
        obtain ⟨z, hz⟩ : ∃ z, nth idx k = z := ⟨_, rfl⟩
        rw [hz] at px' hgi
        clear hng hgd hz
        by_cases hz0 : z < 0
        · clear hgi
          go_wp2_with fail
          go_ret2
          exact ⟨HB.out, .inr ⟨Hng.out, rfl⟩⟩
        · have hz1 : (i.data.length : Int) ≤ z := by omega
          clear hgi
          go_wp2_with fail
          go_ret2
          exact ⟨HB.out, .inr ⟨Hng.out, rfl⟩⟩
    · obtain rfl : m = k := by omega
      go_wp2_with fail
      go_ret2
      refine ⟨HB.out, .inl ⟨fun j hj => by rw [HN.out]; exact Hall.out j (by rw [← Hm.out]; exact hj), _, rfl, ?_⟩⟩
      have := HO.out
      rw [Hn.out]
      rwa [← Hm.out, List.take_length] at this
end Go.Proofs.YtfiojofcafjfeaaGreat
