/- bucket.Messages. -/
import Derived.Test.YtaccfnffmbndhaaSegs
import Derived.Test.YtaccfnffmbndhaaRoundOpen
set_option linter.unusedSimpArgs false
set_option linter.unusedVariables false
namespace Go.Proofs.Ytaccfnffmbndhaa
open Go.RowKit Go.Shelf
attribute [local go_sem] Oper.semAt_some

theorem chR_len (s : Rg) (c : Nat) : (chR s c).length = cntQ (s.2 - s.1) c := by rw [chR, shR_len, blkR_len]
/-- The messages of the first ranges. -/
def msgsP (l : List Rg) (c : Nat) : Nat := (l.map fun s => (chR s c).length).sum
theorem msgsP_snoc (l : List Rg) (x : Rg) (c : Nat) : msgsP (l ++ [x]) c = msgsP l c + cntQ (x.2 - x.1) c := by simp [msgsP, chR_len]
theorem segR_in {b : Rg} {k : Nat} (h1 : 1 ≤ k) (hb1 : b.1 ≤ 1048576) (hb : b.2 ≤ 1048576) : ∀ r ∈ segR b k, r.1 ≤ 1048576 ∧ r.2 ≤ 1048576 := by
  intro r hr
  simp only [segR, shR, evenR, List.map_map, List.mem_map, List.mem_range, Function.comp] at hr
  obtain ⟨i, hi, rfl⟩ := hr
  have a := bdN_le (b.2 - b.1) k i h1 (by omega)
  have c := bdN_le (b.2 - b.1) k (i + 1) h1 (by omega)
  exact ⟨by simp only; omega, by simp only; omega⟩
theorem msgsP_le {l : List Rg} {c : Nat} (h : ∀ r ∈ l, r.2 ≤ 1048576) : msgsP l c ≤ l.length * 1048576 := by
  induction l with
  | nil => simp [msgsP]
  | cons x l ih =>
    have h1 := cntQ_le (x.2 - x.1) c
    have h2 := h x (List.mem_cons_self)
    have h3 := ih fun r hr => h r (List.mem_cons_of_mem _ hr)
    simp only [msgsP, List.map_cons, List.sum_cons, chR_len, List.length_cons] at h3 ⊢
    omega

set_option maxRecDepth 100000 in
set_option maxHeartbeats 2000000 in
theorem msgs_any (lo hi k c : Nat) (w : World) (h1 : 1 ≤ k) (h2 : k ≤ 1048576) (h3 : lo ≤ 1048576) (h4 : hi ≤ 1048576) (h5 : 1 ≤ c) (h6 : c ≤ 1048576) :
    Calls Try.prog 22 #[.agg #[.int .i64 lo, .int .i64 hi], .int .i64 k, .int .i64 c] w fun e w' => e = .returned (.int .i64 (msgsN (lo, hi) k c : Nat)) ∧ Below w.heap.size w w' := by
  obtain ⟨W0, hW0⟩ : ∃ W0, ((w.alloc (.cells #[.int .i64 lo, .int .i64 hi] 54)).alloc (.cells #[.int .i64 c] 3)).alloc (.cells #[.int .i64 0] 3) = W0 := ⟨_, rfl⟩
  have g0 : W0.heap[w.heap.size]? = some (.cells #[.int .i64 lo, .int .i64 hi] 54 (0, 0)) := by
    rw [← hW0, Below.heap_alloc _ _ _ (by simp; omega), Below.heap_alloc _ _ _ (by simp)]; exact heap_alloc_new w _
  have g1 : W0.heap[w.heap.size + 1]? = some (.cells #[.int .i64 c] 3 (0, 0)) := by
    rw [← hW0, Below.heap_alloc _ _ _ (by simp)]; have := heap_alloc_new (w.alloc (.cells #[.int .i64 lo, .int .i64 hi] 54)) (.cells #[.int .i64 c] 3); simpa using this
  have g2 : W0.heap[w.heap.size + 1 + 1]? = some (.cells #[.int .i64 0] 3 (0, 0)) := by
    rw [← hW0]; have := heap_alloc_new ((w.alloc (.cells #[.int .i64 lo, .int .i64 hi] 54)).alloc (.cells #[.int .i64 c] 3)) (.cells #[.int .i64 0] 3); simpa using this
  have hB0 : Below w.heap.size w W0 := by rw [← hW0]; exact (((br w).alloc (Nat.le_refl _) _).alloc (by simp) _).alloc (by simp; omega) _
  have hs0 : W0.heap.size = w.heap.size + 1 + 1 + 1 := by rw [← hW0]; simp
  have t0 := fun w' q => bx2 (sb g0 w' q)
  have HW0 := Lib.hid hW0; have HB0 := Lib.hid hB0; have Hs0 := Lib.hid hs0; have G1 := Lib.hid g1; have G2 := Lib.hid g2
  clear hW0 g0 g1 g2 hB0 hs0
  refine (callsIn_wide (n := 3)).1 ?_
  refine callsIn_of_wp_marks Try.func22 rfl trivial ?_ rfl
  simp only [Try.ntmps22, List.size_toArray, List.length_cons, List.length_nil, Nat.reduceAdd, Nat.reduceSub, Array.replicate_succ, Array.replicate_zero, List.push_toArray, List.append_toArray, List.nil_append, List.cons_append]
  have q0 := br W0
  gi_wp2_with fail
  rw [HW0.out]
  refine wide_then (HA.g (fun w' : World => Below W0.heap.size W0 w') ?_)
  refine HA.t ?_ [0, 2, 4, 5] q0.drew ?_
  refine HA.c 1 (rgsize_any lo hi _ h3 h4) ?_
  rintro e w1 ⟨rfl, k1⟩
  have q1 := bt q0.drew k1
  refine ⟨_, rfl, q1, fun _ => ?_⟩
  refine HA.c 3 (even_any (hi - lo) k _ h1 h2 (by omega)) ?_
  rintro e w2 ⟨v2, rfl, o2, k2⟩
  obtain ⟨A, cc, rfl, _⟩ := own_form o2
  have q2 := bt q1 k2
  have hl := later_any A (evenR (hi - lo) k) cc lo w2 (Rd.own o2)
  rw [evenR_len] at hl
  refine ⟨_, rfl, q2, fun _ => ?_⟩
  refine HA.c 6 hl ?_
  rintro e w3 ⟨L, S, B, rfl, hA, hlb, k3⟩
  have hLB : LatB W0.heap.size w3.heap.size L S B A := ⟨⟨Nat.le_trans q2.size hlb.1, lt_of_block hA.l⟩, ⟨Nat.le_trans q2.size hlb.2.1, lt_of_block hA.s⟩, ⟨Nat.le_trans q2.size hlb.2.2, lt_of_block hA.b⟩, fun x hx => ⟨Nat.le_trans q1.size (own_at o2 x hx).1, Nat.lt_of_lt_of_le (own_at o2 x hx).2 k3.size⟩⟩
  have q3 := bt q2 k3
  refine ⟨_, rfl, q3, fun _ => ?_⟩
  refine HA.d ?_
  have hst := fun n => later_stopsM n W0.heap.size w3.heap.size L S B A _ cc lo w3 hA hLB (by rw [evenR_len]; exact h2) h3 (evenR_in h1 (by omega))
  have hB3 := HB0.out.trans (q3.mono HB0.out.size)
  have g1 := sb G1.out w3 q3
  have g2 := sb G2.out w3 q3
  have hs3 := q3.size
  have Hst := Lib.hid hst; have HB3 := Lib.hid hB3; have Hg1 := Lib.hid g1; have Hg2 := Lib.hid g2
  clear hst hB3 g1 g2 o2 hl hA hlb hLB k1 k2 k3 q0 q1 q2 q3 t0 HW0 G1 G2 HB0
  simp only [Exit.then, Act.put, List.setIfInBounds_toArray, List.set_cons_zero, List.set_cons_succ]
  gi_wp2_with fail
  refine' wpIn_rangeFunc_ownH (F := Fence.wide) (n := 3) rfl (by omega) (gf := 49) (lb := #[.pointer (some ⟨L, 0, none⟩), .pointer (some ⟨S, 0, none⟩)]) rfl trivial (enters_of Try.func49 (by kernel_rfl) rfl)
    (Hst.out _) Kd.trans (kd_b (Nat.le_refl _)) (br w3) (fun _ => rfl)
    (fun (pre : List { r : Rg // r ∈ shR lo (evenR (hi - lo) k) }) W => (Boxed W (w.heap.size + 1 + 1) 3 (.int .i64 (msgsP (pre.map (·.1)) c : Nat)) ∧ W.heap[w.heap.size + 1]? = some (.cells #[.int .i64 c] 3 (0, 0))) ∧ Below w.heap.size w W ∧ w3.heap.size ≤ W.heap.size)
    (fun _ _ _ => False)
    (OwnFrom.and (OwnFrom.and (Own.from (boxed_own _ _ _) _) (ownFrom_block _ _ _ rfl)) (OwnFrom.and (ownFrom_below (Nat.le_refl _) HB3.out.size) (fun _ _ _ _ hs hg _ => Nat.le_trans hs hg.size)))
    (fun _ _ _ _ _ hs _ _ => hs)
    ⟨⟨Hg2.out, Hg1.out⟩, HB3.out, Nat.le_refl _⟩
    (fun x a' W => ∃ b, a' = { tmps := #[.agg #[.int .i64 lo, .int .i64 hi], .int .i64 k, .int .i64 c, .pointer (some ⟨w.heap.size, 0, none⟩), undef, .pointer (some ⟨w.heap.size + 1, 0, none⟩), .int .i64 0, .pointer (some ⟨w.heap.size + 1 + 1, 0, none⟩), .pointer (some ⟨b, 0, none⟩), .agg #[.int .i64 lo, .int .i64 hi], .int .i64 (hi - lo : Nat), .int .i64 k, .slice A k cc, .pointer (some ⟨w.heap.size, 0, none⟩), .int .i64 lo, .func (.func 49) #[] #[.pointer (some ⟨L, 0, none⟩), .pointer (some ⟨S, 0, none⟩)], .agg #[.int .i64 (x.1.1 : Int), .int .i64 (x.1.2 : Int)], undef, undef, undef, undef, undef, undef, undef], defers := [] } ∧ W.heap[b]? = some (.cells #[.int .i64 (x.1.1 : Int), .int .i64 (x.1.2 : Int)] 54 (0, 0)))
    (fun x a' _ W W' row h hg hr => by obtain ⟨b, e, hb⟩ := h; exact ⟨b, e, ownFrom_block _ b _ rfl () W W' row hb hg hr⟩)
    ?assign ?body ?done ?stop
  case assign =>
    rintro l pre x W K ⟨⟨hn, hc⟩, hBl, hz⟩ hK
    unfold rgEnc
    have qa : Below W.heap.size W (W.alloc (.cells #[.int .i64 (x.1.1 : Int), .int .i64 (x.1.2 : Int)] 54)) := (Below.refl _ W).alloc (Nat.le_refl _) _
    gi_wp2
    exact hK _ _ ((KeepsOthers.of_grownBy (row := none) (grown_none qa) (fun _ _ h => by cases h)).from _) (kd_below (qa.mono hz)) ⟨⟨hn.alloc _, (Below.heap_alloc _ _ _ (lt_of_block hc)).trans hc⟩, hBl.trans (qa.mono hBl.size), Nat.le_trans hz qa.size⟩ ⟨_, rfl, heap_alloc_new _ _⟩
  case body =>
    rintro l pre x a' W _ _ ⟨⟨hn, hc⟩, hBl, hz⟩ ⟨b, rfl, hb⟩ hlt
    have hxb := segR_in (b := (lo, hi)) h1 h3 h4 x.1 x.2
    have hsn := msgsP_snoc (pre.map (·.1)) x.1 c
    obtain ⟨r, hr⟩ : ∃ r, x.1 = r := ⟨_, rfl⟩
    rw [hr] at hxb hb hsn ⊢
    have hm := msgsP_le (l := pre.map (·.1)) (c := c) (by
      intro r' hr'
      obtain ⟨y, _, rfl⟩ := List.mem_map.1 hr'
      exact (segR_in (b := (lo, hi)) h1 h3 h4 y.1 y.2).2)
    rw [evenR_len] at hlt
    rw [List.length_map] at hm
    have hco := cntQ_le (r.2 - r.1) c
    obtain ⟨m, hm0⟩ : ∃ m, msgsP (pre.map (·.1)) c = m := ⟨_, rfl⟩
    rw [hm0] at hm hsn hn
    obtain ⟨y, hy⟩ : ∃ y, cntQ (r.2 - r.1) c = y := ⟨_, rfl⟩
    have hwr : IntKind.i64.wrap ((m : Int) + (y : Int)) = (m : Int) + y := IntWalk.i64_in _ (by omega)
    have tn := fun w' q => bx1 (sb hn w' q)
    have tc := fun w' q => bx1 (sb hc w' q)
    have tb := fun w' q => bx2 (sb hb w' q)
    have ln := sl hn
    have hcnt := fun w' => count_any (r.2 - r.1) c w' (by omega) h5 h6
    rw [hy] at hcnt hsn
    have Hn := Lib.hid hn; have Hc := Lib.hid hc; have HBl := Lib.hid hBl; have Hz := Lib.hid hz; have Hsn := Lib.hid hsn; have Hcnt := Lib.hid hcnt
    clear hn hc hb hBl hz hlt hm hm0 hsn hco hy hcnt
    have q0 := br W
    gi_wp2_with fail
    refine XA.r 6 (fun w' : World => Below W.heap.size W w') ?_
    refine XA.t ?_ [0, 1, 3] q0.drew ?_
    refine XA.c 2 (rgsize_any r.1 r.2 _ hxb.1 hxb.2) ?_
    rintro e w5 ⟨rfl, k5⟩
    have q5 := bt q0.drew k5
    refine ⟨_, rfl, q5, fun _ => ?_⟩
    refine XA.c 4 (Hcnt.out w5) ?_
    rintro e w6 ⟨rfl, rfl⟩
    refine ⟨_, rfl, q5, fun _ => ?_⟩
    refine XA.t ?_ [5] q5 ?_
    refine XA.e ?_
    simp only [List.drop_succ_cons, List.drop_zero]
    go_wp2_with fail
    have hk : Keep (fun j => j = w.heap.size + 1 + 1) W (w5.setCell ⟨w.heap.size + 1 + 1, 0, none⟩ (.int .i64 ((m : Int) + y))) := Keep.setCell (S := fun j => j = w.heap.size + 1 + 1) (Keep.below q5) ⟨w.heap.size + 1 + 1, 0, none⟩ (.inr rfl) _
    have hn5 := heap_setCell_same w5 (w.heap.size + 1 + 1) 0 _ _ (.int .i64 ((m : Int) + y)) (sb Hn.out w5 q5)
    refine ⟨(others_keep hk fun j o hj ho => ?_).from _, ⟨hk.size, fun j j1 j2 => hk.block j (by have := Hz.out; omega) (by have := Hs0.out; omega)⟩, ⟨?_, (hk.block _ (lt_of_block Hc.out) (by omega)).trans Hc.out⟩, HBl.out.trans (hk.toBelow HBl.out.size (fun j hj => by omega)), Nat.le_trans Hz.out hk.size⟩
    · subst hj
      have := ho.symm.trans Hn.out
      cases this; rfl
    · rw [List.map_append, List.map_cons, List.map_nil, hr, Hsn.out, Int.natCast_add]
      unfold Boxed
      simpa using hn5
  case done =>
    rintro D ys W hD hys ⟨⟨hn, hc⟩, hBl, hz⟩ hK
    have hcn := hn.cell
    gi_wp2
    refine ⟨by simp, .inl ⟨_, _, rfl, run_takeDeferred hK, ?_⟩⟩
    rw [hys] at hcn
    refine ⟨.int .i64 (msgsP (shR lo (evenR (hi - lo) k)) c : Nat), by simp [results, Try.results22, go_sem, hys], rfl, hBl.trans (belowK_b (w := w) (Nat.le_refl _) W D _ _ (by have := HB3.out.size; omega) hK rfl rfl)⟩
  case stop =>
    rintro D c pre W _ _ h _
    exact h.elim
end Go.Proofs.Ytaccfnffmbndhaa
