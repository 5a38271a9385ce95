/- The plain law of SerialParts: sums of gradients of parts, and in another order. slices.Clone and slices.Reverse at []int. The walk of SerialParts. No condition. -/
import Derived.Test.YtfiojofcafjfeaaGreatJ48
import Derived.Test.YtfiojofcafjfeaaGreatJ05
import Derived.Test.YtfiojofcafjfeaaGreatJ15
import Derived.Test.YtfiojofcafjfeaaGreatJ49
import Derived.WalkSpells
set_option linter.unusedSimpArgs false
set_option linter.unusedVariables false
namespace Go.Proofs.YtfiojofcafjfeaaGreat
open Go.RowKit

theorem wrap_l (a b : Int) : wrap64 (wrap64 a + b) = wrap64 (a + b) := by unfold wrap64; omega
theorem wrap_lr (a b : Int) : wrap64 (wrap64 a + wrap64 b) = wrap64 (a + b) := by unfold wrap64; omega
theorem wrap_w (a : Int) : wrap64 (wrap64 a) = wrap64 a := by unfold wrap64; omega
/-- The sum of the numbers at a place. -/
def sumAt (i : Inp) (P : List Int) (k : Nat) : List Ex → Int
  | [] => 0
  | x :: l => nth (gradL i.cfg.sizes P i.cfg.shift x.1 x.2) k + sumAt i P k l
theorem sumAt_app (i : Inp) (P : List Int) (k : Nat) (b : List Ex) : ∀ a : List Ex, sumAt i P k (a ++ b) = sumAt i P k a + sumAt i P k b
  | [] => by simp [sumAt]
  | x :: a => by have := sumAt_app i P k b a; simp only [List.cons_append, sumAt, this]; omega
theorem sumAt_rev (i : Inp) (P : List Int) (k : Nat) : ∀ a : List Ex, sumAt i P k a.reverse = sumAt i P k a
  | [] => rfl
  | x :: a => by have := sumAt_rev i P k a; simp only [List.reverse_cons, sumAt_app, sumAt, this]; omega
theorem gradAcc_nth (i : Inp) (P : List Int) {k : Nat} (hk : k < cnt i) (l : List Ex) : nth (gradAcc i P l) k = wrap64 (sumAt i P k l) := by
  have h : ∀ (l : List Ex) (a : List Int), a.length = cnt i → nth (l.foldl (fun a x => addL a (gradL i.cfg.sizes P i.cfg.shift x.1 x.2)) a) k = wrap64 (nth a k + sumAt i P k l) ∨ l = [] := by
    intro l
    induction l with
    | nil => intro a _; exact .inr rfl
    | cons x l ih =>
      intro a ha
      have e : nth (addL a (gradL i.cfg.sizes P i.cfg.shift x.1 x.2)) k = wrap64 (nth a k + nth (gradL i.cfg.sizes P i.cfg.shift x.1 x.2) k) := upTo_nth _ (by omega)
      rw [List.foldl_cons]
      rcases ih (addL a (gradL i.cfg.sizes P i.cfg.shift x.1 x.2)) (by rw [addL_len]; exact ha) with h | rfl
      · rw [h, e, wrap_l]; left; simp only [sumAt]; congr 1; omega
      · left; rw [List.foldl_nil, e]; simp [sumAt]
  rcases h l (List.replicate (cnt i) 0) (by simp) with h | rfl
  · unfold gradAcc; rw [h]; congr 1; simp [nth, hk]
  · simp [gradAcc, nth, hk, sumAt, wrap64]
theorem gradAcc_rev (i : Inp) (P : List Int) (l : List Ex) : gradAcc i P l.reverse = gradAcc i P l :=
  ext_nth (by rw [gradAcc_len, gradAcc_len]) fun k hk => by
    rw [gradAcc_len] at hk
    rw [gradAcc_nth i P hk, gradAcc_nth i P hk, sumAt_rev]
theorem sumR_par (i : Inp) (P : List Int) (a b : List Ex) : sumR (cnt i) [gradAcc i P a, gradAcc i P b] = gradAcc i P (a ++ b) :=
  ext_nth (by rw [sumR_len, gradAcc_len]) fun k hk => by
    rw [sumR_len] at hk
    have e1 : nth (sumR (cnt i) [gradAcc i P a, gradAcc i P b]) k = wrap64 (nth (addL (List.replicate (cnt i) 0) (gradAcc i P a)) k + nth (gradAcc i P b) k) := upTo_nth _ (by rw [addL_len]; simpa using hk)
    have e2 : nth (addL (List.replicate (cnt i) 0) (gradAcc i P a)) k = wrap64 (nth (List.replicate (cnt i) 0) k + nth (gradAcc i P a) k) := upTo_nth _ (by simpa using hk)
    have e3 : nth (List.replicate (cnt i) 0) k = 0 := by simp [nth, hk]
    rw [e1, e2, e3, gradAcc_nth i P hk, gradAcc_nth i P hk, gradAcc_nth i P hk, sumAt_app, Int.zero_add, wrap_w, wrap_lr]
theorem allGood_mem (i : Inp) (l : List Int) : allGood i l ↔ ∀ x ∈ l, goodI i.data.length x := by
  constructor
  · intro h x hx
    obtain ⟨k, hk, rfl⟩ := List.mem_iff_getElem.1 hx
    have := h k hk
    rwa [nth_eq _ _ hk] at this
  · intro h k hk
    rw [nth_eq _ _ hk]
    exact h _ (List.getElem_mem _)
theorem okR_iff {i : Inp} {a : List Int} {p : Bool} (h : allGood i a ↔ p = true) : okR i a = p := by
  by_cases hp : allGood i a
  · rw [okR_t hp, h.1 hp]
  · rw [okR_f hp]; cases p <;> simp_all
theorem okR_true {i : Inp} {a : List Int} : okR i a = true ↔ allGood i a := by
  by_cases hp : allGood i a
  · simp [okR_t hp, hp]
  · simp [okR_f hp, hp]
theorem okR_rev (i : Inp) (l : List Int) : okR i l.reverse = okR i l := okR_iff (by rw [okR_true, allGood_mem, allGood_mem]; simp)
theorem okR_parts (i : Inp) (l : List Int) (k : Nat) : (okR i (l.take k) && okR i (l.drop k)) = okR i l := by
  refine (okR_iff ?_).symm
  rw [Bool.and_eq_true, okR_true, okR_true, allGood_mem, allGood_mem, allGood_mem]
  conv => lhs; rw [← List.take_append_drop k l]
  simp only [List.mem_append, or_imp, forall_and]
theorem gradR_rev (i : Inp) (P l : List Int) : gradR i P l.reverse = gradR i P l := by
  have : allGood i l.reverse ↔ allGood i l := by rw [allGood_mem, allGood_mem]; simp
  unfold gradR
  rw [show pickL i.data l.reverse = (pickL i.data l).reverse by simp [pickL], gradAcc_rev]
  by_cases h : allGood i l
  · rw [if_pos h, if_pos (this.2 h)]
  · rw [if_neg h, if_neg (fun h' => h (this.1 h'))]
theorem gradR_parts {i : Inp} {P l : List Int} {k : Nat} (h : okR i l = true) : sumR (cnt i) [gradR i P (l.take k), gradR i P (l.drop k)] = gradR i P l ∧ (gradR i P (l.take k)).length = cnt i ∧ (gradR i P (l.drop k)).length = cnt i := by
  have hp := okR_parts i l k
  rw [h, Bool.and_eq_true] at hp
  have h1 := okR_true.1 hp.1
  have h2 := okR_true.1 hp.2
  have h3 := okR_true.1 h
  unfold gradR
  rw [if_pos h1, if_pos h2, if_pos h3, sumR_par]
  refine ⟨?_, gradAcc_len _ _ _, gradAcc_len _ _ _⟩
  rw [show pickL i.data (l.take k) ++ pickL i.data (l.drop k) = pickL i.data l by rw [pickL, pickL, pickL, ← List.map_append, List.take_append_drop]]
end Go.Proofs.YtfiojofcafjfeaaGreat
namespace Go.Proofs.YtfiojofcafjfeaaGreat
open Go.RowKit

theorem et_intc : ElemT Tryz.prog 22 3 (.int .i64 0) 1 8 := ⟨Tryz.underlying22, info_parts (by kernel_rfl), rfl, by decide⟩

theorem pclone_any (A : Option Addr) (zs : List Int) (c : Nat) (w : World) (hA : Rd w A (nums .i64 zs)) (hl : zs.length ≤ 17592186043904) :
    Calls Tryz.prog 18 #[.slice A zs.length c] w fun e w' => ∃ v, e = .returned v ∧ w'.ownsRow w.heap.size 3 1 v zs.length (nums .i64 zs) ∧ Below w.heap.size w w' := by
  have q := fun (w : World) => Lib.run_eql_slice_nil (P := Tryz.prog) w 22 3 A zs.length c 0 0 Tryz.underlying22
  cases A with
  | none =>
    have hz : zs = [] := by
      cases zs with
      | nil => rfl
      | cons z l => obtain ⟨b, o, h, _⟩ := hA 0 _ rfl; cases h
    subst hz
    clear q
    have q := fun (w : World) => Lib.run_eql_slice_nil (P := Tryz.prog) w 22 3 none 0 c 0 0 Tryz.underlying22
    simp only [Option.isNone_none] at q
    rw [List.length_nil]
    go_enter Tryz.func18, Tryz.ntmps18
    go_wp2
    go_ret
    exact ⟨_, rfl, World.ownsRow_nil _ _ _ _, Below.refl _ _⟩
  | some a =>
    go_enter Tryz.func18, Tryz.ntmps18
    go_wp2_with (at_builtin; refine wpList_app et_intc _ rfl (.tmp 5) (.tmp 6) rfl w.heap.size _ 0 [] rfl (own_empty w 3 1) _ zs.length c (nums .i64 zs) rfl (hA.alloc _) (by rw [nums_length]; omega) (nums_cell _ _) (by omega) (by unfold maxLen; omega) (by simp) ?_)
    intro A' c' w1 hown hb _ _
    have hb1 := ((Below.refl _ w).alloc (Nat.le_refl _) (.cells #[] 3)).trans hb
    have Hown := Lib.hid hown; have Hb1 := Lib.hid hb1; clear hown hb hb1
    go_wp2
    go_ret
    exact ⟨_, rfl, Hown.out, Hb1.out⟩

/-- The first and the last k have changed places. -/
def revN (l : List Int) (k : Nat) : List Int := upTo l.length fun t => if t < k ∨ l.length - 1 - t < k then nth l (l.length - 1 - t) else nth l t
theorem revN_len (l : List Int) (k : Nat) : (revN l k).length = l.length := upTo_len _ _
theorem revN_zero (l : List Int) : revN l 0 = l := by
  refine ext_nth (revN_len l 0) fun k hk => ?_
  rw [revN_len] at hk
  unfold revN; rw [upTo_nth _ hk, if_neg (by omega)]
theorem revN_step {l : List Int} {k : Nat} (h : 2 * k + 1 < l.length) : ((revN l k).set k (nth (revN l k) (l.length - 1 - k))).set (l.length - 1 - k) (nth (revN l k) k) = revN l (k + 1) := by
  refine ext_nth (by simp [revN_len]) fun t ht => ?_
  have ht' : t < l.length := by simpa [revN_len] using ht
  have e1 : nth (revN l k) (l.length - 1 - k) = nth l (l.length - 1 - k) := by unfold revN; rw [upTo_nth _ (by omega), if_neg (by omega)]
  have e2 : nth (revN l k) k = nth l k := by unfold revN; rw [upTo_nth _ (by omega), if_neg (by omega)]
  rw [e1, e2]
  have e3 : nth (revN l (k + 1)) t = if t < k + 1 ∨ l.length - 1 - t < k + 1 then nth l (l.length - 1 - t) else nth l t := by unfold revN; rw [upTo_nth _ ht']
  have e4 : nth (revN l k) t = if t < k ∨ l.length - 1 - t < k then nth l (l.length - 1 - t) else nth l t := by unfold revN; rw [upTo_nth _ ht']
  rw [e3]
  by_cases h1 : t = l.length - 1 - k
  · subst h1
    rw [if_pos (by omega), show l.length - 1 - (l.length - 1 - k) = k by omega]
    simp [nth, revN_len, show l.length - 1 - k < l.length by omega]
  · by_cases h2 : t = k
    · subst h2
      rw [if_pos (by omega)]
      simp [nth, revN_len, ht', Ne.symm h1]
    · have : nth (((revN l k).set k (nth l (l.length - 1 - k))).set (l.length - 1 - k) (nth l k)) t = nth (revN l k) t := by simp [nth, Ne.symm h1, Ne.symm h2]
      rw [this, e4]
      by_cases h3 : t < k ∨ l.length - 1 - t < k
      · rw [if_pos h3, if_pos (by omega)]
      · rw [if_neg h3, if_neg (by omega)]
theorem revN_all {l : List Int} {k : Nat} (h : l.length ≤ 2 * k + 1) : revN l k = l.reverse := by
  refine ext_nth (by simp [revN_len]) fun t ht => ?_
  have ht' : t < l.length := by simpa [revN_len] using ht
  have e : nth l.reverse t = nth l (l.length - 1 - t) := by rw [nth_eq _ _ (by simpa using ht'), List.getElem_reverse, nth_eq _ _ (by omega)]
  rw [e]
  unfold revN; rw [upTo_nth _ ht']
  by_cases h1 : t < k ∨ l.length - 1 - t < k
  · rw [if_pos h1]
  · rw [if_neg h1, show l.length - 1 - t = t by omega]

set_option maxRecDepth 100000 in
theorem rev_any (A : Option Addr) (l : List Int) (n c base : Nat) (w : World) (ho : w.ownsRow base 3 1 (.slice A n c) n (nums .i64 l)) (hn : l.length = n) (hl : n ≤ 1048576) :
    Calls Tryz.prog 19 #[.slice A n c] w fun e w' => e = .returned (.tuple #[]) ∧ w'.ownsRow base 3 1 (.slice A n c) n (nums .i64 l.reverse) ∧ Keep (fun j => (Value.slice A n c).ownBlock = some j) w w' := by
  have h0 : w.ownsRow base 3 1 (.slice A n c) n (nums .i64 (revN l 0)) := by rw [revN_zero]; exact ho
  have hst := fun k (h : 2 * k + 1 < n) => revN_step (l := l) (k := k) (by omega)
  have hall := fun k (h : n ≤ 2 * k + 1) => revN_all (l := l) (k := k) (by omega)
  rw [hn] at hst
  have H0 := Lib.hid h0; have Hst := Lib.hid hst; have Hall := Lib.hid hall; have Hn := Lib.hid hn
  clear ho h0 hst hall hn
  go_enter Tryz.func19, Tryz.ntmps19
  go_wp2_with fail
  go_loopw [2, 3] (fun i j wr => ∃ k : Nat, 2 * k ≤ n + 1 ∧ i = .int .i64 k ∧ j = .int .i64 ((n : Int) - 1 - k) ∧ wr.ownsRow base 3 1 (.slice A n c) n (nums .i64 (revN l k)) ∧ Keep (fun j => (Value.slice A n c).ownBlock = some j) w wr) (fun i _ _ => n - (intOf i).toNat)
  case atStart => exact ⟨0, by omega, rfl, by go_num, H0.out, Keep.refl _ _⟩
  case round =>
    obtain ⟨k, hk, rfl, rfl, hr, hK⟩ := hrel
    by_cases hlt : 2 * k + 1 < n
    · obtain ⟨g, rfl⟩ : ∃ g, A = some ⟨g, 0, none⟩ := by
        obtain ⟨g, e, hv, _⟩ := hr.form (by omega)
        simp only [Value.slice.injEq] at hv
        exact ⟨g, hv.1⟩
      have hlen := hr
      have p1 := own_num hr (show k < n by omega)
      have p2 := own_num hr (show n - 1 - k < n by omega)
      have f1 := hr.frozenAt k
      have f2 := hr.frozenAt (n - 1 - k)
      have hkl : (k : Int) < (n : Int) - 1 - k := by omega
      have hj : (n : Int) - 1 - k = ((n - 1 - k : Nat) : Int) := by omega
      have hjn : n - 1 - k < n := by omega
      have hkn : k < n := by omega
      have hjk : n - 1 - k ≠ k := by omega
      obtain ⟨j, hjj⟩ : ∃ j, n - 1 - k = j := ⟨_, rfl⟩
      rw [hjj] at p2 f2 hj hjn hjk
      rw [hj] at hkl ⊢
      have Hr := Lib.hid hr; have HK := Lib.hid hK; have Hj := Lib.hid hj; have Hjj := Lib.hid hjj
      clear hr hK hlen hj hjj
      go_wp2_with fail
      refine XA.g 13 (fun w' : World => w'.cell? ⟨g, k, none⟩ = some (.int .i64 (nth (revN l k) k)) ∧ w'.cell? ⟨g, j, none⟩ = some (.int .i64 (nth (revN l k) j))) ?_
      refine XA.t0 ?_ [0, 1, 2, 3, 4, 5, 6, 8, 9, 10] ⟨p1, p2⟩ ?_
      refine XA.t ?_ [7, 11] ⟨p1, p2⟩ ?_
      refine XA.t0 ?_ [12] ⟨p1, p2⟩ ?_
      refine XA.e ?_
      simp only [List.drop_succ_cons, List.drop_zero]
      go_wp2_with fail
      go_roundw
      case rel => exact ⟨k + 1, by omega, by go_num, by have := Hj.out; go_num, by rw [← Hst.out k (by omega), Hjj.out]; exact own_put (own_put Hr.out k _) j _, Keep.setCell (S := fun j => (Value.slice (some ⟨g, 0, none⟩) n c).ownBlock = some j) (Keep.setCell (S := fun j => (Value.slice (some ⟨g, 0, none⟩) n c).ownBlock = some j) HK.out.drew ⟨g, k, none⟩ (.inr rfl) _) ⟨g, j, none⟩ (.inr rfl) _⟩
      case measure => simp [intOf]; omega
    · have hkl : ¬ ((k : Int) < (n : Int) - 1 - k) := by omega
      have hr2 := Hall.out k (by omega)
      rw [hr2] at hr
      have Hr := Lib.hid hr; have HK := Lib.hid hK
      clear hr hK hr2
      go_wp2_with fail
      go_end0
      exact ⟨rfl, Hr.out, HK.out⟩
end Go.Proofs.YtfiojofcafjfeaaGreat
namespace Go.Proofs.YtfiojofcafjfeaaGreat
open Go.RowKit Go.ChangeShapes Go.WideShapes Go.ChangeAt

theorem wf_u8' {z : Int} (h : (Lit.int .u8 z).wf = true) : 0 ≤ z ∧ z ≤ 255 := by
  simpa [Lit.wf, IntKind.min, IntKind.max, IntKind.signed, IntKind.bits] using h
theorem rd_dropO {w : World} {B : Option Addr} {xs : List Value} (h : Rd w B xs) (k : Nat) : Rd w (B.map fun x => x.add k) (xs.drop k) := fun j u hu => by
  rw [List.getElem?_drop] at hu
  obtain ⟨b, o, rfl, hc⟩ := h _ _ hu
  exact ⟨b, o + k, by rw [Option.map_some, Addr.add_lit], by rw [Nat.add_assoc]; exact hc⟩
/-- Two vectors in a new block. -/
theorem two_vecs {w : World} {A1 A2 : Option Addr} {l1 l2 : List Int} {n1 n2 c1 c2 : Nat} {t : TypeId} {b : Nat} (hb : w.heap[b]? = some (.cells #[.slice A1 n1 c1, .slice A2 n2 c2] t (0, 0))) (h1 : l1.length = n1) (h2 : l2.length = n2) (b1 : n1 ≤ 1048576) (b2 : n2 ≤ 1048576) (r1 : Rd w A1 (nums .i64 l1)) (r2 : Rd w A2 (nums .i64 l2)) :
    SlRd rVec0 1 w (some ⟨b, 0, none⟩) [l1, l2] := by
  subst h1; subst h2
  refine slrd_one (vals := [.slice A1 l1.length c1, .slice A2 l2.length c2]) (fun j u hu => ⟨b, 0, rfl, by rw [Nat.zero_add, cell_of_row w b j _ t (0, 0) hb]; simpa using hu⟩) rfl fun j x hx => ?_
  match j, hx with
  | 0, hx => simp only [List.getElem?_cons_zero, Option.some.injEq] at hx; subst hx; exact ⟨_, rfl, A1, c1, rfl, by omega, r1⟩
  | 1, hx => simp only [List.getElem?_cons_succ, List.getElem?_cons_zero, Option.some.injEq] at hx; subst hx; exact ⟨_, rfl, A2, c2, rfl, by omega, r2⟩
set_option maxRecDepth 100000 in
set_option maxHeartbeats 2000000 in
theorem SerialParts_walk {H : Type} {enc : TypeId × Value → H} {base : Nat} {v0 v1 v2 : Value} {d0 d1 d2 : DataW H} {p0 p1 p2 : List MemPlace} (W : World)
    (o0 : Value.okWide Tryz.prog W .any base 29 v0) (h0 : DataW.Trod enc Tryz.prog W 0 (fun _ => true) true 29 v0 d0 p0) (z0 : Light Tryz.prog 29 d0)
    (o1 : Value.okWide Tryz.prog W .any base 22 v1) (h1 : DataW.Trod enc Tryz.prog W 0 (fun _ => true) true 22 v1 d1 p1) (z1 : Light Tryz.prog 22 d1)
    (o2 : Value.okWide Tryz.prog W .any base 5 v2) (h2 : DataW.Trod enc Tryz.prog W 0 (fun _ => true) true 5 v2 d2 p2) (z2 : Light Tryz.prog 5 d2) :
    Calls Tryz.prog 5 #[v0, v1, v2] W fun e w' => e = .returned (.bool true) ∧ Below W.heap.size W w' := by
  obtain ⟨A, c, D, cd, T, ct, R, cr, i, rfl, hI, _⟩ := open_inp o0 h0 z0
  obtain ⟨B, idx, d, rfl, hN⟩ := open_ints o1 h1 z1
  obtain ⟨nn, rfl, _, _, hnn⟩ := open_int Tryz.underlying5 o2 h2
  have hnb := wf_u8' hnn
  clear o0 h0 z0 o1 h1 z1 o2 h2 z2
  have hcb := fun hg : GoodIn i => (hg.c.z.bound (k := i.cfg.sizes.length - 1) (by have := hg.c.z.1.1; omega) : cnt i ≤ 1048576)
  have hfew := fun w' (q : Below W.heap.size W w') => fewrun_any A c D cd T ct R cr i w' (hI.below q)
  have hin := fun w' (q : Below W.heap.size W w') (hs : SmallI i) => rinput_any A c D cd T ct R cr i w' ((hI.below q).rd hs)
  have hnew := fun w' (q : Below W.heap.size W w') (hs : SmallI i) (hg : GoodIn i) => sernew_good A c D cd T ct R cr i w' ((hI.below q).rd hs) hg
  have hg14 := fun w' (q : Below W.heap.size W w') (hg : GoodIn i) => (rgrad14_any A c D cd T ct R cr i T B i.start idx i.start.length ct d w' (hI.c.hr.below q) hI.c.hc (hI.d.below stays_ex q) hg (hI.t.hr.below q) rfl hg.s.symm hI.t.hw (hN.hr.below q) hN.hl).mono (fun _ _ h => h.res)
  have hgr := fun (b e : Nat) (E : Option Addr) (ix : List Int) w' (hr : RunAt w' b i i.start (List.replicate (cnt i) 0) 0) (hg : GoodIn i) (hE : Rd w' E (nums .i64 ix)) (hl : ix.length ≤ 40) => (rgradient_any b 0 e E i i.start _ ix w' hr hg hI.t.hw hE (by omega)).mono (fun _ _ h => h.res)
  have hcl := fun w' (q : Below W.heap.size W w') => pclone_any B idx d w' (hN.hr.below q) hN.hl
  have hgl := fun hg : GoodIn i => gradR_len i i.start idx (hcb hg)
  have hsm := fun w' (hg : GoodIn i) A1 A2 c1 c2 (h1 : Rd w' A1 (nums .i64 (gradR i i.start idx))) (h2 : Rd w' A2 (nums .i64 (gradR i i.start idx))) => same_any A1 A2 (gradR i i.start idx) (gradR i i.start idx) c1 c2 w' h1 h2 (by have := hgl hg; omega) (by have := hgl hg; omega)
  simp only [decide_true] at hsm
  unfold GrRes at hgr hg14
  unfold FewI at hfew
  obtain ⟨m, hm⟩ : ∃ m, idx.length = m := ⟨_, rfl⟩
  obtain ⟨z, hz⟩ : ∃ z, inCode i = z := ⟨_, rfl⟩
  have hgz : z = 0 → GoodIn i := fun e => in_good.1 (hz.trans e)
  obtain ⟨k, hk⟩ : ∃ k : Nat, (k : Int) = nn % ((m : Int) + 1) := ⟨(nn % ((m : Int) + 1)).toNat, by have := Int.emod_nonneg nn (show (m : Int) + 1 ≠ 0 by omega); omega⟩
  have hkm : k ≤ m := by have := Int.emod_lt_of_pos nn (show (0 : Int) < (m : Int) + 1 by omega); omega
  obtain ⟨P, hP⟩ : ∃ P, okR i (idx.take k) = P := ⟨_, rfl⟩
  obtain ⟨Q, hQ⟩ : ∃ Q, okR i (idx.drop k) = Q := ⟨_, rfl⟩
  have hPQ : okR i idx = (P && Q) := by rw [← hP, ← hQ, okR_parts]
  have hrR : okR i idx.reverse = (P && Q) := by rw [okR_rev, hPQ]
  have hgv : gradR i i.start idx.reverse = gradR i i.start idx := gradR_rev i i.start idx
  have hsum := fun (hp : P = true) (hq : Q = true) => gradR_parts (i := i) (P := i.start) (l := idx) (k := k) (by rw [hPQ, hp, hq]; rfl)
  have hl1 : (idx.take k).length = k := by rw [List.length_take]; omega
  have hl2 : (idx.drop k).length = m - k := by rw [List.length_drop]; omega
  have hg1 := fun (b e : Nat) (E : Option Addr) w' hr hg hE (hl : k ≤ 40) => hgr b e E (idx.take k) w' hr hg hE (by rw [hl1]; exact hl)
  have hg2 := fun (b e : Nat) (E : Option Addr) w' hr hg hE (hl : m ≤ 40) => hgr b e E (idx.drop k) w' hr hg hE (by rw [hl2]; omega)
  have hg3 := fun (b e : Nat) (E : Option Addr) w' hr hg hE (hl : m ≤ 40) => hgr b e E idx.reverse w' hr hg hE (by rw [List.length_reverse]; omega)
  have hgl1 := fun hg : GoodIn i => gradR_len i i.start (idx.take k) (hcb hg)
  have hgl2 := fun hg : GoodIn i => gradR_len i i.start (idx.drop k) (hcb hg)
  obtain ⟨G, hG⟩ : ∃ G, gradR i i.start idx = G := ⟨_, rfl⟩
  obtain ⟨G1, hG1⟩ : ∃ G, gradR i i.start (idx.take k) = G := ⟨_, rfl⟩
  obtain ⟨G2, hG2⟩ : ∃ G, gradR i i.start (idx.drop k) = G := ⟨_, rfl⟩
  obtain ⟨n, hn⟩ : ∃ n, G.length = n := ⟨_, rfl⟩
  obtain ⟨n1, hn1⟩ : ∃ n, G1.length = n := ⟨_, rfl⟩
  obtain ⟨n2, hn2⟩ : ∃ n, G2.length = n := ⟨_, rfl⟩
  simp only [hl1, hl2, hP, hQ, hPQ, hrR, hgv, hG, hG1, hG2, hn, hn1, hn2, hm, hz, List.length_reverse] at hin hg14 hcl hg1 hg2 hg3 hsum hsm hgl hgl1 hgl2 ⊢
  dsimp only [inpVals] at hfew hin hnew hg14
  obtain ⟨W1, hW1⟩ : ∃ W1, W.alloc (.cells #[.slice A i.cfg.sizes.length c, .int .i64 i.cfg.shift, .int .i64 i.cfg.rate, .int .i64 i.cfg.mom, .int .i64 i.cfg.workers, .int .i64 i.cfg.batch, .int .i64 i.cfg.micros, .int .i64 i.cfg.steps, .int .i64 i.cfg.bucket, .int .i64 i.cfg.chunk, .int .i64 i.cfg.window, .int .i64 i.cfg.cap, .slice D i.data.length cd, .slice T i.start.length ct, .slice R i.draws.length cr] 29) = W1 := ⟨_, rfl⟩
  have hx : W1.heap[W.heap.size]? = some (.cells #[.slice A i.cfg.sizes.length c, .int .i64 i.cfg.shift, .int .i64 i.cfg.rate, .int .i64 i.cfg.mom, .int .i64 i.cfg.workers, .int .i64 i.cfg.batch, .int .i64 i.cfg.micros, .int .i64 i.cfg.steps, .int .i64 i.cfg.bucket, .int .i64 i.cfg.chunk, .int .i64 i.cfg.window, .int .i64 i.cfg.cap, .slice D i.data.length cd, .slice T i.start.length ct, .slice R i.draws.length cr] 29 (0, 0)) := by rw [← hW1]; exact heap_alloc_new W _
  have hB : Below W.heap.size W W1 := by rw [← hW1]; exact (br W).alloc (Nat.le_refl _) _
  have t := fun w' q => bx15 (sb hx w' q)
  have tl := sl hx
  have hBr : ∀ w', Below W.heap.size W w' → Rd w' B (nums .i64 idx) := fun w' q => hN.hr.below q
  have hrev := fun (A : Option Addr) (e base : Nat) w' (ho : w'.ownsRow base 3 1 (.slice A m e) m (nums .i64 idx)) (hl : m ≤ 40) => rev_any A idx m e base w' ho hm (by omega)
  have hdm : m ≤ d := by rw [← hm]; exact hN.hc
  have HW1 := Lib.hid hW1; have Hfew := Lib.hid hfew; have Hin := Lib.hid hin; have Hnew := Lib.hid hnew; have Hg14 := Lib.hid hg14; have Hg1 := Lib.hid hg1; have Hg2 := Lib.hid hg2; have Hg3 := Lib.hid hg3; have Hcl := Lib.hid hcl; have Hrev := Lib.hid hrev; have Hsum := Lib.hid hsum; have Hsm := Lib.hid hsm; have Hgz := Lib.hid hgz; have Hbr := Lib.hid hBr; have Hgl := Lib.hid hgl; have Hgl1 := Lib.hid hgl1; have Hgl2 := Lib.hid hgl2; have Hk := Lib.hid hk; have Hm := Lib.hid hm; have HB := Lib.hid hB; have Hcb := Lib.hid hcb; have Hn := Lib.hid (And.intro hn (And.intro hn1 hn2))
  have Hx := Lib.hid (fun w' (q : Below W1.heap.size W1 w') => hB.trans (q.mono hB.size)); have Hal := Lib.hid (fun w' (q : Below W1.heap.size W1 w') => (alive14_any w').mono fun e w'' (h : _ ∧ Below _ _ _) => (⟨h.1, hB.trans ((q.trans (h.2.mono q.size)).mono hB.size)⟩ : e = .returned (.bool true) ∧ Below W.heap.size W w''))
  clear hfew hin hnew hg14 hgr hg1 hg2 hg3 hcl hrev hsum hsm hI hN hz hx hgz hBr hB hW1 hgl hgl1 hgl2 hk hm hcb hn hn1 hn2 hG hG1 hG2 hP hQ hPQ hrR hgv hl1 hl2 hnn
  go_enter Tryz.func5, Tryz.ntmps5
  dsimp only [inpVals]
  go_wp2_with fail
  rw [HW1.out]
  have q1 := br W1
  refine (Hfew.out W1 (Hx.out _ q1)).mono ?_
  rintro e w2 ⟨⟨b, rfl, hbs⟩, k2⟩
  have q2 := bt q1 k2
  clear q1 k2 HW1
  rcases bool_ft b with rfl | rfl
  · clear hbs
    go_wp2_with fail
    refine (Hal.out _ q2).mono ?_
    rintro e w3 ⟨rfl, h3⟩
    go_wp2_with fail
    go_ret
    exact ⟨rfl, h3⟩
  have Hs := Lib.hid (hbs rfl)
  clear hbs
  go_wp2_with fail
  refine (Hin.out w2 (Hx.out _ q2) Hs.out).mono ?_
  rintro e w3 ⟨rfl, k3⟩
  have q3 := bt q2 k3
  clear q2 k3
  by_cases hz0 : z ≠ 0
  · have hzb : (z != 0) = true := by rw [bne_iff_ne]; exact hz0
    go_wp2_with fail
    refine (Hal.out _ q3).mono ?_
    rintro e w4 ⟨rfl, h4⟩
    go_wp2_with fail
    go_ret
    exact ⟨rfl, h4⟩
  obtain rfl : z = 0 := by omega
  have HG := Lib.hid (Hgz.out rfl)
  clear hz0
  by_cases hm40 : (40 : Int) < m
  · go_wp2_with fail
    refine (Hal.out _ q3).mono ?_
    rintro e w4 ⟨rfl, h4⟩
    go_wp2_with fail
    go_ret
    exact ⟨rfl, h4⟩
  have hml : m ≤ 40 := by omega
  go_wp2_with fail
  refine (Hnew.out w3 (Hx.out _ q3) Hs.out HG.out).mono ?_
  rintro e w4 ⟨b, rfl, r4, _, k4⟩
  have q4 := bt q3 k4
  have Hr := Lib.hid (fun w' (q : Below w4.heap.size w4 w') => r4.below q)
  clear q3 k4 r4
  go_wp2_with fail
  refine (Hg14.out w4 (Hx.out _ q4) HG.out).mono ?_
  rintro e w5 ⟨A5, c5, rfl, r5, k5⟩
  have q5 := bt q4 k5
  have Hr5 := Lib.hid (fun w' (q : Below w5.heap.size w5 w') => r5.below q)
  clear q4 r5
  go_wp2_with fail
  refine (Hcl.out w5 (Hx.out _ q5)).mono ?_
  rintro e w6 ⟨v, rfl, o6, k6⟩
  obtain ⟨A6, c6, rfl, _⟩ := own_form o6
  go_wp2_with fail
  refine (Hrev.out A6 c6 _ w6 o6 hml).mono ?_
  rintro e w7 ⟨rfl, o7, k7⟩
  have k57 := k6.trans (k7.toBelow k6.size (fun j hj => (o6.lt j hj).1))
  have q7 := bt q5 k57
  have hr7 := bt k5 k57
  have r7 := Lib.hid (fun w' (q : Below w7.heap.size w7 w') => (Rd.own o7).below q)
  clear o6 o7 k6 k7 q5 k5
  have hk0 : ¬ ((m : Int) + 1 = 0) := by omega
  have hkr : nn % ((m : Int) + 1) = (k : Int) := Hk.out.symm
  have hkr2 : nn.tmod ((m : Int) + 1) = (k : Int) := by rw [Int.tmod_eq_emod_of_nonneg hnb.1]; exact hkr
  have hw1 : IntKind.i64.wrap nn = nn := IntWalk.i64_in _ (by omega)
  have hw2 : IntKind.i64.wrap ((m : Int) + 1) = (m : Int) + 1 := IntWalk.i64_in _ (by omega)
  go_wp2_with fail
  refine (Hg1.out b d B w7 (Hr.out _ hr7) HG.out (by rw [← nums_take]; exact (Hbr.out _ (Hx.out _ q7)).take k) (by omega)).mono ?_
  rintro e w8 ⟨A8, c8, rfl, r8, k8⟩
  have q8 := bt q7 k8
  have hr8 := bt hr7 k8
  have r7' := Lib.hid (fun w' (q : Below w8.heap.size w8 w') => r7.out w' (bt k8 q))
  have r8' := Lib.hid (fun w' (q : Below w8.heap.size w8 w') => r8.below q)
  have Hr5' := Lib.hid (fun w' (q : Below w8.heap.size w8 w') => Hr5.out w' (bt k57 (bt k8 q)))
  clear q7 k8 r8 hkr hkr2 hw1 hw2 hk0 r7 Hr5 k57 hr7
  have hdA := Lib.hid (fun h : d ≤ k => (by rw [List.drop_of_length_le (by rw [Hm.out]; omega)]; exact Rd.nil _ _ : Rd w8 B (nums .i64 (idx.drop k))))
  have hdB := Lib.hid (by rw [← nums_drop]; exact rd_dropO (Hbr.out w8 (Hx.out _ q8)) k : Rd w8 (B.map fun x => x.add k) (nums .i64 (idx.drop k)))
  go_wp2_with fail
  all_goals
    first
      | with_reducible refine (Hg2.out b 0 B w8 (Hr.out _ hr8) HG.out (hdA.out (by omega)) hml).mono ?_
      | with_reducible refine (Hg2.out b _ _ w8 (Hr.out _ hr8) HG.out hdB.out hml).mono ?_
    rintro e w9 ⟨A9, c9, rfl, r9, k9⟩
    have q9 := bt q8 k9
    have hr9 := bt hr8 k9
    have r9' := Lib.hid (fun w' (q : Below w9.heap.size w9 w') => r9.below q)
    clear q8 r9 hdA hdB
    go_wp2_with fail
    refine (Hg3.out b _ _ w9 (Hr.out _ hr9) HG.out (r7'.out _ k9) hml).mono ?_
    rintro e w10 ⟨A10, c10, rfl, r10, k10⟩
    have q10 := bt q9 k10
    have k810 := bt k9 k10
    have r10' := Lib.hid (fun w' (q : Below w10.heap.size w10 w') => r10.below q)
    clear q9 r10 hr9 hr8 r7' k9
    have hb11 := heap_alloc_new w10 (.cells #[.slice A8 n1 c8, .slice A9 n2 c9] 26)
    have k11 : Below w10.heap.size w10 (w10.alloc (.cells #[.slice A8 n1 c8, .slice A9 n2 c9] 26)) := (br w10).alloc (Nat.le_refl _) _
    have hS := rsumv_any (some ⟨w10.heap.size, 0, none⟩) [G1, G2] 2 n1 G1 _ (two_vecs hb11 Hn.out.2.1 Hn.out.2.2 (Hgl1.out HG.out) (Hgl2.out HG.out) (r8'.out _ (bt k810 k11)) (r9'.out _ (bt k10 k11))) (by simp) rfl Hn.out.2.1
    unfold RSumIs at hS
    simp only [List.length_cons, List.length_nil, Nat.reduceAdd] at hS
    have HS := Lib.hid hS
    have q11 := bt q10 k11
    have k811 := bt k810 k11
    clear hb11 hS q10 r9'
    rcases bool_ft P with rfl | rfl
    · go_wp2_with fail
      refine HS.out.mono ?_
      rintro e w12 ⟨v, ok, rfl, k12, _⟩
      have q12 := bt q11 k12
      go_wp2_with fail
      refine (Hal.out _ q12).mono ?_
      rintro e w13 ⟨rfl, h13⟩
      go_wp2_with fail
      go_ret
      exact ⟨rfl, h13⟩
    rcases bool_ft Q with rfl | rfl
    · go_wp2_with fail
      refine HS.out.mono ?_
      rintro e w12 ⟨v, ok, rfl, k12, _⟩
      have q12 := bt q11 k12
      go_wp2_with fail
      refine (Hal.out _ q12).mono ?_
      rintro e w13 ⟨rfl, h13⟩
      go_wp2_with fail
      go_ret
      exact ⟨rfl, h13⟩
    have hG := Hsum.out rfl rfl
    have hn : n1 = n := by
      have := congrArg List.length hG.1
      rw [sumR_len, Hn.out.1] at this
      omega
    have HGG := Lib.hid hG
    have HNN := Lib.hid hn
    clear hG hn
    go_wp2_with fail
    refine HS.out.mono ?_
    rintro e w12 ⟨v, ok, rfl, k12, hv⟩
    obtain ⟨_, ov⟩ := hv (by
      have e1 := Hn.out.2.1; have e2 := Hn.out.2.2; have e3 := HGG.out
      intro j x hx
      match j, hx with
      | 0, hx => simp only [List.getElem?_cons_zero, Option.some.injEq] at hx; subst hx; exact e1
      | 1, hx => simp only [List.getElem?_cons_succ, List.getElem?_cons_zero, Option.some.injEq] at hx; subst hx; omega)
    rw [show sumR n1 [G1, G2] = G by rw [HGG.out.2.1, HGG.out.1], HNN.out] at ov
    obtain ⟨Av, cv, rfl, _⟩ := own_form ov
    have q12 := bt q11 k12
    have rv := Lib.hid (fun w' (q : Below w12.heap.size w12 w') => (Rd.own ov).below q)
    have k812 := bt k811 k12
    have k1012 := bt k11 k12
    clear ov hv q11 k12 HS
    go_wp2_with fail
    refine (alive14_any w12).mono ?_
    rintro e w13 ⟨rfl, k13⟩
    go_wp2_with fail
    refine (Hsm.out w13 HG.out A10 A5 c10 c5 (r10'.out _ (bt k1012 k13)) (Hr5'.out _ (bt k812 k13))).mono ?_
    rintro e w14 ⟨rfl, d14, rfl⟩
    go_wp2_with fail
    refine (Hsm.out _ HG.out Av A5 cv c5 (rv.out _ (below_drewN k13 d14)) (Hr5'.out _ (below_drewN (bt k812 k13) d14))).mono ?_
    rintro e w15 ⟨rfl, d15, rfl⟩
    have hB := Hx.out _ (below_drewN (bt q12 k13) (d14 + d15))
    go_wp2_with fail
    go_ret
    exact ⟨by simp, hB⟩
end Go.Proofs.YtfiojofcafjfeaaGreat
