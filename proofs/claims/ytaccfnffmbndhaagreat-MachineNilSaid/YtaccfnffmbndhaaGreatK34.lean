/- The methods of a nil machine. The walk of MachineNil. No condition. -/
import Derived.Test.YtaccfnffmbndhaaGreatK31
import Derived.Test.YtaccfnffmbndhaaGreatK33
set_option linter.unusedSimpArgs false
set_option linter.unusedVariables false
namespace Go.Proofs.YtaccfnffmbndhaaGreat
open Go.RowKit
theorem mcount_nil (w : World) : Calls Tryz.prog 19 #[.pointer none] w fun e w' => e = .returned (.int .i64 0) ∧ w' = w := by
  go_enter Tryz.func19, Tryz.ntmps19
  go_wp2_with fail
  go_ret
  exact ⟨rfl, rfl⟩
theorem mgrad_nil (w : World) : Calls Tryz.prog 21 #[.pointer none] w fun e w' => e = .returned (.slice none 0 0) ∧ w' = w := by
  go_enter Tryz.func21, Tryz.ntmps21
  go_wp2_with fail
  go_ret
  exact ⟨rfl, rfl⟩
theorem mopen_nil (w : World) : Calls Tryz.prog 22 #[.pointer none] w fun e w' => e = .returned (.slice none 0 0) ∧ w' = w := by
  go_enter Tryz.func22, Tryz.ntmps22
  go_wp2_with fail
  go_ret
  exact ⟨rfl, rfl⟩
theorem mtraj_nil (w : World) : Calls Tryz.prog 20 #[.pointer none] w fun e w' => e = .returned (.slice none 0 0) ∧ w' = w := by
  go_enter Tryz.func20, Tryz.ntmps20
  go_wp2_with fail
  go_ret
  exact ⟨rfl, rfl⟩
theorem mstate_nil (w : World) : Calls Tryz.prog 23 #[.pointer none] w fun e w' => e = .returned (.agg #[.slice none 0 0, .slice none 0 0]) ∧ Below w.heap.size w w' := by
  have h1 := heap_alloc_new w (.cells #[.slice none 0 0, .slice none 0 0] 68)
  have h2 := (br w).alloc (Nat.le_refl _) (.cells #[.slice none 0 0, .slice none 0 0] 68)
  obtain ⟨⟨r0, r1⟩, rf⟩ := bx2 h1
  have H2 := Lib.hid h2
  clear h1 h2
  go_enter Tryz.func23, Tryz.ntmps23
  go_wp2_with fail
  exact bodyPost_ret (v := .agg #[.slice none 0 0, .slice none 0 0]) (by simp [results, Tryz.results23, go_sem, r0, r1]) rfl ⟨rfl, H2.out⟩
theorem menabled_nil (u v : Value) (w : World) : Calls Tryz.prog 18 #[.pointer none, u, v] w fun e w' => e = .returned (.bool false) ∧ Below w.heap.size w w' := by
  have H1 := Lib.hid (next_nil w)
  go_enter Tryz.func18, Tryz.ntmps18
  go_wp2_with fail
  refine H1.out.mono ?_
  rintro e w1 ⟨rfl, k1⟩
  have K1 := Lib.hid (k1.alloc k1.size (.cells #[.int .i64 0, .int .i64 0, .int .i64 0, .bool false, .bool false, .int .i64 0, .int .i64 0, .int .i64 0, .int .i64 0, .int .i64 0, .int .i64 0, .int .i64 0] 56))
  clear k1
  go_wp2_with fail
  go_ret
  exact ⟨rfl, K1.out⟩
end Go.Proofs.YtaccfnffmbndhaaGreat
namespace Go.Proofs.YtaccfnffmbndhaaGreat
open Go.RowKit Go.ChangeShapes Go.WideShapes Go.ChangeAt
def IB (w : World) (p n : Nat) : Prop := ∀ k, k < n → ∃ v : Int, w.cell? ⟨p, k, none⟩ = some (.int .i64 v) ∧ w.frozen? ⟨p, k, none⟩ = false
theorem IB.below {w w' : World} {p n : Nat} (h : IB w p n) (q : Below w.heap.size w w') : IB w' p n := fun k hk => by
  obtain ⟨v, h1, h2⟩ := h k hk
  refine ⟨v, cell_below q h1, ?_⟩
  unfold World.frozen? at h2 ⊢
  rw [q.block p (lt_of_cell h1)]
  exact h2
theorem IB.set {w : World} {p n : Nat} (h : IB w p n) (r j : Nat) (u : Int) : IB (w.setCell ⟨r, j, none⟩ (.int .i64 u)) p n := fun k hk => by
  obtain ⟨v, h1, h2⟩ := h k hk
  have hf : (w.setCell ⟨r, j, none⟩ (.int .i64 u)).frozen? ⟨p, k, none⟩ = false := by
    have := World.frozen?_setCells r [.int .i64 u] j w ⟨p, k, none⟩
    rw [h2] at this; exact this
  by_cases e : r = p ∧ j = k
  · obtain ⟨rfl, rfl⟩ := e
    exact ⟨u, World.cell?_setCell_same w ⟨r, j, none⟩ _ h1, hf⟩
  · refine ⟨v, ?_, hf⟩
    have := World.cell?_setCells_out r [.int .i64 u] j w ⟨p, k, none⟩ (fun hb _ => by
      have hb' : p = r := hb
      have : ¬ j = k := fun h => e ⟨hb'.symm, h⟩
      show k < j ∨ j + 1 ≤ k
      omega)
    rw [h1] at this; exact this
theorem IB.own {w : World} {base p n c : Nat} {xs : List Int} (h : w.ownsRow base 2 1 (.slice (some ⟨p, 0, none⟩) n c) n (nums .i64 xs)) : IB w p n := fun _ hk => KRow.cell ⟨xs, h⟩ hk
def Els (w : World) (g n B j : Nat) : Prop := ∃ p c q d, w.cell? ⟨g, j * 2, none⟩ = some (.slice (some ⟨p, 0, none⟩) n c) ∧ w.cell? ⟨g, j * 2 + 1, none⟩ = some (.slice (some ⟨q, 0, none⟩) n d) ∧ IB w p n ∧ IB w q n ∧ p ≠ g ∧ q ≠ g ∧ B ≤ p ∧ B ≤ q ∧ p < w.heap.size ∧ q < w.heap.size
theorem Els.below {w w' : World} {g n B j : Nat} (h : Els w g n B j) (b : Below w.heap.size w w') : Els w' g n B j := by
  obtain ⟨p, c, q, d, h1, h2, h3, h4, h5, h6, h7, h8, h9, h10⟩ := h
  exact ⟨p, c, q, d, cell_below b h1, cell_below b h2, h3.below b, h4.below b, h5, h6, h7, h8, Nat.lt_of_lt_of_le h9 b.size, Nat.lt_of_lt_of_le h10 b.size⟩
theorem Els.set {w : World} {g n B j : Nat} (h : Els w g n B j) (r k : Nat) (u : Int) (hr : r ≠ g) : Els (w.setCell ⟨r, k, none⟩ (.int .i64 u)) g n B j := by
  obtain ⟨p, c, q, d, h1, h2, h3, h4, h5⟩ := h
  exact ⟨p, c, q, d, by rw [World.cell?_setCell_far _ _ _ _ hr]; exact h1, by rw [World.cell?_setCell_far _ _ _ _ hr]; exact h2, h3.set _ _ _, h4.set _ _ _, by simpa using h5⟩
theorem els_of {w : World} {base g c n m B j : Nat} {xs : List Value} {u v : Value} {P M : List Int} (ho : w.ownsRow base 68 2 (.slice (some ⟨g, 0, none⟩) m c) m xs) (h0 : xs[j * 2]? = some u) (h1 : xs[j * 2 + 1]? = some v)
    (hu : w.ownsRow B 2 1 u n (nums .i64 P)) (hv : w.ownsRow B 2 1 v n (nums .i64 M)) (hn : 0 < n) : Els w g n B j := by
  obtain ⟨p, c', rfl, _⟩ := hu.form hn
  obtain ⟨q, d', rfl, _⟩ := hv.form hn
  have l0 := (List.getElem?_eq_some_iff.1 h0).1
  have l1 := (List.getElem?_eq_some_iff.1 h1).1
  have nt : ∀ {r d : Nat} {ys : List Value}, w.ownsRow B 2 1 (.slice (some ⟨r, 0, none⟩) n d) n ys → r ≠ g := by
    rintro r d ys h rfl
    rcases h.2 with ⟨e, _⟩ | ⟨r', _, _, e, _, hg, _⟩
    · cases e
    · simp only [Value.slice.injEq, Option.some.injEq, Addr.mk.injEq] at e
      obtain ⟨⟨rfl, _⟩, _⟩ := e
      exact block_notrow hg (by decide) ho rfl
  exact ⟨p, c', q, d', by rw [ho.cellAt _ (by have := ho.1; omega)]; exact h0, by rw [ho.cellAt _ (by have := ho.1; omega)]; exact h1, IB.own hu, IB.own hv, nt hu, nt hv, (hu.lt p rfl).1, (hv.lt q rfl).1, (hu.lt p rfl).2, (hv.lt q rfl).2⟩
set_option maxRecDepth 100000 in
set_option maxHeartbeats 4000000 in
theorem MachineNil_walk {H : Type} {enc : TypeId × Value → H} {base : Nat} {v0 v1 : Value} {d0 d1 : DataW H} {p0 p1 : List MemPlace} (W : World)
    (o0 : Value.okWide Tryz.prog W .any base 29 v0) (h0 : DataW.Trod enc Tryz.prog W 0 (fun _ => true) true 29 v0 d0 p0) (z0 : Light Tryz.prog 29 d0)
    (o1 : Value.okWide Tryz.prog W .any base 5 v1) (h1 : DataW.Trod enc Tryz.prog W 0 (fun _ => true) true 5 v1 d1 p1) (z1 : Light Tryz.prog 5 d1) :
    Calls Tryz.prog 4 #[v0, v1] W fun e w' => e = .returned (.bool true) ∧ Below W.heap.size W w' := by
  obtain ⟨A, c, D, cd, T, ct, R, cr, i, rfl, hI, _⟩ := open_inp o0 h0 z0
  obtain ⟨nn, rfl, _, _, hnn⟩ := open_int Tryz.underlying5 o1 h1
  have hnb : 0 ≤ nn ∧ nn ≤ 255 := by simpa [Lit.wf, IntKind.min, IntKind.max, IntKind.signed, IntKind.bits] using hnn
  clear o0 h0 z0 o1 h1 z1 hnn
  have hfew := fun w' (q : Below W.heap.size W w') => rfew21_any A c D cd T ct R cr i w' (hI.below q)
  have hrd := fun w' (q : Below W.heap.size W w') (hs : SmallI i) => (hI.below q).rd hs
  unfold FewI at hfew
  obtain ⟨W1, hW1⟩ : ∃ W1, W.alloc (.cells (inpVals A c D cd T ct R cr i) 29) = W1 := ⟨_, rfl⟩
  have hx : W1.heap[W.heap.size]? = some (.cells (inpVals A c D cd T ct R cr i) 29 (0, 0)) := by rw [← hW1]; exact heap_alloc_new W _
  have hB : Below W.heap.size W W1 := by rw [← hW1]; exact (br W).alloc (Nat.le_refl _) _
  have t4 : ∀ w', Below W1.heap.size W1 w' → w'.cell? ⟨W.heap.size, 4, none⟩ = some (.int .i64 i.cfg.workers) := fun w' q => cell_of_row w' W.heap.size 4 _ _ _ (sb hx w' q)
  have tl := sl hx
  have HX0 := Lib.hid hx; have HW1 := Lib.hid hW1; have Hfew := Lib.hid hfew; have Hrd := Lib.hid hrd; have HB := Lib.hid hB
  have Hx := Lib.hid (fun w' (q : Below W1.heap.size W1 w') => hB.trans (q.mono hB.size)); have Hal := Lib.hid (fun w' (q : Below W1.heap.size W1 w') => (alive21_any w').mono fun e w'' (h : _ ∧ Below _ _ _) => (⟨h.1, hB.trans ((q.trans (h.2.mono q.size)).mono hB.size)⟩ : e = .returned (.bool true) ∧ Below W.heap.size W w''))
  clear hfew hrd hI hx hB hW1
  go_enter Tryz.func4, Tryz.ntmps4
  go_wp2_with (refine wpl_load (inpVals A c D cd T ct R cr i) (b := W.heap.size) (by rw [HW1.out]; exact HX0.out) rt_inp rfl rfl rfl rfl ?_)
  rw [HW1.out]
  have q1 := br W1
  refine (Hfew.out W1 (Hx.out _ q1)).mono ?_
  rintro e w2 ⟨⟨b, rfl, hbs⟩, k2⟩
  have q2 := bt q1 k2
  clear q1 k2
  rcases bool_ft b with rfl | rfl
  · clear hbs
    go_wp2_with fail
    refine (Hal.out _ q2).mono ?_
    rintro e w3 ⟨rfl, h3⟩
    go_wp2_with fail
    go_ret
    exact ⟨rfl, h3⟩
  have Hs := Lib.hid (hbs rfl)
  clear hbs
  go_wp2_with (refine wpl_ldg (inpVals A c D cd T ct R cr i) (sb HX0.out _ q2) rt_inp rfl rfl rfl rfl ?_)
  refine (rinput_any A c D cd T ct R cr i w2 (Hrd.out w2 (Hx.out _ q2) Hs.out.1)).mono ?_
  rintro e w3 ⟨rfl, k3⟩
  have q3 := bt q2 k3
  clear q2 k3
  by_cases hc : inCode i = 0
  rotate_left
  · have hcb : (inCode i != 0) = true := by rw [bne_iff_ne]; exact hc
    clear hc
    go_wp2_with fail
    refine (Hal.out _ q3).mono ?_
    rintro e w4 ⟨rfl, h3⟩
    go_wp2_with fail
    go_ret
    exact ⟨rfl, h3⟩
  have hsm := Hs.out.sm hc
  have Hc := Lib.hid hc; have Hsm := Lib.hid hsm
  rw [hc]
  clear hc hsm
  go_wp2_with fail
  refine (next_nil w3).mono ?_
  rintro e w4 ⟨rfl, k4⟩
  have q4 := bt q3 k4
  have hfd := fun w' => (by kernel_rfl : Sem.run Tryz.prog (Instr.field 68 (.agg #[.slice none 0 0, .slice none 0 0]) 0) w' = .ok (.slice none 0 0) w')
  clear q3 k4
  go_wp2_with fail
  obtain ⟨w5, h5⟩ : ∃ w5, w4.alloc (.cells #[.int .i64 0, .int .i64 0, .int .i64 0, .bool false, .bool false, .int .i64 0, .int .i64 0, .int .i64 0, .int .i64 0, .int .i64 0, .int .i64 0, .int .i64 0] 56) = w5 := ⟨_, rfl⟩
  have q5 : Below W1.heap.size W1 w5 := by rw [← h5]; exact q4.alloc q4.size _
  rw [h5]
  clear h5 q4
  refine (mdo_nil _ _ w5).mono ?_
  rintro e w6 ⟨rfl, rfl⟩
  go_wp2_with fail
  refine (menabled_nil _ _ _).mono ?_
  rintro e w7 ⟨rfl, k7⟩
  have q7 := bt q5 k7
  clear q5 k7
  go_wp2_with fail
  refine (mcount_nil _).mono ?_
  rintro e w8 ⟨rfl, rfl⟩
  go_wp2_with fail
  refine (mtraj_nil _).mono ?_
  rintro e w8 ⟨rfl, rfl⟩
  go_wp2_with fail
  refine (mgrad_nil _).mono ?_
  rintro e w8 ⟨rfl, rfl⟩
  go_wp2_with fail
  refine (mopen_nil _).mono ?_
  rintro e w8 ⟨rfl, rfl⟩
  go_wp2_with fail
  refine (mstate_nil _).mono ?_
  rintro e w9 ⟨rfl, k9⟩
  have q9 := bt q7 k9
  clear q7 k9
  have hW := Hsm.out.g.c.w
  have hW8 := Hsm.out.w
  have hnw : IntKind.i64.wrap nn = nn := IntWalk.i64_in _ (by omega)
  have hw0 : i.cfg.workers ≠ 0 := by omega
  obtain ⟨x, hx, hxW⟩ : ∃ x : Nat, nn.tmod i.cfg.workers = (x : Int) ∧ x < (plnI i).W := by
    rw [Int.tmod_eq_emod_of_nonneg hnb.1]
    have h1 := Int.emod_nonneg nn hw0
    have h2 := Int.emod_lt_of_pos nn (show 0 < i.cfg.workers by omega)
    exact ⟨(nn % i.cfg.workers).toNat, by omega, by simp only [plnI]; omega⟩
  have hxb : (x : Int) < i.cfg.workers := by have : ((plnI i).W : Int) = i.cfg.workers := by { simp only [plnI]; omega }; omega
  have hxw : IntKind.i64.wrap (x : Int) = x := IntWalk.i64_in _ (by omega)
  go_wp2_with (refine wpl_load (inpVals A c D cd T ct R cr i) (sb HX0.out _ q9) rt_inp rfl rfl rfl rfl ?_)
  refine (mnew_good A c D cd T ct R cr i x w9 (Hrd.out w9 (Hx.out _ q9) Hs.out.1) Hsm.out hxW).mono ?_
  rintro e w10 ⟨b, a, rfl, k10, -, hmach⟩
  have q10 := bt q9 k10
  go_wp2_with (refine wpl_load (inpVals A c D cd T ct R cr i) (sb HX0.out _ q10) rt_inp rfl rfl rfl rfl ?_)
  refine (rmnew_good A c D cd T ct R cr i x w10 (Hrd.out w10 (Hx.out _ q10) Hs.out.1) Hsm.out hxW).mono ?_
  rintro e w11 ⟨vs, rfl, hsz, hone, k11, hrm⟩
  have q11 := bt q10 k11
  have Hsz := Lib.hid hsz; have Hone := Lib.hid hone; have HM := Lib.hid hmach; have HRM := Lib.hid hrm; have K11 := Lib.hid k11; have Q11 := Lib.hid q11
  clear hsz hone hmach hrm k10 k11 q9 q10 q11 hfd hnw hw0 hx hxb hxw t4 tl hW hW8
  go_wp2_with (refine wpl_store (heap_alloc_new _ _) rt_rm rfl rfl rfl rfl Hsz.out (by rw [Hsz.out]; rfl) Hone.out ?_; intro W12 e12 k12; have E12 := Lib.hid e12; have B12 := Lib.hid (new_below k12); clear e12 k12)
  have q12 : Below W1.heap.size W1 W12 := bt Q11.out B12.out
  have mV := HM.out (fun _ => False) W12 (Keep.below (bt K11.out B12.out)) (fun _ h => h.elim)
  have rV := HRM.out W12 (Keep.below B12.out) (Hrd.out W12 (Hx.out _ q12) Hs.out.1)
  have hn60 := Hsm.out.n
  have hn1 := Hsm.out.n1
  obtain ⟨n, hn⟩ : ∃ n, i.start.length = n := ⟨_, rfl⟩
  have hn1' : 0 < n := by rw [← hn]; exact hn1
  have htr := mtraj_any mV (fun y hy => by simp only [mst0, List.mem_singleton] at hy; subst hy; exact ⟨rfl, by simp⟩) hn60 (by simp [mst0])
  have hst := fun w' (q : Below W12.heap.size W12 w') => mstate_any (mV.below q (fun _ _ h => h)) hn60
  have hgr := fun w' (q : Below W12.heap.size W12 w') => mgrad_any (mV.below q (fun _ _ h => h)) hn60
  have hP : (mst0 i).P = i.start := rfl
  rw [hn] at hn60
  unfold StIs at hst
  simp only [hn] at hst hgr
  have MV := Lib.hid mV; have RV := Lib.hid rV; have HTR := Lib.hid htr; have HST := Lib.hid hst; have HGR := Lib.hid hgr; have Hn := Lib.hid hn; have Q12 := Lib.hid q12
  clear mV rV htr hst hgr hn hP hn1 q12
  refine HTR.out.mono ?_
  rintro e w13 ⟨v, rfl, hsl, k13⟩
  go_wp2_with fail
  refine (HST.out w13 k13).mono ?_
  rintro e w14 ⟨A1, c1, A2, c2, rfl, hc1, hc2, o1, o2, -, k14⟩
  obtain ⟨rows, hr1, hr2, hr3, hr4⟩ := hsl
  have e1 : (mst0 i).rc.length = 1 := rfl
  rw [e1] at hr1 hr2
  have hr1' := own_below hr1 k14
  have hz := (hr4 0 (i.start, List.replicate i.start.length 0) rfl).below k14
  have k14' := bt k13 k14
  have hs13 := k13.size
  have HO := Lib.hid hr1'; have HZ := Lib.hid hz; have O1 := Lib.hid o1; have O2 := Lib.hid o2; have K14 := Lib.hid k14'; have HR2 := Lib.hid hr2; have HR3 := Lib.hid hr3
  clear hr1 hr1' hz o1 o2 k14 k13 k14' hr2 hr3 hr4 e1 hc1 hc2
  go_wp2_with (at_builtin; refine wpList_push et_sts _ rfl (.tmp 92) (.tmp 95) rfl W12.heap.size _ 1 _ rfl HO.out [.slice A1 n c1, .slice A2 n c2] rfl rfl (by simp [Value.oneCell']) (by omega) (by unfold maxLen; omega) K14.out.size ?_)
  intro g c6 w15 o15 b15 g15
  have hz := HZ.out
  have hel : Els w15 g n W12.heap.size 0 ∧ Els w15 g n W12.heap.size 1 := by
    have hz' := hz.pushed HO.out g15 (by decide)
    have o1' := own_pushed O1.out HO.out g15 (by decide)
    have o2' := own_pushed O2.out HO.out g15 (by decide)
    obtain ⟨r0, rfl⟩ : ∃ r0, rows = [r0] := List.length_eq_one_iff.1 HR2.out
    have hrl := HR3.out r0 (by simp)
    obtain ⟨u, v', hcs, z1, z2, _⟩ := hz'
    have hcs' : r0 = [u, v'] := by simpa [rowOf] using hcs
    subst hcs'
    have hl0 : i.start.length = n := Hn.out
    have hl1 : (List.replicate i.start.length (0 : Int)).length = n := by simp [hl0]
    rw [hl0] at z1
    rw [hl1] at z2
    exact ⟨els_of (j := 0) o15 (by simp) (by simp) z1 z2 hn1', els_of (j := 1) o15 (by simp) (by simp) (own_base o1' hs13) (own_base o2' hs13) hn1'⟩
  have HE := Lib.hid hel; have B15 := Lib.hid (K14.out.trans b15)
  clear hel hz o15 b15 g15 hs13
  go_wp2_with fail
  go_loopw [98] (fun y wr => ∃ k : Nat, k ≤ 2 ∧ y = .int .i64 k ∧ Els wr g n W12.heap.size 0 ∧ Els wr g n W12.heap.size 1 ∧ Below W12.heap.size W12 wr) (fun y _ => 2 - (intOf y).toNat)
  case atStart => exact ⟨0, by omega, rfl, HE.out.1, HE.out.2, B15.out⟩
  case round =>
    obtain ⟨k, hk, rfl, hE0, hE1, bE⟩ := hrel
    by_cases hlt : k < 2
    · have hki : (k : Int) < 2 := by omega
      have hk0 : ¬ (k : Int) < 0 := by omega
      have hw1 : IntKind.i64.wrap ((k : Int) + 1) = ((k + 1 : Nat) : Int) := by rw [IntWalk.i64_in _ (by omega)]; push_cast; rfl
      have hEk : Els wr g n W12.heap.size k := by
        rcases (show k = 0 ∨ k = 1 by omega) with rfl | rfl
        · exact hE0
        · exact hE1
      obtain ⟨p, c, q, d, cp, cq, ip, iq, npg, nqg, bp, bq, lp, lq⟩ := hEk
      obtain ⟨wq, rfl⟩ : ∃ wq : World, wq = wr := ⟨_, rfl⟩
      have gX := heap_alloc_new wq (.cells #[.slice (some ⟨p, 0, none⟩) n c, .slice (some ⟨q, 0, none⟩) n d] 68)
      have bX := (br wq).alloc (Nat.le_refl _) (.cells #[.slice (some ⟨p, 0, none⟩) n c, .slice (some ⟨q, 0, none⟩) n d] 68)
      have hE0' := hE0.below bX; have hE1' := hE1.below bX; have ip' := ip.below bX; have iq' := iq.below bX
      have bE' := bE.trans (bX.mono bE.size)
      have tX := bx2 gX
      obtain ⟨wp, hwp⟩ : ∃ wp, wq.alloc (.cells #[.slice (some ⟨p, 0, none⟩) n c, .slice (some ⟨q, 0, none⟩) n d] 68) = wp := ⟨_, rfl⟩
      rw [hwp] at gX hE0' hE1' ip' iq' bE' tX
      have GX := Lib.hid gX; have E0 := Lib.hid hE0'; have E1 := Lib.hid hE1'; have IP := Lib.hid ip'; have IQ := Lib.hid iq'; have BE := Lib.hid bE'
      clear gX hE0 hE1 hE0' hE1' ip iq ip' iq' bE bE' bX
      go_wp2_with fail
      go_loopw [105] (fun y wr => ∃ m : Nat, m ≤ n ∧ y = .int .i64 m ∧ wr.heap[wq.heap.size]? = some (.cells #[.slice (some ⟨p, 0, none⟩) n c, .slice (some ⟨q, 0, none⟩) n d] 68 (0, 0)) ∧ Els wr g n W12.heap.size 0 ∧ Els wr g n W12.heap.size 1 ∧ IB wr p n ∧ IB wr q n ∧ Below W12.heap.size W12 wr) (fun y _ => n - (intOf y).toNat)
      case atStart => exact ⟨0, Nat.zero_le _, rfl, GX.out, E0.out, E1.out, IP.out, IQ.out, BE.out⟩
      case round =>
        obtain ⟨m, hm, rfl, gX, e0, e1, ip, iq, be⟩ := hrel
        have tX := bx2 gX
        by_cases hml : m < n
        · obtain ⟨u, cu, fu⟩ := ip m hml
          have hmi : (m : Int) < n := by omega
          have hm0 : ¬ (m : Int) < 0 := by omega
          have hwm : IntKind.i64.wrap ((m : Int) + 1) = ((m + 1 : Nat) : Int) := by rw [IntWalk.i64_in _ (by omega)]; push_cast; rfl
          have HG := Lib.hid gX; have HE0 := Lib.hid e0; have HE1 := Lib.hid e1; have HIP := Lib.hid ip; have HIQ := Lib.hid iq; have HBE := Lib.hid be
          clear gX e0 e1 ip iq be
          go_wp2_with fail
          go_roundw
          case rel => exact ⟨m + 1, by omega, by go_num, (Keep.block (S := fun j => j = p) (Keep.setCell (S := fun j => j = p) (Keep.refl _ _) ⟨p, m, none⟩ (.inr rfl) _) _ (lt_of_block HG.out) (by omega)).trans HG.out, HE0.out.set _ _ _ npg, HE1.out.set _ _ _ npg, HIP.out.set _ _ _, HIQ.out.set _ _ _, HBE.out.setCell bp _⟩
          case measure => simp [intOf]; omega
        · obtain rfl : m = n := by omega
          have hmi : ¬ (m : Int) < m := by omega
          obtain ⟨wz, rfl⟩ : ∃ wz : World, wz = wr := ⟨_, rfl⟩
          have HG := Lib.hid gX; have HE0 := Lib.hid e0; have HE1 := Lib.hid e1; have HIP := Lib.hid ip; have HIQ := Lib.hid iq; have HBE := Lib.hid be
          clear gX e0 e1 ip iq be
          go_wp2_with fail
          go_loopw [119] (fun y wr => ∃ j : Nat, j ≤ m ∧ y = .int .i64 j ∧ wr.heap[wq.heap.size]? = some (.cells #[.slice (some ⟨p, 0, none⟩) m c, .slice (some ⟨q, 0, none⟩) m d] 68 (0, 0)) ∧ Els wr g m W12.heap.size 0 ∧ Els wr g m W12.heap.size 1 ∧ IB wr q m ∧ Below W12.heap.size W12 wr) (fun y _ => m - (intOf y).toNat)
          case atStart => exact ⟨0, Nat.zero_le _, rfl, HG.out, HE0.out, HE1.out, HIQ.out, HBE.out⟩
          case round =>
            obtain ⟨j, hj, rfl, gX, e0, e1, iq, be⟩ := hrel
            have tX := bx2 gX
            by_cases hjl : j < m
            · obtain ⟨u, cu, fu⟩ := iq j hjl
              have hji : (j : Int) < m := by omega
              have hj0 : ¬ (j : Int) < 0 := by omega
              have hwj : IntKind.i64.wrap ((j : Int) + 1) = ((j + 1 : Nat) : Int) := by rw [IntWalk.i64_in _ (by omega)]; push_cast; rfl
              have HG := Lib.hid gX; have HE0 := Lib.hid e0; have HE1 := Lib.hid e1; have HIQ := Lib.hid iq; have HBE := Lib.hid be
              clear gX e0 e1 iq be
              go_wp2_with fail
              go_roundw
              case rel => exact ⟨j + 1, by omega, by go_num, (Keep.block (S := fun j => j = q) (Keep.setCell (S := fun j => j = q) (Keep.refl _ _) ⟨q, j, none⟩ (.inr rfl) _) _ (lt_of_block HG.out) (by omega)).trans HG.out, HE0.out.set _ _ _ nqg, HE1.out.set _ _ _ nqg, HIQ.out.set _ _ _, HBE.out.setCell bq _⟩
              case measure => simp [intOf]; omega
            · have hji : ¬ (j : Int) < m := by omega
              have HE0 := Lib.hid e0; have HE1 := Lib.hid e1; have HBE := Lib.hid be
              clear gX e0 e1 iq be tX
              go_wp2_with fail
              go_roundw
              case rel => exact ⟨k + 1, by omega, by go_num, HE0.out, HE1.out, HBE.out⟩
              case measure => simp [intOf]; omega
    · have hki : ¬ (k : Int) < 2 := by omega
      obtain ⟨wq, rfl⟩ : ∃ wq : World, wq = wr := ⟨_, rfl⟩
      have BE := Lib.hid bE
      clear hE0 hE1 bE
      go_wp2_with fail
      refine (HGR.out _ BE.out).mono ?_
      rintro e w16 ⟨A', c', rfl, hc', og, kg⟩
      obtain ⟨p, _, hp, _⟩ := og.form hn1'
      simp only [Value.slice.injEq] at hp
      obtain ⟨rfl, _⟩ := hp
      have ib := IB.own og
      have gB : W12.heap.size ≤ p := Nat.le_trans BE.out.size (og.lt p rfl).1
      have HIB := Lib.hid ib; have B16 := Lib.hid (bt BE.out kg)
      clear ib og kg hc'
      go_wp2_with fail
      go_loopw [135] (fun y wr => ∃ m : Nat, m ≤ n ∧ y = .int .i64 m ∧ IB wr p n ∧ Below W12.heap.size W12 wr) (fun y _ => n - (intOf y).toNat)
      case atStart => exact ⟨0, Nat.zero_le _, rfl, HIB.out, B16.out⟩
      case round =>
        obtain ⟨m, hm, rfl, ib, bE⟩ := hrel
        by_cases hml : m < n
        · obtain ⟨u, cu, fu⟩ := ib m hml
          have hmi : (m : Int) < n := by omega
          have hm0 : ¬ (m : Int) < 0 := by omega
          have hwm : IntKind.i64.wrap ((m : Int) + 1) = ((m + 1 : Nat) : Int) := by rw [IntWalk.i64_in _ (by omega)]; push_cast; rfl
          have HIB2 := Lib.hid ib; have HBE := Lib.hid bE
          clear ib bE
          go_wp2_with fail
          go_roundw
          case rel => exact ⟨m + 1, by omega, by go_num, HIB2.out.set _ _ _, HBE.out.setCell gB _⟩
          case measure => simp [intOf]; omega
        · have hmi : ¬ (m : Int) < n := by omega
          obtain ⟨V, rfl⟩ : ∃ V : World, V = wr := ⟨_, rfl⟩
          have QV := Lib.hid bE
          clear ib bE
          go_wp2_with fail
          refine (alive21_any V).mono ?_
          rintro e w17 ⟨rfl, k17⟩
          have b17 := bt QV.out k17
          go_wp2_with (refine wpl_ldg vs (sb E12.out _ b17) (by rw [Hsz.out]; exact rt_rm) rfl rfl rfl (by rw [List.drop_zero, List.take_length]) ?_)
          refine (lsame_new (MV.out.below b17 (fun _ _ h => h)) (fun _ _ h => h) (RV.out.below b17) Hsm.out).mono ?_
          rintro e w18 ⟨rfl, k18⟩
          have Q18 := Lib.hid (Hx.out _ (bt (bt Q12.out b17) k18))
          go_wp2_with fail
          go_ret
          exact ⟨rfl, Q18.out⟩
end Go.Proofs.YtaccfnffmbndhaaGreat
