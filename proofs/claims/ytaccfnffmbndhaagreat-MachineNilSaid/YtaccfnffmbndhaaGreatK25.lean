/- The reference's plan: Buckets and Job; appending items. No condition. -/
import Derived.Test.YtaccfnffmbndhaaGreatK24
import Derived.Test.YtaccfnffmbndhaaGreatK10
set_option linter.unusedSimpArgs false
set_option linter.unusedVariables false
namespace Go.Proofs.YtaccfnffmbndhaaGreat
open Go.RowKit
theorem et_ritems : ElemT Tryz.prog 41 136 (.agg #[.int .i64 0, .int .i64 0, .int .i64 0, .bool false, .bool false, .int .i64 0, .int .i64 0, .int .i64 0, .int .i64 0, .int .i64 0, .int .i64 0, .int .i64 0]) 12 88 := ⟨Tryz.underlying41, info_parts (by kernel_rfl), rfl, by decide⟩
def ApdV (w : World) (v : Value) (w' : World) (v' : Value) : Prop := Keep (fun j => v.ownBlock = some j) w w' ∧ (v'.ownBlock = v.ownBlock ∨ ∀ k, v'.ownBlock = some k → w.heap.size ≤ k)
theorem ApdV.trans {a b c : World} {v v' v'' : Value} (h : ApdV a v b v') (k : ApdV b v' c v'') : ApdV a v c v'' := by
  refine ⟨⟨k.1.os.trans h.1.os, k.1.tape.trans h.1.tape, k.1.output.trans h.1.output, Nat.le_trans h.1.size k.1.size, fun j hj hn => (k.1.block j (Nat.lt_of_lt_of_le hj h.1.size) fun hS => ?_).trans (h.1.block j hj hn)⟩, ?_⟩
  · rcases h.2 with h2 | h2
    · exact hn (h2 ▸ hS)
    · have := h2 j hS; omega
  · rcases k.2 with k2 | k2
    · rw [k2]; exact h.2
    · exact .inr fun j hj => Nat.le_trans h.1.size (k2 j hj)
theorem ApdV.below {b c : World} {v : Value} (h : Below b.heap.size b c) : ApdV b v c v := ⟨Keep.below h, .inl rfl⟩
theorem ApdV.refl (w : World) (v : Value) : ApdV w v w v := ⟨Keep.refl _ _, .inl rfl⟩
theorem wpList_pushN {P : Program} {t e : TypeId} {z : Value} {size bytes : Nat} (T : ElemT P t e z size bytes) (w : World) {ops : Array Oper} {rest : List Oper} {o : Oper} {a : Act} {Q : Exit → Act → World → Prop}
    (hgd : o.guard = none) (s x : Operand) (ho : o.op = .call { callee := .builtin .append, args := #[s, x], argTypes := #[t, t] })
    (base : Nat) (v : Value) (n : Nat) (xs : List Value) (hs : a.eval s = v) (hown : w.ownsRow base e size v n xs)
    (us : List Value) (hx : a.eval x = .slice (some ⟨w.heap.size, 0, none⟩) 1 1) (hus : us.length = size) (h1 : ∀ u ∈ us, u.oneCell' = true)
    (hb : (n + 1) * bytes ≤ 140737488355328) (h63 : n + 1 ≤ maxLen) (hbase : base ≤ w.heap.size)
    (h : ∀ A' c' w', w'.ownsRow base e size (.slice A' (n + 1) c') (n + 1) (xs ++ us) → ApdV w v w' (.slice A' (n + 1) c') →
      wpList P ops Q rest (a.put o.dst (.slice A' (n + 1) c')) w') : wpList P ops Q (o :: rest) a (w.alloc (.cells us.toArray e)) := by
  refine wpList_app T (w := w.alloc (.cells us.toArray e)) hgd s x ho base v n xs hs (hown.alloc _) (some ⟨w.heap.size, 0, none⟩) 1 1 us hx (rd_newN w us e w.heap.size rfl) (by omega) h1 hb h63 (by simp; omega) ?_
  intro A' c' w' h2 _ hg hn
  refine h A' c' w' h2 ⟨((Keep.refl _ w).alloc _).grown hg (fun k hk => .inr hk), ?_⟩
  rcases hn with hn | hn
  · exact .inl hn
  · exact .inr fun k hk => by rw [hn] at hk; simp at hk; omega
theorem ss6 {w : World} {b : Nat} {t : TypeId} {z0 z1 z2 z3 z4 z5 v0 v1 v2 v3 v4 v5 : Value} (h : w.heap[b]? = some (.cells #[z0, z1, z2, z3, z4, z5] t (0, 0))) :
    ((((((w.setCell ⟨b, 0, none⟩ v0).setCell ⟨b, 1, none⟩ v1).setCell ⟨b, 2, none⟩ v2).setCell ⟨b, 3, none⟩ v3).setCell ⟨b, 4, none⟩ v4).setCell ⟨b, 5, none⟩ v5).heap[b]? = some (.cells #[v0, v1, v2, v3, v4, v5] t (0, 0)) :=
  ss (ss (ss3 (ss h rfl) rfl) rfl) (by simp)
set_option maxRecDepth 100000 in
theorem rbuk_any (p : Pln) (a0 a1 a2 a3 a5 a6 a7 a10 a11 : Value) (w : World) (hp : PlnOk p) (hbu : p.bu ≤ 1048576) :
    Calls Tryz.prog 73 #[.agg #[a0, a1, a2, a3, .int .i64 (p.W : Nat), a5, a6, a7, .int .i64 (p.bu : Nat), .int .i64 (p.ck : Nat), a10, a11, .int .i64 (p.n : Nat)]] w fun e w' => ∃ v, e = .returned v ∧ w'.ownsRow w.heap.size 132 2 v p.buks.length (rgVals p.buks) ∧ Below w.heap.size w w' := by
  obtain ⟨W0, hW0⟩ : ∃ W0, w.alloc (.cells #[a0, a1, a2, a3, .int .i64 (p.W : Nat), a5, a6, a7, .int .i64 (p.bu : Nat), .int .i64 (p.ck : Nat), a10, a11, .int .i64 (p.n : Nat)] 79) = W0 := ⟨_, rfl⟩
  have hB0 : Below w.heap.size w W0 := by rw [← hW0]; exact (br w).alloc (Nat.le_refl _) _
  have hb := rbucks_any p.n p.bu W0 (by have := hp.n; omega) hp.bu hbu
  have HW0 := Lib.hid hW0; have HB0 := Lib.hid hB0; have Hb := Lib.hid hb
  clear hW0 hB0 hb
  go_enter Tryz.func73, Tryz.ntmps73
  go_wp2_with fail
  rw [HW0.out]
  refine Hb.out.mono ?_
  rintro e w1 ⟨v, rfl, o1, k1⟩
  have O1 := Lib.hid (own_base (base' := w.heap.size) o1 HB0.out.size); have K1 := Lib.hid (HB0.out.trans (k1.mono HB0.out.size))
  clear o1 k1
  go_wp2_with fail
  go_ret
  exact ⟨_, rfl, O1.out, K1.out⟩
set_option maxRecDepth 100000 in
theorem rjob_any (p : Pln) (a0 a1 a2 a3 a5 a6 a7 a10 a11 : Value) (st j : Nat) (w : World) (hp : PlnOk p) (hbu : p.bu ≤ 1048576) (hj : j < p.buks.length) :
    Calls Tryz.prog 126 #[.agg #[a0, a1, a2, a3, .int .i64 (p.W : Nat), a5, a6, a7, .int .i64 (p.bu : Nat), .int .i64 (p.ck : Nat), a10, a11, .int .i64 (p.n : Nat)], .int .i64 (st : Nat), .int .i64 (j : Nat)] w fun e w' => e = .returned (.agg #[.int .i64 (st : Nat), .int .i64 (j : Nat), .int .i64 ((rgAt p.buks j).1 : Nat), .int .i64 ((rgAt p.buks j).2 : Nat), .int .i64 (p.W : Nat), .int .i64 (p.ck : Nat)]) ∧ Below w.heap.size w w' := by
  obtain ⟨W0, hW0⟩ : ∃ W0, (w.alloc (.cells #[a0, a1, a2, a3, .int .i64 (p.W : Nat), a5, a6, a7, .int .i64 (p.bu : Nat), .int .i64 (p.ck : Nat), a10, a11, .int .i64 (p.n : Nat)] 79)).alloc (.cells #[.int .i64 0, .int .i64 0, .int .i64 0, .int .i64 0, .int .i64 0, .int .i64 0] 220) = W0 := ⟨_, rfl⟩
  have g0 : W0.heap[w.heap.size]? = some (.cells #[a0, a1, a2, a3, .int .i64 (p.W : Nat), a5, a6, a7, .int .i64 (p.bu : Nat), .int .i64 (p.ck : Nat), a10, a11, .int .i64 (p.n : Nat)] 79 (0, 0)) := by
    rw [← hW0, Below.heap_alloc _ _ _ (by simp)]; exact heap_alloc_new w _
  have g1 : W0.heap[w.heap.size + 1]? = some (.cells #[.int .i64 0, .int .i64 0, .int .i64 0, .int .i64 0, .int .i64 0, .int .i64 0] 220 (0, 0)) := by
    rw [← hW0]; have := heap_alloc_new (w.alloc (.cells #[a0, a1, a2, a3, .int .i64 (p.W : Nat), a5, a6, a7, .int .i64 (p.bu : Nat), .int .i64 (p.ck : Nat), a10, a11, .int .i64 (p.n : Nat)] 79)) (.cells #[.int .i64 0, .int .i64 0, .int .i64 0, .int .i64 0, .int .i64 0, .int .i64 0] 220); simpa using this
  have hB0 : Below w.heap.size w W0 := by rw [← hW0]; exact ((br w).alloc (Nat.le_refl _) _).alloc (by simp) _
  have t0 := fun w' (q : Keep (fun j => j = w.heap.size + 1) W0 w') => bx13 ((q.block _ (lt_of_block g0) (by omega)).trans g0)
  have hjI : (j : Int) < p.buks.length := by omega
  have HW0 := Lib.hid hW0; have HB0 := Lib.hid hB0; have G1 := Lib.hid g1
  have q0 : Keep (fun j => j = w.heap.size + 1) W0 W0.drew := (Keep.refl _ _).drew
  clear hW0 g0 g1 hB0
  go_enter Tryz.func126, Tryz.ntmps126
  go_wp2_with fail
  rw [HW0.out]
  refine HA.g (fun w' : World => Keep (fun j => j = w.heap.size + 1) W0 w') ?_
  refine HA.t ?_ [0, 1, 2, 4, 7, 8, 9, 10, 11, 12] q0 ?_
  refine HA.c 3 (rbuk_any p a0 a1 a2 a3 a5 a6 a7 a10 a11 _ hp hbu) ?_
  rintro e w2 ⟨v2, rfl, o2, k2⟩
  have b2 := bt (br W0).drew k2
  have q2 : Keep (fun j => j = w.heap.size + 1) W0 w2 := Keep.below b2
  obtain ⟨g, c2, rfl, _⟩ := o2.form (by omega)
  obtain ⟨d0, d1⟩ := rg_cell o2 hj
  obtain ⟨b1, hb1⟩ : ∃ b, (rgAt p.buks j).1 = b := ⟨_, rfl⟩
  obtain ⟨e2, hb2⟩ : ∃ b, (rgAt p.buks j).2 = b := ⟨_, rfl⟩
  rw [hb1] at d0
  rw [hb2] at d1
  refine ⟨_, rfl, q2, fun _ => ?_⟩
  refine HA.v 5 w2 (.pointer (some ⟨g, j * 2, none⟩)) q2 ?_
  refine HA.v 6 w2 (.agg #[.int .i64 (b1 : Nat), .int .i64 (e2 : Nat)]) q2 ?_
  refine HA.v 13 w2 (.agg #[.int .i64 (st : Nat), .int .i64 (j : Nat), .int .i64 (b1 : Nat), .int .i64 (e2 : Nat), .int .i64 (p.W : Nat), .int .i64 (p.ck : Nat)]) q2 ?_
  have h2 := sb G1.out w2 b2
  have u2 := bx6 h2
  have e6 := ss6 (v0 := .int .i64 (st : Nat)) (v1 := .int .i64 (j : Nat)) (v2 := .int .i64 (b1 : Nat)) (v3 := .int .i64 (e2 : Nat)) (v4 := .int .i64 (p.W : Nat)) (v5 := .int .i64 (p.ck : Nat)) h2
  have hl2 := lt_of_block h2
  obtain ⟨W9, hW9⟩ : ∃ W9, ((((((w2.setCell ⟨w.heap.size + 1, 0, none⟩ (.int .i64 (st : Nat))).setCell ⟨w.heap.size + 1, 1, none⟩ (.int .i64 (j : Nat))).setCell ⟨w.heap.size + 1, 2, none⟩ (.int .i64 (b1 : Nat))).setCell ⟨w.heap.size + 1, 3, none⟩ (.int .i64 (e2 : Nat))).setCell ⟨w.heap.size + 1, 4, none⟩ (.int .i64 (p.W : Nat))).setCell ⟨w.heap.size + 1, 5, none⟩ (.int .i64 (p.ck : Nat))) = W9 := ⟨_, rfl⟩
  have k9 : Keep (fun j => j = w.heap.size + 1) w2 W9 := by rw [← hW9]; exact Keep.setCell (S := fun j => j = w.heap.size + 1) (Keep.setCell (S := fun j => j = w.heap.size + 1) (Keep.setCell (S := fun j => j = w.heap.size + 1) (Keep.setCell (S := fun j => j = w.heap.size + 1) (Keep.setCell (S := fun j => j = w.heap.size + 1) (Keep.setCell (S := fun j => j = w.heap.size + 1) (Keep.refl _ _) _ (.inr rfl) _) _ (.inr rfl) _) _ (.inr rfl) _) _ (.inr rfl) _) _ (.inr rfl) _) _ (.inr rfl) _
  refine HA.s 14 W9 (q2.trans k9) ?_ (he := by subst hW9; go_simp)
  refine HA.d ?_
  rw [hW9] at e6
  have E6 := Lib.hid e6
  have HB := Lib.hid (HB0.out.trans ((q2.trans k9).toBelow (B := w.heap.size) HB0.out.size (fun j hj => by omega)))
  obtain ⟨⟨r0, r1, r2, r3, r4, r5⟩, rf⟩ := bx6 e6
  have hl9 := lt_of_block e6
  have Hb1 := Lib.hid hb1; have Hb2 := Lib.hid hb2
  clear e6 h2 u2 hl2 q0 q2 b2 k9 k2 t0 o2 d0 d1 hb1 hb2
  go_wp2_with fail
  rw [Hb1.out, Hb2.out]
  exact bodyPost_ret (v := .agg #[.int .i64 (st : Nat), .int .i64 (j : Nat), .int .i64 (b1 : Nat), .int .i64 (e2 : Nat), .int .i64 (p.W : Nat), .int .i64 (p.ck : Nat)]) (by simp [results, Tryz.results126, go_sem, r0, r1, r2, r3, r4, r5]) rfl ⟨rfl, HB.out⟩
end Go.Proofs.YtaccfnffmbndhaaGreat
