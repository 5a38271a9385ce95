/- The law's comparison of a machine with the reference's. Do of no machine and of one that has ended; the example of the chapter. The reference's Clone of numbers. No condition. -/
import Derived.Test.YtaccfnffmbndhaaGreatK30
import Derived.Test.YtaccfnffmbndhaaGreatK11
import Derived.Test.YtaccfnffmbndhaaGreatK28
set_option linter.unusedSimpArgs false
set_option linter.unusedVariables false
namespace Go.Proofs.YtaccfnffmbndhaaGreat
open Go.RowKit
def allocs (w : World) : List Obj → World
  | [] => w
  | o :: l => allocs (w.alloc o) l
theorem allocs_below : ∀ (l : List Obj) (w : World), Below w.heap.size w (allocs w l)
  | [], w => br w
  | o :: l, w => bt ((br w).alloc (Nat.le_refl _) o) (allocs_below l _)
theorem allocs_at : ∀ (l : List Obj) (w : World) (k : Nat) {o : Obj}, l[k]? = some o → (allocs w l).heap[w.heap.size + k]? = some o
  | [], _, _, _, h => by simp at h
  | o :: l, w, 0, _, h => by
    simp only [List.getElem?_cons_zero, Option.some.injEq] at h
    subst h
    exact sb (heap_alloc_new w o) _ (allocs_below l _)
  | o :: l, w, k + 1, _, h => by
    have := allocs_at l (w.alloc o) k (by simpa using h)
    rwa [show (w.alloc o).heap.size + k = w.heap.size + (k + 1) by rw [World.size_alloc]; omega] at this
set_option maxRecDepth 100000 in
set_option maxHeartbeats 2000000 in
theorem iback_any (k0 k1 k2 : Int) (b0 b1 : Bool) (i0 i1 i2 i3 i4 i5 i6 : Int) (w : World) :
    Calls Tryz.prog 54 #[.agg #[.int .i64 k0, .int .i64 k1, .int .i64 k2, .bool b0, .bool b1, .int .i64 i0, .int .i64 i1, .int .i64 i2, .int .i64 i3, .int .i64 i4, .int .i64 i5, .int .i64 i6]] w fun e w' => e = .returned (.agg #[.int .i64 k0, .int .i64 k1, .int .i64 k2, .bool b0, .bool b1, .int .i64 i0, .int .i64 i1, .int .i64 i2, .int .i64 i3, .int .i64 i4, .int .i64 i5, .int .i64 i6]) ∧ Below w.heap.size w w' := by
  have h1 := allocs_at [.cells #[.int .i64 k0, .int .i64 k1, .int .i64 k2, .bool b0, .bool b1, .int .i64 i0, .int .i64 i1, .int .i64 i2, .int .i64 i3, .int .i64 i4, .int .i64 i5, .int .i64 i6] 56, .cells #[.int .i64 k0, .int .i64 k1, .int .i64 k2, .bool b0, .bool b1, .int .i64 i0, .int .i64 i1, .int .i64 i2, .int .i64 i3, .int .i64 i4, .int .i64 i5, .int .i64 i6] 136, .cells #[.bool b0, .bool b1, .int .i64 i0, .int .i64 i1, .int .i64 i2, .int .i64 i3, .int .i64 i4, .int .i64 i5, .int .i64 i6] 134] w 1 rfl
  have h2 := allocs_below [.cells #[.int .i64 k0, .int .i64 k1, .int .i64 k2, .bool b0, .bool b1, .int .i64 i0, .int .i64 i1, .int .i64 i2, .int .i64 i3, .int .i64 i4, .int .i64 i5, .int .i64 i6] 56, .cells #[.int .i64 k0, .int .i64 k1, .int .i64 k2, .bool b0, .bool b1, .int .i64 i0, .int .i64 i1, .int .i64 i2, .int .i64 i3, .int .i64 i4, .int .i64 i5, .int .i64 i6] 136, .cells #[.bool b0, .bool b1, .int .i64 i0, .int .i64 i1, .int .i64 i2, .int .i64 i3, .int .i64 i4, .int .i64 i5, .int .i64 i6] 134] w
  have H1 := Lib.hid h1; have H2 := Lib.hid h2
  clear h1 h2
  go_enter Tryz.func54, Tryz.ntmps54
  go_wp2_with fail
  exact bodyPost_ret (res_cell rfl rfl H1.out rt_it) rfl ⟨rfl, H2.out⟩
theorem it_form (y : Itm) : ∃ (k0 k1 k2 : Int) (b0 b1 : Bool) (i0 i1 i2 i3 i4 i5 i6 : Int), itCells y = [.int .i64 k0, .int .i64 k1, .int .i64 k2, .bool b0, .bool b1, .int .i64 i0, .int .i64 i1, .int .i64 i2, .int .i64 i3, .int .i64 i4, .int .i64 i5, .int .i64 i6] := by
  obtain ⟨k, s, n, a⟩ := y
  cases a with
  | none => exact ⟨_, _, _, _, _, _, _, _, _, _, _, _, rfl⟩
  | some a => exact ⟨_, _, _, _, _, _, _, _, _, _, _, _, rfl⟩
theorem rt_item : RowTy Tryz.prog 56 12 := ⟨⟨_, Tryz.underlying56, rfl⟩, by kernel_rfl⟩
theorem range_below {w w' : World} {b o : Nat} {cs : List Value} (h : w.rangeAt b o cs) (q : Below w.heap.size w w') : w'.rangeAt b o cs := fun j v hv => cell_below q (h j v hv)
def NextIs (w : World) (b : Nat) (its : List Itm) (dn : Nat) (ok : Bool) (zs : List Value) : Prop := (∀ w', Below w.heap.size w w' → Calls Tryz.prog 16 #[.pointer (some ⟨b, 0, none⟩)] w' fun e w'' => e = .returned (.tuple #[.agg zs.toArray, .bool ok]) ∧ Below w'.heap.size w' w'') ∧ ok = decide (dn < its.length) ∧ (ok = true → ∃ y, its[dn]? = some y ∧ zs = itCells y) ∧ (ok = false → zs = [.int .i64 0, .int .i64 0, .int .i64 0, .bool false, .bool false, .int .i64 0, .int .i64 0, .int .i64 0, .int .i64 0, .int .i64 0, .int .i64 0, .int .i64 0])
theorem next_is {H : Nat → Prop} {w : World} {b x : Nat} {i : Inp} {a : MAd} {m : Mst} (h : MachAt H w b i x a m) (hn : ∀ k, Mut b a k → ¬ H k) (hcur : (curL i x m.st)[m.nx]? = (allL i x)[doneN i x m]?) :
    ∃ (ok : Bool) (k0 k1 k2 : Int) (b0 b1 : Bool) (i0 i1 i2 i3 i4 i5 i6 : Int), NextIs w b (allL i x) (doneN i x m) ok [.int .i64 k0, .int .i64 k1, .int .i64 k2, .bool b0, .bool b1, .int .i64 i0, .int .i64 i1, .int .i64 i2, .int .i64 i3, .int .i64 i4, .int .i64 i5, .int .i64 i6] := by
  cases hy : (allL i x)[doneN i x m]? with
  | some y =>
    obtain ⟨k0, k1, k2, b0, b1, i0, i1, i2, i3, i4, i5, i6, hf⟩ := it_form y
    refine ⟨true, k0, k1, k2, b0, b1, i0, i1, i2, i3, i4, i5, i6, fun w' q => ?_, ?_, fun _ => ⟨y, hy, hf.symm⟩, by simp⟩
    · have := next_some (h.below q hn) (hcur.trans hy)
      rw [hf] at this
      exact this
    · have := (List.getElem?_eq_some_iff.1 hy).1
      simp [this]
  | none =>
    refine ⟨false, 0, 0, 0, false, false, 0, 0, 0, 0, 0, 0, 0, fun w' q => ?_, ?_, by simp, fun _ => rfl⟩
    · exact next_no (h.below q hn) (List.getElem?_eq_none_iff.1 (hcur.trans hy))
    · have := List.getElem?_eq_none_iff.1 hy
      simp; omega
set_option maxRecDepth 100000 in
set_option maxHeartbeats 4000000 in
theorem lsame_any {H : Nat → Prop} {w : World} {b x : Nat} {i : Inp} {a : MAd} {m : Mst} {vs : Array Value} (h : MachAt H w b i x a m) (hn : ∀ k, Mut b a k → ¬ H k) (r : RMach w vs i x m) (hs : SmIn i) (hcur : (curL i x m.st)[m.nx]? = (allL i x)[doneN i x m]?)
    (hdn : doneN i x m ≤ (allL i x).length) (hop : m.op = opnN (allL i x) (doneN i x m) (plnI i).buks.length) (hrc : ∀ y ∈ m.rc, y.1.length = i.start.length ∧ y.2.length = i.start.length) (hrl : m.rc.length ≤ 100) :
    Calls Tryz.prog 14 #[.pointer (some ⟨b, 0, none⟩), .agg vs] w fun e w' => e = .returned (.int .i64 1) ∧ Below w.heap.size w w' := by
  have hM := fun w' (q : Below w.heap.size w w') => h.below q hn
  have hrop := fun w' (q : Below w.heap.size w w') => ropen_any w' (r.below q) hs hdn
  obtain ⟨ok, k0, k1, k2, b0, b1, i0, i1, i2, i3, i4, i5, i6, hnx⟩ := next_is h hn hcur
  have hcount := fun w' (q : Below w.heap.size w w') => mcount_any (hM w' q)
  have hstate := fun w' (q : Below w.heap.size w w') => mstate_any (hM w' q) hs.n
  have hgrad := fun w' (q : Below w.heap.size w w') => mgrad_any (hM w' q) hs.n
  have htraj := fun w' (q : Below w.heap.size w w') => mtraj_any (hM w' q) hrc hs.n hrl
  have hlop : m.op.length ≤ 60 := by rw [hop]; exact Nat.le_trans (opnN_le _ _ _) hs.ok.buks
  have hopen := fun w' (q : Below w.heap.size w w') => mopen_any (hM w' q) hlop
  rw [hop] at hlop
  simp only [hop] at hopen
  have wP := h.wP; have wM := h.wM; have wG := h.wG
  obtain ⟨A, c, D, cd, T, ct, R, cr, PA, pc, MA, mc, GA, gc, SA, sc, IA, ic, rfl, hI, hP, hMm, hG, hR, hIt, hl⟩ := r
  have hss := fun w' (q : Below w.heap.size w w') A1 A2 c1 c2 (h1 : NumsRd w' A1 m.P c1) (h2 : NumsRd w' A2 m.M c2) => stsame_any A1 A2 PA MA m.P m.M m.P m.M c1 c2 pc mc w' h1 h2 (hP.below q) (hMm.below q)
  simp only [hl.1, hl.2.1, decide_true, Bool.and_self] at hss
  have hsg := fun w' (q : Below w.heap.size w w') A1 c1 (h1 : Rd w' A1 (nums .i64 m.G)) => same_any A1 GA m.G m.G c1 gc w' h1 (hG.below q).hr (by rw [wG.1]; have := hs.n; omega) hG.hl
  simp only [hl.2.2, decide_true] at hsg
  have hsa := fun w' (q : Below w.heap.size w w') A1 c1 (h1 : SlRd rEx 2 w' A1 m.rc) => stall_any A1 SA m.rc m.rc c1 sc w' h1 (hR.below stays_ex q) (by omega) (by omega)
  simp only [decide_true] at hsa
  have hbs := fun w' A1 c1 (h1 : SlRd rEx 2 w' A1 m.rc) => backs_any A1 m.rc c1 w' h1 (by omega)
  obtain ⟨nb, hnb'⟩ : ∃ nb, (plnI i).buks.length = nb := ⟨_, rfl⟩
  obtain ⟨dn, hdn'⟩ : ∃ dn, doneN i x m = dn := ⟨_, rfl⟩
  obtain ⟨its, hits⟩ : ∃ its, allL i x = its := ⟨_, rfl⟩
  have hal : (allL i x).length ≤ 48000000 := allN_le hs x (Nat.le_refl _)
  rw [hits, hdn'] at hdn hnx
  rw [hnb'] at hrop hopen hlop
  rw [hits] at hIt hal
  simp only [hits, hdn'] at hrop hopen hcount hlop ⊢
  obtain ⟨L, hL⟩ : ∃ L, opnN its dn nb = L := ⟨_, rfl⟩
  rw [hL] at hrop hopen hlop
  have heq := fun w' A1 A2 c1 c2 (h1 : Rd w' A1 (nums .i64 (intsN L))) (h2 : Rd w' A2 (nums .i64 (intsN L))) => equal_any A1 A2 (intsN L) (intsN L) c1 c2 w' h1 h2 (by rw [intsN_len]; omega)
  simp only [intsN_len, decide_true] at heq
  obtain ⟨W0, hW0⟩ : ∃ W0, w.alloc (.cells #[.slice A i.cfg.sizes.length c, .int .i64 i.cfg.shift, .int .i64 i.cfg.rate, .int .i64 i.cfg.mom, .int .i64 i.cfg.workers, .int .i64 i.cfg.batch, .int .i64 i.cfg.micros, .int .i64 i.cfg.steps, .int .i64 i.cfg.bucket, .int .i64 i.cfg.chunk, .int .i64 i.cfg.window, .int .i64 i.cfg.cap, .slice D i.data.length cd, .slice T i.start.length ct, .slice R i.draws.length cr, .int .i64 (x : Nat), .slice PA i.start.length pc, .slice MA i.start.length mc, .slice GA i.start.length gc, .slice SA m.rc.length sc, .slice IA its.length ic, .int .i64 (dn : Nat)] 43) = W0 := ⟨_, rfl⟩
  have g0 : W0.heap[w.heap.size]? = some (.cells #[.slice A i.cfg.sizes.length c, .int .i64 i.cfg.shift, .int .i64 i.cfg.rate, .int .i64 i.cfg.mom, .int .i64 i.cfg.workers, .int .i64 i.cfg.batch, .int .i64 i.cfg.micros, .int .i64 i.cfg.steps, .int .i64 i.cfg.bucket, .int .i64 i.cfg.chunk, .int .i64 i.cfg.window, .int .i64 i.cfg.cap, .slice D i.data.length cd, .slice T i.start.length ct, .slice R i.draws.length cr, .int .i64 (x : Nat), .slice PA i.start.length pc, .slice MA i.start.length mc, .slice GA i.start.length gc, .slice SA m.rc.length sc, .slice IA its.length ic, .int .i64 (dn : Nat)] 43 (0, 0)) := by rw [← hW0]; exact heap_alloc_new w _
  have k0' : Below w.heap.size w W0 := by rw [← hW0]; exact (br w).alloc (Nat.le_refl _) _
  have t16 : ∀ w', Below W0.heap.size W0 w' → w'.cell? ⟨w.heap.size, 16, none⟩ = some (.slice PA i.start.length pc) := fun w' q => cell_of_row w' w.heap.size 16 _ _ _ (sb g0 w' q)
  have t17 : ∀ w', Below W0.heap.size W0 w' → w'.cell? ⟨w.heap.size, 17, none⟩ = some (.slice MA i.start.length mc) := fun w' q => cell_of_row w' w.heap.size 17 _ _ _ (sb g0 w' q)
  have t18 : ∀ w', Below W0.heap.size W0 w' → w'.cell? ⟨w.heap.size, 18, none⟩ = some (.slice GA i.start.length gc) := fun w' q => cell_of_row w' w.heap.size 18 _ _ _ (sb g0 w' q)
  have t19 : ∀ w', Below W0.heap.size W0 w' → w'.cell? ⟨w.heap.size, 19, none⟩ = some (.slice SA m.rc.length sc) := fun w' q => cell_of_row w' w.heap.size 19 _ _ _ (sb g0 w' q)
  have t20 : ∀ w', Below W0.heap.size W0 w' → w'.cell? ⟨w.heap.size, 20, none⟩ = some (.slice IA its.length ic) := fun w' q => cell_of_row w' w.heap.size 20 _ _ _ (sb g0 w' q)
  have t21 : ∀ w', Below W0.heap.size W0 w' → w'.cell? ⟨w.heap.size, 21, none⟩ = some (.int .i64 (dn : Nat)) := fun w' q => cell_of_row w' w.heap.size 21 _ _ _ (sb g0 w' q)
  have tl := sl g0
  have HW0 := Lib.hid hW0; have G0 := Lib.hid g0; have K0 := Lib.hid k0'; have Hrop := Lib.hid hrop; have HNX := Lib.hid hnx; have Hcount := Lib.hid hcount; have Hstate := Lib.hid hstate; have Hgrad := Lib.hid hgrad; have Htraj := Lib.hid htraj
  have Hopen := Lib.hid hopen; have Hss := Lib.hid hss; have Hsg := Lib.hid hsg; have Hsa := Lib.hid hsa; have Hbs := Lib.hid hbs; have Heq := Lib.hid heq; have HIt := Lib.hid (hIt.below k0'); have WP := Lib.hid wP; have WM := Lib.hid wM; have WG := Lib.hid wG
  have Hal := Lib.hid hal; have Hn := Lib.hid hs.n; have Hl := Lib.hid hl
  clear hM hW0 g0 k0' hrop hnx hcount hstate hgrad htraj hopen hss hsg hsa hbs heq hIt wP wM wG hal hl hP hMm hG hR hI hn h hs hcur hdn' hits hnb' hL hop hrc
  go_enter Tryz.func14, Tryz.ntmps14
  go_wp2_with fail
  rw [HW0.out]
  refine (HNX.out.1 W0 K0.out).mono ?_
  rintro e w1 ⟨rfl, q1⟩
  go_wp2_with fail
  obtain ⟨W2, hW2⟩ : ∃ W2, w1.alloc (.cells #[.int .i64 k0, .int .i64 k1, .int .i64 k2, .bool b0, .bool b1, .int .i64 i0, .int .i64 i1, .int .i64 i2, .int .i64 i3, .int .i64 i4, .int .i64 i5, .int .i64 i6] 56) = W2 := ⟨_, rfl⟩
  have g2 : W2.heap[w1.heap.size]? = some (.cells #[.int .i64 k0, .int .i64 k1, .int .i64 k2, .bool b0, .bool b1, .int .i64 i0, .int .i64 i1, .int .i64 i2, .int .i64 i3, .int .i64 i4, .int .i64 i5, .int .i64 i6] 56 (0, 0)) := by rw [← hW2]; exact heap_alloc_new w1 _
  have q2 : Below W0.heap.size W0 W2 := by rw [← hW2]; exact q1.alloc q1.size _
  rw [hW2]
  have G2 := Lib.hid g2
  clear hW2 g2 q1
  have tK := fun w' (q : Below W0.heap.size W0 w') => K0.out.trans (q.mono K0.out.size)
  have TK := Lib.hid tK
  clear tK
  go_cut [43] (fun v wx => v = .bool false ∧ Below W0.heap.size W0 wx)
  case first =>
    have hnx := HNX.out.2
    have p16 := fun w' (q : Below W2.heap.size W2 w') => t20 w' (q2.trans (q.mono q2.size))
    have p21 := fun w' (q : Below W2.heap.size W2 w') => t21 w' (q2.trans (q.mono q2.size))
    have pl := fun w' (q : Below W2.heap.size W2 w') => tl w' (q2.trans (q.mono q2.size))
    have Q2 := Lib.hid q2
    have q3 := (br W2).drew
    clear t16 t17 t18 t19 t20 t21 tl q2
    cases ok with
    | false =>
      have hlt : ¬ (dn : Int) < its.length := by have := hnx.1; simp at this; omega
      have hz := hnx.2.2 rfl
      simp only [List.cons.injEq, Value.int.injEq, Value.bool.injEq, true_and, and_true] at hz
      obtain ⟨rfl, rfl, rfl, rfl, rfl, rfl, rfl, rfl, rfl, rfl, rfl, rfl⟩ := hz
      clear hnx
      refine HA.g (fun w' : World => Below W2.heap.size W2 w') ?_
      refine HA.t ?_ [0, 1, 2, 3, 4, 5, 6, 7, 8, 9, 10, 11, 12, 13, 14, 15, 16, 17, 18, 19, 20, 21, 22, 23, 24, 25, 28] q3 ?_
      refine HA.ld 26 #[.int .i64 0, .int .i64 0, .int .i64 0, .bool false, .bool false, .int .i64 0, .int .i64 0, .int .i64 0, .int .i64 0, .int .i64 0, .int .i64 0, .int .i64 0] (fun w' q => sb G2.out w' q) rt_item q3 ?_
      refine HA.c 27 (iback_any 0 0 0 false false 0 0 0 0 0 0 0 _) ?_
      rintro e w3 ⟨rfl, k3⟩
      have q4 := q3.trans (k3.mono q3.size)
      refine ⟨_, rfl, q4, fun _ => ?_⟩
      refine HA.t ?_ [29, 30, 31] q4 ?_
      refine HA.d ?_
      have Q4 := Lib.hid (Q2.out.trans (q4.mono Q2.out.size))
      clear p16 p21 pl q3 q4 k3
      go_wp2_with fail
      go_meet
      exact ⟨rfl, Q4.out⟩
    | true =>
      have hlt : (dn : Int) < its.length := by have := hnx.1; simp at this; omega
      have hlt2 : dn < its.length := by omega
      have h0 : ¬ (dn : Int) < 0 := by omega
      obtain ⟨y, hy, hz⟩ := hnx.2.1 rfl
      obtain ⟨ib, io, hA, hrg⟩ := it_range (HIt.out.below Q2.out) hy
      rw [← hz] at hrg
      subst hA
      have hrg2 := fun w' (q : Below W2.heap.size W2 w') => range_below hrg q
      have HRG := Lib.hid hrg2
      clear hnx hy hz hrg hrg2
      refine HA.g (fun w' : World => Below W2.heap.size W2 w') ?_
      refine HA.t ?_ [0, 1, 2, 3, 4, 5, 6, 7, 8, 9, 10] q3 ?_
      refine HA.ld 11 #[.int .i64 k0, .int .i64 k1, .int .i64 k2, .bool b0, .bool b1, .int .i64 i0, .int .i64 i1, .int .i64 i2, .int .i64 i3, .int .i64 i4, .int .i64 i5, .int .i64 i6] (fun w' q => sb G2.out w' q) rt_item q3 ?_
      refine HA.t ?_ [13, 14, 15, 16, 17] q3 ?_
      refine HA.lr 18 HRG.out rt_it q3 ?_
      refine HA.c 12 (iback_any k0 k1 k2 b0 b1 i0 i1 i2 i3 i4 i5 i6 _) ?_
      rintro e w3 ⟨rfl, k3⟩
      have q4 := q3.trans (k3.mono q3.size)
      refine ⟨_, rfl, q4, fun _ => ?_⟩
      refine HA.t ?_ [19, 20, 21, 22, 23, 24, 25, 26, 27, 28, 29, 30, 31] q4 ?_
      refine HA.d ?_
      have Q4 := Lib.hid (Q2.out.trans (q4.mono Q2.out.size))
      clear p16 p21 pl q3 q4 k3
      go_wp2_with fail
      go_meet
      exact ⟨rfl, Q4.out⟩
  case rest =>
    obtain ⟨rfl, q⟩ := hcut
    clear q2
    go_wp2_with fail
    have q2 := q.drew
    refine HA.g (fun w' : World => Below W0.heap.size W0 w') ?_
    refine HA.t ?_ [0, 2, 3] q2 ?_
    refine HA.c 1 (Hcount.out _ (TK.out _ q2)) ?_
    rintro e w3 ⟨rfl, rfl⟩
    refine ⟨_, rfl, q2, fun _ => ?_⟩
    refine HA.t ?_ [4, 5, 6, 9, 10] q2 ?_
    refine HA.c 7 (Hstate.out _ (TK.out _ q2)) ?_
    rintro e w3 ⟨A1, c1, A2, c2, rfl, hc1, hc2, o1, o2, -, k3⟩
    have q3 := q2.trans (k3.mono q2.size)
    refine ⟨_, rfl, q3, fun _ => ?_⟩
    refine HA.c 8 (back_any A1 A2 i.start.length c1 i.start.length c2 w3) ?_
    rintro e w4 ⟨rfl, k4⟩
    have q4 := q3.trans (k4.mono q3.size)
    refine ⟨_, rfl, q4, fun _ => ?_⟩
    refine HA.c 11 (Hss.out w4 (TK.out _ q4) A1 A2 c1 c2 ⟨by rw [Hl.out.1]; exact hc1, by rw [Hl.out.1]; have := Hn.out; omega, Rd.own (own_below o1 k4), WP.out.2⟩ ⟨by rw [Hl.out.2.1]; exact hc2, by rw [Hl.out.2.1]; have := Hn.out; omega, Rd.own (own_below o2 k4), WM.out.2⟩) ?_
    rintro e w5 ⟨rfl, k5⟩
    have q5 := q4.trans (k5.mono q4.size)
    refine ⟨_, rfl, q5, fun _ => ?_⟩
    refine HA.t ?_ [12, 13, 14, 15, 17, 18] q5 ?_
    refine HA.c 16 (Hgrad.out w5 (TK.out _ q5)) ?_
    rintro e w6 ⟨A3, c3, rfl, hc3, o3, k6⟩
    have q6 := q5.trans (k6.mono q5.size)
    refine ⟨_, rfl, q6, fun _ => ?_⟩
    refine HA.c 19 (Hsg.out w6 (TK.out _ q6) A3 c3 (Rd.own o3)) ?_
    rintro e w7 ⟨rfl, n7, rfl⟩
    have q7 := below_drewN q6 n7
    refine ⟨_, rfl, q7, fun _ => ?_⟩
    refine HA.t ?_ [20, 21] q7 ?_
    refine HA.d ?_
    obtain ⟨V, hV⟩ : ∃ V, w6.drewN n7 = V := ⟨_, rfl⟩
    rw [hV] at q7 ⊢
    clear hV q q2 q3 q4 q5 q6 k3 k4 k5 k6 o1 o2 o3
    go_wp2_with fail
    have q2 := q7.drew
    refine HA.g (fun w' : World => Below W0.heap.size W0 w') ?_
    refine HA.t ?_ [0, 3, 4] q2 ?_
    refine HA.c 1 (Htraj.out _ (TK.out _ q2)) ?_
    rintro e w3 ⟨v, rfl, hst, k3⟩
    have q3 := q2.trans (k3.mono q2.size)
    refine ⟨_, rfl, q3, fun _ => ?_⟩
    obtain ⟨SA3, sc3, rfl, _⟩ := hst.form
    refine HA.c 2 (Hbs.out w3 SA3 sc3 hst.rd) ?_
    rintro e w4 ⟨SA4, sc4, rfl, hsl, k4⟩
    have q4 := q3.trans (k4.mono q3.size)
    refine ⟨_, rfl, q4, fun _ => ?_⟩
    refine HA.c 5 (Hsa.out w4 (TK.out _ q4) SA4 sc4 hsl) ?_
    rintro e w5 ⟨rfl, k5⟩
    have q5 := q4.trans (k5.mono q4.size)
    refine ⟨_, rfl, q5, fun _ => ?_⟩
    refine HA.t ?_ [6, 7, 8] q5 ?_
    refine HA.ld 10 #[.slice A i.cfg.sizes.length c, .int .i64 i.cfg.shift, .int .i64 i.cfg.rate, .int .i64 i.cfg.mom, .int .i64 i.cfg.workers, .int .i64 i.cfg.batch, .int .i64 i.cfg.micros, .int .i64 i.cfg.steps, .int .i64 i.cfg.bucket, .int .i64 i.cfg.chunk, .int .i64 i.cfg.window, .int .i64 i.cfg.cap, .slice D i.data.length cd, .slice T i.start.length ct, .slice R i.draws.length cr, .int .i64 (x : Nat), .slice PA i.start.length pc, .slice MA i.start.length mc, .slice GA i.start.length gc, .slice SA m.rc.length sc, .slice IA its.length ic, .int .i64 (dn : Nat)] (fun w' q => sb G0.out w' q) rt_rm q5 ?_
    refine HA.c 9 (Hopen.out w5 (TK.out _ q5)) ?_
    rintro e w6 ⟨v6, rfl, o6, k6⟩
    have q6 := q5.trans (k6.mono q5.size)
    refine ⟨_, rfl, q6, fun _ => ?_⟩
    refine HA.c 11 (Hrop.out w6 (TK.out _ q6)) ?_
    rintro e w7 ⟨v7, rfl, o7, k7⟩
    have q8 := q6.trans (k7.mono q6.size)
    refine ⟨_, rfl, q8, fun _ => ?_⟩
    obtain ⟨A6, c6, rfl, _⟩ := own_form o6
    obtain ⟨A7, c7, rfl, _⟩ := own_form o7
    refine HA.c 12 (Heq.out w7 A6 A7 c6 c7 (Rd.own (own_below o6 k7)) (Rd.own o7)) ?_
    rintro e w8 ⟨rfl, n8, rfl⟩
    have q9 := below_drewN q8 n8
    refine ⟨_, rfl, q9, fun _ => ?_⟩
    refine HA.t ?_ [13, 14] q9 ?_
    refine HA.d ?_
    have Q9 := Lib.hid (TK.out _ q9)
    clear q2 q3 q4 q5 q6 q7 q8 q9 k3 k4 k5 k6 k7 o6 o7 hst hsl
    go_wp2_with fail
    go_ret
    exact ⟨rfl, Q9.out⟩
end Go.Proofs.YtaccfnffmbndhaaGreat
namespace Go.Proofs.YtaccfnffmbndhaaGreat
open Go.RowKit
set_option maxRecDepth 100000 in
theorem mdo_nil (u v : Value) (w : World) : Calls Tryz.prog 17 #[.pointer none, u, v] w fun e w' => e = .returned (.int .i64 1) ∧ w' = w := by
  go_enter Tryz.func17, Tryz.ntmps17
  go_wp2_with fail
  go_ret
  exact ⟨rfl, rfl⟩
set_option maxRecDepth 100000 in
theorem mdo_end {H : Nat → Prop} {w : World} {b x : Nat} {i : Inp} {a : MAd} {m : Mst} (h : MachAt H w b i x a m) (hn : (curL i x m.st).length ≤ m.nx) (u v : Value) :
    Calls Tryz.prog 17 #[.pointer (some ⟨b, 0, none⟩), u, v] w fun e w' => e = .returned (.int .i64 13) ∧ Below w.heap.size w w' := by
  have H1 := Lib.hid (next_no h hn)
  clear h hn
  go_enter Tryz.func17, Tryz.ntmps17
  go_wp2_with fail
  refine H1.out.mono ?_
  rintro e w1 ⟨rfl, k1⟩
  have K1 := Lib.hid (k1.alloc k1.size (.cells #[.int .i64 0, .int .i64 0, .int .i64 0, .bool false, .bool false, .int .i64 0, .int .i64 0, .int .i64 0, .int .i64 0, .int .i64 0, .int .i64 0, .int .i64 0] 56))
  clear k1
  go_wp2_with fail
  go_ret
  exact ⟨rfl, K1.out⟩
def smI : Inp := ⟨⟨[1, 1], 1, 0, 0, 1, 1, 1, 0, 1, 1, 1, 1⟩, [([1], [1])], [5, 6], []⟩
theorem smI_good : GoodIn smI := by
  refine ⟨⟨by decide, by decide, ⟨⟨by decide, fun k hk => ?_⟩, by decide⟩, by decide, by decide, by decide, by decide, by decide, by decide, by decide⟩, by decide, fun x hx => ?_, by decide, by decide⟩
  · have : k = 0 ∨ k = 1 := by have : k < 2 := hk; omega
    rcases this with rfl | rfl <;> decide
  · have : x = ([1], [1]) := by simpa [smI] using hx
    subst this; decide
theorem smI_sm : SmIn smI := ⟨smI_good, by decide, by decide, by decide, by decide, by decide⟩
theorem rd_bk {w : World} {b : Nat} {xs : List Value} {e : TypeId} (h : w.heap[b]? = some (.cells xs.toArray e (0, 0))) : Rd w (some ⟨b, 0, none⟩) xs := fun k u hu => ⟨b, 0, rfl, by
  rw [Nat.zero_add, cell_of_row w b k _ _ _ h]; simpa using hu⟩
theorem w64_pos {l : List Int} (h : ∀ z ∈ l, 0 ≤ z ∧ z ≤ 1048576) : W64 l := fun k hk => by
  have := h _ (nth_mem hk); omega
theorem smI_rd {w : World} {b : Nat} (h0 : w.heap[b]? = some (.cells #[.int .i64 1, .int .i64 1] 3 (0, 0))) {b3 b4 b5 b6 : Nat} (h3 : w.heap[b3]? = some (.cells #[.int .i64 1] 2 (0, 0))) (h4 : w.heap[b4]? = some (.cells #[.int .i64 1] 2 (0, 0)))
    (h5 : w.heap[b5]? = some (.cells #[.slice (some ⟨b3, 0, none⟩) 1 1, .slice (some ⟨b4, 0, none⟩) 1 1] 107 (0, 0))) (h6 : w.heap[b6]? = some (.cells #[.int .i64 5, .int .i64 6] 2 (0, 0))) :
    InpRd w (some ⟨b, 0, none⟩) 2 (some ⟨b5, 0, none⟩) (some ⟨b6, 0, none⟩) 2 none smI := by
  refine ⟨⟨by decide, by decide, by decide, rd_bk h0⟩, ?_, by decide, ⟨by decide, by decide, rd_bk h6, w64_pos (by simp [smI])⟩, by decide, Rd.nil _ _, by decide, fun k hk => absurd hk (by simp [smI]), by decide, by decide⟩
  refine ⟨[[.slice (some ⟨b3, 0, none⟩) 1 1, .slice (some ⟨b4, 0, none⟩) 1 1]], rd_bk h5, rfl, by simp, fun j x hx => ?_⟩
  have hj : j = 0 := by have := (List.getElem?_eq_some_iff.1 hx).1; simp [smI] at this; omega
  subst hj
  have : x = ([1], [1]) := by simpa [smI] using hx.symm
  subst this
  exact ⟨_, _, _, _, rfl, ⟨by decide, by decide, rd_bk h3, w64_pos (by simp)⟩, ⟨by decide, by decide, rd_bk h4, w64_pos (by simp)⟩⟩
set_option maxRecDepth 100000 in
theorem alive21_any (w : World) : Calls Tryz.prog 9 #[] w fun e w' => e = .returned (.bool true) ∧ Below w.heap.size w w' := by
  go_enter Tryz.func9, Tryz.ntmps9
  go_wp2_with fail
  have hrd := smI_rd (allocs_at [.cells #[.int .i64 1, .int .i64 1] 3, .cells #[.slice (some ⟨w.heap.size, 0, none⟩) 2 2, .int .i64 1, .int .i64 0, .int .i64 0, .int .i64 1, .int .i64 1, .int .i64 1, .int .i64 0, .int .i64 1, .int .i64 1, .int .i64 1, .int .i64 1] 24, .cells #[.int .i64 1] 2, .cells #[.int .i64 1] 2, .cells #[.slice (some ⟨w.heap.size + 1 + 1, 0, none⟩) 1 1, .slice (some ⟨w.heap.size + 1 + 1 + 1, 0, none⟩) 1 1] 107, .cells #[.int .i64 5, .int .i64 6] 2] w 0 rfl) (b3 := w.heap.size + 1 + 1) (b4 := w.heap.size + 1 + 1 + 1) (b5 := w.heap.size + 1 + 1 + 1 + 1) (b6 := w.heap.size + 1 + 1 + 1 + 1 + 1) (allocs_at [.cells #[.int .i64 1, .int .i64 1] 3, .cells #[.slice (some ⟨w.heap.size, 0, none⟩) 2 2, .int .i64 1, .int .i64 0, .int .i64 0, .int .i64 1, .int .i64 1, .int .i64 1, .int .i64 0, .int .i64 1, .int .i64 1, .int .i64 1, .int .i64 1] 24, .cells #[.int .i64 1] 2, .cells #[.int .i64 1] 2, .cells #[.slice (some ⟨w.heap.size + 1 + 1, 0, none⟩) 1 1, .slice (some ⟨w.heap.size + 1 + 1 + 1, 0, none⟩) 1 1] 107, .cells #[.int .i64 5, .int .i64 6] 2] w 2 rfl) (allocs_at [.cells #[.int .i64 1, .int .i64 1] 3, .cells #[.slice (some ⟨w.heap.size, 0, none⟩) 2 2, .int .i64 1, .int .i64 0, .int .i64 0, .int .i64 1, .int .i64 1, .int .i64 1, .int .i64 0, .int .i64 1, .int .i64 1, .int .i64 1, .int .i64 1] 24, .cells #[.int .i64 1] 2, .cells #[.int .i64 1] 2, .cells #[.slice (some ⟨w.heap.size + 1 + 1, 0, none⟩) 1 1, .slice (some ⟨w.heap.size + 1 + 1 + 1, 0, none⟩) 1 1] 107, .cells #[.int .i64 5, .int .i64 6] 2] w 3 rfl) (allocs_at [.cells #[.int .i64 1, .int .i64 1] 3, .cells #[.slice (some ⟨w.heap.size, 0, none⟩) 2 2, .int .i64 1, .int .i64 0, .int .i64 0, .int .i64 1, .int .i64 1, .int .i64 1, .int .i64 0, .int .i64 1, .int .i64 1, .int .i64 1, .int .i64 1] 24, .cells #[.int .i64 1] 2, .cells #[.int .i64 1] 2, .cells #[.slice (some ⟨w.heap.size + 1 + 1, 0, none⟩) 1 1, .slice (some ⟨w.heap.size + 1 + 1 + 1, 0, none⟩) 1 1] 107, .cells #[.int .i64 5, .int .i64 6] 2] w 4 rfl) (allocs_at [.cells #[.int .i64 1, .int .i64 1] 3, .cells #[.slice (some ⟨w.heap.size, 0, none⟩) 2 2, .int .i64 1, .int .i64 0, .int .i64 0, .int .i64 1, .int .i64 1, .int .i64 1, .int .i64 0, .int .i64 1, .int .i64 1, .int .i64 1, .int .i64 1] 24, .cells #[.int .i64 1] 2, .cells #[.int .i64 1] 2, .cells #[.slice (some ⟨w.heap.size + 1 + 1, 0, none⟩) 1 1, .slice (some ⟨w.heap.size + 1 + 1 + 1, 0, none⟩) 1 1] 107, .cells #[.int .i64 5, .int .i64 6] 2] w 5 rfl)
  have hc := mnew_good (some ⟨w.heap.size, 0, none⟩) 2 (some ⟨w.heap.size + 1 + 1 + 1 + 1, 0, none⟩) 1 (some ⟨w.heap.size + 1 + 1 + 1 + 1 + 1, 0, none⟩) 2 none 0 smI 0 (allocs w [.cells #[.int .i64 1, .int .i64 1] 3, .cells #[.slice (some ⟨w.heap.size, 0, none⟩) 2 2, .int .i64 1, .int .i64 0, .int .i64 0, .int .i64 1, .int .i64 1, .int .i64 1, .int .i64 0, .int .i64 1, .int .i64 1, .int .i64 1, .int .i64 1] 24, .cells #[.int .i64 1] 2, .cells #[.int .i64 1] 2, .cells #[.slice (some ⟨w.heap.size + 1 + 1, 0, none⟩) 1 1, .slice (some ⟨w.heap.size + 1 + 1 + 1, 0, none⟩) 1 1] 107, .cells #[.int .i64 5, .int .i64 6] 2]) hrd smI_sm (by decide)
  have hb := allocs_below [.cells #[.int .i64 1, .int .i64 1] 3, .cells #[.slice (some ⟨w.heap.size, 0, none⟩) 2 2, .int .i64 1, .int .i64 0, .int .i64 0, .int .i64 1, .int .i64 1, .int .i64 1, .int .i64 0, .int .i64 1, .int .i64 1, .int .i64 1, .int .i64 1] 24, .cells #[.int .i64 1] 2, .cells #[.int .i64 1] 2, .cells #[.slice (some ⟨w.heap.size + 1 + 1, 0, none⟩) 1 1, .slice (some ⟨w.heap.size + 1 + 1 + 1, 0, none⟩) 1 1] 107, .cells #[.int .i64 5, .int .i64 6] 2] w
  refine Calls.mono hc ?_
  rintro e w1 ⟨b, a, rfl, q1, -, hm⟩
  have hM := hm (fun _ => False) w1 (Keep.refl _ _) (fun _ h => h.elim)
  have q2 := hb.trans (q1.mono hb.size)
  have h0 : (curL smI 0 (mst0 smI).st).length ≤ (mst0 smI).nx := by decide
  have hx := fun w' (q : Below w1.heap.size w1 w') => next_no (hM.below q (fun _ _ h => h)) h0
  have he := fun w' (q : Below w1.heap.size w1 w') => mdo_end (hM.below q (fun _ _ h => h)) h0 (.pointer none) (.pointer none)
  have HX := Lib.hid hx; have HE := Lib.hid he; have Q2 := Lib.hid q2
  clear hrd hc hb hm hM q1 q2 h0 hx he
  go_wp2_with fail
  refine (HX.out w1 (br w1)).mono ?_
  rintro e w2 ⟨rfl, q3⟩
  have Q3 := Lib.hid q3
  clear q3
  go_wp2_with fail
  refine (HE.out _ (Q3.out.alloc Q3.out.size _)).mono ?_
  rintro e w3 ⟨rfl, q4⟩
  have Q4 := Lib.hid ((Q2.out.trans ((Q3.out.alloc Q3.out.size (.cells #[.int .i64 0, .int .i64 0, .int .i64 0, .bool false, .bool false, .int .i64 0, .int .i64 0, .int .i64 0, .int .i64 0, .int .i64 0, .int .i64 0, .int .i64 0] 56)).mono Q2.out.size)).trans (q4.mono (by rw [World.size_alloc]; have := Q2.out.size; have := Q3.out.size; omega)))
  clear q4
  go_wp2_with fail
  go_ret
  exact ⟨rfl, Q4.out⟩
end Go.Proofs.YtaccfnffmbndhaaGreat
namespace Go.Proofs.YtaccfnffmbndhaaGreat
open Go.RowKit
theorem rclone_any (A : Option Addr) (zs : List Int) (c : Nat) (w : World) (hA : Rd w A (nums .i64 zs)) (hl : zs.length ≤ 17592186043904) :
    Calls Tryz.prog 11 #[.slice A zs.length c] w fun e w' => ∃ A' c', e = .returned (.slice A' zs.length c') ∧ w'.ownsRow w.heap.size 2 1 (.slice A' zs.length c') zs.length (nums .i64 zs) ∧ Below w.heap.size w w' := by
  go_enter Tryz.func11, Tryz.ntmps11
  go_wp2_with (at_builtin; refine wpList_app et_i64s _ rfl (.tmp 3) (.tmp 4) rfl w.heap.size _ 0 [] rfl (own_empty w 2 1) A zs.length c (nums .i64 zs) rfl (hA.alloc _) (by rw [nums_length]; omega) (nums_cell _ _) (by omega) (by unfold maxLen; omega) (by simp) ?_)
  intro A' c' w1 hown hb _ _
  have hb1 := ((Below.refl _ w).alloc (Nat.le_refl _) (.cells #[] 2)).trans hb
  have Hown := Lib.hid hown; have Hb1 := Lib.hid hb1; clear hown hb hb1
  go_wp2
  go_ret
  exact ⟨_, _, rfl, Hown.out, Hb1.out⟩
end Go.Proofs.YtaccfnffmbndhaaGreat
