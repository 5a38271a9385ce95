/- Run.Gradient and Loss. Run.Gradient and Loss. No condition. -/
import Derived.Test.YtfiojofcafjfeaaGreatJ30
import Derived.Test.YtfiojofcafjfeaaGreatJ32
import Derived.Test.YtfiojofcafjfeaaGreatJ22
set_option linter.unusedSimpArgs false
set_option linter.unusedVariables false
namespace Go.Proofs.YtfiojofcafjfeaaGreat
open Go.RowKit

/-- The sum of the gradients. -/
def gradAcc (i : Inp) (P : List Int) (l : List Ex) : List Int := l.foldl (fun a x => addL a (gradL i.cfg.sizes P i.cfg.shift x.1 x.2)) (List.replicate (cnt i) 0)
theorem gradAcc_snoc (i : Inp) (P : List Int) (l : List Ex) (x : Ex) : gradAcc i P (l ++ [x]) = addL (gradAcc i P l) (gradL i.cfg.sizes P i.cfg.shift x.1 x.2) := by simp [gradAcc]
theorem gradAcc_len (i : Inp) (P : List Int) (l : List Ex) : (gradAcc i P l).length = cnt i := by
  have : ∀ (l : List Ex) (a : List Int), (l.foldl (fun a x => addL a (gradL i.cfg.sizes P i.cfg.shift x.1 x.2)) a).length = a.length := by
    intro l
    induction l with
    | nil => intro a; rfl
    | cons x l ih => intro a; rw [List.foldl_cons, ih, addL_len]
  unfold gradAcc
  rw [this, List.length_replicate]
theorem gradAcc_W64 (i : Inp) (P : List Int) (l : List Ex) : W64 (gradAcc i P l) := by
  have : ∀ (l : List Ex) (a : List Int), W64 a → W64 (l.foldl (fun a x => addL a (gradL i.cfg.sizes P i.cfg.shift x.1 x.2)) a) := by
    intro l
    induction l with
    | nil => intro a h; exact h
    | cons x l ih => intro a _; exact ih _ (upTo_W64 fun _ _ => wrap64_bd _)
  refine this _ _ fun k hk => ?_
  rw [nth_eq _ _ hk]; simp
def lossAcc (i : Inp) (P : List Int) (l : List Ex) : Int := l.foldl (fun a x => wrap64 (a + lossN i.cfg.sizes P i.cfg.shift x.1 x.2)) 0
theorem lossAcc_snoc (i : Inp) (P : List Int) (l : List Ex) (x : Ex) : lossAcc i P (l ++ [x]) = wrap64 (lossAcc i P l + lossN i.cfg.sizes P i.cfg.shift x.1 x.2) := by simp [lossAcc]
theorem pick_fit {i : Inp} (hg : GoodIn i) {idx : List Int} {j : Nat} {x : Ex} (hgood : ∀ k, k < idx.length → goodI i.data.length (nth idx k)) (hj : j < idx.length) (hx : (pickL i.data idx)[j]? = some x) : fitEx (inN i) (outN i) x := by
  rw [pickL_at _ _ hj] at hx
  injection hx with hx
  have h1 := hgood j hj
  unfold goodI at h1
  have h2 : (nth idx j).toNat < i.data.length := by omega
  have h3 : i.data.getD (nth idx j).toNat ([], []) = i.data[(nth idx j).toNat] := by simp [h2]
  rw [← hx, h3]
  exact hg.f _ (List.getElem_mem h2)

set_option maxRecDepth 100000 in
theorem g1_any (X Gs base net n c : Nat) (i : Inp) (P s : List Int) (A1 A2 : Option Addr) (c1 c2 : Nat) (x : Ex) (w : World) (hg : GoodIn i) (wP : W64 P) (hf : fitEx (inN i) (outN i) x)
    (hN : NetAt 138 170 w net i.cfg.sizes P i.cfg.shift) (r1 : NumsRd w A1 x.1 c1) (r2 : NumsRd w A2 x.2 c2) (hX : w.heap[X]? = some (.cells #[.slice (some ⟨Gs, 0, none⟩) n c] 52 (0, 0))) (hs : w.ownsRow base 2 1 (.slice (some ⟨Gs, 0, none⟩) n c) n (nums .i64 s)) (hn : n = cnt i) :
    Calls Tryz.prog 53 #[.pointer (some ⟨net, 0, none⟩), .agg #[.slice A1 x.1.length c1, .slice A2 x.2.length c2], .pointer (some ⟨X, 0, none⟩)] w fun e w' => e = .returned (.tuple #[]) ∧ w'.heap[X]? = some (.cells #[.slice (some ⟨Gs, 0, none⟩) n c] 52 (0, 0)) ∧
      w'.ownsRow base 2 1 (.slice (some ⟨Gs, 0, none⟩) n c) n (nums .i64 (addL s (gradL i.cfg.sizes P i.cfg.shift x.1 x.2))) ∧ Keep (fun j => j = Gs) w w' := by
  have hgr := fun w' (q : Below w.heap.size w w') => grad_ok net i.cfg.sizes P i.cfg.shift A1 A2 x.1 x.2 c1 c2 w' (hN.below q) hg.c.z wP (r1.hr.below q) hf.1 r1.hw (r2.hr.below q) hf.2
  have hcn : cntN i.cfg.sizes (i.cfg.sizes.length - 1) = n := hn.symm
  have hcb := hg.c.z.bound (k := i.cfg.sizes.length - 1) (by have := hg.c.z.1.1; omega)
  rw [hcn] at hgr hcb
  have hgl := gradL_len (sz := i.cfg.sizes) (ps := P) (q := i.cfg.shift) (x := x.1) (y := x.2) hf.1 (by have := hg.c.z.1.1; omega)
  rw [hcn] at hgl
  obtain ⟨gv, hgv⟩ : ∃ gv, gradL i.cfg.sizes P i.cfg.shift x.1 x.2 = gv := ⟨_, rfl⟩
  rw [hgv] at hgr hgl ⊢
  obtain ⟨n1, hn1⟩ : ∃ n1, x.1.length = n1 := ⟨_, rfl⟩
  obtain ⟨n2, hn2⟩ : ∃ n2, x.2.length = n2 := ⟨_, rfl⟩
  rw [hn1, hn2] at hgr ⊢
  have hxg : X ≠ Gs := fun e => block_notrow hX (by decide) hs (by rw [e]; rfl)
  have hlg := hs.lt Gs rfl
  have hXl := lt_of_block hX
  have Hgr := Lib.hid hgr; have HX := Lib.hid hX; have Hs := Lib.hid hs; have Hgl := Lib.hid hgl; have Hxg := Lib.hid hxg
  clear hgr hX hs hgl hxg hgv hn1 hn2 hcn hn hN r1 r2 hf hg wP
  go_enter Tryz.func53, Tryz.ntmps53
  go_wp2_with fail
  refine (Hgr.out _ ?_).mono ?_
  · (focus (repeat' (first | (with_reducible exact Below.refl _ _) | (with_reducible assumption) | (with_reducible refine Below.setCell ?_ ?_ _) | (with_reducible refine Below.alloc ?_ ?_ _) | (with_reducible refine below_drewN ?_ _) | (with_reducible refine Below.drew ?_) | (with_reducible exact Nat.le_refl _) | omega | (simp; done) | (simp; omega))))
  rintro e w1 ⟨A, d, rfl, ho, hb1⟩
  have hB1 : Below w.heap.size w w1 := ((Below.refl _ w).alloc (Nat.le_refl _) _).trans (hb1.mono (by simp))
  have hx1 := (hB1.block _ hXl).trans HX.out
  have hs1 := own_below Hs.out hB1
  have hoa := own_addr ho
  have hoz := (Nat.le_trans (show w.heap.size ≤ (w.alloc (.cells #[.slice A1 n1 c1, .slice A2 n2 c2] 64)).heap.size by simp) (Nat.le_refl _))
  have y0 := cell_of_row w1 _ 0 _ _ _ hx1
  have yf := fun j => frozen_of_row w1 _ j _ _ hx1
  have had := add_any base (some ⟨Gs, 0, none⟩) A s gv n c d w1 hs1 (Rd.own ho) Hgl.out (by omega) (fun a b' ha hb' => by
    injection ha with ha
    subst ha
    have := (hoa b' hb').1
    simp at this ⊢
    omega)
  have hx1l := lt_of_block hx1
  have HX1 := Lib.hid hx1; have HB1 := Lib.hid hB1; have Had := Lib.hid had
  clear hx1 hB1 hb1 hs1 ho had hoa
  go_wp2_with fail
  refine Had.out.mono ?_
  rintro e w2 ⟨rfl, hs2, hk2⟩
  have hx2 := (hk2.block _ hx1l (fun e => by
    have h1 : Gs = X := by simpa [Value.ownBlock] using e
    exact Hxg.out h1.symm)).trans HX1.out
  have hkf : Keep (fun j => j = Gs) w w2 := (Keep.below HB1.out).trans (hk2.mono (fun j _ h => by
    have h1 : Gs = j := by simpa [Value.ownBlock] using h
    exact h1.symm))
  have HX2 := Lib.hid hx2; have HS2 := Lib.hid hs2; have HKf := Lib.hid hkf
  clear hx2 hs2 hkf hk2 y0 yf
  go_wp2_with fail
  go_end0
  exact ⟨rfl, HX2.out, HS2.out, HKf.out⟩

set_option maxRecDepth 100000 in
theorem l1_any (X net : Nat) (s : Int) (i : Inp) (P : List Int) (A1 A2 : Option Addr) (c1 c2 : Nat) (x : Ex) (w : World) (hg : GoodIn i) (wP : W64 P) (hf : fitEx (inN i) (outN i) x)
    (hN : NetAt 138 170 w net i.cfg.sizes P i.cfg.shift) (r1 : NumsRd w A1 x.1 c1) (r2 : NumsRd w A2 x.2 c2) (hX : w.heap[X]? = some (.cells #[.int .i64 s] 2 (0, 0))) :
    Calls Tryz.prog 61 #[.pointer (some ⟨net, 0, none⟩), .agg #[.slice A1 x.1.length c1, .slice A2 x.2.length c2], .pointer (some ⟨X, 0, none⟩)] w fun e w' => e = .returned (.tuple #[]) ∧ w'.heap[X]? = some (.cells #[.int .i64 (wrap64 (s + lossN i.cfg.sizes P i.cfg.shift x.1 x.2))] 2 (0, 0)) ∧ Keep (fun j => j = X) w w' := by
  have hlo := fun w' (q : Below w.heap.size w w') => loss_ok net i.cfg.sizes P i.cfg.shift A1 A2 x.1 x.2 c1 c2 w' (hN.below q) hg.c.z wP (r1.hr.below q) hf.1 r1.hw (r2.hr.below q) hf.2
  obtain ⟨lv, hlv⟩ : ∃ lv, lossN i.cfg.sizes P i.cfg.shift x.1 x.2 = lv := ⟨_, rfl⟩
  rw [hlv] at hlo ⊢
  obtain ⟨n1, hn1⟩ : ∃ n1, x.1.length = n1 := ⟨_, rfl⟩
  obtain ⟨n2, hn2⟩ : ∃ n2, x.2.length = n2 := ⟨_, rfl⟩
  rw [hn1, hn2] at hlo ⊢
  have hXl := lt_of_block hX
  have Hlo := Lib.hid hlo; have HX := Lib.hid hX
  clear hlo hX hlv hn1 hn2 hN r1 r2 hf hg wP
  go_enter Tryz.func61, Tryz.ntmps61
  go_wp2_with fail
  refine (Hlo.out _ ?_).mono ?_
  · (focus (repeat' (first | (with_reducible exact Below.refl _ _) | (with_reducible assumption) | (with_reducible refine Below.setCell ?_ ?_ _) | (with_reducible refine Below.alloc ?_ ?_ _) | (with_reducible refine below_drewN ?_ _) | (with_reducible refine Below.drew ?_) | (with_reducible exact Nat.le_refl _) | omega | (simp; done) | (simp; omega))))
  rintro e w1 ⟨rfl, hb1⟩
  have hB1 : Below w.heap.size w w1 := ((Below.refl _ w).alloc (Nat.le_refl _) _).trans (hb1.mono (by simp))
  have hx1 := (hB1.block _ hXl).trans HX.out
  have y0 := cell_of_row w1 _ 0 _ _ _ hx1
  have yf := fun j => frozen_of_row w1 _ j _ _ hx1
  have hx1l := lt_of_block hx1
  have HX1 := Lib.hid hx1; have HB1 := Lib.hid hB1
  clear hx1 hB1 hb1
  go_wp2_with fail
  go_end0
  exact ⟨rfl, heap_setCell_same w1 X 0 _ _ _ HX1.out, (Keep.below HB1.out).trans (Keep.setCell (S := fun j => j = X) (Keep.refl _ _) ⟨X, 0, none⟩ (.inr rfl) _)⟩
end Go.Proofs.YtfiojofcafjfeaaGreat
namespace Go.Proofs.YtfiojofcafjfeaaGreat
open Go.RowKit

theorem st_p (A1 A2 : Option Addr) (n1 c1 n2 c2 : Nat) (w : World) : Sem.run Tryz.prog (Instr.field 71 (.agg #[.slice A1 n1 c1, .slice A2 n2 c2]) 0) w = .ok (.slice A1 n1 c1) w := by kernel_rfl
def allGood (i : Inp) (idx : List Int) : Prop := ∀ k, k < idx.length → goodI i.data.length (nth idx k)
/-- What Gradient answers. -/
def RGradIs (i : Inp) (P idx : List Int) (n : Nat) (w : World) (e : Ending) (w' : World) : Prop := Below w.heap.size w w' ∧
  ((allGood i idx ∧ ∃ A c, e = .returned (.tuple #[.slice A n c, .bool true]) ∧ n ≤ c ∧ w'.ownsRow w.heap.size 2 1 (.slice A n c) n (nums .i64 (gradAcc i P (pickL i.data idx)))) ∨ (¬ allGood i idx ∧ e = .returned (.tuple #[.slice none 0 0, .bool false])))
set_option maxRecDepth 100000 in
set_option maxHeartbeats 1000000 in
theorem rgradient_any (b k d : Nat) (B : Option Addr) (i : Inp) (P M idx : List Int) (w : World) (h : RunAt w b i P M k) (hg : GoodIn i) (wP : W64 P) (hB : Rd w B (nums .i64 idx)) (hil : idx.length ≤ 1048576) :
    Calls Tryz.prog 20 #[.pointer (some ⟨b, 0, none⟩), .slice B idx.length d] w (RGradIs i P idx (cnt i) w) := by
  have hcb : cnt i ≤ 1048576 := hg.c.z.bound (k := i.cfg.sizes.length - 1) (by have := hg.c.z.1.1; omega)
  have hcp := cnt_pos hg.c.z
  have hst := state_any b k i P M w h hcb
  have hbl := h.lt
  have heg : ∀ args w, (callFunc 53 args).run Tryz.prog w = .ok (.enter 53 args) w := enters_of Tryz.func53 (by kernel_rfl) rfl
  have hea := fun (X Gs base n c : Nat) (w' : World) (q : Below w.heap.size w w') (hn : n = cnt i) (hGs : Gs < w'.heap.size) (hGb : b < Gs) (hX : w'.heap[X]? = some (.cells #[.slice (some ⟨Gs, 0, none⟩) n c] 52 (0, 0))) (hs : w'.ownsRow base 2 1 (.slice (some ⟨Gs, 0, none⟩) n c) n (nums .i64 (List.replicate (cnt i) 0))) =>
    each_any 53 X b k d B i P M idx (fun j => j = Gs) (fun j v => (v.heap[X]? = some (.cells #[.slice (some ⟨Gs, 0, none⟩) n c] 52 (0, 0)) ∧ v.ownsRow base 2 1 (.slice (some ⟨Gs, 0, none⟩) n c) n (nums .i64 (gradAcc i P ((pickL i.data idx).take j)))) ∧ True) w' heg (h.below q) hg (hB.below q) hil
      (fun j hj => by omega) (fun j hj => by omega) (fun j v v' hj hb => ⟨⟨(hb.block _ (lt_of_block hj.1.1)).trans hj.1.1, own_below hj.1.2 hb⟩, trivial⟩) ⟨⟨hX, hs⟩, trivial⟩
  have hcl : ∀ (X Gs base n c : Nat), n = cnt i → ∀ j x net A1 c1 A2 c2 w', (∀ k, k < idx.length → goodI i.data.length (nth idx k)) → j < idx.length → (pickL i.data idx)[j]? = some x → NetAt 138 170 w' net i.cfg.sizes P i.cfg.shift → NumsRd w' A1 x.1 c1 → NumsRd w' A2 x.2 c2 →
      ((w'.heap[X]? = some (.cells #[.slice (some ⟨Gs, 0, none⟩) n c] 52 (0, 0)) ∧ w'.ownsRow base 2 1 (.slice (some ⟨Gs, 0, none⟩) n c) n (nums .i64 (gradAcc i P ((pickL i.data idx).take j)))) ∧ True) →
      Calls Tryz.prog 53 #[.pointer (some ⟨net, 0, none⟩), .agg #[.slice A1 x.1.length c1, .slice A2 x.2.length c2], .pointer (some ⟨X, 0, none⟩)] w' fun e w'' => e = .returned (.tuple #[]) ∧ ((w''.heap[X]? = some (.cells #[.slice (some ⟨Gs, 0, none⟩) n c] 52 (0, 0)) ∧ w''.ownsRow base 2 1 (.slice (some ⟨Gs, 0, none⟩) n c) n (nums .i64 (gradAcc i P ((pickL i.data idx).take (j + 1))))) ∧ True) ∧ Keep (fun j => j = Gs) w' w'' := by
    intro X Gs base n c hn j x net A1 c1 A2 c2 w' hall hj hx hN r1 r2 hJ
    have htk : (pickL i.data idx).take (j + 1) = (pickL i.data idx).take j ++ [x] := by
      rw [List.take_add_one, hx]; rfl
    refine (g1_any X Gs base net n c i P _ A1 A2 c1 c2 x w' hg wP (pick_fit hg hall hj hx) hN r1 r2 hJ.1.1 hJ.1.2 hn).mono ?_
    rintro e w'' ⟨rfl, h1, h2, h3⟩
    exact ⟨rfl, ⟨⟨h1, by rw [htk, gradAcc_snoc]; exact h2⟩, trivial⟩, h3⟩
  have hea := fun X Gs base n c w' q hn hGs hGb hX hs => hea X Gs base n c w' q hn hGs hGb hX hs (hcl X Gs base n c hn)
  have htall : (pickL i.data idx).take idx.length = pickL i.data idx := List.take_of_length_le (by rw [pickL_len]; exact Nat.le_refl _)
  unfold EachIs at hea
  unfold RGradIs StateIs at *
  unfold allGood
  dsimp only at hea
  rw [htall] at hea
  obtain ⟨n, hn⟩ : ∃ n, cnt i = n := ⟨_, rfl⟩
  rw [hn] at hst hea hcb hcp ⊢
  have hmk := fun w' => run_mk et_vec w' rfl n (by omega) (by unfold maxLen; omega)
  simp only [nums_rep] at hmk
  obtain ⟨m, hm⟩ : ∃ m, idx.length = m := ⟨_, rfl⟩
  rw [hm] at hea ⊢
  have Hst := Lib.hid hst; have Hea := Lib.hid hea; have Hmk := Lib.hid hmk
  clear hst hea hmk hn hm hcl htall heg h hB hg wP hil
  go_enter Tryz.func20, Tryz.ntmps20
  go_wp2_with fail
  refine Hst.out.mono ?_
  rintro e w1 ⟨A1, c1, A2, c2, rfl, hc1, hc2, ho1, ho2, hdis, hb1⟩
  obtain ⟨V, hrun, hov, hbv⟩ := Hmk.out w1
  have Hb1 := Lib.hid hb1; have Hov := Lib.hid hov; have Hbv := Lib.hid hbv
  have hfd := st_p A1 A2 n c1 n c2 w1
  clear hdis ho1 ho2 hc1 hc2 hb1 hov hbv
  go_wp2_with fail
  clear hrun hfd
  have hvs : w1.heap.size < V.heap.size := (Hov.out.lt w1.heap.size rfl).2
  have hX := heap_alloc_new V (.cells #[.slice (some ⟨w1.heap.size, 0, none⟩) n n] 52)
  have hbw : Below w.heap.size w (V.alloc (.cells #[.slice (some ⟨w1.heap.size, 0, none⟩) n n] 52)) := (Hb1.out.trans (Hbv.out.mono Hb1.out.size)).alloc (by have := Hb1.out.size; omega) _
  have he := Hea.out V.heap.size w1.heap.size w1.heap.size n n _ hbw rfl (by simp; omega) (by have := Hb1.out.size; omega) hX (Hov.out.alloc _)
  have He := Lib.hid he; have Hbw := Lib.hid hbw
  clear he hX hbw
  refine He.out.mono ?_
  rintro e w3 ⟨hk3, h3⟩
  have hb3 := Hbw.out.trans (hk3.toBelow Hbw.out.size (fun j hj => by have := Hb1.out.size; omega))
  have Hb3 := Lib.hid hb3
  clear hb3 hk3
  rcases h3 with ⟨hall, rfl, ⟨hX3, hs3⟩, _⟩ | ⟨hall, rfl, _⟩
  · skip
    have x0 := cell_of_row w3 _ 0 _ _ _ hX3
    have xf := fun j => frozen_of_row w3 _ j _ _ hX3
    have Hall := Lib.hid hall; have Hs3 := Lib.hid (own_base (base' := w.heap.size) hs3 Hb1.out.size)
    clear hall hX3 hs3
    go_wp2_with fail
    go_ret2
    exact ⟨Hb3.out, .inl ⟨Hall.out, _, _, rfl, Nat.le_refl _, Hs3.out⟩⟩
  · have Hall := Lib.hid hall; clear hall
    go_wp2_with fail
    go_ret2
    exact ⟨Hb3.out, .inr ⟨Hall.out, rfl⟩⟩

/-- What Loss answers. -/
def RLossIs (i : Inp) (P idx : List Int) (w : World) (e : Ending) (w' : World) : Prop := Below w.heap.size w w' ∧
  ((allGood i idx ∧ e = .returned (.tuple #[.int .i64 (lossAcc i P (pickL i.data idx)), .bool true])) ∨ (¬ allGood i idx ∧ e = .returned (.tuple #[.int .i64 0, .bool false])))
set_option maxRecDepth 100000 in
set_option maxHeartbeats 1000000 in
theorem rloss_any (b k d : Nat) (B : Option Addr) (i : Inp) (P M idx : List Int) (w : World) (h : RunAt w b i P M k) (hg : GoodIn i) (wP : W64 P) (hB : Rd w B (nums .i64 idx)) (hil : idx.length ≤ 1048576) :
    Calls Tryz.prog 31 #[.pointer (some ⟨b, 0, none⟩), .slice B idx.length d] w (RLossIs i P idx w) := by
  have hbl := h.lt
  have heg : ∀ args w, (callFunc 61 args).run Tryz.prog w = .ok (.enter 61 args) w := enters_of Tryz.func61 (by kernel_rfl) rfl
  have hcl : ∀ (X : Nat), ∀ j x net A1 c1 A2 c2 w', (∀ k, k < idx.length → goodI i.data.length (nth idx k)) → j < idx.length → (pickL i.data idx)[j]? = some x → NetAt 138 170 w' net i.cfg.sizes P i.cfg.shift → NumsRd w' A1 x.1 c1 → NumsRd w' A2 x.2 c2 →
      (w'.heap[X]? = some (.cells #[.int .i64 (lossAcc i P ((pickL i.data idx).take j))] 2 (0, 0)) ∧ True) →
      Calls Tryz.prog 61 #[.pointer (some ⟨net, 0, none⟩), .agg #[.slice A1 x.1.length c1, .slice A2 x.2.length c2], .pointer (some ⟨X, 0, none⟩)] w' fun e w'' => e = .returned (.tuple #[]) ∧ (w''.heap[X]? = some (.cells #[.int .i64 (lossAcc i P ((pickL i.data idx).take (j + 1)))] 2 (0, 0)) ∧ True) ∧ Keep (fun j => j = X) w' w'' := by
    intro X j x net A1 c1 A2 c2 w' hall hj hx hN r1 r2 hJ
    have htk : (pickL i.data idx).take (j + 1) = (pickL i.data idx).take j ++ [x] := by
      rw [List.take_add_one, hx]; rfl
    refine (l1_any X net _ i P A1 A2 c1 c2 x w' hg wP (pick_fit hg hall hj hx) hN r1 r2 hJ.1).mono ?_
    rintro e w'' ⟨rfl, h1, h3⟩
    exact ⟨rfl, ⟨by rw [htk, lossAcc_snoc]; exact h1, trivial⟩, h3⟩
  have hea := fun (X : Nat) (w' : World) (q : Below w.heap.size w w') (hXw : X < w'.heap.size) (hXb : b < X) (hX : w'.heap[X]? = some (.cells #[.int .i64 0] 2 (0, 0))) =>
    each_any 61 X b k d B i P M idx (fun j => j = X) (fun j v => v.heap[X]? = some (.cells #[.int .i64 (lossAcc i P ((pickL i.data idx).take j))] 2 (0, 0)) ∧ True) w' heg (h.below q) hg (hB.below q) hil
      (fun j hj => by omega) (fun j hj => by omega) (fun j v v' hj hb => ⟨(hb.block _ (lt_of_block hj.1)).trans hj.1, trivial⟩) ⟨hX, trivial⟩ (hcl X)
  have htall : (pickL i.data idx).take idx.length = pickL i.data idx := List.take_of_length_le (by rw [pickL_len]; exact Nat.le_refl _)
  unfold EachIs at hea
  unfold RLossIs
  unfold allGood
  dsimp only at hea
  rw [htall] at hea
  obtain ⟨m, hm⟩ : ∃ m, idx.length = m := ⟨_, rfl⟩
  obtain ⟨lv, hlv⟩ : ∃ lv, lossAcc i P (pickL i.data idx) = lv := ⟨_, rfl⟩
  rw [hm] at hea ⊢
  rw [hlv] at hea ⊢
  have Hea := Lib.hid hea
  clear hea hm hlv hcl htall heg h hB hg wP hil
  go_enter Tryz.func31, Tryz.ntmps31
  go_wp2_with fail
  have hX := heap_alloc_new w (.cells #[.int .i64 0] 2)
  have hbw : Below w.heap.size w (w.alloc (.cells #[.int .i64 0] 2)) := (Below.refl _ w).alloc (Nat.le_refl _) _
  have he := Hea.out w.heap.size _ hbw (by simp) hbl hX
  have He := Lib.hid he; have Hbw := Lib.hid hbw
  clear he hX hbw
  refine He.out.mono ?_
  rintro e w3 ⟨hk3, h3⟩
  have hb3 := Hbw.out.trans (hk3.toBelow Hbw.out.size (fun j hj => by omega))
  have Hb3 := Lib.hid hb3
  clear hb3 hk3
  rcases h3 with ⟨hall, rfl, hX3, _⟩ | ⟨hall, rfl, _⟩
  · skip
    have x0 := cell_of_row w3 _ 0 _ _ _ hX3
    have xf := fun j => frozen_of_row w3 _ j _ _ hX3
    have Hall := Lib.hid hall
    clear hall hX3
    go_wp2_with fail
    go_ret2
    exact ⟨Hb3.out, .inl ⟨Hall.out, rfl⟩⟩
  · have Hall := Lib.hid hall; clear hall
    go_wp2_with fail
    go_ret2
    exact ⟨Hb3.out, .inr ⟨Hall.out, rfl⟩⟩
end Go.Proofs.YtfiojofcafjfeaaGreat
