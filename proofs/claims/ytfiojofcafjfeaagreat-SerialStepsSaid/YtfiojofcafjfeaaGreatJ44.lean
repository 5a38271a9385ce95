/- States turned back. The reference's Few of an input. The reference's Few of a run. The reference's SameAll. No condition. -/
import Derived.Test.YtfiojofcafjfeaaGreatJ42
import Derived.Test.YtfiojofcafjfeaaGreatJ40
import Derived.Test.YtfiojofcafjfeaaGreatJ22
import Derived.Deep.RegionHeld3
set_option linter.unusedSimpArgs false
set_option linter.unusedVariables false
namespace Go.Proofs.YtfiojofcafjfeaaGreat
open Go.RowKit

def BackS (w wr : World) (l : List Ex) (k : Nat) (v : Value) : Prop := ∃ rows, wr.ownsRow w.heap.size 68 2 v k (List.flatten rows) ∧ rows.length = k ∧ (∀ r ∈ rows, r.length = 2) ∧ (∀ j x, j < k → l[j]? = some x → rEx w (rowOf rows j) x) ∧ Below w.heap.size w wr
theorem BackS.push {w w3 w6 : World} {l : List Ex} {k : Nat} {v' u1 u2 : Value} {x : Ex} {rows : List (List Value)} (h2 : rows.length = k) (h3 : ∀ r ∈ rows, r.length = 2) (h4 : ∀ j x, j < k → l[j]? = some x → rEx w (rowOf rows j) x) (h5 : Below w.heap.size w w3)
    (hx : l[k]? = some x) (hu : rEx w [u1, u2] x) (ho : w6.ownsRow w.heap.size 68 2 v' (k + 1) (List.flatten rows ++ [u1, u2])) (hb : Below w.heap.size w3 w6) : BackS w w6 l (k + 1) v' := by
  refine ⟨rows ++ [[u1, u2]], by rw [List.flatten_append, List.flatten_cons, List.flatten_nil, List.append_nil]; exact ho, by simp [h2], ?_, ?_, h5.trans hb⟩
  · intro r hr
    rcases List.mem_append.1 hr with hr | hr
    · exact h3 r hr
    · rw [List.mem_singleton.1 hr]; rfl
  · intro j y hj hy
    rcases Nat.lt_or_ge j k with h | h
    · have e : rowOf (rows ++ [[u1, u2]]) j = rowOf rows j := by simp [rowOf, List.getElem?_append_left (show j < rows.length by omega)]
      rw [e]; exact h4 j y h hy
    · obtain rfl : j = k := by omega
      rw [hx] at hy; injection hy with hy; subst hy
      have e : rowOf (rows ++ [[u1, u2]]) j = [u1, u2] := by rw [← h2]; simp [rowOf]
      rw [e]; exact hu
theorem BackS.rd {w wr : World} {l : List Ex} {n c : Nat} {A : Option Addr} (h : BackS w wr l n (.slice A n c)) (hn : l.length = n) : SlRd rEx 2 wr A l := by
  obtain ⟨rows, h1, h2, h3, h4, h5⟩ := h
  exact ⟨rows, Rd.own h1, by omega, h3, fun j x hx => stays_ex h5 (h4 j x (by rw [← hn]; exact (List.getElem?_eq_some_iff.1 hx).1) hx)⟩

set_option maxRecDepth 100000 in
set_option maxHeartbeats 1000000 in
theorem backs_any (A : Option Addr) (l : List Ex) (c : Nat) (w : World) (h : SlRd rEx 2 w A l) (hl : l.length ≤ 1048577) :
    Calls Tryz.prog 14 #[.slice A l.length c] w fun e w' => ∃ A' c', e = .returned (.slice A' l.length c') ∧ SlRd rEx 2 w' A' l ∧ Below w.heap.size w w' := by
  obtain ⟨n, hn⟩ : ∃ n, l.length = n := ⟨_, rfl⟩
  rw [hn] at hl ⊢
  have H := Lib.hid h; have Hn := Lib.hid hn; clear h hn
  go_enter Tryz.func14, Tryz.ntmps14
  go_wp2_with fail
  go_loopw [3, 8] (fun v i wr => ∃ k : Nat, k ≤ n ∧ i = .int .i64 k ∧ BackS w wr l k v) (fun _ i _ => n - (intOf i).toNat)
  case atStart => exact ⟨0, Nat.zero_le _, rfl, [], World.ownsRow_nil _ _ _ _, rfl, by simp, fun j x hj => by omega, Below.refl _ _⟩
  case round =>
    obtain ⟨k, hk, rfl, rows, h1, h2, h3, h4, h5⟩ := hrel
    obtain ⟨Al, cl, rfl, _⟩ := own_form h1
    have R1 := Lib.hid h1; have R2 := Lib.hid h2; have R3 := Lib.hid h3; have R4 := Lib.hid h4; have R5 := Lib.hid h5
    have hrs := h5.size
    clear h1 h2 h3 h4 h5
    by_cases hlt : k < n
    · have hlti : (k : Int) < n := by omega
      obtain ⟨x, hx⟩ : ∃ x, l[k]? = some x := ⟨_, List.getElem?_eq_getElem (by rw [Hn.out]; exact hlt)⟩
      obtain ⟨b, o, A1, c1, A2, c2, rfl, hbl, p1, p2, r1, r2⟩ := ex_cells H.out hx
      have q1 := (R5.out.cell (p := ⟨b, o + k * 2, none⟩) hbl).trans p1
      have q2 := (R5.out.cell (p := ⟨b, o + k * 2 + 1, none⟩) hbl).trans p2
      have hu : rEx w [.slice A1 x.1.length c1, .slice A2 x.2.length c2] x := ⟨_, _, _, _, rfl, r1, r2⟩
      obtain ⟨n1, hn1⟩ : ∃ n1, x.1.length = n1 := ⟨_, rfl⟩
      obtain ⟨n2, hn2⟩ : ∃ n2, x.2.length = n2 := ⟨_, rfl⟩
      rw [hn1, hn2] at hu
      rw [hn1] at q1
      rw [hn2] at q2
      have Hu := Lib.hid hu; have Hx := Lib.hid hx
      have hbw : b < wr.heap.size := Nat.lt_of_lt_of_le hbl hrs
      clear hu hx hn1 hn2 r1 r2 p1 p2
      go_wp2_with fail
      refine (back_any A1 A2 n1 c1 n2 c2 _).mono ?_
      rintro e w3 ⟨rfl, hb3⟩
      have hb3' : Below w.heap.size w w3 := (R5.out.alloc hrs _).trans (hb3.mono (by simp; omega))
      have ho3 := own_below (R1.out.alloc _) hb3
      have hz3 := hb3'.size
      have HB3 := Lib.hid hb3'; have HO3 := Lib.hid ho3
      clear hb3 hb3' ho3 q1 q2
      go_wp2_with (at_builtin; refine wpList_push et_rsts _ rfl (.tmp 12) (.tmp 15) rfl w.heap.size (.slice Al k cl) k _ rfl HO3.out [.slice A1 n1 c1, .slice A2 n2 c2] rfl rfl (by simp [Value.oneCell']) (by omega) (by unfold maxLen; omega) hz3 ?_)
      intro g6 c6 w6 ho6 hb6 hg6
      have hM6 := BackS.push R2.out R3.out R4.out HB3.out Hx.out Hu.out ho6 hb6
      have HM6 := Lib.hid hM6
      clear ho6 hb6 hg6 hM6
      go_wp2_with fail
      go_roundw
      case rel => exact ⟨k + 1, hlt, by go_num, HM6.out⟩
      case measure => exact nx_m2 hlt
    · obtain rfl : n = k := by omega
      have hfin : SlRd rEx 2 wr Al l := BackS.rd ⟨rows, R1.out, R2.out, R3.out, R4.out, R5.out⟩ Hn.out
      have HF := Lib.hid hfin; clear hfin
      go_wp2_with fail
      go_ret
      exact ⟨_, _, rfl, HF.out, R5.out⟩
end Go.Proofs.YtfiojofcafjfeaaGreat
namespace Go.Proofs.YtfiojofcafjfeaaGreat
open Go.RowKit

/-- An input as it comes in: no bound but that of memory. -/
structure InpRaw (w : World) (A : Option Addr) (c : Nat) (D : Option Addr) (T : Option Addr) (ct : Nat) (R : Option Addr) (i : Inp) : Prop where
  c : CfgRd w A c i.cfg
  d : SlRd rEx 2 w D i.data
  dl : i.data.length ≤ 17592186043904
  t : NumsRd w T i.start ct
  r : Rd w R (nums .u64 i.draws)
  rl : i.draws.length ≤ 17592186043904
  ru : U64 i.draws
  ra : -9223372036854775808 ≤ i.cfg.rate ∧ i.cfg.rate ≤ 9223372036854775807
  rm : -9223372036854775808 ≤ i.cfg.mom ∧ i.cfg.mom ≤ 9223372036854775807
theorem InpRaw.below {w w' : World} {A : Option Addr} {c : Nat} {D T R : Option Addr} {ct : Nat} {i : Inp} (h : InpRaw w A c D T ct R i) (hb : Below w.heap.size w w') : InpRaw w' A c D T ct R i :=
  ⟨h.c.below hb, h.d.below stays_ex hb, h.dl, h.t.below hb, h.r.below hb, h.rl, h.ru, h.ra, h.rm⟩
/-- A small input. -/
def SmallI (i : Inp) : Prop := i.data.length ≤ 60 ∧ i.start.length ≤ 600 ∧ i.draws.length ≤ 2000 ∧ i.cfg.sizes.length ≤ 40
theorem InpRaw.rd {w : World} {A : Option Addr} {c : Nat} {D T R : Option Addr} {ct : Nat} {i : Inp} (h : InpRaw w A c D T ct R i) (hs : SmallI i) : InpRd w A c D T ct R i :=
  ⟨h.c, h.d, by have := hs.1; omega, h.t, by have := hs.2.1; omega, h.r, by have := hs.2.2.1; omega, h.ru, h.ra, h.rm⟩
/-- Some answer; if it is true, then q. -/
def FewI (q : Prop) (w : World) (e : Ending) (w' : World) : Prop := (∃ b : Bool, e = .returned (.bool b) ∧ (b = true → q)) ∧ Below w.heap.size w w'
theorem fewI_any {q : Prop} {w w' : World} (b : Bool) (hq : q) (hb : Below w.heap.size w w') : FewI q w (.returned (.bool b)) w' := ⟨⟨b, rfl, fun _ => hq⟩, hb⟩
theorem fewI_no {q : Prop} {w w' : World} (hb : Below w.heap.size w w') : FewI q w (.returned (.bool false)) w' := ⟨⟨false, rfl, fun h => by cases h⟩, hb⟩
theorem fewI_dec {p : Prop} [Decidable p] {q : Prop} {w w' : World} (hq : p → q) (hb : Below w.heap.size w w') : FewI q w (.returned (.bool (decide p))) w' := ⟨⟨_, rfl, fun h => hq (of_decide_eq_true h)⟩, hb⟩

set_option maxRecDepth 100000 in
set_option maxHeartbeats 4000000 in
theorem ifew_any (A : Option Addr) (c : Nat) (D : Option Addr) (cd : Nat) (T : Option Addr) (ct : Nat) (R : Option Addr) (cr : Nat) (i : Inp) (w : World) (h : InpRaw w A c D T ct R i) :
    Calls Tryz.prog 37 #[.agg (inpVals A c D cd T ct R cr i)] w (FewI (SmallI i) w) := by
  have hf := fun w' (q : Below w.heap.size w w') => rfew_any cd D i.data w' (h.d.below stays_ex q) h.dl
  have hq : i.data.length ≤ 60 → i.start.length ≤ 600 → i.draws.length ≤ 2000 → i.cfg.sizes.length ≤ 40 → SmallI i := fun a b c d => ⟨a, b, c, d⟩
  generalize SmallI i = Q at hq ⊢
  clear h
  unfold FewB at hf
  obtain ⟨⟨sz, sh, ra, mo, wk, ba, mi, st, bu, ch, wi, ca⟩, data, start, draws⟩ := i
  dsimp only [inpVals, cfgVals] at *
  obtain ⟨L, hL⟩ : ∃ L, sz.length = L := ⟨_, rfl⟩
  obtain ⟨N, hN⟩ : ∃ N, data.length = N := ⟨_, rfl⟩
  obtain ⟨M, hM⟩ : ∃ M, start.length = M := ⟨_, rfl⟩
  obtain ⟨P, hP⟩ : ∃ P, draws.length = P := ⟨_, rfl⟩
  rw [hL, hN, hM, hP] at hq
  rw [hN] at hf
  rw [hL, hN, hM, hP]
  have Hf := Lib.hid hf; have Hq := Lib.hid hq
  clear hf hq hL hN hM hP
  have nol : ¬ (L ≤ 40) → ¬ ((L : Int) ≤ 40) := by omega
  have yol : L ≤ 40 → (L : Int) ≤ 40 := by omega
  have nom : ¬ (M ≤ 600) → ¬ ((M : Int) ≤ 600) := by omega
  have yom : M ≤ 600 → (M : Int) ≤ 600 := by omega
  have nop : ¬ (P ≤ 2000) → ¬ ((P : Int) ≤ 2000) := by omega
  have yop : P ≤ 2000 → (P : Int) ≤ 2000 := by omega
  have NL := Lib.hid nol; have YL := Lib.hid yol; have NM := Lib.hid nom; have YM := Lib.hid yom; have NP := Lib.hid nop; have YP := Lib.hid yop
  clear nol yol nom yom nop yop
  by_cases h1 : ¬ (L ≤ 40)
  · have k1 := NL.out h1
    go_enter Tryz.func37, Tryz.ntmps37
    go_wp2_with fail
    all_goals
      go_ret
      exact fewI_no ((Below.refl _ w).alloc (Nat.le_refl _) _)
  have h1' : L ≤ 40 := by omega
  have k1 := YL.out h1'
  have G1 := Lib.hid h1'
  clear h1 h1'
  go_enter Tryz.func37, Tryz.ntmps37
  go_wp2_with fail
  have hz := heap_alloc_new w (.cells #[.slice A L c, .int .i64 sh, .int .i64 ra, .int .i64 mo, .int .i64 wk, .int .i64 ba, .int .i64 mi, .int .i64 st, .int .i64 bu, .int .i64 ch, .int .i64 wi, .int .i64 ca, .slice D N cd, .slice T M ct, .slice R P cr] 29)
  have hB := (Below.refl _ w).alloc (Nat.le_refl _) (.cells #[.slice A L c, .int .i64 sh, .int .i64 ra, .int .i64 mo, .int .i64 wk, .int .i64 ba, .int .i64 mi, .int .i64 st, .int .i64 bu, .int .i64 ch, .int .i64 wi, .int .i64 ca, .slice D N cd, .slice T M ct, .slice R P cr] 29)
  refine (Hf.out _ hB).mono ?_
  rintro e w' ⟨⟨b, rfl, hb⟩, d, rfl⟩
  have hz1 : ((w.alloc (.cells #[.slice A L c, .int .i64 sh, .int .i64 ra, .int .i64 mo, .int .i64 wk, .int .i64 ba, .int .i64 mi, .int .i64 st, .int .i64 bu, .int .i64 ch, .int .i64 wi, .int .i64 ca, .slice D N cd, .slice T M ct, .slice R P cr] 29)).drewN d).heap[w.heap.size]? = some (.cells #[.slice A L c, .int .i64 sh, .int .i64 ra, .int .i64 mo, .int .i64 wk, .int .i64 ba, .int .i64 mi, .int .i64 st, .int .i64 bu, .int .i64 ch, .int .i64 wi, .int .i64 ca, .slice D N cd, .slice T M ct, .slice R P cr] 29 (0, 0)) := hz
  have hB1 := below_drewN hB d
  have Hb := Lib.hid hb
  clear hz hB hb
  generalize (w.alloc (.cells #[.slice A L c, .int .i64 sh, .int .i64 ra, .int .i64 mo, .int .i64 wk, .int .i64 ba, .int .i64 mi, .int .i64 st, .int .i64 bu, .int .i64 ch, .int .i64 wi, .int .i64 ca, .slice D N cd, .slice T M ct, .slice R P cr] 29)).drewN d = W1 at hz1 hB1 ⊢
  have HB := Lib.hid hB1
  have z0 := cell_of_row W1 _ 0 _ _ _ hz1
  have z1 := cell_of_row W1 _ 1 _ _ _ hz1
  have z2 := cell_of_row W1 _ 2 _ _ _ hz1
  have z3 := cell_of_row W1 _ 3 _ _ _ hz1
  have z4 := cell_of_row W1 _ 4 _ _ _ hz1
  have z5 := cell_of_row W1 _ 5 _ _ _ hz1
  have z6 := cell_of_row W1 _ 6 _ _ _ hz1
  have z7 := cell_of_row W1 _ 7 _ _ _ hz1
  have z8 := cell_of_row W1 _ 8 _ _ _ hz1
  have z9 := cell_of_row W1 _ 9 _ _ _ hz1
  have z10 := cell_of_row W1 _ 10 _ _ _ hz1
  have z11 := cell_of_row W1 _ 11 _ _ _ hz1
  have z12 := cell_of_row W1 _ 12 _ _ _ hz1
  have z13 := cell_of_row W1 _ 13 _ _ _ hz1
  have z14 := cell_of_row W1 _ 14 _ _ _ hz1
  have zf := fun j => frozen_of_row W1 _ j _ _ hz1
  clear hz1 hB1
  rcases bool_ft b with rfl | rfl
  · go_wp2_with fail
    all_goals
      go_ret
      exact fewI_no HB.out
  by_cases h2 : ¬ (M ≤ 600)
  · have k2 := NM.out h2
    go_wp2_with fail
    all_goals
      go_ret
      exact fewI_no HB.out
  have h2' : M ≤ 600 := by omega
  have k2 := YM.out h2'
  have G2 := Lib.hid h2'
  clear h2 h2'
  clear NL YL NM YM YP
  go_wp2_with fail
  all_goals
    go_ret
    exact fewI_dec (fun h => Hq.out (Hb.out trivial) G2.out (by omega) G1.out) HB.out
end Go.Proofs.YtfiojofcafjfeaaGreat
namespace Go.Proofs.YtfiojofcafjfeaaGreat
open Go.RowKit

set_option maxRecDepth 100000 in
set_option maxHeartbeats 4000000 in
theorem fewrun_any (A : Option Addr) (c : Nat) (D : Option Addr) (cd : Nat) (T : Option Addr) (ct : Nat) (R : Option Addr) (cr : Nat) (i : Inp) (w : World) (h : InpRaw w A c D T ct R i) :
    Calls Tryz.prog 9 #[.agg (inpVals A c D cd T ct R cr i)] w (FewI (SmallI i) w) := by
  have hif := fun w' (q : Below w.heap.size w w') => ifew_any A c D cd T ct R cr i w' (h.below q)
  have hck := fun w' (q : Below w.heap.size w w') => rcfg_any A c i.cfg w' (h.c.below q)
  have hct := fun (hR : RightSz i.cfg.sizes) w' (q : Below w.heap.size w w') => rcount_any A i.cfg.sizes i.cfg.sizes.length c w' (h.c.hr.below q) hR (by have := hR.1; omega) (Nat.le_refl _)
  have hgd := @cfg_good i.cfg
  generalize SmallI i = QQ at hif ⊢
  clear h
  have hif : ∀ w', Below w.heap.size w w' → Calls Tryz.prog 37 #[.agg (inpVals A c D cd T ct R cr i)] w' (fun e w'' => ∃ b : Bool, e = .returned (.bool b) ∧ (b = true → QQ) ∧ Below w'.heap.size w' w'') := fun w' q => (hif w' q).mono fun e w'' ⟨⟨b, h1, h2⟩, h3⟩ => ⟨b, h1, h2, h3⟩
  obtain ⟨⟨sz, sh, ra, mo, wk, ba, mi, st, bu, ch, wi, ca⟩, data, start, draws⟩ := i
  dsimp only [inpVals, cfgVals] at *
  obtain ⟨cc, hcc⟩ : ∃ cc, cfgCode ⟨sz, sh, ra, mo, wk, ba, mi, st, bu, ch, wi, ca⟩ = cc := ⟨_, rfl⟩
  rw [hcc] at hck hgd
  have hRz : cc = 0 → RightSz sz := fun e => (hgd.1 e).z.1
  obtain ⟨L, hL⟩ : ∃ L, sz.length = L := ⟨_, rfl⟩
  obtain ⟨N, hN⟩ : ∃ N, data.length = N := ⟨_, rfl⟩
  obtain ⟨M, hM⟩ : ∃ M, start.length = M := ⟨_, rfl⟩
  obtain ⟨Q, hQ⟩ : ∃ Q, draws.length = Q := ⟨_, rfl⟩
  rw [hL] at hck hct hif ⊢
  rw [hN, hM, hQ] at hif ⊢
  obtain ⟨CN, hCN⟩ : ∃ CN, cntN sz (L - 1) = CN := ⟨_, rfl⟩
  rw [hCN] at hct
  have Hck := Lib.hid hck; have Hct := Lib.hid hct; have Hif := Lib.hid hif; have HRz := Lib.hid hRz
  clear hck hct hif hgd hL hN hM hQ hcc hCN hRz
  go_enter Tryz.func9, Tryz.ntmps9
  go_wp2_with fail
  have hz := (Below.heap_alloc (w.alloc (.cells #[.slice A L c, .int .i64 sh, .int .i64 ra, .int .i64 mo, .int .i64 wk, .int .i64 ba, .int .i64 mi, .int .i64 st, .int .i64 bu, .int .i64 ch, .int .i64 wi, .int .i64 ca, .slice D N cd, .slice T M ct, .slice R Q cr] 29)) (.cells #[.slice A L c, .int .i64 sh, .int .i64 ra, .int .i64 mo, .int .i64 wk, .int .i64 ba, .int .i64 mi, .int .i64 st, .int .i64 bu, .int .i64 ch, .int .i64 wi, .int .i64 ca] 24) w.heap.size (by simp)).trans (heap_alloc_new w _)
  have hy := heap_alloc_new (w.alloc (.cells #[.slice A L c, .int .i64 sh, .int .i64 ra, .int .i64 mo, .int .i64 wk, .int .i64 ba, .int .i64 mi, .int .i64 st, .int .i64 bu, .int .i64 ch, .int .i64 wi, .int .i64 ca, .slice D N cd, .slice T M ct, .slice R Q cr] 29)) (.cells #[.slice A L c, .int .i64 sh, .int .i64 ra, .int .i64 mo, .int .i64 wk, .int .i64 ba, .int .i64 mi, .int .i64 st, .int .i64 bu, .int .i64 ch, .int .i64 wi, .int .i64 ca] 24)
  rw [show (w.alloc (.cells #[.slice A L c, .int .i64 sh, .int .i64 ra, .int .i64 mo, .int .i64 wk, .int .i64 ba, .int .i64 mi, .int .i64 st, .int .i64 bu, .int .i64 ch, .int .i64 wi, .int .i64 ca, .slice D N cd, .slice T M ct, .slice R Q cr] 29)).heap.size = w.heap.size + 1 by simp] at hy
  have hB : Below w.heap.size w ((w.alloc (.cells #[.slice A L c, .int .i64 sh, .int .i64 ra, .int .i64 mo, .int .i64 wk, .int .i64 ba, .int .i64 mi, .int .i64 st, .int .i64 bu, .int .i64 ch, .int .i64 wi, .int .i64 ca, .slice D N cd, .slice T M ct, .slice R Q cr] 29)).alloc (.cells #[.slice A L c, .int .i64 sh, .int .i64 ra, .int .i64 mo, .int .i64 wk, .int .i64 ba, .int .i64 mi, .int .i64 st, .int .i64 bu, .int .i64 ch, .int .i64 wi, .int .i64 ca] 24)) := ((Below.refl _ w).alloc (Nat.le_refl _) _).alloc (by simp) _
  obtain ⟨W0, hW0⟩ : ∃ W0, W0 = (w.alloc (.cells #[.slice A L c, .int .i64 sh, .int .i64 ra, .int .i64 mo, .int .i64 wk, .int .i64 ba, .int .i64 mi, .int .i64 st, .int .i64 bu, .int .i64 ch, .int .i64 wi, .int .i64 ca, .slice D N cd, .slice T M ct, .slice R Q cr] 29)).alloc (.cells #[.slice A L c, .int .i64 sh, .int .i64 ra, .int .i64 mo, .int .i64 wk, .int .i64 ba, .int .i64 mi, .int .i64 st, .int .i64 bu, .int .i64 ch, .int .i64 wi, .int .i64 ca] 24) := ⟨_, rfl⟩
  rw [← hW0] at hz hy hB ⊢
  clear hW0
  refine (Hif.out _ hB).mono ?_
  rintro e w1 ⟨b, rfl, hb, hb1⟩
  have hz1 := (hb1.block _ (lt_of_block hz)).trans hz
  have hy1 := (hb1.block _ (lt_of_block hy)).trans hy
  have HB := Lib.hid (hB.trans (hb1.mono hB.size)); have Hb := Lib.hid hb
  have z0 := cell_of_row w1 _ 0 _ _ _ hz1
  have z1 := cell_of_row w1 _ 1 _ _ _ hz1
  have z2 := cell_of_row w1 _ 2 _ _ _ hz1
  have z3 := cell_of_row w1 _ 3 _ _ _ hz1
  have z4 := cell_of_row w1 _ 4 _ _ _ hz1
  have z5 := cell_of_row w1 _ 5 _ _ _ hz1
  have z6 := cell_of_row w1 _ 6 _ _ _ hz1
  have z7 := cell_of_row w1 _ 7 _ _ _ hz1
  have z8 := cell_of_row w1 _ 8 _ _ _ hz1
  have z9 := cell_of_row w1 _ 9 _ _ _ hz1
  have z10 := cell_of_row w1 _ 10 _ _ _ hz1
  have z11 := cell_of_row w1 _ 11 _ _ _ hz1
  have z12 := cell_of_row w1 _ 12 _ _ _ hz1
  have z13 := cell_of_row w1 _ 13 _ _ _ hz1
  have z14 := cell_of_row w1 _ 14 _ _ _ hz1
  have zf := fun j => frozen_of_row w1 _ j _ _ hz1
  have y0 := cell_of_row w1 _ 0 _ _ _ hy1
  have y1 := cell_of_row w1 _ 1 _ _ _ hy1
  have y2 := cell_of_row w1 _ 2 _ _ _ hy1
  have y3 := cell_of_row w1 _ 3 _ _ _ hy1
  have y4 := cell_of_row w1 _ 4 _ _ _ hy1
  have y5 := cell_of_row w1 _ 5 _ _ _ hy1
  have y6 := cell_of_row w1 _ 6 _ _ _ hy1
  have y7 := cell_of_row w1 _ 7 _ _ _ hy1
  have y8 := cell_of_row w1 _ 8 _ _ _ hy1
  have y9 := cell_of_row w1 _ 9 _ _ _ hy1
  have y10 := cell_of_row w1 _ 10 _ _ _ hy1
  have y11 := cell_of_row w1 _ 11 _ _ _ hy1
  have yf := fun j => frozen_of_row w1 _ j _ _ hy1
  have HZ := Lib.hid hz1; have HY := Lib.hid hy1
  clear hz hy hB hb1 hb
  rcases bool_ft b with rfl | rfl
  · clear hz1 hy1
    go_wp2_with fail
    refine (Hif.out _ HB.out).mono ?_
    rintro e w2 ⟨b', rfl, hb', hb2⟩
    have HB2 := Lib.hid (HB.out.trans (hb2.mono HB.out.size)); have Hb' := Lib.hid hb'
    clear hb2 hb'
    go_wp2_with fail
    go_ret
    exact ⟨⟨b', rfl, Hb'.out⟩, HB2.out⟩
  have HQ := Lib.hid (Hb.out rfl)
  go_wp2_with fail
  refine (Hck.out _ HB.out).mono ?_
  rintro e w3 ⟨rfl, hb3⟩
  have hz3 := (hb3.block _ (lt_of_block hz1)).trans hz1
  have hy3 := (hb3.block _ (lt_of_block hy1)).trans hy1
  have HB3 := Lib.hid (HB.out.trans (hb3.mono HB.out.size))
  clear z0 z1 z2 z3 z4 z5 z6 z7 z8 z9 z10 z11 z12 z13 z14 zf y0 y1 y2 y3 y4 y5 y6 y7 y8 y9 y10 y11 yf hz1 hy1 hb3 HZ HY
  have z0 := cell_of_row w3 _ 0 _ _ _ hz3
  have z1 := cell_of_row w3 _ 1 _ _ _ hz3
  have z2 := cell_of_row w3 _ 2 _ _ _ hz3
  have z3 := cell_of_row w3 _ 3 _ _ _ hz3
  have z4 := cell_of_row w3 _ 4 _ _ _ hz3
  have z5 := cell_of_row w3 _ 5 _ _ _ hz3
  have z6 := cell_of_row w3 _ 6 _ _ _ hz3
  have z7 := cell_of_row w3 _ 7 _ _ _ hz3
  have z8 := cell_of_row w3 _ 8 _ _ _ hz3
  have z9 := cell_of_row w3 _ 9 _ _ _ hz3
  have z10 := cell_of_row w3 _ 10 _ _ _ hz3
  have z11 := cell_of_row w3 _ 11 _ _ _ hz3
  have z12 := cell_of_row w3 _ 12 _ _ _ hz3
  have z13 := cell_of_row w3 _ 13 _ _ _ hz3
  have z14 := cell_of_row w3 _ 14 _ _ _ hz3
  have zf := fun j => frozen_of_row w3 _ j _ _ hz3
  have y0 := cell_of_row w3 _ 0 _ _ _ hy3
  have y1 := cell_of_row w3 _ 1 _ _ _ hy3
  have y2 := cell_of_row w3 _ 2 _ _ _ hy3
  have y3 := cell_of_row w3 _ 3 _ _ _ hy3
  have y4 := cell_of_row w3 _ 4 _ _ _ hy3
  have y5 := cell_of_row w3 _ 5 _ _ _ hy3
  have y6 := cell_of_row w3 _ 6 _ _ _ hy3
  have y7 := cell_of_row w3 _ 7 _ _ _ hy3
  have y8 := cell_of_row w3 _ 8 _ _ _ hy3
  have y9 := cell_of_row w3 _ 9 _ _ _ hy3
  have y10 := cell_of_row w3 _ 10 _ _ _ hy3
  have y11 := cell_of_row w3 _ 11 _ _ _ hy3
  have yf := fun j => frozen_of_row w3 _ j _ _ hy3
  clear hz3 hy3
  by_cases h3 : cc ≠ 0
  · have hq : (cc != 0) = true := by rw [bne_iff_ne]; exact h3
    go_wp2_with fail
    refine (Hif.out _ HB3.out).mono ?_
    rintro e w2 ⟨b', rfl, hb', hb2⟩
    have HB2 := Lib.hid (HB3.out.trans (hb2.mono HB3.out.size)); have Hb' := Lib.hid hb'
    clear hb2 hb'
    go_wp2_with fail
    go_ret
    exact ⟨⟨b', rfl, Hb'.out⟩, HB2.out⟩
  obtain rfl : cc = 0 := by omega
  clear h3
  have HR := Lib.hid (HRz.out rfl)
  by_cases h4 : 12 < st
  · have hq : ¬ (st ≤ 12) := by omega
    go_wp2_with fail
    all_goals
      go_ret
      exact fewI_any _ HQ.out HB3.out
  have hq : st ≤ 12 := by omega
  go_wp2_with fail
  refine (Hct.out HR.out _ HB3.out).mono ?_
  rintro e w4 ⟨rfl, d, rfl⟩
  have HB4 := Lib.hid (below_drewN HB3.out d)
  obtain ⟨W4, hW4⟩ : ∃ W4, W4 = w3.drewN d := ⟨_, rfl⟩
  have y5' : W4.cell? ⟨w.heap.size + 1, 5, none⟩ = some (.int .i64 ba) := by rw [hW4]; exact y5
  rw [← hW4] at HB4 ⊢
  clear hW4 z0 z1 z2 z3 z4 z5 z6 z7 z8 z9 z10 z11 z12 z13 z14 zf y0 y1 y2 y3 y4 y5 y6 y7 y8 y9 y10 y11 yf
  by_cases h5 : CN ≤ 150
  · have k5 : (CN : Int) ≤ 150 := by omega
    go_wp2_with fail
    all_goals
      go_ret
      exact fewI_any _ HQ.out HB4.out
  · have k5 : ¬ ((CN : Int) ≤ 150) := by omega
    go_wp2_with fail
    all_goals
      go_ret
      exact fewI_any _ HQ.out HB4.out
end Go.Proofs.YtfiojofcafjfeaaGreat
namespace Go.Proofs.YtfiojofcafjfeaaGreat
open Go.RowKit

set_option maxRecDepth 100000 in
set_option maxHeartbeats 1000000 in
theorem stall_any (A1 A2 : Option Addr) (l1 l2 : List Ex) (c1 c2 : Nat) (w : World) (h1 : SlRd rEx 2 w A1 l1) (h2 : SlRd rEx 2 w A2 l2) (hl1 : l1.length ≤ 1048577) (hl2 : l2.length ≤ 1048577) :
    Calls Tryz.prog 13 #[.slice A1 l1.length c1, .slice A2 l2.length c2] w fun e w' => e = .returned (.bool (decide (l1 = l2))) ∧ Below w.heap.size w w' := by
  obtain ⟨n, hn⟩ : ∃ n, l1.length = n := ⟨_, rfl⟩
  obtain ⟨m, hm⟩ : ∃ m, l2.length = m := ⟨_, rfl⟩
  obtain ⟨b, hb⟩ : ∃ b, decide (l1 = l2) = b := ⟨_, rfl⟩
  rw [hn] at hl1 ⊢
  rw [hm] at hl2 ⊢
  rw [hb]
  have H1 := Lib.hid h1; have H2 := Lib.hid h2; have Hn := Lib.hid hn; have Hm := Lib.hid hm; have Hb := Lib.hid hb
  clear h1 h2 hn hm hb
  by_cases hnm : n ≠ m
  · have hq : ((n : Int) != (m : Int)) = true := by rw [bne_iff_ne]; omega
    have hbf : b = false := by
      rw [← Hb.out]; refine decide_eq_false fun e => hnm ?_
      rw [← Hn.out, ← Hm.out, e]
    go_enter Tryz.func13, Tryz.ntmps13
    go_wp2_with fail
    go_ret
    exact ⟨by rw [hbf]; rfl, Below.refl _ _⟩
  obtain rfl : n = m := by omega
  clear hnm
  go_enter Tryz.func13, Tryz.ntmps13
  go_wp2_with fail
  go_loopw [5] (fun i wr => ∃ k : Nat, k ≤ n ∧ i = .int .i64 k ∧ Hid (∀ j, j < k → l1[j]? = l2[j]?) ∧ Below w.heap.size w wr) (fun i _ => n - (intOf i).toNat)
  case atStart => exact ⟨0, Nat.zero_le _, rfl, Lib.hid fun j hj => by omega, Below.refl _ _⟩
  case round =>
    obtain ⟨k, hk, rfl, Hall, hbw⟩ := hrel
    have HB := Lib.hid hbw; clear hbw
    by_cases hlt : k < n
    · have hlti : (k : Int) < n := by omega
      obtain ⟨x, hx⟩ : ∃ x, l1[k]? = some x := ⟨_, List.getElem?_eq_getElem (by rw [Hn.out]; exact hlt)⟩
      obtain ⟨y, hy⟩ : ∃ y, l2[k]? = some y := ⟨_, List.getElem?_eq_getElem (by rw [Hm.out]; exact hlt)⟩
      have g1 : SlRd rEx 2 wr A1 l1 := H1.out.below stays_ex HB.out
      have g2 : SlRd rEx 2 wr A2 l2 := H2.out.below stays_ex HB.out
      obtain ⟨b1, o1, P1, d1, Q1, f1, rfl, hbl1, p1, p2, r1, r2⟩ := ex_cells g1 hx
      obtain ⟨b2, o2, P2, d2, Q2, f2, rfl, hbl2, q1, q2, s1, s2⟩ := ex_cells g2 hy
      have hcl := fun w' (k : Below wr.heap.size wr w') => stsame_any P1 Q1 P2 Q2 x.1 x.2 y.1 y.2 d1 f1 d2 f2 w' (r1.below k) (r2.below k) (s1.below k) (s2.below k)
      obtain ⟨eq, heq⟩ : ∃ eq, (decide (x.1 = y.1) && decide (x.2 = y.2)) = eq := ⟨_, rfl⟩
      have hxy : eq = true ↔ x = y := by
        rw [← heq, Bool.and_eq_true, decide_eq_true_eq, decide_eq_true_eq]
        exact ⟨fun h => Prod.ext h.1 h.2, fun h => by rw [h]; exact ⟨rfl, rfl⟩⟩
      obtain ⟨n1, hn1⟩ : ∃ n, x.1.length = n := ⟨_, rfl⟩
      obtain ⟨n2, hn2⟩ : ∃ n, x.2.length = n := ⟨_, rfl⟩
      obtain ⟨m1, hm1⟩ : ∃ n, y.1.length = n := ⟨_, rfl⟩
      obtain ⟨m2, hm2⟩ : ∃ n, y.2.length = n := ⟨_, rfl⟩
      rw [heq, hn1, hn2, hm1, hm2] at hcl
      rw [hn1] at p1
      rw [hn2] at p2
      rw [hm1] at q1
      rw [hm2] at q2
      have Hcl := Lib.hid hcl; have Hx := Lib.hid hx; have Hy := Lib.hid hy; have Hxy := Lib.hid hxy
      clear hcl hx hy hxy heq hn1 hn2 hm1 hm2 g1 g2 r1 r2 s1 s2
      go_wp2_with fail
      have hSw : (fun w' : World => w'.cell? ⟨b1, o1 + k * 2, none⟩ = some (.slice P1 n1 d1) ∧ w'.cell? ⟨b1, o1 + k * 2 + 1, none⟩ = some (.slice Q1 n2 f1) ∧ w'.cell? ⟨b2, o2 + k * 2, none⟩ = some (.slice P2 m1 d2) ∧ w'.cell? ⟨b2, o2 + k * 2 + 1, none⟩ = some (.slice Q2 m2 f2)) wr.drew := ⟨p1, p2, q1, q2⟩
      refine wp_region_held (S := (fun w' : World => w'.cell? ⟨b1, o1 + k * 2, none⟩ = some (.slice P1 n1 d1) ∧ w'.cell? ⟨b1, o1 + k * 2 + 1, none⟩ = some (.slice Q1 n2 f1) ∧ w'.cell? ⟨b2, o2 + k * 2, none⟩ = some (.slice P2 m1 d2) ∧ w'.cell? ⟨b2, o2 + k * 2 + 1, none⟩ = some (.slice Q2 m2 f2))) (by kernel_rfl) ?_
      change wpAnyH _ _ _ _ _ _ _ _ wr.drew
      refine wpAnyH_take (i := 0) (v := ?_) rfl (by kernel_rfl) (by kernel_rfl) (by kernel_rfl) (fun _ _ _ h => h) (Or.inl ⟨by rfl, ?_⟩) hSw ?_
      rotate_left
      · intro w9 hS9; (try dsimp only at hS9); obtain ⟨s1, s2, s3, s4⟩ := hS9; go_simp; (try with_reducible rfl)
      simp only [List.getElem_toArray, List.getElem_cons_succ, List.getElem_cons_zero, Act.put, List.setIfInBounds_toArray, List.set_cons_zero, List.set_cons_succ]
      refine wpAnyH_take (i := 1) (v := ?_) rfl (by kernel_rfl) (by kernel_rfl) (by kernel_rfl) (fun _ _ _ h => h) (Or.inl ⟨by rfl, ?_⟩) hSw ?_
      rotate_left
      · intro w9 hS9; (try dsimp only at hS9); obtain ⟨s1, s2, s3, s4⟩ := hS9; go_simp; (try with_reducible rfl)
      simp only [List.getElem_toArray, List.getElem_cons_succ, List.getElem_cons_zero, Act.put, List.setIfInBounds_toArray, List.set_cons_zero, List.set_cons_succ]
      refine wpAnyH_take (i := 2) (v := ?_) rfl (by kernel_rfl) (by kernel_rfl) (by kernel_rfl) (fun _ _ _ h => h) (Or.inl ⟨by rfl, ?_⟩) hSw ?_
      rotate_left
      · intro w9 hS9; (try dsimp only at hS9); obtain ⟨s1, s2, s3, s4⟩ := hS9; go_simp; (try with_reducible rfl)
      simp only [List.getElem_toArray, List.getElem_cons_succ, List.getElem_cons_zero, Act.put, List.setIfInBounds_toArray, List.set_cons_zero, List.set_cons_succ]
      refine wpAnyH_take (i := 3) (v := ?_) rfl (by kernel_rfl) (by kernel_rfl) (by kernel_rfl) (fun _ _ _ h => h) (Or.inl ⟨by rfl, ?_⟩) hSw ?_
      rotate_left
      · intro w9 hS9; (try dsimp only at hS9); obtain ⟨s1, s2, s3, s4⟩ := hS9; go_simp; (try with_reducible rfl)
      simp only [List.getElem_toArray, List.getElem_cons_succ, List.getElem_cons_zero, Act.put, List.setIfInBounds_toArray, List.set_cons_zero, List.set_cons_succ]
      refine wpAnyH_take (i := 4) (v := ?_) rfl (by kernel_rfl) (by kernel_rfl) (by kernel_rfl) (fun _ _ _ h => h) (Or.inl ⟨by rfl, ?_⟩) hSw ?_
      rotate_left
      · intro w9 hS9; (try dsimp only at hS9); obtain ⟨s1, s2, s3, s4⟩ := hS9; go_simp; (try with_reducible rfl)
      simp only [List.getElem_toArray, List.getElem_cons_succ, List.getElem_cons_zero, Act.put, List.setIfInBounds_toArray, List.set_cons_zero, List.set_cons_succ]
      refine wpAnyH_take (i := 5) (v := ?_) rfl (by kernel_rfl) (by kernel_rfl) (by kernel_rfl) (fun _ _ _ h => h) (Or.inl ⟨by rfl, ?_⟩) hSw ?_
      rotate_left
      · intro w9 hS9; (try dsimp only at hS9); obtain ⟨s1, s2, s3, s4⟩ := hS9; go_simp; (try with_reducible rfl)
      simp only [List.getElem_toArray, List.getElem_cons_succ, List.getElem_cons_zero, Act.put, List.setIfInBounds_toArray, List.set_cons_zero, List.set_cons_succ]
      refine wpAnyH_take (i := 6) (v := ?_) rfl (by kernel_rfl) (by kernel_rfl) (by kernel_rfl) (fun _ _ _ h => h) (Or.inl ⟨by rfl, ?_⟩) hSw ?_
      rotate_left
      · intro w9 hS9; (try dsimp only at hS9); obtain ⟨s1, s2, s3, s4⟩ := hS9; go_simp; (try with_reducible rfl)
      simp only [List.getElem_toArray, List.getElem_cons_succ, List.getElem_cons_zero, Act.put, List.setIfInBounds_toArray, List.set_cons_zero, List.set_cons_succ]
      refine wpAnyH_take (i := 7) (v := ?_) rfl (by kernel_rfl) (by kernel_rfl) (by kernel_rfl) (fun _ _ _ h => h) (Or.inl ⟨by rfl, ?_⟩) hSw ?_
      rotate_left
      · intro w9 hS9; (try dsimp only at hS9); obtain ⟨s1, s2, s3, s4⟩ := hS9; go_simp; (try with_reducible rfl)
      simp only [List.getElem_toArray, List.getElem_cons_succ, List.getElem_cons_zero, Act.put, List.setIfInBounds_toArray, List.set_cons_zero, List.set_cons_succ]
      refine wpAnyH_ready (rs := [8]) (by kernel_rfl) (by simp) ?_
      refine AllReadyH.cons rfl (fun K hK => ?_) AllReadyH.nil
      simp only [List.getElem_toArray, List.getElem_cons_succ, List.getElem_cons_zero]
      go_simp
      refine (Hcl.out _ ((Below.refl _ _).drew)).mono ?_
      rintro e w3 ⟨rfl, hb3⟩
      have hS3 := And.intro (cell_below hb3 hSw.1) (And.intro (cell_below hb3 hSw.2.1) (And.intro (cell_below hb3 hSw.2.2.1) (cell_below hb3 hSw.2.2.2)))
      have HB3 := Lib.hid (HB.out.trans (((Below.refl wr.heap.size wr).drew.trans hb3).mono HB.out.size))
      clear hb3 hSw
      dsimp only
      refine hK.out _ _ hS3 (fun hSw => ?_)
      clear hK K hS3
      refine wpAnyH_take (i := 9) (v := ?_) rfl (by kernel_rfl) (by kernel_rfl) (by kernel_rfl) (fun _ _ _ h => h) (Or.inl ⟨by rfl, ?_⟩) hSw ?_
      rotate_left
      · intro w9 hS9; (try dsimp only at hS9); obtain ⟨s1, s2, s3, s4⟩ := hS9; go_simp; (try with_reducible rfl)
      simp only [List.getElem_toArray, List.getElem_cons_succ, List.getElem_cons_zero, Act.put, List.setIfInBounds_toArray, List.set_cons_zero, List.set_cons_succ]
      refine wpAnyH_done (by kernel_rfl) ?_ _
      clear hSw p1 p2 q1 q2
      rcases bool_ft eq with rfl | rfl
      · go_wp2_with fail
        go_ret
        have hbf : b = false := by
          rw [← Hb.out]; refine decide_eq_false fun e => ?_
          have h := Hx.out; rw [e, Hy.out] at h; injection h with h
          have := Hxy.out.2 h.symm; cases this
        exact ⟨by rw [hbf]; rfl, HB3.out⟩
      · have Hxe := Lib.hid (Hxy.out.1 rfl)
        go_wp2_with fail
        go_roundw
        case rel => exact ⟨k + 1, by omega, by go_num, Lib.hid (p := ∀ j, j < k + 1 → l1[j]? = l2[j]?) fun j hj => by
          rcases Nat.lt_or_ge j k with h | h
          · exact Hall.out j h
          · obtain rfl : j = k := by omega
            rw [Hx.out, Hy.out, Hxe.out], HB3.out⟩
        case measure => simp [intOf]; omega
    · obtain rfl : n = k := by omega
      have hbt : b = true := by
        rw [← Hb.out]; refine decide_eq_true (List.ext_getElem? fun j => ?_)
        rcases Nat.lt_or_ge j n with h | h
        · exact Hall.out j h
        · rw [List.getElem?_eq_none (by rw [Hn.out]; exact h), List.getElem?_eq_none (by rw [Hm.out]; exact h)]
      go_wp2_with fail
      go_ret
      exact ⟨by rw [hbt]; rfl, HB.out⟩
end Go.Proofs.YtfiojofcafjfeaaGreat
