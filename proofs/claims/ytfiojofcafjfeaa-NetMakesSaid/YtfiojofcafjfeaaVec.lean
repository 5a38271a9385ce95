/- The walks of package vec. -/
import Derived.Test.YtfiojofcafjfeaaFix
import Derived.Test.YtfiojofcafjfeaaVecPlain
import Derived.WalkSpells
import Derived.Deep.RegionHeld3
set_option linter.unusedSimpArgs false
set_option linter.unusedVariables false
namespace Go.Proofs.Ytfiojofcafjfeaa
open Go.RowKit

theorem et_vec : ElemT Try.prog 31 2 (.int .i64 0) 1 8 := ⟨Try.underlying31, info_parts (by kernel_rfl), rfl, by decide⟩

theorem sclone_any (A : Option Addr) (zs : List Int) (c : Nat) (w : World) (hA : Rd w A (nums .i64 zs)) (hl : zs.length ≤ 17592186043904) :
    Calls Try.prog 64 #[.slice A zs.length c] w fun e w' => ∃ v, e = .returned v ∧ w'.ownsRow w.heap.size 2 1 v zs.length (nums .i64 zs) ∧ Below w.heap.size w w' := by
  have q := fun (w : World) => Lib.run_eql_slice_nil (P := Try.prog) w 31 2 A zs.length c 0 0 Try.underlying31
  cases A with
  | none =>
    have hz : zs = [] := by
      cases zs with
      | nil => rfl
      | cons z l => obtain ⟨b, o, h, _⟩ := hA 0 _ rfl; cases h
    subst hz
    clear q
    have q := fun (w : World) => Lib.run_eql_slice_nil (P := Try.prog) w 31 2 none 0 c 0 0 Try.underlying31
    simp only [Option.isNone_none] at q
    rw [List.length_nil]
    go_enter Try.func64, Try.ntmps64
    go_wp2
    go_ret
    exact ⟨_, rfl, World.ownsRow_nil _ _ _ _, Below.refl _ _⟩
  | some a =>
    go_enter Try.func64, Try.ntmps64
    go_wp2_with (at_builtin; refine wpList_app et_vec _ rfl (.tmp 5) (.tmp 6) rfl w.heap.size _ 0 [] rfl (own_empty w 2 1) _ zs.length c (nums .i64 zs) rfl (hA.alloc _) (by rw [nums_length]; omega) (nums_cell _ _) (by omega) (by unfold maxLen; omega) (by simp) ?_)
    intro A' c' w1 hown hb _ _
    have hb1 := ((Below.refl _ w).alloc (Nat.le_refl _) (.cells #[] 2)).trans hb
    have Hown := Lib.hid hown; have Hb1 := Lib.hid hb1; clear hown hb hb1
    go_wp2
    go_ret
    exact ⟨_, rfl, Hown.out, Hb1.out⟩

theorem vclone_any (A : Option Addr) (zs : List Int) (c : Nat) (w : World) (hA : Rd w A (nums .i64 zs)) (hl : zs.length ≤ 17592186043904) :
    Calls Try.prog 41 #[.slice A zs.length c] w fun e w' => ∃ A' c', e = .returned (.slice A' zs.length c') ∧ zs.length ≤ c' ∧ w'.ownsRow w.heap.size 2 1 (.slice A' zs.length c') zs.length (nums .i64 zs) ∧ Below w.heap.size w w' := by
  have h := sclone_any A zs c w hA hl
  go_enter Try.func41, Try.ntmps41
  go_wp2_with fail
  refine h.mono ?_
  rintro e w1 ⟨v, rfl, hown, hb⟩
  obtain ⟨A', c', rfl, hc⟩ := own_form hown
  clear h
  have Hown := Lib.hid hown; have Hb := Lib.hid hb; have Hc := Lib.hid hc; clear hown hb hc
  go_wp2
  go_ret
  exact ⟨_, _, rfl, Hc.out, Hown.out, Hb.out⟩

theorem dot_any (A B : Option Addr) (xs ys : List Int) (c d : Nat) (q : Int) (w : World) (hA : Rd w A (nums .i64 xs)) (hB : Rd w B (nums .i64 ys)) (hl : xs.length = ys.length) (hm : xs.length ≤ 17592186043904) (wx : W64 xs) (wy : W64 ys) :
    Calls Try.prog 49 #[.slice A xs.length c, .slice B ys.length d, .int .i64 q] w fun e w' => e = .returned (.tuple #[.int .i64 (dotL xs ys q), .bool true]) ∧ Below w.heap.size w w' := by
  obtain ⟨n, hn⟩ : ∃ n, ys.length = n := ⟨_, rfl⟩
  have hnx : xs.length = n := hl.trans hn
  have hd : dotL xs ys q = dotN xs ys q n := by unfold dotL; rw [hnx]
  rw [hnx, hn, hd]
  have hmn : n ≤ 17592186043904 := by omega
  have Hn := Lib.hid hn; have Hx := Lib.hid hnx; have HA := Lib.hid hA; have HB := Lib.hid hB; have WX := Lib.hid wx; have WY := Lib.hid wy; clear hn hnx hA hB wx wy hl hm hd
  go_enter Try.func49, Try.ntmps49
  go_wp2_with fail
  go_loopw [8, 18] (fun s i wr => ∃ k : Nat, k ≤ n ∧ i = .int .i64 k ∧ s = .int .i64 (dotN xs ys q k) ∧ Below w.heap.size w wr) (fun _ i _ => n - (intOf i).toNat)
  case atStart => exact ⟨0, Nat.zero_le _, rfl, rfl, Below.refl _ _⟩
  case round =>
    obtain ⟨k, hk, rfl, rfl, hW⟩ := hrel
    by_cases hlt : k < n
    · obtain ⟨b1, o1, hA1, p1⟩ := (HA.out.below hW).num (show k < xs.length by rw [Hx.out]; exact hlt)
      obtain ⟨b2, o2, hB1, p2⟩ := (HB.out.below hW).num (show k < ys.length by rw [Hn.out]; exact hlt)
      subst hA1; subst hB1
      have hm1 := fun w' => fixMul (nth xs k) (nth ys k) q w' (WX.out k (by rw [Hx.out]; exact hlt)) (WY.out k (by rw [Hn.out]; exact hlt))
      have Hm := Lib.hid hm1; have HW := Lib.hid hW; clear hm1 hW
      go_wp2_with fail
      refine (Hm.out _).mono ?_
      rintro e w3 ⟨rfl, hb3⟩
      have HB3 := Lib.hid (HW.out.trans (hb3.mono HW.out.size)); clear hb3
      go_wp2_with fail
      go_roundw
      case rel => exact ⟨k + 1, by omega, by go_num, rfl, HB3.out⟩
      case measure => simp [intOf]; omega
    · obtain rfl : k = n := by omega
      have HW := Lib.hid hW; clear hW
      go_wp2_with fail
      go_ret2
      exact ⟨rfl, HW.out⟩

/-- A number of a row of one's own. -/
theorem own_num {w : World} {base n g c : Nat} {xs : List Int} {e : TypeId} (h : w.ownsRow base e 1 (.slice (some ⟨g, 0, none⟩) n c) n (nums .i64 xs)) {k : Nat} (hk : k < n) : w.cell? ⟨g, k, none⟩ = some (.int .i64 (nth xs k)) := by
  rw [h.cellAt k (by omega)]
  have := h.1
  rw [nums_length] at this
  exact nums_get .i64 xs k (by omega)
theorem own_len {w : World} {base n : Nat} {v : Value} {xs : List Int} {e : TypeId} (h : w.ownsRow base e 1 v n (nums .i64 xs)) : xs.length = n := by
  have := h.1
  rw [nums_length] at this
  omega
theorem own_put {w : World} {base n g c : Nat} {xs : List Int} {e : TypeId} (h : w.ownsRow base e 1 (.slice (some ⟨g, 0, none⟩) n c) n (nums .i64 xs)) (k : Nat) (v : Int) :
    (w.setCell ⟨g, k, none⟩ (.int .i64 v)).ownsRow base e 1 (.slice (some ⟨g, 0, none⟩) n c) n (nums .i64 (xs.set k v)) := by
  have := (h.stored k (.int .i64 v)).1
  rwa [nums_set] at this

theorem scale_any (A : Option Addr) (xs : List Int) (c : Nat) (a q : Int) (w : World) (hA : Rd w A (nums .i64 xs)) (hm : xs.length ≤ 17592186043904) (wx : W64 xs) (ha : -9223372036854775808 ≤ a ∧ a ≤ 9223372036854775807) :
    Calls Try.prog 60 #[.slice A xs.length c, .int .i64 a, .int .i64 q] w fun e w' => ∃ A' c', e = .returned (.slice A' xs.length c') ∧ w'.ownsRow w.heap.size 2 1 (.slice A' xs.length c') xs.length (nums .i64 (scaleL xs a q)) ∧ Below w.heap.size w w' := by
  have hcl := vclone_any A xs c w hA hm
  have hall := mixed_all xs (fun k => mulQ (nth xs k) a q)
  obtain ⟨n, hn⟩ : ∃ n, xs.length = n := ⟨_, rfl⟩
  rw [hn] at hcl hm
  unfold scaleL
  rw [← hall, hn]
  have Hc := Lib.hid hcl; have WX := Lib.hid wx; have Hn := Lib.hid hn; clear hcl wx hA hall hn
  go_enter Try.func60, Try.ntmps60
  go_wp2_with fail
  refine Hc.out.mono ?_
  rintro e w1 ⟨A', c', rfl, _, hown, hb⟩
  have HO := Lib.hid hown; have HB := Lib.hid hb; clear hown hb
  go_wp2_with fail
  go_loopw [14] (fun i wr => ∃ k : Nat, k ≤ n ∧ i = .int .i64 k ∧ wr.ownsRow w.heap.size 2 1 (.slice A' n c') n (nums .i64 (mixed xs k (fun k => mulQ (nth xs k) a q))) ∧ Below w.heap.size w wr) (fun i _ => n - (intOf i).toNat)
  case atStart => exact ⟨0, Nat.zero_le _, rfl, by rw [mixed_zero]; exact HO.out, HB.out⟩
  case round =>
    obtain ⟨k, hk, rfl, hown, hW⟩ := hrel
    by_cases hlt : k < n
    · obtain ⟨g, d, hv, hg, hgl⟩ := hown.form (by omega)
      simp only [Value.slice.injEq] at hv
      obtain ⟨rfl, hx1, rfl⟩ := hv
      clear hx1
      have hkx : k < xs.length := by rw [Hn.out]; exact hlt
      have p1 := own_num hown hlt
      rw [mixed_nth _ hkx, if_neg (by omega)] at p1
      have hm1 := fun w' => fixMul (nth xs k) a q w' (WX.out k hkx) ha
      have hst := mixed_set (l := xs) (k := k) (fun k => mulQ (nth xs k) a q) hkx
      have Hm := Lib.hid hm1; have HW := Lib.hid hW; have HO2 := Lib.hid hown; have Hst := Lib.hid hst; clear hm1 hW hown hst hkx
      go_wp2_with fail
      refine (Hm.out _).mono ?_
      rintro e w3 ⟨rfl, hb3⟩
      have hown3 := own_below HO2.out hb3
      have p3 : ∃ u, w3.cell? ⟨g, k, none⟩ = some u := ⟨_, own_num hown3 hlt⟩
      obtain ⟨u3, p3⟩ := p3
      have f3 := hown3.frozenAt k
      have HO3 := Lib.hid (own_put hown3 k (mulQ (nth xs k) a q)); have HB3 := Lib.hid ((HW.out.trans (hb3.mono HW.out.size)).setCell (p := ⟨g, k, none⟩) hg (.int .i64 (mulQ (nth xs k) a q))); clear hb3 hown3
      go_wp2_with fail
      go_roundw
      case rel => exact ⟨k + 1, by omega, by go_num, by rw [← Hst.out]; exact HO3.out, HB3.out⟩
      case measure => simp [intOf]; omega
    · obtain rfl : k = n := by omega
      have HW := Lib.hid hW; have HO2 := Lib.hid hown; clear hW hown
      go_wp2_with fail
      go_ret
      exact ⟨_, _, rfl, HO2.out, HW.out⟩

theorem add_any (base : Nat) (A B : Option Addr) (xs ys : List Int) (n c d : Nat) (w : World) (hown : w.ownsRow base 2 1 (.slice A n c) n (nums .i64 xs)) (hB : Rd w B (nums .i64 ys)) (hl : ys.length = n) (hm : n ≤ 17592186043904)
    (hne : ∀ a b, A = some a → B = some b → a.block ≠ b.block) :
    Calls Try.prog 45 #[.slice A n c, .slice B n d] w fun e w' => e = .returned (.bool true) ∧ w'.ownsRow base 2 1 (.slice A n c) n (nums .i64 (addL xs ys)) ∧ Keep (fun i => (Value.slice A n c).ownBlock = some i) w w' := by
  have hxl := own_len hown
  have hall := mixed_all xs (fun k => wrap64 (nth xs k + nth ys k))
  unfold addL
  rw [← hall, hxl]
  have HO := Lib.hid hown; have HB := Lib.hid hB; have Hn := Lib.hid hxl; have Hl := Lib.hid hl; have HN := Lib.hid hne; clear hown hB hxl hl hall hne
  go_enter Try.func45, Try.ntmps45
  go_wp2_with fail
  go_loopw [13] (fun i wr => ∃ k : Nat, k ≤ n ∧ i = .int .i64 k ∧ wr.ownsRow base 2 1 (.slice A n c) n (nums .i64 (mixed xs k (fun k => wrap64 (nth xs k + nth ys k)))) ∧ Keep (fun i => (Value.slice A n c).ownBlock = some i) w wr) (fun i _ => n - (intOf i).toNat)
  case atStart => exact ⟨0, Nat.zero_le _, rfl, by rw [mixed_zero]; exact HO.out, Keep.refl _ _⟩
  case round =>
    obtain ⟨k, hk, rfl, hown, hK⟩ := hrel
    by_cases hlt : k < n
    · obtain ⟨g, e, hv, hg, hgl⟩ := hown.form (by omega)
      simp only [Value.slice.injEq] at hv
      obtain ⟨rfl, hx1, rfl⟩ := hv
      clear hx1
      have hkx : k < xs.length := by rw [Hn.out]; exact hlt
      have p1 := own_num hown hlt
      rw [mixed_nth _ hkx, if_neg (by omega)] at p1
      have f1 := hown.frozenAt k
      obtain ⟨b2, o2, rfl, p0⟩ := HB.out.num (show k < ys.length by rw [Hl.out]; exact hlt)
      have hgb : g ≠ b2 := HN.out _ _ rfl rfl
      have p2 : wr.cell? ⟨b2, o2 + k, none⟩ = some (.int .i64 (nth ys k)) := hK.cell p0 (by simp [Value.ownBlock]; exact hgb)
      have hst := mixed_set (l := xs) (k := k) (fun k => wrap64 (nth xs k + nth ys k)) hkx
      have HK := Lib.hid hK; have HO2 := Lib.hid hown; have Hst := Lib.hid hst; clear hK hown hst hkx p0
      go_wp2_with fail
      go_region
      all_goals go_wp2_with fail
      all_goals
        go_roundw
        case rel =>
          refine ⟨k + 1, by omega, by go_num, ?_, ?_⟩
          · rw [← Hst.out]; exact own_put (own_drewN HO2.out 1) k _
          · exact Keep.setCell (HK.out.drewN 1) ⟨g, k, none⟩ (.inr rfl) _
        case measure => simp [intOf]; omega
    · obtain rfl : k = n := by omega
      have HK := Lib.hid hK; have HO2 := Lib.hid hown; clear hK hown
      go_wp2_with fail
      go_ret
      exact ⟨rfl, HO2.out, HK.out⟩
end Go.Proofs.Ytfiojofcafjfeaa
