/- slices.Collect at the iterator of bucket.later. -/
import Derived.Test.YtaccfnffmbndhaaLater
set_option linter.unusedSimpArgs false
set_option linter.unusedVariables false
namespace Go.Proofs.Ytaccfnffmbndhaa
open Go.RowKit Go.Shelf
attribute [local go_sem] Oper.semAt_some

theorem rgVals_snoc (l : List Rg) (x : Rg) : rgVals (l ++ [x]) = rgVals l ++ [.int .i64 (x.1 : Int), .int .i64 (x.2 : Int)] := by simp [rgVals]

set_option maxRecDepth 100000 in
set_option maxHeartbeats 2000000 in
theorem aseq_any (L S B : Nat) (A : Option Addr) (rs : List Rg) (c d : Nat) (w : World) (hA : LatAt w L S B A rs c d 100) (hB : LatB 0 w.heap.size L S B A) (hlen : rs.length ≤ 1048576) (hd : d ≤ 1048576) (hrs : ∀ r ∈ rs, r.1 ≤ 1048576 ∧ r.2 ≤ 1048576) :
    Calls Try.prog 66 #[.slice none 0 0, .func (.func 49) #[] #[.pointer (some ⟨L, 0, none⟩), .pointer (some ⟨S, 0, none⟩)]] w fun e w' => ∃ v, e = .returned v ∧ w'.ownsRow w.heap.size 54 2 v rs.length (rgVals (shR d rs)) ∧ Below w.heap.size w w' := by
  have hst := fun n => later_stops n 0 w.heap.size L S B A rs c d w hA hB hlen hd hrs
  have Hst := Lib.hid hst
  clear hst
  refine (callsIn_wide (n := 3)).1 ?_
  refine callsIn_of_wp_marks Try.func66 rfl trivial ?_ rfl
  simp only [Try.ntmps66, List.size_toArray, List.length_cons, List.length_nil, Nat.reduceAdd, Nat.reduceSub, Array.replicate_succ, Array.replicate_zero, List.push_toArray, List.append_toArray, List.nil_append, List.cons_append]
  gi_wp2_with fail
  have hb0 : Below w.heap.size w (w.alloc (.cells #[.slice none 0 0] 45)) := (Below.refl _ w).alloc (Nat.le_refl _) _
  refine' wpIn_rangeFunc_ownH (F := Fence.wide) (n := 3) rfl (by omega) (gf := 49) (lb := #[.pointer (some ⟨L, 0, none⟩), .pointer (some ⟨S, 0, none⟩)]) rfl trivial (enters_of Try.func49 (by kernel_rfl) rfl)
    (Hst.out _) Kd.trans (kd_b hb0.size) hb0 (fun _ => rfl)
    (fun (pre : List Rg) W => (∃ v, Boxed W w.heap.size 45 v ∧ W.ownsRow w.heap.size 54 2 v pre.length (rgVals pre) ∧ True) ∧ Below w.heap.size w W)
    (fun _ _ _ => False)
    (OwnFrom.and (Own.from (holdsRow_own w.heap.size w.heap.size 45 54 2 (fun pre : List Rg => pre.length) (fun pre => rgVals pre) (fun _ _ => True)) _) (ownFrom_below (Nat.le_refl _) hb0.size))
    (fun _ _ _ _ _ hs _ _ => hs)
    ⟨⟨_, Boxed.new w 45 (.slice none 0 0), World.ownsRow_nil _ _ _ _, trivial⟩, hb0⟩
    (fun (x : Rg) a' W => ∃ b, a' = { tmps := #[.slice none 0 0, .func (.func 49) #[] #[.pointer (some ⟨L, 0, none⟩), .pointer (some ⟨S, 0, none⟩)], .pointer (some ⟨w.heap.size, 0, none⟩), undef, .slice none 0 0, .pointer (some ⟨b, 0, none⟩), .func (.func 49) #[] #[.pointer (some ⟨L, 0, none⟩), .pointer (some ⟨S, 0, none⟩)], .agg #[.int .i64 (x.1 : Int), .int .i64 (x.2 : Int)], undef, undef, undef, undef, undef], defers := [] } ∧ W.heap[b]? = some (.cells #[.int .i64 (x.1 : Int), .int .i64 (x.2 : Int)] 54 (0, 0)))
    (fun x a' _ W W' row h hg hr => by obtain ⟨b, e, hb⟩ := h; exact ⟨b, e, ownFrom_block _ b _ rfl () W W' row hb hg hr⟩)
    ?assign ?body ?done ?stop
  case assign =>
    rintro l pre x W K ⟨⟨v, hv, hrow, _⟩, hBl⟩ hK
    unfold rgEnc
    have qa : Below W.heap.size W (W.alloc (.cells #[.int .i64 (x.1 : Int), .int .i64 (x.2 : Int)] 54)) := (Below.refl _ W).alloc (Nat.le_refl _) _
    gi_wp2
    refine hK _ _ ((KeepsOthers.of_grownBy (row := none) (grown_none qa) (fun _ _ h => by cases h)).from _) (kd_below (qa.mono hBl.size)) ⟨⟨v, hv.alloc _, hrow.alloc _, trivial⟩, hBl.trans (qa.mono hBl.size)⟩ ⟨_, rfl, heap_alloc_new _ _⟩
  case body =>
    rintro l pre x a' W _ _ ⟨⟨v, hv, hrow, _⟩, hBl⟩ ⟨b, rfl, hb⟩ hlt
    have hc := hv.cell
    have hW := hBl.size
    have hlc := lt_of_cell hc
    have xb := bx2 hb
    have lb := lt_of_block hb
    have qa : Below W.heap.size W (W.alloc (.cells #[.int .i64 (x.1 : Int), .int .i64 (x.2 : Int)] 54)) := (Below.refl _ W).alloc (Nat.le_refl _) _
    have Hv := Lib.hid hv; have Hrow := Lib.hid hrow; have HBl := Lib.hid hBl; have Hlt := Lib.hid hlt; have HW := Lib.hid hW; clear hv hrow hBl hlt hW hb
    gi_wp2_with (gi_at_builtin; refine wpListIn_push et_rngs W rfl (.tmp 8) (.tmp 10) rfl w.heap.size w.heap.size v pre.length _ rfl Hv.out (by decide) Hrow.out [.int .i64 (x.1 : Int), .int .i64 (x.2 : Int)] rfl rfl (by simp [Value.oneCell']) (by have := Hlt.out; omega) (by have := Hlt.out; unfold maxLen; omega) HW.out (Nat.le_refl _) ?_)
    intro g1 c1 w1 k1 k2 k3 k4 k5 k6
    have hc1 := k1.cell; have hf1 := k1.frozen
    have K2 := Lib.hid k2; have K3 := Lib.hid k3; have K4 := Lib.hid k4; have K5 := Lib.hid k5; clear k1 k2 k3 k4 k5 k6 hc xb
    gi_wp2_with fail
    exact ⟨K4.out.from _, kd_below K5.out, ⟨⟨_, K2.out, by rw [List.length_append, rgVals_snoc]; exact K3.out, trivial⟩, HBl.out.trans K5.out⟩⟩
  case done =>
    rintro D ys W hD rfl ⟨⟨v, hv, hrow, _⟩, hBl⟩ hK
    have hc := hv.cell
    gi_wp2
    refine ⟨by simp, .inl ⟨_, _, rfl, run_takeDeferred hK, ?_⟩⟩
    rw [shR_len] at hrow
    refine ⟨v, by simp [results, Try.results66, go_sem], v, rfl, ownsRow_putObj hrow _ hK rfl, hBl.trans (belowK_b (w := w) (Nat.le_refl _) W D _ _ (by simp at hD; omega) hK rfl rfl)⟩
  case stop =>
    rintro D c pre W _ _ h _
    exact h.elim

theorem coll_any (L S B : Nat) (A : Option Addr) (rs : List Rg) (c d : Nat) (w : World) (hA : LatAt w L S B A rs c d 100) (hB : LatB 0 w.heap.size L S B A) (hlen : rs.length ≤ 1048576) (hd : d ≤ 1048576) (hrs : ∀ r ∈ rs, r.1 ≤ 1048576 ∧ r.2 ≤ 1048576) :
    Calls Try.prog 63 #[.func (.func 49) #[] #[.pointer (some ⟨L, 0, none⟩), .pointer (some ⟨S, 0, none⟩)]] w fun e w' => ∃ v, e = .returned v ∧ w'.ownsRow w.heap.size 54 2 v rs.length (rgVals (shR d rs)) ∧ Below w.heap.size w w' := by
  have h := aseq_any L S B A rs c d w hA hB hlen hd hrs
  have H := Lib.hid h
  clear h hA hB hlen hd hrs
  go_enter Try.func63, Try.ntmps63
  go_wp2_with fail
  refine H.out.mono ?_
  rintro e w1 ⟨v, rfl, o1, k1⟩
  have O1 := Lib.hid o1
  clear o1
  go_wp2_with fail
  go_ret
  exact ⟨_, rfl, O1.out, k1⟩
end Go.Proofs.Ytaccfnffmbndhaa
