/- Gradient and Loss where the outputs are the wanted ones. -/
import Derived.Test.YtfiojofcafjfeaaPerfPlain
import Derived.Test.YtfiojofcafjfeaaOpnNet
import Derived.Test.YtfiojofcafjfeaaRefGr
set_option linter.unusedSimpArgs false
set_option linter.unusedVariables false
namespace Go.Proofs.Ytfiojofcafjfeaa
open Go.RowKit

/-- 'make([]T, n)' as an equation of the walk (for a make that is guarded). -/
theorem run_mk {P : Program} {t e : TypeId} {z : Value} {bytes : Nat} (T : ElemT P t e z 1 bytes) (w : World) (hzc : z.cells = #[z]) (n : Nat) (b2 : bytes * n ≤ 281474976710656) (b3 : n ≤ maxLen) :
    ∃ w', Sem.run P (Instr.makeSlice t (.int .i64 (n : Int)) (.int .i64 (n : Int))) w = .ok (.slice (some ⟨w.heap.size, 0, none⟩) n n) w' ∧ w'.ownsRow w.heap.size e 1 (.slice (some ⟨w.heap.size, 0, none⟩) n n) n (List.replicate n z) ∧ Below w.heap.size w w' := by
  obtain ⟨i, hi, hz0, hz1, hz2⟩ := T.info
  obtain ⟨w', hrun, r1, r2⟩ := run_make_full (P := P) w w.heap.size t e i z 1 T.und hi hz0 hz1 .i64 .i64 n (by rw [hz2]; exact b2) b3 (Nat.le_refl _)
  rw [hzc, Nat.mul_one, toList_madeCells_one] at r1
  exact ⟨w', hrun, r1, ⟨r2.os, r2.tape, r2.output, r2.size, fun k hk => r2.block k hk (by simp)⟩⟩

theorem grad_self (b : Nat) (sz ps : List Int) (q : Int) (A B : Option Addr) (x : List Int) (c d : Nat) (w : World) (h : NetAt 91 60 w b sz ps q) (hg : GoodSz sz) (wp : W64 ps) (hA : Rd w A (nums .i64 x)) (hx : x.length = szN sz 0) (wx : W64 x) (hB : Rd w B (nums .i64 (valL sz ps q x (sz.length - 1)))) :
    Calls Try.prog 13 #[.pointer (some ⟨b, 0, none⟩), .slice A x.length c, .slice B (szN sz (sz.length - 1)) d] w fun e w' => ∃ A' c', e = .returned (.tuple #[.slice A' (cntN sz (sz.length - 1)) c', .bool true]) ∧ Rd w' A' (nums .i64 (List.replicate (cntN sz (sz.length - 1)) 0)) ∧ Below w.heap.size w w' := by
  have hv := valL_len (sz := sz) (ps := ps) (q := q) hx (sz.length - 1)
  have h1 := grad_ok b sz ps q A B x _ c d w h hg wp hA hx wx hB hv
  rw [hv, gradL_self hx (by have := hg.1.1; omega)] at h1
  exact h1.mono fun e w' ⟨A', c', e1, e2, e3⟩ => ⟨A', c', e1, Rd.own e2, e3⟩
theorem losses_self (b : Nat) (sz ps : List Int) (q : Int) (A B : Option Addr) (x : List Int) (c d : Nat) (w : World) (h : NetAt 91 60 w b sz ps q) (hg : GoodSz sz) (wp : W64 ps) (hA : Rd w A (nums .i64 x)) (hx : x.length = szN sz 0) (wx : W64 x) (hB : Rd w B (nums .i64 (valL sz ps q x (sz.length - 1)))) :
    Calls Try.prog 21 #[.pointer (some ⟨b, 0, none⟩), .slice A x.length c, .slice B (szN sz (sz.length - 1)) d] w fun e w' => e = .returned (.tuple #[.int .i64 0, .bool true]) ∧ Below w.heap.size w w' := by
  have hv := valL_len (sz := sz) (ps := ps) (q := q) hx (sz.length - 1)
  have h1 := loss_ok b sz ps q A B x _ c d w h hg wp hA hx wx hB hv
  rw [hv, loss_self] at h1
  exact h1
theorem rgrad_self (As Ap X Y : Option Addr) (sz ps x : List Int) (cs cp cx cy : Nat) (q : Int) (w : World) (h : RNet w As Ap sz ps cs) (hX : Rd w X (nums .i64 x)) (hx : x.length = szN sz 0) (wx : W64 x) (hcx : x.length ≤ cx) (hY : Rd w Y (nums .i64 (valL sz ps q x (sz.length - 1)))) :
    Calls Try.prog 15 #[.agg #[.slice As sz.length cs, .slice Ap ps.length cp, .int .i64 q], .slice X x.length cx, .slice Y (szN sz (sz.length - 1)) cy] w fun e w' => ∃ A' c', e = .returned (.slice A' (cntN sz (sz.length - 1)) c') ∧ Rd w' A' (nums .i64 (List.replicate (cntN sz (sz.length - 1)) 0)) ∧ Below w.heap.size w w' := by
  have hv := valL_len (sz := sz) (ps := ps) (q := q) hx (sz.length - 1)
  have h1 := rgrad_any As Ap X Y sz ps x _ cs cp cx cy q w h hX hx wx hcx hY hv
  rw [hv, gradL_self hx (by have := h.hg.1.1; omega)] at h1
  exact h1
end Go.Proofs.Ytfiojofcafjfeaa
