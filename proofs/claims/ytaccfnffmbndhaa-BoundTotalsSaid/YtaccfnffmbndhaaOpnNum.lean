/- Slices of numbers that came in. -/
import Derived.Test.YtaccfnffmbndhaaProg
import Derived.Test.YtaccfnffmbndhaaVecPlain
import Derived.Test.YtaccfnffmbndhaaOpn
set_option linter.unusedSimpArgs false
set_option linter.unusedVariables false
namespace Go.Proofs.Ytaccfnffmbndhaa
open Go.RowKit Go.ChangeShapes Go.WideShapes Go.ChangeAt

theorem opens_i : Opens Try.prog 3 1 (rInt .i64) := opens_int Try.underlying3 (by kernel_rfl)
theorem opens_ints : Opens Try.prog 22 1 (rNums .i64) := opens_nums Try.underlying22 Try.underlying3 (by kernel_rfl) (by kernel_rfl) (by kernel_rfl)
set_option maxRecDepth 100000 in
theorem wf_W64 {l : List Int} (h : ∀ z ∈ l, (Lit.int .i64 z).wf = true) : W64 l := fun k hk => by
  have := h _ (nth_mem hk)
  simpa [Lit.wf, IntKind.min, IntKind.max, IntKind.signed, IntKind.bits] using this

/-- A slice of numbers that came in. -/
structure NumsIn (w : World) (A : Option Addr) (l : List Int) (c : Nat) : Prop where
  hc : l.length ≤ c
  hm : c ≤ 9223372036854775807
  hl : l.length ≤ 17592186043904
  hr : Rd w A (nums .i64 l)
  hw : W64 l
end Go.Proofs.Ytaccfnffmbndhaa
