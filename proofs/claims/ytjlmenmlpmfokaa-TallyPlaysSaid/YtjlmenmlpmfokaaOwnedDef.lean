/- What an owner writes: numbers that are no NaN. No condition. -/
import Derived.Test.YtjlmenmlpmfokaaStepK
import Derived.KernelRfl
namespace Go.Proofs.Ytjlmenmlpmfokaa
open Go Sx Fl Ty
set_option linter.unusedVariables false
set_option linter.unusedSimpArgs false

/-- The number that a small index becomes. -/
def fI (i : Nat) : Nat := FloatKind.f64.nearest (i : Int)
theorem fI_all : ((List.range 4096).all fun i => !isNaN (fI i)) = true := by kernel_rfl
theorem fI_num {i : Nat} (h : i < 4096) : isNaN (fI i) = false := by
  have := List.all_eq_true.1 fI_all i (List.mem_range.2 h)
  simpa using this
theorem fI_eq {i : Nat} (h : i < 4096) : (FloatKind.f64.format.order (fI i) (fI i) != some .eq) = false := by rw [order_self, fI_num h]
end Go.Proofs.Ytjlmenmlpmfokaa
