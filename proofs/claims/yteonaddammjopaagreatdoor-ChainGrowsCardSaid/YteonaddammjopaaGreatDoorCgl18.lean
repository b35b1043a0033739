/-
  Closed runs: layer 11's known.
-/
import Derived.Test.YteonaddammjopaaGreatDoorCgl17
import Derived.KernelRfl
namespace Cr.Cl
open Go Go.Proofs
set_option maxRecDepth 1000000
theorem run11 : isT (evalC ctxD 1000000 (.call 15 [] ⟨.nil,0⟩)) = true := by kernel_rfl
end Cr.Cl
