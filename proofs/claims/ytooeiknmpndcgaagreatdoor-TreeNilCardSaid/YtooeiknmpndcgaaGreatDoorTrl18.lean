/-
  Closed runs: layer 8's known.
-/
import Derived.Test.YtooeiknmpndcgaaGreatDoorTrl17
import Derived.KernelRfl
namespace Cr.Cl
open Go Go.Proofs
set_option maxRecDepth 1000000
theorem run08 : isT (evalN ctxX 100000 (.call 20 [] ⟨.nil, 0⟩)) = true := by kernel_rfl
end Cr.Cl
