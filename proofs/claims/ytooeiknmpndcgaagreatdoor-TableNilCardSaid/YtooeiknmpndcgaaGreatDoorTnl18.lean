/-
  Closed runs: layer 9's known.
-/
import Derived.Test.YtooeiknmpndcgaaGreatDoorTnl17
import Derived.KernelRfl
namespace Cr.Cl
open Go Go.Proofs
set_option maxRecDepth 1000000
theorem run09 : isT (evalN ctx 100000 (.call 10 [] ⟨.nil, 0⟩)) = true := by kernel_rfl
end Cr.Cl
