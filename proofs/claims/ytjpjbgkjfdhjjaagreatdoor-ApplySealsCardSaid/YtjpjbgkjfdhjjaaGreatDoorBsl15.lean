/-
  The closed facts of ApplySeals's row,one by one.
-/
import Derived.Test.YtjpjbgkjfdhjjaaGreatDoorBsl14
import Derived.Test.YtjpjbgkjfdhjjaaGreatDoorBsl3
namespace Go.Proofs.YtjpjbgkjfdhjjaaGreatDoor
open Go.ChangeShapes Go.WideShapes Go.ChangeAt Go.RowKit
set_option maxRecDepth 100000
set_option maxHeartbeats 64000000
theorem Zjh : joinedFacts Tryz.pinned.checked.prog 4 Tryz.f4 (OpenSpec.ofChange Rows.applySealsSpec).bare Rows.applySealsRow = true := by
 unfold joinedFacts
 repeat' (with_reducible refine Bool.and_eq_true_iff.2 ⟨?_,?_⟩)
 all_goals (as_aux_lemma => kernel_rfl)
theorem Zk4 : Tryz.f4.isInstance Tryz.pinned.checked.prog Rows.applySealsRow.origin Rows.applySealsRow.targs := of_decide_eq_true (by kernel_rfl)
theorem Zk1 : Tryz.f4.isWrapper Tryz.pinned.checked.prog Rows.applySealsRow.wrapper Rows.applySealsRow.mainSum := by
 unfold Func.isWrapper; first | (rw [if_pos (by decide +kernel)]; kernel_rfl) | (rw [if_neg (by decide +kernel)]; exact ⟨rfl,rfl⟩)
end Go.Proofs.YtjpjbgkjfdhjjaaGreatDoor
