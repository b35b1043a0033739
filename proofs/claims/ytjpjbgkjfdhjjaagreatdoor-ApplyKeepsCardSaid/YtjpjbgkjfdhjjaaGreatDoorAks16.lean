/-
  The closed facts of ApplyKeeps's row,one by one.
-/
import Derived.Test.YtjpjbgkjfdhjjaaGreatDoorAks15
import Derived.Test.YtjpjbgkjfdhjjaaGreatDoorAks3
namespace Go.Proofs.YtjpjbgkjfdhjjaaGreatDoor
open Go.ChangeShapes Go.WideShapes Go.ChangeAt Go.RowKit
set_option maxRecDepth 100000
set_option maxHeartbeats 64000000
theorem Zi1 : joinedFacts Tryz.pinned.checked.prog 3 Tryz.f3 (OpenSpec.ofChange Rows.applyKeepsSpec).bare Rows.applyKeepsRow = true := by
 unfold joinedFacts
 repeat' (with_reducible refine Bool.and_eq_true_iff.2 ⟨?_,?_⟩)
 all_goals (as_aux_lemma => kernel_rfl)
theorem Zkt : Tryz.f3.isInstance Tryz.pinned.checked.prog Rows.applyKeepsRow.origin Rows.applyKeepsRow.targs := of_decide_eq_true (by kernel_rfl)
theorem Zkq : Tryz.f3.isWrapper Tryz.pinned.checked.prog Rows.applyKeepsRow.wrapper Rows.applyKeepsRow.mainSum := by
 unfold Func.isWrapper; first | (rw [if_pos (by decide +kernel)]; kernel_rfl) | (rw [if_neg (by decide +kernel)]; exact ⟨rfl,rfl⟩)
end Go.Proofs.YtjpjbgkjfdhjjaaGreatDoor
