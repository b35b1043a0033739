/-
  The closed facts of TreeNil's row, one by one.
-/
import Derived.Test.YtooeiknmpndcgaaGreatDoorTrl19
import Derived.Test.YtooeiknmpndcgaaGreatDoorTrl4
namespace Go.Proofs.YtooeiknmpndcgaaGreatDoor
open Go.ChangeShapes Go.WideShapes Go.ChangeAt Go.RowKit
set_option maxRecDepth 100000
set_option maxHeartbeats 64000000
theorem treeNil_facts : joinedFacts Tryz.pinned.checked.prog 4 Tryz.f4 (OpenSpec.ofChange Rows.treeNilSpec).bare Rows.treeNilRow = true := by
 unfold joinedFacts
 repeat' (with_reducible refine Bool.and_eq_true_iff.2 ⟨?_, ?_⟩)
 all_goals (as_aux_lemma => kernel_rfl)
theorem treeNil_inst : Tryz.f4.isInstance Tryz.pinned.checked.prog Rows.treeNilRow.origin Rows.treeNilRow.targs := of_decide_eq_true (by kernel_rfl)
theorem treeNil_wrap : Tryz.f4.isWrapper Tryz.pinned.checked.prog Rows.treeNilRow.wrapper Rows.treeNilRow.mainSum := by
 unfold Func.isWrapper; first | (rw [if_pos (by decide +kernel)]; kernel_rfl) | (rw [if_neg (by decide +kernel)]; exact ⟨rfl, rfl⟩)
end Go.Proofs.YtooeiknmpndcgaaGreatDoor
