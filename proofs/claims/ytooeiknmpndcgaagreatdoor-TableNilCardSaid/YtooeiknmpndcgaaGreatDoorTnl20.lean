/-
  The closed facts of TableNil's row, one by one.
-/
import Derived.Test.YtooeiknmpndcgaaGreatDoorTnl19
import Derived.Test.YtooeiknmpndcgaaGreatDoorTnl3
namespace Go.Proofs.YtooeiknmpndcgaaGreatDoor
open Go.ChangeShapes Go.WideShapes Go.ChangeAt Go.RowKit
set_option maxRecDepth 100000
set_option maxHeartbeats 64000000
theorem tableNil_facts : joinedFacts Tryz.pinned.checked.prog 3 Tryz.f3 (OpenSpec.ofChange Rows.tableNilSpec).bare Rows.tableNilRow = true := by
 unfold joinedFacts
 repeat' (with_reducible refine Bool.and_eq_true_iff.2 ⟨?_, ?_⟩)
 all_goals (as_aux_lemma => kernel_rfl)
theorem tableNil_inst : Tryz.f3.isInstance Tryz.pinned.checked.prog Rows.tableNilRow.origin Rows.tableNilRow.targs := of_decide_eq_true (by kernel_rfl)
theorem tableNil_wrap : Tryz.f3.isWrapper Tryz.pinned.checked.prog Rows.tableNilRow.wrapper Rows.tableNilRow.mainSum := by
 unfold Func.isWrapper; first | (rw [if_pos (by decide +kernel)]; kernel_rfl) | (rw [if_neg (by decide +kernel)]; exact ⟨rfl, rfl⟩)
end Go.Proofs.YtooeiknmpndcgaaGreatDoor
