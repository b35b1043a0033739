/-
  The closed facts of InodeNil's row, one by one.
-/
import Derived.Test.YtfcnoebnnglfkaaGreatDoorInd5
import Derived.Test.YtfcnoebnnglfkaaGreatDoorInd4
namespace Go.Proofs.YtfcnoebnnglfkaaGreatDoor
open Go.ChangeShapes Go.WideShapes Go.ChangeAt Go.RowKit
set_option maxRecDepth 100000
set_option maxHeartbeats 64000000
theorem inodeNil_facts : joinedFacts Tryz.pinned.checked.prog 4 Tryz.f4 (OpenSpec.ofChange Rows.inodeNilSpec).bare Rows.inodeNilRow = true := by
  unfold joinedFacts
  repeat' (with_reducible refine Bool.and_eq_true_iff.2 ⟨?_, ?_⟩)
  all_goals (as_aux_lemma => kernel_rfl)
theorem inodeNil_inst : Tryz.f4.isInstance Tryz.pinned.checked.prog Rows.inodeNilRow.origin Rows.inodeNilRow.targs := of_decide_eq_true (by kernel_rfl)
theorem inodeNil_wrap : Tryz.f4.isWrapper Tryz.pinned.checked.prog Rows.inodeNilRow.wrapper Rows.inodeNilRow.mainSum := by
  unfold Func.isWrapper; first | (rw [if_pos (by decide +kernel)]; kernel_rfl) | (rw [if_neg (by decide +kernel)]; exact ⟨rfl, rfl⟩)
end Go.Proofs.YtfcnoebnnglfkaaGreatDoor
