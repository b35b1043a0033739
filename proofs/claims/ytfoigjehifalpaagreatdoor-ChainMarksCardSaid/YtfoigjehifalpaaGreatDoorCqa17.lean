/-
  The closed facts of ChainMarks's row,one by one.
-/
import Derived.Test.YtfoigjehifalpaaGreatDoorCqa16
import Derived.Test.YtfoigjehifalpaaGreatDoorCqa3
namespace Go.Proofs.YtfoigjehifalpaaGreatDoor
open Go.ChangeShapes Go.WideShapes Go.ChangeAt Go.RowKit
set_option maxRecDepth 100000
set_option maxHeartbeats 64000000
theorem Zj3 : joinedFacts Tryz.pinned.checked.prog 4 Tryz.f4 (OpenSpec.ofChange Rows.chainMarksSpec).bare Rows.chainMarksRow = true := by
 unfold joinedFacts
 repeat' (with_reducible refine Bool.and_eq_true_iff.2 ⟨?_,?_⟩)
 all_goals (as_aux_lemma => kernel_rfl)
theorem Zls : Tryz.f4.isInstance Tryz.pinned.checked.prog Rows.chainMarksRow.origin Rows.chainMarksRow.targs := of_decide_eq_true (by kernel_rfl)
theorem Zlp : Tryz.f4.isWrapper Tryz.pinned.checked.prog Rows.chainMarksRow.wrapper Rows.chainMarksRow.mainSum := by
 unfold Func.isWrapper; first | (rw [if_pos (by decide +kernel)]; kernel_rfl) | (rw [if_neg (by decide +kernel)]; exact ⟨rfl,rfl⟩)
end Go.Proofs.YtfoigjehifalpaaGreatDoor
