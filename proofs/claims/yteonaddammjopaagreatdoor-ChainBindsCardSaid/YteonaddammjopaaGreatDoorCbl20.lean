/-
  The closed facts of ChainBinds's row,one by one.
-/
import Derived.Test.YteonaddammjopaaGreatDoorCbl19
import Derived.Test.YteonaddammjopaaGreatDoorCbl3
namespace Go.Proofs.YteonaddammjopaaGreatDoor
open Go.ChangeShapes Go.WideShapes Go.ChangeAt Go.RowKit
set_option maxRecDepth 100000
set_option maxHeartbeats 64000000
theorem Zkm : joinedFacts Tryz.pinned.checked.prog 4 Tryz.f4 (OpenSpec.ofChange Rows.chainBindsSpec).bare Rows.chainBindsRow = true := by
 unfold joinedFacts
 repeat' (with_reducible refine Bool.and_eq_true_iff.2 ⟨?_,?_⟩)
 all_goals (as_aux_lemma => kernel_rfl)
theorem Zl6 : Tryz.f4.isInstance Tryz.pinned.checked.prog Rows.chainBindsRow.origin Rows.chainBindsRow.targs := of_decide_eq_true (by kernel_rfl)
theorem Zl3 : Tryz.f4.isWrapper Tryz.pinned.checked.prog Rows.chainBindsRow.wrapper Rows.chainBindsRow.mainSum := by
 unfold Func.isWrapper; first | (rw [if_pos (by decide +kernel)]; kernel_rfl) | (rw [if_neg (by decide +kernel)]; exact ⟨rfl,rfl⟩)
end Go.Proofs.YteonaddammjopaaGreatDoor
