/-
  The closed facts of ChainGrows's row,one by one.
-/
import Derived.Test.YteonaddammjopaaGreatDoorCgl19
import Derived.Test.YteonaddammjopaaGreatDoorCgl3
namespace Go.Proofs.YteonaddammjopaaGreatDoor
open Go.ChangeShapes Go.WideShapes Go.ChangeAt Go.RowKit
set_option maxRecDepth 100000
set_option maxHeartbeats 64000000
theorem Zkl : joinedFacts Tryz.pinned.checked.prog 5 Tryz.f5 (OpenSpec.ofChange Rows.chainGrowsSpec).bare Rows.chainGrowsRow = true := by
 unfold joinedFacts
 repeat' (with_reducible refine Bool.and_eq_true_iff.2 ⟨?_,?_⟩)
 all_goals (as_aux_lemma => kernel_rfl)
theorem Zl6 : Tryz.f5.isInstance Tryz.pinned.checked.prog Rows.chainGrowsRow.origin Rows.chainGrowsRow.targs := of_decide_eq_true (by kernel_rfl)
theorem Zl3 : Tryz.f5.isWrapper Tryz.pinned.checked.prog Rows.chainGrowsRow.wrapper Rows.chainGrowsRow.mainSum := by
 unfold Func.isWrapper; first | (rw [if_pos (by decide +kernel)]; kernel_rfl) | (rw [if_neg (by decide +kernel)]; exact ⟨rfl,rfl⟩)
end Go.Proofs.YteonaddammjopaaGreatDoor
