/-
  The closed facts of ChainNil's row,one by one.
-/
import Derived.Test.YteonaddammjopaaGreatDoorChl19
import Derived.Test.YteonaddammjopaaGreatDoorChl3
namespace Go.Proofs.YteonaddammjopaaGreatDoor
open Go.ChangeShapes Go.WideShapes Go.ChangeAt Go.RowKit
set_option maxRecDepth 100000
set_option maxHeartbeats 64000000
theorem chainNil_facts : joinedFacts Tryz.pinned.checked.prog 6 Tryz.f6 (OpenSpec.ofChange Rows.chainNilSpec).bare Rows.chainNilRow = true := by
 unfold joinedFacts
 repeat' (with_reducible refine Bool.and_eq_true_iff.2 ⟨?_,?_⟩)
 all_goals (as_aux_lemma => kernel_rfl)
theorem chainNil_inst : Tryz.f6.isInstance Tryz.pinned.checked.prog Rows.chainNilRow.origin Rows.chainNilRow.targs := of_decide_eq_true (by kernel_rfl)
theorem chainNil_wrap : Tryz.f6.isWrapper Tryz.pinned.checked.prog Rows.chainNilRow.wrapper Rows.chainNilRow.mainSum := by
 unfold Func.isWrapper; first | (rw [if_pos (by decide +kernel)]; kernel_rfl) | (rw [if_neg (by decide +kernel)]; exact ⟨rfl,rfl⟩)
end Go.Proofs.YteonaddammjopaaGreatDoor
