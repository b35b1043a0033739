/-
  The closed facts of ChainAdds's row,one by one.
-/
import Derived.Test.YtfoigjehifalpaaGreatDoorCda15
import Derived.Test.YtfoigjehifalpaaGreatDoorCda3
namespace Go.Proofs.YtfoigjehifalpaaGreatDoor
open Go.ChangeShapes Go.WideShapes Go.ChangeAt Go.RowKit
set_option maxRecDepth 100000
set_option maxHeartbeats 64000000
theorem Zko : joinedFacts Tryz.pinned.checked.prog 5 Tryz.f5 (OpenSpec.ofChange Rows.chainAddsSpec).bare Rows.chainAddsRow = true := by
 unfold joinedFacts
 repeat' (with_reducible refine Bool.and_eq_true_iff.2 ⟨?_,?_⟩)
 all_goals (as_aux_lemma => kernel_rfl)
theorem Zk7 : Tryz.f5.isInstance Tryz.pinned.checked.prog Rows.chainAddsRow.origin Rows.chainAddsRow.targs := of_decide_eq_true (by kernel_rfl)
theorem Zk4 : Tryz.f5.isWrapper Tryz.pinned.checked.prog Rows.chainAddsRow.wrapper Rows.chainAddsRow.mainSum := by
 unfold Func.isWrapper; first | (rw [if_pos (by decide +kernel)]; kernel_rfl) | (rw [if_neg (by decide +kernel)]; exact ⟨rfl,rfl⟩)
end Go.Proofs.YtfoigjehifalpaaGreatDoor
