/-
  The closed facts of TableLast's row,one by one.
-/
import Derived.Test.YtpbgaojjlepkcaaGreatDoorTba15
import Derived.Test.YtpbgaojjlepkcaaGreatDoorTba3
namespace Go.Proofs.YtpbgaojjlepkcaaGreatDoor
open Go.ChangeShapes Go.WideShapes Go.ChangeAt Go.RowKit
set_option maxRecDepth 100000
set_option maxHeartbeats 64000000
theorem Zjl : joinedFacts Tryz.pinned.checked.prog 3 Tryz.f3 (OpenSpec.ofChange Rows.tableLastSpec).bare Rows.tableLastRow = true := by
 unfold joinedFacts
 repeat' (with_reducible refine Bool.and_eq_true_iff.2 ⟨?_,?_⟩)
 all_goals (as_aux_lemma => kernel_rfl)
theorem Zku : Tryz.f3.isInstance Tryz.pinned.checked.prog Rows.tableLastRow.origin Rows.tableLastRow.targs := of_decide_eq_true (by kernel_rfl)
theorem Zkr : Tryz.f3.isWrapper Tryz.pinned.checked.prog Rows.tableLastRow.wrapper Rows.tableLastRow.mainSum := by
 unfold Func.isWrapper; first | (rw [if_pos (by decide +kernel)]; kernel_rfl) | (rw [if_neg (by decide +kernel)]; exact ⟨rfl,rfl⟩)
end Go.Proofs.YtpbgaojjlepkcaaGreatDoor
