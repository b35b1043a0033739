/-
  The closed facts of AuditAsks's row,one by one.
-/
import Derived.Test.YtpbgaojjlepkcaaGreatDoorAas15
import Derived.Test.YtpbgaojjlepkcaaGreatDoorAas3
namespace Go.Proofs.YtpbgaojjlepkcaaGreatDoor
open Go.ChangeShapes Go.WideShapes Go.ChangeAt Go.RowKit
set_option maxRecDepth 100000
set_option maxHeartbeats 64000000
theorem Zky : joinedFacts Tryz.pinned.checked.prog 4 Tryz.f4 (OpenSpec.ofChange Rows.auditAsksSpec).bare Rows.auditAsksRow = true := by
 unfold joinedFacts
 repeat' (with_reducible refine Bool.and_eq_true_iff.2 ⟨?_,?_⟩)
 all_goals (as_aux_lemma => kernel_rfl)
theorem Zlc : Tryz.f4.isInstance Tryz.pinned.checked.prog Rows.auditAsksRow.origin Rows.auditAsksRow.targs := of_decide_eq_true (by kernel_rfl)
theorem Zk9 : Tryz.f4.isWrapper Tryz.pinned.checked.prog Rows.auditAsksRow.wrapper Rows.auditAsksRow.mainSum := by
 unfold Func.isWrapper; first | (rw [if_pos (by decide +kernel)]; kernel_rfl) | (rw [if_neg (by decide +kernel)]; exact ⟨rfl,rfl⟩)
end Go.Proofs.YtpbgaojjlepkcaaGreatDoor
