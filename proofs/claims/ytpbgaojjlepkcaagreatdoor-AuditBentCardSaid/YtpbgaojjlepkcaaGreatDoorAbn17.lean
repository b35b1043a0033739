/-
  The closed facts of AuditBent's row,one by one.
-/
import Derived.Test.YtpbgaojjlepkcaaGreatDoorAbn16
import Derived.Test.YtpbgaojjlepkcaaGreatDoorAbn3
namespace Go.Proofs.YtpbgaojjlepkcaaGreatDoor
open Go.ChangeShapes Go.WideShapes Go.ChangeAt Go.RowKit
set_option maxRecDepth 100000
set_option maxHeartbeats 64000000
theorem Zlg : joinedFacts Tryz.pinned.checked.prog 5 Tryz.f5 (OpenSpec.ofChange Rows.auditBentSpec).bare Rows.auditBentRow = true := by
 unfold joinedFacts
 repeat' (with_reducible refine Bool.and_eq_true_iff.2 ⟨?_,?_⟩)
 all_goals (as_aux_lemma => kernel_rfl)
theorem Zlv : Tryz.f5.isInstance Tryz.pinned.checked.prog Rows.auditBentRow.origin Rows.auditBentRow.targs := of_decide_eq_true (by kernel_rfl)
theorem Zls : Tryz.f5.isWrapper Tryz.pinned.checked.prog Rows.auditBentRow.wrapper Rows.auditBentRow.mainSum := by
 unfold Func.isWrapper; first | (rw [if_pos (by decide +kernel)]; kernel_rfl) | (rw [if_neg (by decide +kernel)]; exact ⟨rfl,rfl⟩)
end Go.Proofs.YtpbgaojjlepkcaaGreatDoor
