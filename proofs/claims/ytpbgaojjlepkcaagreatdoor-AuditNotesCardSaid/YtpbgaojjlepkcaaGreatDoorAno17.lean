/-
  The closed facts of AuditNotes's row,one by one.
-/
import Derived.Test.YtpbgaojjlepkcaaGreatDoorAno16
import Derived.Test.YtpbgaojjlepkcaaGreatDoorAno3
namespace Go.Proofs.YtpbgaojjlepkcaaGreatDoor
open Go.ChangeShapes Go.WideShapes Go.ChangeAt Go.RowKit
set_option maxRecDepth 100000
set_option maxHeartbeats 64000000
theorem Zjp : joinedFacts Tryz.pinned.checked.prog 6 Tryz.f6 (OpenSpec.ofChange Rows.auditNotesSpec).bare Rows.auditNotesRow = true := by
 unfold joinedFacts
 repeat' (with_reducible refine Bool.and_eq_true_iff.2 ⟨?_,?_⟩)
 all_goals (as_aux_lemma => kernel_rfl)
theorem Zlh : Tryz.f6.isInstance Tryz.pinned.checked.prog Rows.auditNotesRow.origin Rows.auditNotesRow.targs := of_decide_eq_true (by kernel_rfl)
theorem Zle : Tryz.f6.isWrapper Tryz.pinned.checked.prog Rows.auditNotesRow.wrapper Rows.auditNotesRow.mainSum := by
 unfold Func.isWrapper; first | (rw [if_pos (by decide +kernel)]; kernel_rfl) | (rw [if_neg (by decide +kernel)]; exact ⟨rfl,rfl⟩)
end Go.Proofs.YtpbgaojjlepkcaaGreatDoor
