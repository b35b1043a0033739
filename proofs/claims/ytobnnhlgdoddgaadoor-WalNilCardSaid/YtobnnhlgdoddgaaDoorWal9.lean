/-
  Layer 4 (wal): clear; Once.Do.
-/
import Derived.Test.YtobnnhlgdoddgaaDoorWal8
namespace Cr
open Go Go.Proofs
set_option maxRecDepth 100000
set_option maxHeartbeats 4000000
attribute [local irreducible] Calls

/-! ### clear -/
def zeros64 : List UInt8 := List.replicate 64 0
def clearM (D : DiskM) (number : Int) : Int × DiskM :=
  if ¬ (D.read 1).1 = 0 then ((D.read 1).1, D) else if ¬ smallN ((D.read 1).2.take 8) = number then (0, D) else stepF (stepW (0, D) 1 zeros64)
theorem clear_ (lp p : Nat) (o s m : Int) (j : Nat) (done : Int) (rdn : Bool) (D : DiskM) (number : Int) (W : World) (F : Nat → Prop) (hline : D.line.length < 1073741820) (hS : St W F [logAt lp p o s m j done rdn, disk p D] W) :
    Calls Tryd.prog 36 #[.pointer (some ⟨lp, 0, none⟩), .int .i64 number] W (Ret fun v w => v = .int .i64 (clearM D number).1 ∧ St W F [logAt lp p o s m j done rdn, disk p (clearM D number).2] w) := by
  have hok := (hS.rd (List.mem_cons_of_mem _ (List.mem_cons_self ..)) : Rd W (disk p D)).disk.1
  have h64 := fun (h : (D.read 1).1 = 0) => read_64 hok h
  have e : clearM D number = if ¬ (D.read 1).1 = 0 then ((D.read 1).1, D) else if ¬ smallN ((D.read 1).2.take 8) = number then (0, D) else stepF (stepW (0, D) 1 zeros64) := rfl
  refine calls_C Tryd.func36 rfl Tryd.ntmps36 rfl ?_
  repeat (first | (refine G_id ?_; first | refine G_nil ?_ | refine G_plain rfl rfl ?_) | (refine X_id ?_; first | refine X_yl (Yl_move rfl rfl) rfl rfl ?_ | refine X_yl (Yl_assign rfl rfl) rfl rfl ?_ | refine X_yl (Yl_nilCheck rfl rfl) rfl rfl ?_ | refine X_yl (Yl_fieldAddr0 rfl rfl rfl) rfl rfl ?_ | refine X_yl (Yl_load rfl rfl hS.cell) rfl rfl ?_) | (refine C_id ?_; first | refine C_seq ?_ | refine C_region ?_) | (refine E_id ?_; first | refine E_code ?_))
  refine X_callg _ rfl rfl rfl rfl rfl (read_ p D 1 _ (hS.rd (List.mem_cons_of_mem _ (List.mem_cons_self ..))) (by omega)) ?_
  rintro _ w ⟨a, ca, rfl, hca, hS'⟩
  replace hS := hS.plus hS'
  clear hS'
  generalize D.read 1 = ra at h64 hca hS e ⊢
  obtain ⟨ea, la⟩ := ra
  simp only at h64 hca hS e ⊢
  by_cases hea : ea = 0
  · subst hea
    have hla := h64 rfl
    rw [if_neg (by simp)] at e
    obtain ⟨ab, ao, rfl⟩ := (hS.rd (List.mem_cons_self ..)).base (by intro e; have := bv_length la; rw [e] at this; simp at this; omega)
    have hsm : ∀ w', Rd w' (bytes (some ⟨ab, ao, none⟩) la) → Calls Tryd.prog 50 #[.slice (some ⟨ab, ao, none⟩) 8 ca] w' (Ret fun v w'' => v = .int .i64 (smallN (la.take 8)) ∧ w' = w'') := fun w' h => by
      have := small_sub ab ao 0 8 ca la w' h (by omega) (by omega) (by omega) (by omega)
      simpa using this
    repeat (first | (refine G_id ?_; first | refine G_nil ?_ | refine G_plain rfl rfl ?_ | refine G_yes rfl rfl rfl rfl ?_) | (refine X_id ?_; first | refine X_yl (Yl_move rfl rfl) rfl rfl ?_ | refine X_yl (Yl_assign rfl rfl) rfl rfl ?_ | refine X_yl (Yl_extract rfl rfl) rfl rfl ?_ | refine X_yl (Yl_neq_f rfl rfl rfl (by omega)) rfl rfl ?_) | (refine C_id ?_; first | refine C_seq ?_ | refine C_region ?_) | (refine E_id ?_; first | refine E_code ?_))
    refine X_yl (Yl_slice (l := 0) (h := 8) rfl rfl rfl rfl (.inr ⟨_, _, rfl, by omega, by omega, by omega⟩) (.inl ⟨rfl, rfl⟩)) rfl rfl ?_
    rw [sub_zero, Nat.sub_zero, Nat.sub_zero]
    generalize smallN (la.take 8) = n at hsm e
    by_cases hn : n = number
    · subst hn
      rw [if_neg (by simp)] at e
      repeat (first | (refine G_id ?_; first | refine G_nil ?_ | refine G_plain rfl rfl ?_ | refine G_yes rfl rfl rfl rfl ?_) | (refine X_id ?_; first | (refine X_callg 50 rfl rfl rfl rfl rfl (hsm _ (hS.rd (List.mem_cons_self ..))) ?_; rintro _ _ ⟨rfl, rfl⟩) | refine X_yl (Yl_move rfl rfl) rfl rfl ?_ | refine X_yl (Yl_assign rfl rfl) rfl rfl ?_ | refine X_yl (Yl_nilCheck rfl rfl) rfl rfl ?_ | refine X_yl (Yl_fieldAddr0 rfl rfl rfl) rfl rfl ?_ | refine X_yl (Yl_pick_f rfl rfl rfl) rfl rfl ?_ | refine X_yl (Yl_neq_f rfl rfl rfl (by omega)) rfl rfl ?_ | refine X_yl (Yl_build rfl rfl rfl) rfl rfl ?_ | refine X_yl (Yl_load rfl rfl hS.cell) rfl rfl ?_ | refine X_box rfl rfl rfl rfl hS (fun _ _ hS _ => ?_)) | (refine C_id ?_; first | refine C_seq ?_ | refine C_region ?_ | refine C_skip ?_ | refine C_cond_f rfl ?_) | (refine E_id ?_; first | refine E_code ?_))
      rename_i sp _ _
      refine X_makeB (c := 64) rfl rfl rfl (by omega) (by omega) rfl rfl hS (fun zb _ hS => ?_)
      repeat (first | (refine G_id ?_; first | refine G_plain rfl rfl ?_))
      obtain ⟨_, hc, hr, hw, hbk⟩ := hS.call [false, true, false, false, true]
      refine X_callg _ rfl rfl rfl rfl rfl (swrite_ sp p (0, D) 1 _ 64 64 zeros64 _ _ hc ((hr _ (List.mem_cons_self ..)).mono fun h hh => ⟨h, row_pts h hh, fun _ _ e => e⟩) rfl (by simp only; omega)) ?_
      rintro _ w ⟨_, hS⟩
      replace hS := hbk hS
      clear hc hr hw hbk
      have hl := stepW_line (0, D) 1 zeros64
      simp only at hl
      repeat (first | (refine G_id ?_; first | refine G_nil ?_ | refine G_plain rfl rfl ?_) | (refine X_id ?_; first | refine X_yl (Yl_move rfl rfl) rfl rfl ?_) | (refine C_id ?_; first | refine C_seq ?_ | refine C_region ?_) | (refine E_id ?_; first | refine E_code ?_))
      obtain ⟨_, hc, hr, hw, hbk⟩ := hS.call [true, true, false, false, false]
      refine X_callg _ rfl rfl rfl rfl rfl (sflush_ sp p (stepW (0, D) 1 zeros64) _ _ hc (by omega)) ?_
      rintro _ w ⟨_, hS⟩
      replace hS := hbk hS
      clear hc hr hw hbk
      rw [e]
      generalize stepF (stepW (0, D) 1 zeros64) = Y at hS ⊢
      repeat (first | (refine G_id ?_; first | refine G_nil ?_ | refine G_plain rfl rfl ?_) | (refine X_id ?_; first | refine X_yl (Yl_move rfl rfl) rfl rfl ?_ | refine X_yl (Yl_assign rfl rfl) rfl rfl ?_ | refine X_yl (Yl_nilCheck rfl rfl) rfl rfl ?_ | refine X_yl (Yl_fieldAddr0 rfl rfl rfl) rfl rfl ?_ | refine X_yl (Yl_load rfl rfl hS.cell) rfl rfl ?_) | (refine C_id ?_; first | refine C_seq ?_ | refine C_region ?_ | refine C_ret ?_) | (refine E_id ?_; first | refine E_code ?_ | refine E_ret1 rfl (Rv_tmp rfl) (Ret.mk ?_)))
      refine ⟨rfl, ?_⟩
      have hS := hS.pick [4, 1]
      exact hS
    · rw [if_pos hn] at e
      repeat (first | (refine G_id ?_; first | refine G_nil ?_ | refine G_plain rfl rfl ?_ | refine G_yes rfl rfl rfl rfl ?_) | (refine X_id ?_; first | (refine X_callg 50 rfl rfl rfl rfl rfl (hsm _ (hS.rd (List.mem_cons_self ..))) ?_; rintro _ _ ⟨rfl, rfl⟩) | refine X_yl (Yl_move rfl rfl) rfl rfl ?_ | refine X_yl (Yl_assign rfl rfl) rfl rfl ?_ | refine X_yl (Yl_pick_f rfl rfl rfl) rfl rfl ?_ | refine X_yl (Yl_neq_t rfl rfl rfl (by omega)) rfl rfl ?_) | (refine C_id ?_; first | refine C_seq ?_ | refine C_region ?_ | refine C_ret ?_ | refine C_cond_t rfl ?_) | (refine E_id ?_; first | refine E_code ?_ | refine E_then_ret ?_ | refine E_ret1 rfl (Rv_tmp rfl) (Ret.mk ?_)))
      rw [e]
      exact ⟨rfl, hS.pick [1, 1]⟩
  · rw [if_pos hea] at e
    repeat (first | (refine G_id ?_; first | refine G_nil ?_ | refine G_plain rfl rfl ?_ | refine G_no rfl rfl rfl rfl rfl rfl ?_) | (refine X_id ?_; first | refine X_yl (Yl_move rfl rfl) rfl rfl ?_ | refine X_yl (Yl_assign rfl rfl) rfl rfl ?_ | refine X_yl (Yl_extract rfl rfl) rfl rfl ?_ | refine X_yl (Yl_pick_t rfl rfl rfl) rfl rfl ?_ | refine X_yl (Yl_neq_t rfl rfl rfl (by omega)) rfl rfl ?_) | (refine C_id ?_; first | refine C_seq ?_ | refine C_region ?_ | refine C_ret ?_ | refine C_cond_t rfl ?_) | (refine E_id ?_; first | refine E_code ?_ | refine E_then_ret ?_ | refine E_ret1 rfl (Rv_tmp rfl) (Ret.mk ?_)))
    rw [e]
    exact ⟨rfl, hS.pick [1, 1]⟩
end Cr
