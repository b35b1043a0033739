/-
  Layer 4 (wal): redo.
-/
import Derived.Test.YtobnnhlgdoddgaaDoorWal10
namespace Cr
open Go Go.Proofs
set_option maxRecDepth 100000
set_option maxHeartbeats 8000000
attribute [local irreducible] Calls

theorem check_good {d : List (Int × List UInt8)} (h : checkM d = 0) : ∀ x ∈ d, 0 ≤ x.1 ∧ x.2.length = 64 := by
  intro x hx
  unfold checkM at h
  by_cases ha : d.any badW = true
  · rw [if_pos ha] at h; cases h
  · have : badW x = false := by
      cases hb : badW x
      · rfl
      · exact absurd (List.any_eq_true.2 ⟨x, hx, hb⟩) ha
    unfold badW at this
    simp only [Bool.or_eq_false_iff, decide_eq_false_iff_not] at this
    omega
theorem entM_top {D : DiskM} {j : Nat} {number at_ : Int} (h : (entM D j number at_).ok = true) : (entM D j number at_).no < (D.laid.length : Int) - 1 - j := by
  unfold entM at h ⊢
  split at h
  · simp [Ent.none] at h
  · rename_i h1
    rw [if_neg h1]
    split at h
    · simp [Ent.none] at h
    · rename_i h2
      rw [if_neg h2]
      simp only [entOf, Bool.and_eq_true, decide_eq_true_eq] at h ⊢
      exact h.2
theorem found_good (rd fs : List Int) (D : DiskM) (j : Nat) (number : Int) : (∀ x ∈ foundM rd fs D j number, 0 ≤ x.1 ∧ x.1 < (D.laid.length : Int) - 1 - j ∧ x.2.length = 64) ∧ ((foundM rd fs D j number).length : Int) ≤ (j : Int) / 2 := by
  unfold foundM
  cases hf : foundL D j number with
  | none => simp; omega
  | some ws =>
    simp only
    split
    · rename_i hc
      unfold foundL at hf
      split at hf
      · split at hf
        · rename_i h1 h2
          simp only [Option.some.injEq] at hf
          have hall := List.all_eq_true.1 h2
          have hg : ∀ e ∈ entList D j number (entM D j number 0).count.toNat, e.ok = true := fun e he => by
            have := hall e he
            simp only [goodE, Bool.and_eq_true] at this
            exact this.1.1
          constructor
          · intro x hx
            have h3 := check_good hc.1 x hx
            refine ⟨h3.1, ?_, h3.2⟩
            rw [← hf] at hx
            obtain ⟨e, he, rfl⟩ := List.mem_map.1 hx
            obtain ⟨i, hi, rfl⟩ := List.mem_map.1 he
            exact entM_top (hg _ he)
          · rw [← hf]
            simp only [List.length_map, entList, List.length_range]
            rcases Nat.eq_zero_or_pos (entM D j number 0).count.toNat with h0 | h0
            · rw [h0]; omega
            · have := hg (entM D j number ((entM D j number 0).count.toNat - 1 : Nat)) (List.mem_map.2 ⟨_, List.mem_range.2 (by omega), rfl⟩)
              have := (entM_ok this).2
              omega
        · cases hf
      · cases hf
    · simp; omega

/-- What recovering does: the error, the disk, the number, whether something was redone. -/
structure RedoM where
  e : Int
  D : DiskM
  done : Int
  redone : Bool
def last : Int := 1152921504606846976
def redoM (rd fs : List Int) (D : DiskM) (j : Nat) (done : Int) (rdn : Bool) : RedoM :=
  if ¬ (D.read 0).1 = 0 then ⟨(D.read 0).1, D, done, rdn⟩ else
  if (headNum rd fs (D.read 0).2).2 = false then ⟨5, D, done, rdn⟩ else
  if last ≤ (headNum rd fs (D.read 0).2).1 then ⟨0, D, (headNum rd fs (D.read 0).2).1, rdn⟩ else
  if foundM rd fs D j ((headNum rd fs (D.read 0).2).1 + 1) = [] then
    ⟨(clearM D ((headNum rd fs (D.read 0).2).1 + 1)).1, (clearM D ((headNum rd fs (D.read 0).2).1 + 1)).2, (headNum rd fs (D.read 0).2).1, rdn⟩
  else
    ⟨(layM rd fs j (0, D) ((headNum rd fs (D.read 0).2).1 + 1) (foundM rd fs D j ((headNum rd fs (D.read 0).2).1 + 1))).1, (layM rd fs j (0, D) ((headNum rd fs (D.read 0).2).1 + 1) (foundM rd fs D j ((headNum rd fs (D.read 0).2).1 + 1))).2,
      if (layM rd fs j (0, D) ((headNum rd fs (D.read 0).2).1 + 1) (foundM rd fs D j ((headNum rd fs (D.read 0).2).1 + 1))).1 = 0 then (headNum rd fs (D.read 0).2).1 + 1 else (headNum rd fs (D.read 0).2).1, true⟩
theorem redo_ (lp p : Nat) (o s m : Int) (j : Nat) (done : Int) (rdn : Bool) (D : DiskM) (rd fs : List Int) (W : World) (F : Nat → Prop) (hG : Gl W F rd fs) (hj : j ≤ 4096) (hline : D.line.length < 1073700000) (hS : St W F [logAt lp p o s m j done rdn, disk p D] W) :
    Calls Tryd.prog 23 #[.pointer (some ⟨lp, 0, none⟩)] W (Ret fun v w => v = .int .i64 (redoM rd fs D j done rdn).e ∧ St W F [logAt lp p o s m j (redoM rd fs D j done rdn).done (redoM rd fs D j done rdn).redone, disk p (redoM rd fs D j done rdn).D] w) := by
  have hok := (hS.rd (List.mem_cons_of_mem _ (List.mem_cons_self ..)) : Rd W (disk p D)).disk.1
  have h64 := fun (h : (D.read 0).1 = 0) => read_64 hok h
  obtain ⟨R, hR⟩ : ∃ R, R = redoM rd fs D j done rdn := ⟨_, rfl⟩
  rw [← hR]
  have e := hR
  unfold redoM at e
  clear hR
  refine calls_C Tryd.func23 rfl Tryd.ntmps23 rfl ?_
  repeat (first | (refine G_id ?_; first | refine G_nil ?_ | refine G_plain rfl rfl ?_) | (refine X_id ?_; first | refine X_yl (Yl_move rfl rfl) rfl rfl ?_ | refine X_yl (Yl_assign rfl rfl) rfl rfl ?_ | refine X_yl (Yl_nilCheck rfl rfl) rfl rfl ?_ | refine X_yl (Yl_fieldAddr0 rfl rfl rfl) rfl rfl ?_ | refine X_yl (Yl_load rfl rfl hS.cell) rfl rfl ?_) | (refine C_id ?_; first | refine C_seq ?_ | refine C_region ?_) | (refine E_id ?_; first | refine E_code ?_))
  refine X_callg _ rfl rfl rfl rfl rfl (read_ p D 0 _ (hS.rd (List.mem_cons_of_mem _ (List.mem_cons_self ..))) (by omega)) ?_
  rintro _ w ⟨a, ca, rfl, hca, hS'⟩
  replace hS := hS.plus hS'
  clear hS'
  generalize D.read 0 = ra at h64 hca hS e ⊢
  obtain ⟨ea, la⟩ := ra
  simp only at h64 hca hS e ⊢
  by_cases hea : ea = 0
  · subst hea
    have hla := h64 rfl
    rw [if_neg (by simp)] at e
    rw [hla]
    have hnb : (headNum rd fs la).2 = true → 0 ≤ (headNum rd fs la).1 ∧ (headNum rd fs la).1 ≤ 1152921504606846976 := fun h => by
      unfold headNum at h ⊢
      split at h
      · rename_i h1; rw [if_pos h1]; omega
      · rename_i h1
        rw [if_neg h1]
        simp only [isFront, Bool.and_eq_true, decide_eq_true_eq] at h ⊢
        omega
    repeat (first | (refine G_id ?_; first | refine G_nil ?_ | refine G_plain rfl rfl ?_) | (refine X_id ?_; first | refine X_yl (Yl_move rfl rfl) rfl rfl ?_ | refine X_yl (Yl_assign rfl rfl) rfl rfl ?_ | refine X_yl (Yl_extract rfl rfl) rfl rfl ?_ | refine X_yl (Yl_neq_f rfl rfl rfl (by omega)) rfl rfl ?_) | (refine C_id ?_; first | refine C_seq ?_ | refine C_region ?_ | refine C_skip ?_ | refine C_cond_f rfl ?_) | (refine E_id ?_; first | refine E_code ?_))
    refine X_callq _ rfl rfl rfl rfl rfl hS (number_ a ca la rd fs _ (hG.mono fun r hr => (hr.rd hS).ro) (hS.rd (List.mem_cons_self ..)) hla (by omega)) ?_
    rintro _ w rfl hS
    generalize headNum rd fs la = hn at hnb e ⊢
    obtain ⟨n, ok⟩ := hn
    simp only at hnb e ⊢
    cases ok
    · rw [if_pos rfl] at e
      subst e
      repeat (first | (refine G_id ?_; first | refine G_nil ?_ | refine G_plain rfl rfl ?_) | (refine X_id ?_; first | refine X_yl (Yl_move rfl rfl) rfl rfl ?_ | refine X_yl (Yl_assign rfl rfl) rfl rfl ?_ | refine X_yl (Yl_extract rfl rfl) rfl rfl ?_ | refine X_yl (Yl_not_f rfl rfl) rfl rfl ?_) | (refine C_id ?_; first | refine C_seq ?_ | refine C_region ?_ | refine C_ret ?_ | refine C_cond_t rfl ?_) | (refine E_id ?_; first | refine E_code ?_ | refine E_then_ret ?_ | refine E_ret1 rfl (Rv_tmp rfl) (Ret.mk ?_)))
      exact ⟨rfl, hS.pick [1, 1]⟩
    · rw [if_neg (by simp)] at e
      have hn1 := hnb rfl
      by_cases hl : last ≤ n
      · rw [if_pos hl] at e
        subst e
        unfold last at hl
        repeat (first | (refine G_id ?_; first | refine G_nil ?_ | refine G_plain rfl rfl ?_) | (refine X_id ?_; first | refine X_yl (Yl_move rfl rfl) rfl rfl ?_ | refine X_yl (Yl_assign rfl rfl) rfl rfl ?_ | refine X_yl (Yl_nilCheck rfl rfl) rfl rfl ?_ | refine X_yl (Yl_fieldAddr0 rfl rfl rfl) rfl rfl ?_ | refine X_yl (Yl_extract rfl rfl) rfl rfl ?_ | refine X_yl (Yl_not_t rfl rfl) rfl rfl ?_ | refine X_yl (Yl_geq_t rfl rfl rfl (by omega)) rfl rfl ?_ | refine X_store rfl rfl rfl rfl hS (fun _ hS _ => ?_)) | (refine C_id ?_; first | refine C_seq ?_ | refine C_region ?_ | refine C_ret ?_ | refine C_skip ?_ | refine C_cond_t rfl ?_ | refine C_cond_f rfl ?_) | (refine E_id ?_; first | refine E_code ?_ | refine E_then_ret ?_ | refine E_ret1 rfl (Rv_tmp rfl) (Ret.mk ?_)))
        exact ⟨rfl, hS.pick [1, 1]⟩
      · rw [if_neg hl] at e
        unfold last at hl
        repeat (first | (refine G_id ?_; first | refine G_nil ?_ | refine G_plain rfl rfl ?_) | (refine X_id ?_; first | refine X_yl (Yl_move rfl rfl) rfl rfl ?_ | refine X_yl (Yl_assign rfl rfl) rfl rfl ?_ | refine X_yl (Yl_nilCheck rfl rfl) rfl rfl ?_ | refine X_yl (Yl_fieldAddr0 rfl rfl rfl) rfl rfl ?_ | refine X_yl (Yl_extract rfl rfl) rfl rfl ?_ | refine X_yl (Yl_not_t rfl rfl) rfl rfl ?_ | refine X_yl (Yl_geq_f rfl rfl rfl (by omega)) rfl rfl ?_ | refine X_yl (Yl_add rfl rfl rfl (w64 (by omega) (by omega))) rfl rfl ?_ | refine X_store rfl rfl rfl rfl hS (fun _ hS _ => ?_)) | (refine C_id ?_; first | refine C_seq ?_ | refine C_region ?_ | refine C_skip ?_ | refine C_cond_f rfl ?_) | (refine E_id ?_; first | refine E_code ?_))
        have hfg := found_good rd fs D j (n + 1)
        refine X_callg _ rfl rfl rfl rfl rfl (found_ lp p o s m j n rdn D (n + 1) rd fs _ (hG.mono fun r hr => (hr.rd hS).ro) (hS.rd (List.mem_cons_of_mem _ (List.mem_cons_self ..))) (hS.rd (List.mem_cons_of_mem _ (List.mem_cons_of_mem _ (List.mem_cons_self ..)))) hj (by omega)) ?_
        rintro _ w ⟨fa, fc, ws, O, rfl, hwd, hnone, hO, hS'⟩
        replace hS := hS.plus hS'
        clear hS'
        rw [← hwd] at e hfg
        by_cases hws : ws = []
        · obtain rfl := hnone.2 hws
          rw [if_pos (by rw [hws]; rfl)] at e
          subst e
          repeat (first | (refine G_id ?_; first | refine G_nil ?_ | refine G_plain rfl rfl ?_) | (refine X_id ?_; first | refine X_yl (Yl_move rfl rfl) rfl rfl ?_ | refine X_yl (Yl_assign rfl rfl) rfl rfl ?_ | refine X_yl (Yl_add rfl rfl rfl (w64 (by omega) (by omega))) rfl rfl ?_ | refine X_yl (Yl_neqNilSlice rfl rfl rfl) rfl rfl ?_) | (refine C_id ?_; first | refine C_seq ?_ | refine C_region ?_ | refine C_skip ?_ | refine C_cond_f rfl ?_) | (refine E_id ?_; first | refine E_code ?_))
          obtain ⟨_, hc, hr, hw, hbk⟩ := hS.call [false, false, false, true, true]
          refine X_callg _ rfl rfl rfl rfl rfl (clear_ lp p o s m j n rdn D (n + 1) _ _ (by omega) hc) ?_
          rintro _ w ⟨rfl, hS⟩
          replace hS := hbk hS
          clear hc hr hw hbk
          repeat (first | (refine G_id ?_; first | refine G_nil ?_ | refine G_plain rfl rfl ?_) | (refine X_id ?_; first | refine X_yl (Yl_assign rfl rfl) rfl rfl ?_) | (refine C_id ?_; first | refine C_ret ?_) | (refine E_id ?_; first | refine E_code ?_ | refine E_ret1 rfl (Rv_tmp rfl) (Ret.mk ?_)))
          exact ⟨rfl, hS.pick [0, 0]⟩
        · obtain ⟨ad, rfl⟩ : ∃ ad, fa = some ad := by
            cases fa with
            | none => exact absurd (hnone.1 rfl) hws
            | some ad => exact ⟨ad, rfl⟩
          rw [if_neg (by simpa using hws)] at e
          have hwl : ws.length ≤ 2048 := by
            have := hfg.2
            rw [List.length_map] at this
            omega
          repeat (first | (refine G_id ?_; first | refine G_nil ?_ | refine G_plain rfl rfl ?_) | (refine X_id ?_; first | refine X_yl (Yl_move rfl rfl) rfl rfl ?_ | refine X_yl (Yl_assign rfl rfl) rfl rfl ?_ | refine X_yl (Yl_nilCheck rfl rfl) rfl rfl ?_ | refine X_yl (Yl_fieldAddr0 rfl rfl rfl) rfl rfl ?_ | refine X_yl (Yl_build rfl rfl rfl) rfl rfl ?_ | refine X_yl (Yl_add rfl rfl rfl (w64 (by omega) (by omega))) rfl rfl ?_ | refine X_yl (Yl_neqNilSlice rfl rfl rfl) rfl rfl ?_ | refine X_yl (Yl_load rfl rfl hS.cell) rfl rfl ?_ | refine X_store rfl rfl rfl rfl hS (fun _ hS _ => ?_) | refine X_box rfl rfl rfl rfl hS (fun _ _ hS _ => ?_)) | (refine C_id ?_; first | refine C_seq ?_ | refine C_region ?_ | refine C_cond_t rfl ?_) | (refine E_id ?_; first | refine E_code ?_))
          have hS := hS.pick [4, 0, 3, 0, 0]
          have hmost := hok.most
          have hvno : ∀ v ∈ ws, -4611686018427387904 ≤ v.no ∧ v.no ≤ 4611686018427387904 := fun v hv => by
            have := hfg.1 v.data (List.mem_map.2 ⟨v, hv, rfl⟩)
            simp only [Wr.data] at this
            omega
          obtain ⟨_, hc, hr, hw, hbk⟩ := hS.call [true, true, true, false, false]
          refine X_callg _ rfl rfl rfl rfl rfl (wlay_ lp _ p o s m j n true (0, D) (n + 1) (some ad) fc ws rd fs _ _ (hG.mono hw) ⟨(hr _ (List.mem_cons_self ..)).own_row, fun v hv => Ro.rds (hr _ (List.mem_cons_of_mem _ (List.mem_cons_self ..))) _ (hO v hv)⟩ hj (by omega) hvno (by simp only; omega) hc) ?_
          rintro _ w ⟨rfl, hS⟩
          replace hS := hbk hS
          clear hc hr hw hbk
          subst e
          repeat (first | (refine G_id ?_; first | refine G_nil ?_ | refine G_plain rfl rfl ?_) | (refine X_id ?_; first | refine X_yl (Yl_assign rfl rfl) rfl rfl ?_) | (refine C_id ?_; first | refine C_ret ?_) | (refine E_id ?_; first | refine E_code ?_ | refine E_then_ret ?_ | refine E_ret1 rfl (Rv_tmp rfl) (Ret.mk ?_)))
          exact ⟨rfl, hS.pick [0, 1]⟩
  · rw [if_pos hea] at e
    subst e
    repeat (first | (refine G_id ?_; first | refine G_nil ?_ | refine G_plain rfl rfl ?_) | (refine X_id ?_; first | refine X_yl (Yl_move rfl rfl) rfl rfl ?_ | refine X_yl (Yl_assign rfl rfl) rfl rfl ?_ | refine X_yl (Yl_extract rfl rfl) rfl rfl ?_ | refine X_yl (Yl_neq_t rfl rfl rfl (by omega)) rfl rfl ?_) | (refine C_id ?_; first | refine C_seq ?_ | refine C_region ?_ | refine C_ret ?_ | refine C_cond_t rfl ?_) | (refine E_id ?_; first | refine E_code ?_ | refine E_then_ret ?_ | refine E_ret1 rfl (Rv_tmp rfl) (Ret.mk ?_)))
    exact ⟨rfl, hS.pick [1, 1]⟩
end Cr
