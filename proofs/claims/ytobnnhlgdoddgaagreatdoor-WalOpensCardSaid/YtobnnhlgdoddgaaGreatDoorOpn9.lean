/-
  Layer 4 (wal): redo.
  The plain law of recovering: heads and notes, as the program and the document read them. No program is in sight.
  Places that are met twice.
  The plain law of recovering: the transaction that a journal has whole, as the program and the document find it.
  sync.Mutex, sync.Once, as one goroutine meets them.
  Layer 4 (wal): Once.Do at Open; Open.
  Layer 4 (wal): Open, Read.
  Layer 4 (wal): Commit.
  A disk that is on and not armed: what writes and flushes leave on it. No program is in sight.
  The document's answers: data with writes laid.
-/
import Derived.Test.YtobnnhlgdoddgaaGreatDoorOpn8
import Derived.Test.YtobnnhlgdoddgaaGreatDoorOpn6
import Derived.Laws.LoneSync
import Derived.Test.YtobnnhlgdoddgaaGreatDoorOpn5
namespace Cr
open Go Go.Proofs
set_option maxRecDepth 100000
set_option maxHeartbeats 8000000
attribute [local irreducible] Calls

theorem check_good {d : List (Int × List UInt8)} (h : checkM d = 0) : ∀ x ∈ d, 0 ≤ x.1 ∧ x.2.length = 64 := by
  intro x hx
  unfold checkM at h
  by_cases ha : d.any badW = true
  · rw [if_pos ha] at h; cases h
  · have : badW x = false := by
      cases hb : badW x
      · rfl
      · exact absurd (List.any_eq_true.2 ⟨x, hx, hb⟩) ha
    unfold badW at this
    simp only [Bool.or_eq_false_iff, decide_eq_false_iff_not] at this
    omega
theorem entM_top {D : DiskM} {j : Nat} {number at_ : Int} (h : (entM D j number at_).ok = true) : (entM D j number at_).no < (D.laid.length : Int) - 1 - j := by
  unfold entM at h ⊢
  split at h
  · simp [Ent.none] at h
  · rename_i h1
    rw [if_neg h1]
    split at h
    · simp [Ent.none] at h
    · rename_i h2
      rw [if_neg h2]
      simp only [entOf, Bool.and_eq_true, decide_eq_true_eq] at h ⊢
      exact h.2
theorem found_good (rd fs : List Int) (D : DiskM) (j : Nat) (number : Int) : (∀ x ∈ foundM rd fs D j number, 0 ≤ x.1 ∧ x.1 < (D.laid.length : Int) - 1 - j ∧ x.2.length = 64) ∧ ((foundM rd fs D j number).length : Int) ≤ (j : Int) / 2 := by
  unfold foundM
  cases hf : foundL D j number with
  | none => simp; omega
  | some ws =>
    simp only
    split
    · rename_i hc
      unfold foundL at hf
      split at hf
      · split at hf
        · rename_i h1 h2
          simp only [Option.some.injEq] at hf
          have hall := List.all_eq_true.1 h2
          have hg : ∀ e ∈ entList D j number (entM D j number 0).count.toNat, e.ok = true := fun e he => by
            have := hall e he
            simp only [goodE, Bool.and_eq_true] at this
            exact this.1.1
          constructor
          · intro x hx
            have h3 := check_good hc.1 x hx
            refine ⟨h3.1, ?_, h3.2⟩
            rw [← hf] at hx
            obtain ⟨e, he, rfl⟩ := List.mem_map.1 hx
            obtain ⟨i, hi, rfl⟩ := List.mem_map.1 he
            exact entM_top (hg _ he)
          · rw [← hf]
            simp only [List.length_map, entList, List.length_range]
            rcases Nat.eq_zero_or_pos (entM D j number 0).count.toNat with h0 | h0
            · rw [h0]; omega
            · have := hg (entM D j number ((entM D j number 0).count.toNat - 1 : Nat)) (List.mem_map.2 ⟨_, List.mem_range.2 (by omega), rfl⟩)
              have := (entM_ok this).2
              omega
        · cases hf
      · cases hf
    · simp; omega

/-- What recovering does: the error, the disk, the number, whether something was redone. -/
structure RedoM where
  e : Int
  D : DiskM
  done : Int
  redone : Bool
def last : Int := 1152921504606846976
def redoM (rd fs : List Int) (D : DiskM) (j : Nat) (done : Int) (rdn : Bool) : RedoM :=
  if ¬ (D.read 0).1 = 0 then ⟨(D.read 0).1, D, done, rdn⟩ else
  if (headNum rd fs (D.read 0).2).2 = false then ⟨5, D, done, rdn⟩ else
  if last ≤ (headNum rd fs (D.read 0).2).1 then ⟨0, D, (headNum rd fs (D.read 0).2).1, rdn⟩ else
  if foundM rd fs D j ((headNum rd fs (D.read 0).2).1 + 1) = [] then
    ⟨(clearM D ((headNum rd fs (D.read 0).2).1 + 1)).1, (clearM D ((headNum rd fs (D.read 0).2).1 + 1)).2, (headNum rd fs (D.read 0).2).1, rdn⟩
  else
    ⟨(layM rd fs j (0, D) ((headNum rd fs (D.read 0).2).1 + 1) (foundM rd fs D j ((headNum rd fs (D.read 0).2).1 + 1))).1, (layM rd fs j (0, D) ((headNum rd fs (D.read 0).2).1 + 1) (foundM rd fs D j ((headNum rd fs (D.read 0).2).1 + 1))).2,
      if (layM rd fs j (0, D) ((headNum rd fs (D.read 0).2).1 + 1) (foundM rd fs D j ((headNum rd fs (D.read 0).2).1 + 1))).1 = 0 then (headNum rd fs (D.read 0).2).1 + 1 else (headNum rd fs (D.read 0).2).1, true⟩
theorem redo_ (lp p : Nat) (o s m : Int) (j : Nat) (done : Int) (rdn : Bool) (D : DiskM) (rd fs : List Int) (W : World) (F : Nat → Prop) (hG : Gl W F rd fs) (hj : j ≤ 4096) (hline : D.line.length < 1073700000) (hS : St W F [logAt lp p o s m j done rdn, disk p D] W) :
    Calls Tryz.prog 25 #[.pointer (some ⟨lp, 0, none⟩)] W (Ret fun v w => v = .int .i64 (redoM rd fs D j done rdn).e ∧ St W F [logAt lp p o s m j (redoM rd fs D j done rdn).done (redoM rd fs D j done rdn).redone, disk p (redoM rd fs D j done rdn).D] w) := by
  have hok := (hS.rd (List.mem_cons_of_mem _ (List.mem_cons_self ..)) : Rd W (disk p D)).disk.1
  have h64 := fun (h : (D.read 0).1 = 0) => read_64 hok h
  obtain ⟨R, hR⟩ : ∃ R, R = redoM rd fs D j done rdn := ⟨_, rfl⟩
  rw [← hR]
  have e := hR
  unfold redoM at e
  clear hR
  refine calls_C Tryz.func25 rfl Tryz.ntmps25 rfl ?_
  repeat (first | (refine G_id ?_; first | refine G_nil ?_ | refine G_plain rfl rfl ?_) | (refine X_id ?_; first | refine X_yl (Yl_move rfl rfl) rfl rfl ?_ | refine X_yl (Yl_assign rfl rfl) rfl rfl ?_ | refine X_yl (Yl_nilCheck rfl rfl) rfl rfl ?_ | refine X_yl (Yl_fieldAddr0 rfl rfl rfl) rfl rfl ?_ | refine X_yl (Yl_load rfl rfl hS.cell) rfl rfl ?_) | (refine C_id ?_; first | refine C_seq ?_ | refine C_region ?_) | (refine E_id ?_; first | refine E_code ?_))
  refine X_callg _ rfl rfl rfl rfl rfl (read_ p D 0 _ (hS.rd (List.mem_cons_of_mem _ (List.mem_cons_self ..))) (by omega)) ?_
  rintro _ w ⟨a, ca, rfl, hca, hS'⟩
  replace hS := hS.plus hS'
  clear hS'
  generalize D.read 0 = ra at h64 hca hS e ⊢
  obtain ⟨ea, la⟩ := ra
  simp only at h64 hca hS e ⊢
  by_cases hea : ea = 0
  · subst hea
    have hla := h64 rfl
    rw [if_neg (by simp)] at e
    rw [hla]
    have hnb : (headNum rd fs la).2 = true → 0 ≤ (headNum rd fs la).1 ∧ (headNum rd fs la).1 ≤ 1152921504606846976 := fun h => by
      unfold headNum at h ⊢
      split at h
      · rename_i h1; rw [if_pos h1]; omega
      · rename_i h1
        rw [if_neg h1]
        simp only [isFront, Bool.and_eq_true, decide_eq_true_eq] at h ⊢
        omega
    repeat (first | (refine G_id ?_; first | refine G_nil ?_ | refine G_plain rfl rfl ?_) | (refine X_id ?_; first | refine X_yl (Yl_move rfl rfl) rfl rfl ?_ | refine X_yl (Yl_assign rfl rfl) rfl rfl ?_ | refine X_yl (Yl_extract rfl rfl) rfl rfl ?_ | refine X_yl (Yl_neq_f rfl rfl rfl (by omega)) rfl rfl ?_) | (refine C_id ?_; first | refine C_seq ?_ | refine C_region ?_ | refine C_skip ?_ | refine C_cond_f rfl ?_) | (refine E_id ?_; first | refine E_code ?_))
    refine X_callq _ rfl rfl rfl rfl rfl hS (number_ a ca la rd fs _ (hG.mono fun r hr => (hr.rd hS).ro) (hS.rd (List.mem_cons_self ..)) hla (by omega)) ?_
    rintro _ w rfl hS
    generalize headNum rd fs la = hn at hnb e ⊢
    obtain ⟨n, ok⟩ := hn
    simp only at hnb e ⊢
    cases ok
    · rw [if_pos rfl] at e
      subst e
      repeat (first | (refine G_id ?_; first | refine G_nil ?_ | refine G_plain rfl rfl ?_) | (refine X_id ?_; first | refine X_yl (Yl_move rfl rfl) rfl rfl ?_ | refine X_yl (Yl_assign rfl rfl) rfl rfl ?_ | refine X_yl (Yl_extract rfl rfl) rfl rfl ?_ | refine X_yl (Yl_not_f rfl rfl) rfl rfl ?_) | (refine C_id ?_; first | refine C_seq ?_ | refine C_region ?_ | refine C_ret ?_ | refine C_cond_t rfl ?_) | (refine E_id ?_; first | refine E_code ?_ | refine E_then_ret ?_ | refine E_ret1 rfl (Rv_tmp rfl) (Ret.mk ?_)))
      exact ⟨rfl, hS.pick [1, 1]⟩
    · rw [if_neg (by simp)] at e
      have hn1 := hnb rfl
      by_cases hl : last ≤ n
      · rw [if_pos hl] at e
        subst e
        unfold last at hl
        repeat (first | (refine G_id ?_; first | refine G_nil ?_ | refine G_plain rfl rfl ?_) | (refine X_id ?_; first | refine X_yl (Yl_move rfl rfl) rfl rfl ?_ | refine X_yl (Yl_assign rfl rfl) rfl rfl ?_ | refine X_yl (Yl_nilCheck rfl rfl) rfl rfl ?_ | refine X_yl (Yl_fieldAddr0 rfl rfl rfl) rfl rfl ?_ | refine X_yl (Yl_extract rfl rfl) rfl rfl ?_ | refine X_yl (Yl_not_t rfl rfl) rfl rfl ?_ | refine X_yl (Yl_geq_t rfl rfl rfl (by omega)) rfl rfl ?_ | refine X_store rfl rfl rfl rfl hS (fun _ hS _ => ?_)) | (refine C_id ?_; first | refine C_seq ?_ | refine C_region ?_ | refine C_ret ?_ | refine C_skip ?_ | refine C_cond_t rfl ?_ | refine C_cond_f rfl ?_) | (refine E_id ?_; first | refine E_code ?_ | refine E_then_ret ?_ | refine E_ret1 rfl (Rv_tmp rfl) (Ret.mk ?_)))
        exact ⟨rfl, hS.pick [1, 1]⟩
      · rw [if_neg hl] at e
        unfold last at hl
        repeat (first | (refine G_id ?_; first | refine G_nil ?_ | refine G_plain rfl rfl ?_) | (refine X_id ?_; first | refine X_yl (Yl_move rfl rfl) rfl rfl ?_ | refine X_yl (Yl_assign rfl rfl) rfl rfl ?_ | refine X_yl (Yl_nilCheck rfl rfl) rfl rfl ?_ | refine X_yl (Yl_fieldAddr0 rfl rfl rfl) rfl rfl ?_ | refine X_yl (Yl_extract rfl rfl) rfl rfl ?_ | refine X_yl (Yl_not_t rfl rfl) rfl rfl ?_ | refine X_yl (Yl_geq_f rfl rfl rfl (by omega)) rfl rfl ?_ | refine X_yl (Yl_add rfl rfl rfl (w64 (by omega) (by omega))) rfl rfl ?_ | refine X_store rfl rfl rfl rfl hS (fun _ hS _ => ?_)) | (refine C_id ?_; first | refine C_seq ?_ | refine C_region ?_ | refine C_skip ?_ | refine C_cond_f rfl ?_) | (refine E_id ?_; first | refine E_code ?_))
        have hfg := found_good rd fs D j (n + 1)
        refine X_callg _ rfl rfl rfl rfl rfl (found_ lp p o s m j n rdn D (n + 1) rd fs _ (hG.mono fun r hr => (hr.rd hS).ro) (hS.rd (List.mem_cons_of_mem _ (List.mem_cons_self ..))) (hS.rd (List.mem_cons_of_mem _ (List.mem_cons_of_mem _ (List.mem_cons_self ..)))) hj (by omega)) ?_
        rintro _ w ⟨fa, fc, ws, O, rfl, hwd, hnone, hO, hS'⟩
        replace hS := hS.plus hS'
        clear hS'
        rw [← hwd] at e hfg
        by_cases hws : ws = []
        · obtain rfl := hnone.2 hws
          rw [if_pos (by rw [hws]; rfl)] at e
          subst e
          repeat (first | (refine G_id ?_; first | refine G_nil ?_ | refine G_plain rfl rfl ?_) | (refine X_id ?_; first | refine X_yl (Yl_move rfl rfl) rfl rfl ?_ | refine X_yl (Yl_assign rfl rfl) rfl rfl ?_ | refine X_yl (Yl_add rfl rfl rfl (w64 (by omega) (by omega))) rfl rfl ?_ | refine X_yl (Yl_neqNilSlice rfl rfl rfl) rfl rfl ?_) | (refine C_id ?_; first | refine C_seq ?_ | refine C_region ?_ | refine C_skip ?_ | refine C_cond_f rfl ?_) | (refine E_id ?_; first | refine E_code ?_))
          obtain ⟨_, hc, hr, hw, hbk⟩ := hS.call [false, false, false, true, true]
          refine X_callg _ rfl rfl rfl rfl rfl (clear_ lp p o s m j n rdn D (n + 1) _ _ (by omega) hc) ?_
          rintro _ w ⟨rfl, hS⟩
          replace hS := hbk hS
          clear hc hr hw hbk
          repeat (first | (refine G_id ?_; first | refine G_nil ?_ | refine G_plain rfl rfl ?_) | (refine X_id ?_; first | refine X_yl (Yl_assign rfl rfl) rfl rfl ?_) | (refine C_id ?_; first | refine C_ret ?_) | (refine E_id ?_; first | refine E_code ?_ | refine E_ret1 rfl (Rv_tmp rfl) (Ret.mk ?_)))
          exact ⟨rfl, hS.pick [0, 0]⟩
        · obtain ⟨ad, rfl⟩ : ∃ ad, fa = some ad := by
            cases fa with
            | none => exact absurd (hnone.1 rfl) hws
            | some ad => exact ⟨ad, rfl⟩
          rw [if_neg (by simpa using hws)] at e
          have hwl : ws.length ≤ 2048 := by
            have := hfg.2
            rw [List.length_map] at this
            omega
          repeat (first | (refine G_id ?_; first | refine G_nil ?_ | refine G_plain rfl rfl ?_) | (refine X_id ?_; first | refine X_yl (Yl_move rfl rfl) rfl rfl ?_ | refine X_yl (Yl_assign rfl rfl) rfl rfl ?_ | refine X_yl (Yl_nilCheck rfl rfl) rfl rfl ?_ | refine X_yl (Yl_fieldAddr0 rfl rfl rfl) rfl rfl ?_ | refine X_yl (Yl_build rfl rfl rfl) rfl rfl ?_ | refine X_yl (Yl_add rfl rfl rfl (w64 (by omega) (by omega))) rfl rfl ?_ | refine X_yl (Yl_neqNilSlice rfl rfl rfl) rfl rfl ?_ | refine X_yl (Yl_load rfl rfl hS.cell) rfl rfl ?_ | refine X_store rfl rfl rfl rfl hS (fun _ hS _ => ?_) | refine X_box rfl rfl rfl rfl hS (fun _ _ hS _ => ?_)) | (refine C_id ?_; first | refine C_seq ?_ | refine C_region ?_ | refine C_cond_t rfl ?_) | (refine E_id ?_; first | refine E_code ?_))
          have hS := hS.pick [4, 0, 3, 0, 0]
          have hmost := hok.most
          have hvno : ∀ v ∈ ws, -4611686018427387904 ≤ v.no ∧ v.no ≤ 4611686018427387904 := fun v hv => by
            have := hfg.1 v.data (List.mem_map.2 ⟨v, hv, rfl⟩)
            simp only [Wr.data] at this
            omega
          obtain ⟨_, hc, hr, hw, hbk⟩ := hS.call [true, true, true, false, false]
          refine X_callg _ rfl rfl rfl rfl rfl (wlay_ lp _ p o s m j n true (0, D) (n + 1) (some ad) fc ws rd fs _ _ (hG.mono hw) ⟨(hr _ (List.mem_cons_self ..)).own_row, fun v hv => Ro.rds (hr _ (List.mem_cons_of_mem _ (List.mem_cons_self ..))) _ (hO v hv)⟩ hj (by omega) hvno (by simp only; omega) hc) ?_
          rintro _ w ⟨rfl, hS⟩
          replace hS := hbk hS
          clear hc hr hw hbk
          subst e
          repeat (first | (refine G_id ?_; first | refine G_nil ?_ | refine G_plain rfl rfl ?_) | (refine X_id ?_; first | refine X_yl (Yl_assign rfl rfl) rfl rfl ?_) | (refine C_id ?_; first | refine C_ret ?_) | (refine E_id ?_; first | refine E_code ?_ | refine E_then_ret ?_ | refine E_ret1 rfl (Rv_tmp rfl) (Ret.mk ?_)))
          exact ⟨rfl, hS.pick [0, 1]⟩
  · rw [if_pos hea] at e
    subst e
    repeat (first | (refine G_id ?_; first | refine G_nil ?_ | refine G_plain rfl rfl ?_) | (refine X_id ?_; first | refine X_yl (Yl_move rfl rfl) rfl rfl ?_ | refine X_yl (Yl_assign rfl rfl) rfl rfl ?_ | refine X_yl (Yl_extract rfl rfl) rfl rfl ?_ | refine X_yl (Yl_neq_t rfl rfl rfl (by omega)) rfl rfl ?_) | (refine C_id ?_; first | refine C_seq ?_ | refine C_region ?_ | refine C_ret ?_ | refine C_cond_t rfl ?_) | (refine E_id ?_; first | refine E_code ?_ | refine E_then_ret ?_ | refine E_ret1 rfl (Rv_tmp rfl) (Ret.mk ?_)))
    exact ⟨rfl, hS.pick [1, 1]⟩
end Cr
namespace Cr
open Go Go.Proofs
set_option maxRecDepth 10000
theorem natTo_congr {s t : List UInt8} : ∀ i, (∀ k, k < i → s.getD k 0 = t.getD k 0) → natTo s i = natTo t i
  | 0, _ => rfl
  | i + 1, h => by rw [natTo, natTo, natTo_congr i (fun k hk => h k (by omega)), h i (by omega)]
theorem getD_take {s : List UInt8} {n k : Nat} (h : k < n) : (s.take n).getD k 0 = s.getD k 0 := by
  rw [List.getD_eq_getElem?_getD, List.getD_eq_getElem?_getD, List.getElem?_take, if_pos h]
theorem natTo_take (s : List UInt8) (n i : Nat) (h : i ≤ n) : natTo (s.take n) i = natTo s i := natTo_congr i fun k hk => getD_take (by omega)
theorem natTo_top (s : List UInt8) : ∀ i, (s.getD 0 0).toNat * 256 ^ i ≤ natTo s (i + 1) ∧ natTo s (i + 1) < ((s.getD 0 0).toNat + 1) * 256 ^ i
  | 0 => by simp [natTo]
  | i + 1 => by
    have ih := natTo_top s i
    have hb := UInt8.toNat_lt (s.getD (i + 1) 0)
    have e : natTo s (i + 1 + 1) = natTo s (i + 1) * 256 + (s.getD (i + 1) 0).toNat := rfl
    rw [e, Nat.pow_succ, ← Nat.mul_assoc, ← Nat.mul_assoc]
    constructor <;> omega
theorem head_is {h : List UInt8} (h64 : h.length = 64) : (rnumM h < 0 → (headNum roundL firstL h).2 = false) ∧ (∀ n : Nat, rnumM h = n → headNum roundL firstL h = ((n : Int), true)) := by
  have hlt := natTo_lt h 8
  have htop := natTo_top h 7
  have hs : smallN (h.take 8) = IntKind.i64.wrap (natTo h 8 : Nat) := by rw [smallN_8 (by simp; omega), natTo_take h 8 8 (Nat.le_refl _)]
  obtain ⟨N, hN⟩ : ∃ N, N = natTo h 8 := ⟨_, rfl⟩
  obtain ⟨t, ht⟩ : ∃ t, t = (h.getD 0 0).toNat := ⟨_, rfl⟩
  rw [← hN] at hlt hs
  rw [show natTo h (7 + 1) = natTo h 8 from rfl, ← hN, ← ht] at htop
  unfold rnumM headNum isFront
  rw [← hN, ← ht, hs]
  by_cases hz : h = List.replicate 64 0
  · rw [if_pos hz, if_pos hz]
    exact ⟨fun h => absurd h (by omega), fun n hn => by rw [← hn]⟩
  · rw [if_neg hz, if_neg hz]
    by_cases h16 : 16 < t
    · rw [if_pos h16]
      refine ⟨fun _ => ?_, fun n hn => absurd hn (by omega)⟩
      rw [IntKind.wrap_i64]
      simp only [Bool.and_eq_false_iff, decide_eq_false_iff_not]
      left
      omega
    · rw [if_neg h16]
      have hw : IntKind.i64.wrap (N : Int) = N := wrap64 (by omega)
      rw [hw]
      by_cases hb : 1152921504606846976 < N ∨ ¬ h = frontB roundL firstL (N : Nat)
      · rw [if_pos hb]
        refine ⟨fun _ => ?_, fun n hn => absurd hn (by omega)⟩
        simp only [Bool.and_eq_false_iff, decide_eq_false_iff_not]
        rcases hb with hb | hb
        · left; right; omega
        · right; exact hb
      · rw [if_neg hb]
        have h1 : ¬ 1152921504606846976 < N := fun x => hb (.inl x)
        have h2 : h = frontB roundL firstL (N : Nat) := Classical.byContradiction fun x => hb (.inr x)
        refine ⟨fun h => absurd h (by omega), fun n hn => ?_⟩
        rw [← h2]
        have h3 : (N : Int) ≤ 1152921504606846976 := by omega
        obtain rfl : N = n := by omega
        simp [h3]
/-! ### what stands in a note -/
theorem getD_append_left {s t : List UInt8} {k : Nat} (h : k < s.length) : (s ++ t).getD k 0 = s.getD k 0 := by
  rw [List.getD_eq_getElem?_getD, List.getD_eq_getElem?_getD, List.getElem?_append_left h]
theorem getD_append_right {s t : List UInt8} {k : Nat} (h : s.length ≤ k) : (s ++ t).getD k 0 = t.getD (k - s.length) 0 := by
  rw [List.getD_eq_getElem?_getD, List.getD_eq_getElem?_getD, List.getElem?_append_right h]
theorem getD_drop {s : List UInt8} {n k : Nat} : (s.drop n).getD k 0 = s.getD (n + k) 0 := by
  rw [List.getD_eq_getElem?_getD, List.getD_eq_getElem?_getD, List.getElem?_drop]
theorem natTo_big {n c : Nat} (hn : n < 256 ^ c) (hc : c ≤ 8) (hn2 : n < 9223372036854775808) : natTo (bigB (n : Int) c) c = n := by
  have key : ∀ i, i ≤ c → natTo (bigB (n : Int) c) i = n / 2 ^ (8 * (c - i)) := by
    intro i
    induction i with
    | zero => intro _; rw [natTo, Nat.sub_zero, Nat.pow_mul]; exact (Nat.div_eq_of_lt hn).symm
    | succ i ih =>
      intro hi
      rw [natTo, ih (by omega), bigB_get hn2 hc (by omega), UInt8.toNat_ofNat', show 8 * (c - i) = 8 * (c - 1 - i) + 8 by omega, Nat.pow_add, ← Nat.div_div_eq_div_mul, show c - (i + 1) = c - 1 - i by omega]
      omega
  have := key c (Nat.le_refl _)
  simpa using this
theorem note_get {number at_ count no : Int} {d : List UInt8} {k : Nat} (hd : d.length = 32) (hk : k < 52) : (noteB number at_ count no d).getD k 0 = (bigB number 8 ++ (bigB at_ 4 ++ (bigB count 4 ++ (bigB no 4 ++ d)))).getD k 0 := by
  have hl : (bigB number 8 ++ (bigB at_ 4 ++ (bigB count 4 ++ (bigB no 4 ++ d)))).length = 52 := by simp [bigB_length, hd]
  unfold noteB fullB
  rw [getD_take (by omega), getD_append_left (by omega)]
theorem note_number {number : Nat} {at_ count no : Int} {d : List UInt8} (hd : d.length = 32) (hn : number < 9223372036854775808) : natTo (noteB number at_ count no d) 8 = number := by
  have e : natTo (noteB (number : Int) at_ count no d) 8 = natTo (bigB (number : Int) 8) 8 := natTo_congr 8 fun k hk => by rw [note_get hd (by omega), getD_append_left (by rw [bigB_length]; omega)]
  rw [e, natTo_big (by omega) (by omega) hn]
theorem note_count {number at_ no : Int} {count : Nat} {d : List UInt8} (hd : d.length = 32) (hn : count < 4294967296) : natTo ((noteB number at_ count no d).drop 12) 4 = count := by
  have e : natTo ((noteB number at_ (count : Int) no d).drop 12) 4 = natTo (bigB (count : Int) 4) 4 := natTo_congr 4 fun k hk => by
    rw [getD_drop, note_get hd (by omega), getD_append_right (by rw [bigB_length]; omega), bigB_length, getD_append_right (by rw [bigB_length]; omega), bigB_length, getD_append_left (by rw [bigB_length]; omega)]
    congr 1; omega
  rw [e, natTo_big (by omega) (by omega) (by omega)]
theorem note_dig {number at_ count no : Int} {d : List UInt8} (hd : d.length = 32) : ((noteB number at_ count no d).drop 20).take 32 = d := by
  have hl := noteB_length number at_ count no d
  apply getD_ext
  · simp [hl, hd]
  · intro k hk
    have hk' : k < 32 := by simp at hk; omega
    rw [getD_take hk', getD_drop, note_get hd (by omega), getD_append_right (by rw [bigB_length]; omega), bigB_length, getD_append_right (by rw [bigB_length]; omega), bigB_length, getD_append_right (by rw [bigB_length]; omega), bigB_length, getD_append_right (by rw [bigB_length]; omega), bigB_length]
    congr 1; omega
end Cr
namespace Cr
open Go
theorem twice_of {d : List (Int × List UInt8)} {i k : Nat} (hi : i < d.length) (hk : k < i) (h : (d.getD k (0, [])).1 = (d.getD i (0, [])).1) : ∀ n, i < n → twiceTo d n = true
  | 0, h' => absurd h' (by omega)
  | n + 1, h' => by
    simp only [twiceTo]
    rcases Nat.lt_or_ge i n with hlt | hge
    · rw [twice_of hi hk h n hlt]; rfl
    · obtain rfl : n = i := by omega
      have hm : (d.getD n (0, [])).1 ∈ (d.take n).map (·.1) := by
        rw [← h, List.getD_eq_getElem?_getD, List.getElem?_eq_getElem (show k < d.length by omega)]
        exact List.mem_map.2 ⟨d[k], List.mem_iff_getElem.2 ⟨k, by simp; omega, by simp⟩, rfl⟩
      rw [decide_eq_true hm]; simp
end Cr
namespace Cr
open Go Go.Proofs
set_option maxRecDepth 10000
/-- A disk that holds bytes, all laid. -/
structure Holds (D : DiskM) (b : List UInt8) (s : Nat) : Prop where
  off : D.off = false
  line : D.line = []
  len : D.laid.length = s
  at_ : ∀ k, k < s → D.laid.getD k [] = secB b k
theorem Holds.read {D : DiskM} {b : List UInt8} {s : Nat} (h : Holds D b s) {k : Nat} (hk : k < s) : D.read (k : Nat) = (0, secB b k) := by
  unfold DiskM.read DiskM.find
  rw [if_neg (by simp [h.off]), if_neg (by simp [inDisk, h.len]; omega), h.line]
  show (0, D.laid.getD ((k : Int)).toNat []) = _
  rw [Int.toNat_natCast, h.at_ k hk]
def ecount (b : List UInt8) (i : Nat) : Nat := natTo ((secB b (1 + 2 * i)).drop 12) 4
def edig (b : List UInt8) (i : Nat) : List UInt8 := ((secB b (1 + 2 * i)).drop 20).take 32
theorem small_4 {a : List UInt8} (ha : a.length = 64) {l : Nat} (hl : l ≤ 60) : smallN ((a.drop l).take 4) = (natTo (a.drop l) 4 : Nat) := by
  rw [smallN_4 (by simp; omega), natTo_take _ 4 4 (Nat.le_refl _)]
theorem entM_in {D : DiskM} {b : List UInt8} {j s number i : Nat} (h : Holds D b s) (hs : b.length = 64 * s) (hjs : j + 2 ≤ s) (hi : i < j / 2) :
    entM D j number (i : Nat) = ⟨(rno b i : Nat), secB b (2 + 2 * i), (ecount b i : Nat), edig b i, decide (secB b (1 + 2 * i) = noteB number i (ecount b i) (rno b i) (edig b i)) && decide ((rno b i : Int) < ((s - 1 - j : Nat) : Int))⟩ := by
  have e1 : (1 : Int) + 2 * (i : Nat) = ((1 + 2 * i : Nat) : Int) := by omega
  have e2 : (1 : Int) + 2 * (i : Nat) + 1 = ((2 + 2 * i : Nat) : Int) := by omega
  have hl1 : (secB b (1 + 2 * i)).length = 64 := secB_length (by omega)
  unfold entM
  rw [if_neg (by omega), e2, e1, h.read (k := 1 + 2 * i) (by omega), h.read (k := 2 + 2 * i) (by omega), if_neg (by simp)]
  unfold entOf
  simp only
  rw [small_4 hl1 (by omega), small_4 hl1 (by omega), h.len, show (s : Int) - 1 - (j : Int) = ((s - 1 - j : Nat) : Int) by omega]
  rfl
theorem entM_out {D : DiskM} {j number : Nat} {i : Nat} (hi : j / 2 ≤ i) : entM D j number (i : Nat) = Ent.none := by
  unfold entM; rw [if_pos (by omega)]
theorem edig_length {b : List UInt8} {s i : Nat} (hs : b.length = 64 * s) (hi : 1 + 2 * i < s) : (edig b i).length = 32 := by
  have := secB_length (b := b) (no := 1 + 2 * i) (by omega)
  simp [edig, this]
theorem twice_free {d : List (Int × List UInt8)} (h : ∀ i k, i < d.length → k < i → (d.getD k (0, [])).1 ≠ (d.getD i (0, [])).1) : ∀ n, n ≤ d.length → twiceTo d n = false
  | 0, _ => rfl
  | n + 1, hn => by
    rw [twiceTo, twice_free h n (by omega), Bool.false_or]
    refine decide_eq_false fun hm => ?_
    obtain ⟨x, hx, e⟩ := List.mem_map.1 hm
    obtain ⟨k, hk, hk'⟩ := List.mem_iff_getElem.1 hx
    have hkn : k < n := by simp at hk; omega
    refine h n k (by omega) hkn ?_
    rw [← e, ← hk', List.getElem_take, List.getD_eq_getElem?_getD, List.getElem?_eq_getElem (by omega)]; rfl
theorem rlist_get {b : List UInt8} {n i : Nat} (h : i < n) : (rlist b n).getD i (0, []) = ((rno b i : Int), secB b (2 + 2 * i)) := by
  unfold rlist
  rw [List.getD_eq_getElem?_getD, List.getElem?_map, List.getElem?_range h]; rfl
theorem rlist_length (b : List UInt8) (n : Nat) : (rlist b n).length = n := by simp [rlist]
theorem rcount_is (b : List UInt8) : rcount b = ecount b 0 := rfl
theorem rdig_is (b : List UInt8) : rdig b = edig b 0 := rfl
section
variable {D : DiskM} {b : List UInt8} {j s number : Nat}
theorem found_yes (h : Holds D b s) (hs : b.length = 64 * s) (hjs : j + 2 ≤ s) (hj : 2 ≤ j) (hok : rfoundOk b j number) : foundM roundL firstL D j number = rlist b (rcount b) := by
  obtain ⟨h1, h2, h3, h4⟩ := hok
  rw [hs, show 64 * s / 64 = s by omega] at h3
  obtain ⟨cnt, hc⟩ : ∃ cnt, cnt = rcount b := ⟨_, rfl⟩
  have hc32 : cnt < 4294967296 := by rw [hc]; exact natTo_lt32 _
  rw [← hc] at h1 h2 h3 h4 ⊢
  have hd32 : (rdig b).length = 32 := edig_length hs (i := 0) (by omega)
  have he : ∀ i, i < cnt → ecount b i = cnt ∧ edig b i = rdig b := fun i hi => by
    obtain ⟨_, g2, _⟩ := h3 i hi
    rw [← hc] at g2
    exact ⟨by unfold ecount; rw [g2, note_count hd32 hc32], by unfold edig; rw [g2, note_dig hd32]⟩
  have hent : ∀ i, i < cnt → entM D j number (i : Nat) = ⟨(rno b i : Nat), secB b (2 + 2 * i), (cnt : Nat), rdig b, true⟩ := fun i hi => by
    obtain ⟨g1, g2, _⟩ := h3 i hi
    rw [← hc] at g2
    rw [entM_in h hs hjs (by omega), (he i hi).1, (he i hi).2, decide_eq_true g2, decide_eq_true (by omega)]; rfl
  have hall : (entList D j number cnt).all (goodE (entM D j number 0)) = true := by
    rw [List.all_eq_true]
    intro e hm
    obtain ⟨i, hi, rfl⟩ := List.mem_map.1 hm
    have h0 := hent 0 (by omega)
    rw [show (((0 : Nat) : Nat) : Int) = 0 from rfl] at h0
    rw [hent i (List.mem_range.1 hi), h0]
    simp [goodE]
  have h0 := hent 0 (by omega)
  rw [show (((0 : Nat) : Nat) : Int) = 0 from rfl] at h0
  have hm : (entList D j number cnt).map entW = rlist b cnt := by
    unfold entList rlist
    rw [List.map_map]
    exact List.map_congr_left fun i hi => by
      show entW (entM D j number (i : Nat)) = _
      rw [hent i (List.mem_range.1 hi)]; rfl
  have hfl : foundL D j number = some (rlist b cnt) := by
    unfold foundL
    rw [if_pos ⟨by rw [h0], by rw [h0]; simp only; omega⟩, show (entM D j number 0).count.toNat = cnt by rw [h0]; simp, if_pos hall, hm]
  have hck : checkM (rlist b cnt) = 0 := by
    unfold checkM
    have hbad : (rlist b cnt).any badW = false := by
      rw [List.any_eq_false]
      intro x hx
      obtain ⟨i, hi, rfl⟩ := List.mem_map.1 hx
      have hi := List.mem_range.1 hi
      have := secB_length (b := b) (no := 2 + 2 * i) (by omega)
      simp [badW, this]
    have htw : twiceTo (rlist b cnt) (rlist b cnt).length = false := twice_free (fun i k hi hk => by
      rw [rlist_length] at hi
      rw [rlist_get hi, rlist_get (show k < cnt by omega)]
      have := (h3 i hi).2.2 k hk
      simp only; omega) _ (Nat.le_refl _)
    rw [hbad, htw]; rfl
  unfold foundM
  rw [hfl]
  simp only
  rw [if_pos ⟨hck, by rw [h4, h0]⟩]
theorem found_no (h : Holds D b s) (hs : b.length = 64 * s) (hjs : j + 2 ≤ s) (hj : 2 ≤ j) (hf : ¬ foundM roundL firstL D j number = []) : rfoundOk b j number := by
  unfold foundM at hf
  cases hfl : foundL D j number with
  | none => rw [hfl] at hf; exact absurd rfl hf
  | some ws =>
    rw [hfl] at hf
    simp only at hf
    by_cases hck : checkM ws = 0 ∧ sumB roundL firstL number ws = (entM D j number 0).d
    · obtain ⟨hck, hsum⟩ := hck
      unfold foundL at hfl
      have h0 := entM_in (number := number) h hs hjs (i := 0) (by omega)
      rw [show (((0 : Nat) : Nat) : Int) = 0 from rfl] at h0
      by_cases hc1 : (entM D j number 0).ok = true ∧ 1 ≤ (entM D j number 0).count
      · rw [if_pos hc1] at hfl
        obtain ⟨hok0, hc1⟩ := hc1
        by_cases hall : (entList D j number (entM D j number 0).count.toNat).all (goodE (entM D j number 0)) = true
        · rw [if_pos hall] at hfl
          obtain ⟨cnt, hc⟩ : ∃ cnt, cnt = rcount b := ⟨_, rfl⟩
          have ecnt : (entM D j number 0).count = (cnt : Nat) := by rw [h0, hc]; rfl
          have edg : (entM D j number 0).d = rdig b := by rw [h0]; rfl
          rw [ecnt, Int.toNat_natCast] at hall hfl
          rw [ecnt] at hc1
          have hg : ∀ i, i < cnt → goodE (entM D j number 0) (entM D j number (i : Nat)) = true := fun i hi => List.all_eq_true.1 hall _ (List.mem_map.2 ⟨i, List.mem_range.2 hi, rfl⟩)
          have hc2 : cnt ≤ j / 2 := by
            rcases Nat.lt_or_ge (j / 2) cnt with hlt | hge
            · have := hg (j / 2) hlt
              rw [entM_out (Nat.le_refl _)] at this
              simp [goodE, Ent.none] at this
            · exact hge
          have hi0 : ∀ i, i < cnt → rno b i < s - 1 - j ∧ secB b (1 + 2 * i) = noteB number i cnt (rno b i) (rdig b) := fun i hi => by
            have := hg i hi
            unfold goodE at this
            rw [ecnt, edg, entM_in h hs hjs (show i < j / 2 by omega)] at this
            simp only [Bool.and_eq_true, decide_eq_true_eq] at this
            obtain ⟨⟨⟨g1, g2⟩, g3⟩, g4⟩ := this
            rw [g3, g4] at g1
            exact ⟨by omega, g1⟩
          have hws : ws = rlist b cnt := by
            rw [← Option.some.inj hfl]
            unfold entList rlist
            rw [List.map_map]
            exact List.map_congr_left fun i hi => by
              show entW (entM D j number (i : Nat)) = _
              rw [entM_in h hs hjs (show i < j / 2 by have := List.mem_range.1 hi; omega)]; rfl
          rw [hws] at hck hsum
          have htw : twiceTo (rlist b cnt) (rlist b cnt).length = false := by
            unfold checkM at hck
            by_cases ht : twiceTo (rlist b cnt) (rlist b cnt).length = true
            · rw [if_pos ht] at hck; split at hck <;> cases hck
            · simpa using ht
          refine ⟨by omega, by omega, fun i hi => ?_, by rw [← hc, hsum, edg]⟩
          rw [hs, show 64 * s / 64 = s by omega]
          rw [← hc] at hi
          obtain ⟨g1, g2⟩ := hi0 i hi
          refine ⟨g1, by rw [← hc]; exact g2, fun k hk hq => ?_⟩
          have := twice_of (d := rlist b cnt) (i := i) (k := k) (by rw [rlist_length]; exact hi) hk (by rw [rlist_get hi, rlist_get (show k < cnt by omega)]; simp only; omega) (rlist b cnt).length (by rw [rlist_length]; exact hi)
          rw [this] at htw; cases htw
        · rw [if_neg hall] at hfl; cases hfl
      · rw [if_neg hc1] at hfl; cases hfl
    · rw [if_neg hck] at hf; exact absurd rfl hf
end
end Cr
namespace Cr
open Go Go.Proofs
set_option maxRecDepth 100000
set_option maxHeartbeats 8000000
attribute [local irreducible] Calls

instance : Und Tryz.prog 153 .unsafePointer := ⟨Tryz.underlying153⟩
theorem Yl_toUnsafe {P : Program} {o : Oper} {σ : Env} {w : World} {x : Operand} {src dst t : TypeId} {n : Nat} {a : Addr} {v : Value} (ho : o.op = .convert src dst x) (hx : ev σ x = some (.pointer (some a))) [hs : Und P src (.pointer t)] [hd : Und P dst .unsafePointer] [hz : Siz P t n] (hn : Nat.blt 0 n = true) (hc : w.cell? a = some v) : Yl P o σ w (.pointer (some a)) := ⟨fun N ds f ha => by
  have hpos : 0 < n := lt_of_blt hn
  have hsz : (P.info? t).map (fun i => decide (i.size = 0)) = some false := by
    have := hz.siz
    cases hi : P.info? t with
    | none => rw [hi] at this; cases this
    | some i =>
      rw [hi] at this
      simp only [Option.map_some, Option.some.injEq] at this ⊢
      exact decide_eq_false (by omega)
  have := run_convert_to_unsafe hs.und hd.und hsz hc
  simp [execOp, ho, ha.eval hx, this]⟩
theorem ilock_ (b off : Nat) (l l' : List Value) (T : TypeId) (W : World) (F : Nat → Prop) [hn : Nth l off (.int .i32 0)] [hs : Spl l off [.int .i32 1] l'] (hS : St W F [pts b (.cells l.toArray T)] W) :
    Calls Tryz.prog 74 #[.pointer (some ⟨b, off, none⟩)] W (Ret fun _ w => True ∧ St W F [pts b (.cells l'.toArray T)] w) := by
  have hn1 : Nth l' off (.int .i32 1) := ⟨by
    have h := hs.spl
    rw [← h.2]
    simp at h
    rw [List.append_assoc, List.getElem?_append_right (by simp; omega), List.length_take, Nat.min_eq_left (by omega)]
    simp⟩
  refine calls_C Tryz.func74 rfl Tryz.ntmps74 rfl ?_
  repeat (first | (refine G_id ?_; first | refine G_nil ?_ | refine G_plain rfl rfl ?_) | (refine X_id ?_; first | refine X_yl (Yl_move rfl rfl) rfl rfl ?_ | refine X_yl (Yl_nilCheck rfl rfl) rfl rfl ?_ | refine X_yl (Yl_fieldAddr rfl rfl rfl) rfl rfl ?_ | refine X_emark0 rfl rfl rfl rfl rfl ?_ | refine X_ecas rfl rfl rfl rfl rfl hS (fun _ hS => ?_)) | (refine C_id ?_; first | refine C_seq ?_ | refine C_region ?_ | refine C_cond_t rfl ?_) | (refine E_id ?_; first | refine E_code ?_))
  refine X_yl (Yl_toUnsafe rfl rfl rfl hS.cell) rfl rfl ?_
  repeat (first | (refine G_id ?_; first | refine G_nil ?_ | refine G_plain rfl rfl ?_) | (refine X_id ?_; first | refine X_emark rfl rfl rfl rfl rfl ?_) | (refine C_id ?_; first | refine C_ret ?_) | (refine E_id ?_; first | refine E_code ?_ | refine E_then_ret ?_ | refine E_ret0 rfl (Ret.mk ?_)))
  exact ⟨trivial, hS⟩
theorem iunlock_ (b off : Nat) (l l' : List Value) (T : TypeId) (W : World) (F : Nat → Prop) [hn : Nth l off (.int .i32 1)] [hs : Spl l off [.int .i32 0] l'] (hS : St W F [pts b (.cells l.toArray T)] W) :
    Calls Tryz.prog 75 #[.pointer (some ⟨b, off, none⟩)] W (Ret fun _ w => True ∧ St W F [pts b (.cells l'.toArray T)] w) := by
  refine calls_C Tryz.func75 rfl Tryz.ntmps75 rfl ?_
  repeat (first | (refine G_id ?_; first | refine G_nil ?_ | refine G_plain rfl rfl ?_) | (refine X_id ?_; first | refine X_yl (Yl_move rfl rfl) rfl rfl ?_ | refine X_yl (Yl_nilCheck rfl rfl) rfl rfl ?_ | refine X_yl (Yl_fieldAddr rfl rfl rfl) rfl rfl ?_ | refine X_yl (Yl_load rfl rfl hS.cell) rfl rfl ?_) | (refine C_id ?_; first | refine C_seq ?_ | refine C_region ?_ | refine C_cond_t rfl ?_) | (refine E_id ?_; first | refine E_code ?_))
  refine X_yl (Yl_toUnsafe rfl rfl rfl hS.cell) rfl rfl ?_
  repeat (first | (refine G_id ?_; first | refine G_nil ?_ | refine G_plain rfl rfl ?_) | (refine X_id ?_; first | refine X_yl (Yl_move rfl rfl) rfl rfl ?_ | refine X_yl (Yl_nilCheck rfl rfl) rfl rfl ?_ | refine X_yl (Yl_fieldAddr rfl rfl rfl) rfl rfl ?_ | refine X_emark0 rfl rfl rfl rfl rfl ?_ | refine X_emark rfl rfl rfl rfl rfl ?_) | (refine C_id ?_; first | refine C_seq ?_ | refine C_region ?_) | (refine E_id ?_; first | refine E_code ?_))
  refine X_eadd (s := 0) rfl rfl rfl rfl rfl rfl hS (fun _ hS => ?_)
  repeat (first | (refine G_id ?_; first | refine G_nil ?_ | refine G_plain rfl rfl ?_) | (refine X_id ?_; first | refine X_yl (Yl_move rfl rfl) rfl rfl ?_ | refine X_yl (Yl_assign rfl rfl) rfl rfl ?_ | refine X_yl (Yl_neq_f rfl rfl rfl (by omega)) rfl rfl ?_ | refine X_emark0 rfl rfl rfl rfl rfl ?_) | (refine C_id ?_; first | refine C_seq ?_ | refine C_region ?_ | refine C_skip ?_ | refine C_cond_f rfl ?_) | (refine E_id ?_; first | refine E_code ?_ | refine E_end0 rfl (Ret.mk ?_)))
  exact ⟨trivial, hS⟩
theorem bload_ (b off : Nat) (l : List Value) (T : TypeId) (x : Int) (W : World) [hn : Nth l off (.int .u32 x)] (hL : Rd W (pts b (.cells l.toArray T))) :
    Calls Tryz.prog 36 #[.pointer (some ⟨b, off, none⟩)] W (Ret fun v w => v = .bool (decide (¬ x = 0)) ∧ W = w) := by
  have hc := hL.pts
  have hS := St.start W
  refine calls_C Tryz.func36 rfl Tryz.ntmps36 rfl ?_
  repeat (first | (refine G_id ?_; first | refine G_nil ?_ | refine G_plain rfl rfl ?_) | (refine X_id ?_; first | refine X_yl (Yl_move rfl rfl) rfl rfl ?_ | refine X_yl (Yl_assign rfl rfl) rfl rfl ?_ | refine X_yl (Yl_nilCheck rfl rfl) rfl rfl ?_ | refine X_yl (Yl_fieldAddr rfl rfl rfl) rfl rfl ?_ | refine X_yl (Yl_neq rfl rfl rfl) rfl rfl ?_ | refine X_eload rfl rfl rfl (cell_at (by assumption)) rfl rfl ?_) | (refine C_id ?_; first | refine C_seq ?_ | refine C_region ?_ | refine C_ret ?_) | (refine E_id ?_; first | refine E_code ?_ | refine E_ret1 rfl (Rv_tmp rfl) (Ret.mk ?_)))
  exact ⟨rfl, rfl⟩
theorem bstore_ (b off : Nat) (l l' : List Value) (T : TypeId) (x : Int) (W : World) (F : Nat → Prop) [hn : Nth l off (.int .u32 x)] [hs : Spl l off [.int .u32 1] l'] (hS : St W F [pts b (.cells l.toArray T)] W) :
    Calls Tryz.prog 60 #[.pointer (some ⟨b, off, none⟩), .bool true] W (Ret fun _ w => True ∧ St W F [pts b (.cells l'.toArray T)] w) := by
  have hb32 : ∀ w, Calls Tryz.prog 77 #[.bool true] w (Ret fun v w' => v = .int .u32 1 ∧ w = w') := fun w => by
    refine calls_C Tryz.func77 rfl Tryz.ntmps77 rfl ?_
    repeat (first | (refine G_id ?_; first | refine G_nil ?_ | refine G_plain rfl rfl ?_) | (refine X_id ?_; first | refine X_yl (Yl_move rfl rfl) rfl rfl ?_ | refine X_yl (Yl_assign rfl rfl) rfl rfl ?_) | (refine C_id ?_; first | refine C_seq ?_ | refine C_region ?_ | refine C_ret ?_ | refine C_cond_t rfl ?_) | (refine E_id ?_; first | refine E_code ?_ | refine E_then_ret ?_ | refine E_ret1 rfl (Rv_tmp rfl) (Ret.mk ?_)))
    exact ⟨rfl, rfl⟩
  refine calls_C Tryz.func60 rfl Tryz.ntmps60 rfl ?_
  repeat (first | fail)
  refine C_ord (.s 0 (.s 1 (.s 2 (.s 3 (.h 4 (.h 5 .nil .no) .no))))) mixed (by kernel_rfl) rfl ?_
  have hS := hS.drew
  repeat (first | (refine X_id ?_; first | (refine X_callg 77 rfl rfl rfl rfl rfl (hb32 _) ?_; rintro _ _ ⟨rfl, rfl⟩) | refine X_estore rfl rfl rfl rfl rfl hS (fun _ hS => ?_)) | (refine E_id ?_; first | refine E_end0 rfl (Ret.mk ?_)) | (refine GO_id ?_; first | refine GO_nil ?_ | refine GO_pure rfl rfl (fun _ => Yl_move rfl rfl) rfl rfl ?_ | refine GO_pure rfl rfl (fun _ => Yl_nilCheck rfl rfl) rfl rfl ?_ | refine GO_pure rfl rfl (fun _ => Yl_fieldAddr rfl rfl rfl) rfl rfl ?_ | refine GO_hard rfl rfl ?_) | (refine Keep_id ?_; first | refine And.intro (by repeat (first | exact trivial | refine And.intro (.inl (by decide +kernel)) ?_ | refine And.intro (.inr (by first | assumption | exact hS.cell | exact cell_at (by assumption) | exact hS.cellI (by omega) | exact hS.cellIP (by omega) | exact hS.cellsN | exact ((hr.rd hS).cellX (by omega) hx) | exact ((hr2.rd hS).cellX (by omega) hx2) | exact hS.cellB (by omega) | exact hS.cellBA (by omega) | exact (hb.rd hS).cellB' (by omega) | exact (hb2.rd hS).cellB' (by omega) | exact (hg.rd hS).cellI (by omega) | exact (hg2.rd hS).cellI (by omega) | exact ((hr.rd hS).cellF (by first | omega | (dsimp only; omega)) hx) | exact ((hr2.rd hS).cellF (by first | omega | (dsimp only; omega)) hx2) | exact hS.cellIA (by omega) | exact (hg.rd hS).cellIA (by omega) | exact (hg2.rd hS).cellIA (by omega))) ?_)) ?_))
  exact ⟨trivial, hS⟩
end Cr
namespace Cr
open Go Go.Proofs
set_option maxRecDepth 100000
set_option maxHeartbeats 8000000
attribute [local irreducible] Calls

abbrev ptrAt (b lp : Nat) : Res := pts b (.cells #[.pointer (some ⟨lp, 0, none⟩)] 30)
abbrev errAt (b : Nat) (e : Int) : Res := pts b (.cells #[.int .i64 e] 25)
theorem b32_ (W : World) : Calls Tryz.prog 77 #[.bool true] W (Ret fun v w => v = .int .u32 1 ∧ W = w) := by
  refine calls_C Tryz.func77 rfl Tryz.ntmps77 rfl ?_
  repeat (first | (refine G_id ?_; first | refine G_nil ?_ | refine G_plain rfl rfl ?_) | (refine X_id ?_; first | refine X_yl (Yl_move rfl rfl) rfl rfl ?_ | refine X_yl (Yl_assign rfl rfl) rfl rfl ?_) | (refine C_id ?_; first | refine C_seq ?_ | refine C_region ?_ | refine C_ret ?_ | refine C_cond_t rfl ?_) | (refine E_id ?_; first | refine E_code ?_ | refine E_then_ret ?_ | refine E_ret1 rfl (Rv_tmp rfl) (Ret.mk ?_)))
  exact ⟨rfl, rfl⟩
theorem open1_ (lp p b6 b7 : Nat) (o s m : Int) (j : Nat) (done : Int) (rdn : Bool) (D : DiskM) (e0 : Int) (rd fs : List Int) (W : World) (F : Nat → Prop) (hG : Gl W F rd fs) (hj : j ≤ 4096) (hline : D.line.length < 1073700000)
    (hS : St W F [logAt lp p o s m j done rdn, disk p D, ptrAt b6 lp, errAt b7 e0] W) :
    Calls Tryz.prog 24 #[.pointer (some ⟨b6, 0, none⟩), .pointer (some ⟨b7, 0, none⟩)] W (Ret fun _ w => True ∧
      St W F [logAt lp p o s m j (redoM rd fs D j done rdn).done (redoM rd fs D j done rdn).redone, disk p (redoM rd fs D j done rdn).D, ptrAt b6 lp, errAt b7 (redoM rd fs D j done rdn).e] w) := by
  refine calls_C Tryz.func24 rfl Tryz.ntmps24 rfl ?_
  repeat (first | (refine G_id ?_; first | refine G_plain rfl rfl ?_) | (refine X_id ?_; first | refine X_yl (Yl_load rfl rfl hS.cell) rfl rfl ?_) | (refine C_id ?_; first | refine C_region ?_))
  obtain ⟨_, hc, hr, hw, hbk⟩ := hS.call [true, true, false, false]
  refine X_callg _ rfl rfl rfl rfl rfl (redo_ lp p o s m j done rdn D rd fs _ _ (hG.mono hw) hj hline hc) ?_
  rintro _ w ⟨rfl, hS⟩
  replace hS := hbk hS
  clear hc hr hw hbk
  generalize redoM rd fs D j done rdn = R at hS ⊢
  repeat (first | (refine G_id ?_; first | refine G_nil ?_ | refine G_plain rfl rfl ?_) | (refine X_id ?_; first | refine X_store rfl rfl rfl rfl hS (fun _ hS _ => ?_)) | (refine E_id ?_; first | refine E_end0 rfl (Ret.mk ?_)))
  exact ⟨trivial, hS⟩
theorem doSlow_ (lp p b6 b7 : Nat) (m : Int) (j : Nat) (done : Int) (rdn : Bool) (D : DiskM) (e0 : Int) (rd fs : List Int) (W : World) (F : Nat → Prop) (hG : Gl W F rd fs) (hj : j ≤ 4096) (hline : D.line.length < 1073700000)
    (hS : St W F [logAt lp p 0 0 m j done rdn, disk p D, ptrAt b6 lp, errAt b7 e0] W) :
    Calls Tryz.prog 37 #[.pointer (some ⟨lp, 1, none⟩), .func (.func 24) #[] #[.pointer (some ⟨b6, 0, none⟩), .pointer (some ⟨b7, 0, none⟩)]] W (Ret fun _ w => True ∧
      St W F [logAt lp p 1 0 m j (redoM rd fs D j done rdn).done (redoM rd fs D j done rdn).redone, disk p (redoM rd fs D j done rdn).D, ptrAt b6 lp, errAt b7 (redoM rd fs D j done rdn).e] w) := by
  have hlock : ∀ W F, St W F [logAt lp p 0 0 m j done rdn] W → Calls Tryz.prog 58 #[.pointer (some ⟨lp, 2, none⟩)] W (Ret fun _ w => True ∧ St W F [logAt lp p 0 1 m j done rdn] w) := fun W F hS => by
    refine calls_C Tryz.func58 rfl Tryz.ntmps58 rfl ?_
    repeat (first | (refine G_id ?_; first | refine G_plain rfl rfl ?_) | (refine X_id ?_; first | refine X_yl (Yl_move rfl rfl) rfl rfl ?_ | refine X_yl (Yl_nilCheck rfl rfl) rfl rfl ?_ | refine X_yl (Yl_fieldAddr rfl rfl rfl) rfl rfl ?_) | (refine C_id ?_; first | refine C_region ?_))
    refine X_callg _ rfl rfl rfl rfl rfl (ilock_ lp 2 _ _ _ _ _ hS) ?_
    rintro _ w ⟨_, hS⟩
    repeat (first | (refine G_id ?_; first | refine G_nil ?_) | (refine E_id ?_; first | refine E_end0 rfl (Ret.mk ?_)))
    exact ⟨trivial, hS⟩
  refine calls_C Tryz.func37 rfl Tryz.ntmps37 rfl ?_
  repeat (first | (refine G_id ?_; first | refine G_plain rfl rfl ?_) | (refine X_id ?_; first | refine X_yl (Yl_move rfl rfl) rfl rfl ?_ | refine X_yl (Yl_nilCheck rfl rfl) rfl rfl ?_ | refine X_yl (Yl_fieldAddr rfl rfl rfl) rfl rfl ?_) | (refine C_id ?_; first | refine C_seq ?_ | refine C_region ?_))
  obtain ⟨_, hc, hr, hw, hbk⟩ := hS.call [true, false, false, false]
  refine X_callg _ rfl rfl rfl rfl rfl (hlock _ _ hc) ?_
  rintro _ w ⟨_, hS⟩
  replace hS := hbk hS
  clear hc hr hw hbk
  repeat (first | (refine G_id ?_; first | refine G_nil ?_ | refine G_defer rfl rfl rfl rfl rfl ?_ | refine G_plain rfl rfl ?_) | (refine X_id ?_; first | refine X_yl (Yl_move rfl rfl) rfl rfl ?_ | refine X_yl (Yl_nilCheck rfl rfl) rfl rfl ?_ | refine X_yl (Yl_fieldAddr rfl rfl rfl) rfl rfl ?_) | (refine C_id ?_; first | refine C_seq ?_ | refine C_region ?_) | (refine E_id ?_; first | refine E_code ?_ | refine E_code2 rfl ?_))
  refine X_callg _ rfl rfl rfl rfl rfl (bload_ lp 1 _ _ 0 _ (hS.rd (List.mem_cons_self ..))) ?_
  rintro _ _ ⟨rfl, rfl⟩
  rw [decide_eq_false (show ¬ ¬ (0 : Int) = 0 by simp)]
  repeat (first | (refine G_id ?_; first | refine G_nil ?_ | refine G_defer rfl rfl rfl rfl rfl ?_ | refine G_plain rfl rfl ?_) | (refine X_id ?_; first | refine X_yl (Yl_move rfl rfl) rfl rfl ?_ | refine X_yl (Yl_nilCheck rfl rfl) rfl rfl ?_ | refine X_yl (Yl_fieldAddr rfl rfl rfl) rfl rfl ?_ | refine X_yl (Yl_not_f rfl rfl) rfl rfl ?_) | (refine C_id ?_; first | refine C_seq ?_ | refine C_region ?_ | refine C_cond_t rfl ?_) | (refine E_id ?_; first | refine E_code ?_ | refine E_code2 rfl ?_))
  obtain ⟨_, hc, hr, hw, hbk⟩ := hS.call [true, true, true, true]
  refine X_call (first := []) (captured := [.pointer (some ⟨b6, 0, none⟩), .pointer (some ⟨b7, 0, none⟩)]) rfl rfl rfl rfl rfl (open1_ lp p b6 b7 0 1 m j done rdn D e0 rd fs _ _ (hG.mono hw) hj hline hc) ?_
  rintro _ w ⟨_, hS⟩
  replace hS := hbk hS
  clear hc hr hw hbk
  generalize redoM rd fs D j done rdn = R at hS ⊢
  repeat (first | (refine G_id ?_; first | refine G_nil ?_))
  refine E_defer (args := [.pointer (some ⟨lp, 1, none⟩), .bool true]) (captured := []) rfl rfl rfl rfl (.inr rfl) ?_
  repeat (first | fail)
  refine C_ord (.s 0 (.s 1 (.s 2 (.s 3 (.h 4 (.h 5 .nil .no) .no))))) mixed (by kernel_rfl) rfl ?_
  have hS := hS.drew
  repeat (first | (refine X_id ?_; first | (refine X_callg 77 rfl rfl rfl rfl rfl (b32_ _) ?_; rintro _ _ ⟨rfl, rfl⟩) | refine X_estore rfl rfl rfl rfl rfl hS (fun _ hS => ?_)) | (refine E_id ?_; first | refine E_end0d rfl (Ret.mk ?_)) | (refine GO_id ?_; first | refine GO_nil ?_ | refine GO_pure rfl rfl (fun _ => Yl_move rfl rfl) rfl rfl ?_ | refine GO_pure rfl rfl (fun _ => Yl_nilCheck rfl rfl) rfl rfl ?_ | refine GO_pure rfl rfl (fun _ => Yl_fieldAddr rfl rfl rfl) rfl rfl ?_ | refine GO_hard rfl rfl ?_) | (refine Keep_id ?_; first | refine And.intro (by repeat (first | exact trivial | refine And.intro (.inl (by decide +kernel)) ?_ | refine And.intro (.inr (by first | assumption | exact hS.cell | exact cell_at (by assumption) | exact hS.cellI (by omega) | exact hS.cellIP (by omega) | exact hS.cellsN | exact ((hr.rd hS).cellX (by omega) hx) | exact ((hr2.rd hS).cellX (by omega) hx2) | exact hS.cellB (by omega) | exact hS.cellBA (by omega) | exact (hb.rd hS).cellB' (by omega) | exact (hb2.rd hS).cellB' (by omega) | exact (hg.rd hS).cellI (by omega) | exact (hg2.rd hS).cellI (by omega) | exact ((hr.rd hS).cellF (by first | omega | (dsimp only; omega)) hx) | exact ((hr2.rd hS).cellF (by first | omega | (dsimp only; omega)) hx2) | exact hS.cellIA (by omega) | exact (hg.rd hS).cellIA (by omega) | exact (hg2.rd hS).cellIA (by omega))) ?_)) ?_))
  refine E_defer (args := [.pointer (some ⟨lp, 2, none⟩)]) (captured := []) rfl rfl rfl rfl (.inr rfl) ?_
  repeat (first | (refine G_id ?_; first | refine G_plain rfl rfl ?_) | (refine X_id ?_; first | refine X_yl (Yl_move rfl rfl) rfl rfl ?_ | refine X_yl (Yl_nilCheck rfl rfl) rfl rfl ?_ | refine X_yl (Yl_fieldAddr rfl rfl rfl) rfl rfl ?_) | (refine C_id ?_; first | refine C_region ?_))
  obtain ⟨_, hc, hr, hw, hbk⟩ := hS.call [true, false, false, false]
  refine X_callg _ rfl rfl rfl rfl rfl (iunlock_ lp 2 _ _ _ _ _ hc) ?_
  rintro _ w ⟨_, hS⟩
  replace hS := hbk hS
  clear hc hr hw hbk
  repeat (first | (refine G_id ?_; first | refine G_nil ?_) | (refine E_id ?_; first | refine E_end0 rfl (Ret.mk ?_) | refine E_end0d rfl (Ret.mk ?_)))
  exact ⟨trivial, hS⟩
theorem do_ (lp p b6 b7 : Nat) (m : Int) (j : Nat) (done : Int) (rdn : Bool) (D : DiskM) (e0 : Int) (rd fs : List Int) (W : World) (F : Nat → Prop) (hG : Gl W F rd fs) (hj : j ≤ 4096) (hline : D.line.length < 1073700000)
    (hS : St W F [logAt lp p 0 0 m j done rdn, disk p D, ptrAt b6 lp, errAt b7 e0] W) :
    Calls Tryz.prog 23 #[.pointer (some ⟨lp, 1, none⟩), .func (.func 24) #[] #[.pointer (some ⟨b6, 0, none⟩), .pointer (some ⟨b7, 0, none⟩)]] W (Ret fun _ w => True ∧
      St W F [logAt lp p 1 0 m j (redoM rd fs D j done rdn).done (redoM rd fs D j done rdn).redone, disk p (redoM rd fs D j done rdn).D, ptrAt b6 lp, errAt b7 (redoM rd fs D j done rdn).e] w) := by
  refine calls_C Tryz.func23 rfl Tryz.ntmps23 rfl ?_
  repeat (first | (refine G_id ?_; first | refine G_plain rfl rfl ?_) | (refine X_id ?_; first | refine X_yl (Yl_move rfl rfl) rfl rfl ?_ | refine X_yl (Yl_nilCheck rfl rfl) rfl rfl ?_ | refine X_yl (Yl_fieldAddr rfl rfl rfl) rfl rfl ?_) | (refine C_id ?_; first | refine C_seq ?_ | refine C_region ?_))
  refine X_callg _ rfl rfl rfl rfl rfl (bload_ lp 1 _ _ 0 _ (hS.rd (List.mem_cons_self ..))) ?_
  rintro _ _ ⟨rfl, rfl⟩
  rw [decide_eq_false (show ¬ ¬ (0 : Int) = 0 by simp)]
  repeat (first | (refine G_id ?_; first | refine G_nil ?_ | refine G_plain rfl rfl ?_) | (refine X_id ?_; first | refine X_yl (Yl_move rfl rfl) rfl rfl ?_ | refine X_yl (Yl_not_f rfl rfl) rfl rfl ?_) | (refine C_id ?_; first | refine C_region ?_ | refine C_cond_t rfl ?_) | (refine E_id ?_; first | refine E_code ?_))
  obtain ⟨_, hc, hr, hw, hbk⟩ := hS.call [true, true, true, true]
  refine X_callg _ rfl rfl rfl rfl rfl (doSlow_ lp p b6 b7 m j done rdn D e0 rd fs _ _ (hG.mono hw) hj hline hc) ?_
  rintro _ w ⟨_, hS⟩
  replace hS := hbk hS
  clear hc hr hw hbk
  repeat (first | (refine G_id ?_; first | refine G_nil ?_) | (refine E_id ?_; first | refine E_end0 rfl (Ret.mk ?_)))
  exact ⟨trivial, hS⟩

/-! ### Open -/
structure OpenM where
  e : Int
  D : DiskM
  done : Int
  redone : Bool
def openM (rd fs : List Int) (D : DiskM) (j : Int) : RedoM :=
  if D.off = true then ⟨9, D, 0, false⟩ else if j < 2 ∨ 1024 < j ∨ ¬ j % 2 = 0 ∨ (D.laid.length : Int) < j + 2 then ⟨1, D, 0, false⟩ else redoM rd fs D j.toNat 0 false
theorem open_nil (j : Int) (W : World) : Calls Tryz.prog 7 #[.pointer none, .int .i64 j] W (Ret fun v w => v = .tuple #[.pointer none, .int .i64 9] ∧ W = w) := by
  refine calls_C Tryz.func7 rfl Tryz.ntmps7 rfl ?_
  repeat (first | (refine G_id ?_; first | refine G_nil ?_ | refine G_plain rfl rfl ?_) | (refine X_id ?_; first | (refine X_callg 16 rfl rfl rfl rfl rfl (on_nil _) ?_; rintro _ _ ⟨rfl, rfl⟩) | refine X_yl (Yl_move rfl rfl) rfl rfl ?_ | refine X_yl (Yl_assign rfl rfl) rfl rfl ?_ | refine X_yl (Yl_not_f rfl rfl) rfl rfl ?_) | (refine C_id ?_; first | refine C_seq ?_ | refine C_region ?_ | refine C_block ?_ | refine C_ret ?_ | refine C_cond_t rfl ?_) | (refine E_id ?_; first | refine E_code ?_ | refine E_then_ret ?_ | refine E_blk_ret ?_ | refine E_ret2 rfl (Rv_tmp rfl) (Rv_tmp rfl) (Ret.mk ?_)))
  exact ⟨rfl, rfl⟩
end Cr
namespace Cr
open Go Go.Proofs
set_option maxRecDepth 100000
set_option maxHeartbeats 8000000
attribute [local irreducible] Calls

def OpenR (W : World) (F : Nat → Prop) (p : Nat) (j : Nat) (R : RedoM) (v : Value) (w : World) : Prop :=
  (¬ R.e = 0 ∧ v = .tuple #[.pointer none, .int .i64 R.e] ∧ St W F [disk p R.D] w) ∨ (R.e = 0 ∧ ∃ lp, v = .tuple #[.pointer (some ⟨lp, 0, none⟩), .int .i64 0] ∧ St W F [logAt lp p 1 0 0 j R.done R.redone, disk p R.D] w)
theorem open_ (p : Nat) (D : DiskM) (j : Int) (rd fs : List Int) (W : World) (F : Nat → Prop) (hG : Gl W F rd fs) (hline : D.line.length < 1073700000) (hS : St W F [disk p D] W) :
    Calls Tryz.prog 7 #[.pointer (some ⟨p, 0, none⟩), .int .i64 j] W (Ret fun v w => OpenR W F p j.toNat (openM rd fs D j) v w) := by
  have hd := hS.rd (List.mem_cons_self ..)
  have hmost := hd.disk.1.most
  have hon := on_ p D W hd
  have hse := sectors_ p D W hd
  cases hoff : D.off
  · rw [hoff] at hon
    have e : openM rd fs D j = if j < 2 ∨ 1024 < j ∨ ¬ j % 2 = 0 ∨ (D.laid.length : Int) < j + 2 then ⟨1, D, 0, false⟩ else redoM rd fs D j.toNat 0 false := by unfold openM; rw [if_neg (by simp [hoff])]
    by_cases h1 : j < 2
    · rw [if_pos (.inl h1)] at e
      refine calls_C Tryz.func7 rfl Tryz.ntmps7 rfl ?_
      repeat (first | (refine G_id ?_; first | refine G_nil ?_ | refine G_plain rfl rfl ?_ | refine G_no rfl rfl rfl rfl rfl rfl ?_) | (refine X_id ?_; first | (refine X_callg 16 rfl rfl rfl rfl rfl hon ?_; rintro _ _ ⟨rfl, rfl⟩) | refine X_yl (Yl_move rfl rfl) rfl rfl ?_ | refine X_yl (Yl_assign rfl rfl) rfl rfl ?_ | refine X_yl (Yl_pick_t rfl rfl rfl) rfl rfl ?_ | refine X_yl (Yl_not_t rfl rfl) rfl rfl ?_ | refine X_yl (Yl_lss_t rfl rfl rfl (by omega)) rfl rfl ?_) | (refine C_id ?_; first | refine C_seq ?_ | refine C_region ?_ | refine C_block ?_ | refine C_ret ?_ | refine C_cond_t rfl ?_ | refine C_cond_f rfl ?_) | (refine E_id ?_; first | refine E_code ?_ | refine E_then_ret ?_ | refine E_blk_ret ?_ | refine E_ret2 rfl (Rv_tmp rfl) (Rv_tmp rfl) (Ret.mk ?_)))
      rw [e]
      exact .inl ⟨by simp, rfl, hS⟩
    by_cases h2 : 1024 < j
    · rw [if_pos (.inr (.inl h2))] at e
      refine calls_C Tryz.func7 rfl Tryz.ntmps7 rfl ?_
      repeat (first | (refine G_id ?_; first | refine G_nil ?_ | refine G_plain rfl rfl ?_ | refine G_yes rfl rfl rfl rfl ?_ | refine G_no rfl rfl rfl rfl rfl rfl ?_) | (refine X_id ?_; first | (refine X_callg 16 rfl rfl rfl rfl rfl hon ?_; rintro _ _ ⟨rfl, rfl⟩) | refine X_yl (Yl_move rfl rfl) rfl rfl ?_ | refine X_yl (Yl_assign rfl rfl) rfl rfl ?_ | refine X_yl (Yl_pick_t rfl rfl rfl) rfl rfl ?_ | refine X_yl (Yl_pick_f rfl rfl rfl) rfl rfl ?_ | refine X_yl (Yl_not_t rfl rfl) rfl rfl ?_ | refine X_yl (Yl_lss_f rfl rfl rfl (by omega)) rfl rfl ?_ | refine X_yl (Yl_gtr_t rfl rfl rfl (by omega)) rfl rfl ?_) | (refine C_id ?_; first | refine C_seq ?_ | refine C_region ?_ | refine C_block ?_ | refine C_ret ?_ | refine C_cond_t rfl ?_ | refine C_cond_f rfl ?_) | (refine E_id ?_; first | refine E_code ?_ | refine E_then_ret ?_ | refine E_blk_ret ?_ | refine E_ret2 rfl (Rv_tmp rfl) (Rv_tmp rfl) (Ret.mk ?_)))
      rw [e]
      exact .inl ⟨by simp, rfl, hS⟩
    by_cases h3 : j % 2 = 0
    · by_cases h4 : (D.laid.length : Int) < j + 2
      · rw [if_pos (.inr (.inr (.inr h4)))] at e
        refine calls_C Tryz.func7 rfl Tryz.ntmps7 rfl ?_
        repeat (first | (refine G_id ?_; first | refine G_nil ?_ | refine G_plain rfl rfl ?_ | refine G_yes rfl rfl rfl rfl ?_) | (refine X_id ?_; first | (refine X_callg 16 rfl rfl rfl rfl rfl hon ?_; rintro _ _ ⟨rfl, rfl⟩) | (refine X_callg 22 rfl rfl rfl rfl rfl hse ?_; rintro _ _ ⟨rfl, rfl⟩) | refine X_yl (Yl_move rfl rfl) rfl rfl ?_ | refine X_yl (Yl_assign rfl rfl) rfl rfl ?_ | refine X_yl (Yl_pick_f rfl rfl rfl) rfl rfl ?_ | refine X_yl (Yl_not_t rfl rfl) rfl rfl ?_ | refine X_yl (Yl_neq_f rfl rfl rfl (by omega)) rfl rfl ?_ | refine X_yl (Yl_lss_t rfl rfl rfl (by omega)) rfl rfl ?_ | refine X_yl (Yl_lss_f rfl rfl rfl (by omega)) rfl rfl ?_ | refine X_yl (Yl_gtr_f rfl rfl rfl (by omega)) rfl rfl ?_ | refine X_yl (Yl_add rfl rfl rfl (w64 (by omega) (by omega))) rfl rfl ?_ | refine X_yl (Yl_remE rfl rfl rfl (by omega) (by omega)) rfl rfl ?_) | (refine C_id ?_; first | refine C_seq ?_ | refine C_region ?_ | refine C_block ?_ | refine C_ret ?_ | refine C_cond_t rfl ?_ | refine C_cond_f rfl ?_) | (refine E_id ?_; first | refine E_code ?_ | refine E_then_ret ?_ | refine E_blk_ret ?_ | refine E_ret2 rfl (Rv_tmp rfl) (Rv_tmp rfl) (Ret.mk ?_)))
        rw [e]
        exact .inl ⟨by simp, rfl, hS⟩
      · rw [if_neg (by omega)] at e
        obtain ⟨jn, rfl⟩ : ∃ n : Nat, j = n := ⟨j.toNat, by omega⟩
        rw [Int.toNat_natCast] at e ⊢
        rw [e]
        refine calls_C Tryz.func7 rfl Tryz.ntmps7 rfl ?_
        repeat (first | (refine G_id ?_; first | refine G_nil ?_ | refine G_plain rfl rfl ?_ | refine G_yes rfl rfl rfl rfl ?_) | (refine X_id ?_; first | (refine X_callg 16 rfl rfl rfl rfl rfl hon ?_; rintro _ _ ⟨rfl, rfl⟩) | (refine X_callg 22 rfl rfl rfl rfl rfl hse ?_; rintro _ _ ⟨rfl, rfl⟩) | refine X_yl (Yl_move rfl rfl) rfl rfl ?_ | refine X_yl (Yl_assign rfl rfl) rfl rfl ?_ | refine X_yl (Yl_nilCheck rfl rfl) rfl rfl ?_ | refine X_yl (Yl_fieldAddr0 rfl rfl rfl) rfl rfl ?_ | refine X_yl (Yl_pick_f rfl rfl rfl) rfl rfl ?_ | refine X_yl (Yl_not_t rfl rfl) rfl rfl ?_ | refine X_yl (Yl_makeFunc rfl rfl rfl) rfl rfl ?_ | refine X_yl (Yl_neq_f rfl rfl rfl (by omega)) rfl rfl ?_ | refine X_yl (Yl_lss_f rfl rfl rfl (by omega)) rfl rfl ?_ | refine X_yl (Yl_gtr_f rfl rfl rfl (by omega)) rfl rfl ?_ | refine X_yl (Yl_build rfl rfl rfl) rfl rfl ?_ | refine X_yl (Yl_add rfl rfl rfl (w64 (by omega) (by omega))) rfl rfl ?_ | refine X_yl (Yl_remE rfl rfl rfl (by omega) (by omega)) rfl rfl ?_ | refine X_yl (Yl_load rfl rfl hS.cell) rfl rfl ?_ | refine X_store rfl rfl rfl rfl hS (fun _ hS _ => ?_) | refine X_box rfl rfl rfl rfl hS (fun _ _ hS _ => ?_) | refine X_alloc rfl rfl rfl hS (fun _ _ hS _ => ?_)) | (refine C_id ?_; first | refine C_seq ?_ | refine C_region ?_ | refine C_block ?_ | refine C_skip ?_ | refine C_cond_f rfl ?_) | (refine E_id ?_; first | refine E_code ?_ | refine E_blk_n ?_))
        have hS := hS.pick [2, 2, 1, 0]
        obtain ⟨_, hc, hr, hw, hbk⟩ := hS.call [true, true, true, true]
        refine X_callg _ rfl rfl rfl rfl rfl (do_ _ p _ _ 0 jn 0 false D 0 rd fs _ _ (hG.mono hw) (by omega) hline hc) ?_
        rintro _ w ⟨_, hS⟩
        replace hS := hbk hS
        clear hc hr hw hbk
        generalize redoM rd fs D jn 0 false = R at hS ⊢
        by_cases hRe : R.e = 0
        · rw [hRe] at hS
          repeat (first | (refine G_id ?_; first | refine G_nil ?_ | refine G_plain rfl rfl ?_) | (refine X_id ?_; first | refine X_yl (Yl_assign rfl rfl) rfl rfl ?_ | refine X_yl (Yl_neq_f rfl rfl rfl (by omega)) rfl rfl ?_ | refine X_yl (Yl_load rfl rfl hS.cell) rfl rfl ?_) | (refine C_id ?_; first | refine C_seq ?_ | refine C_region ?_ | refine C_ret ?_ | refine C_skip ?_ | refine C_cond_f rfl ?_) | (refine E_id ?_; first | refine E_code ?_ | refine E_ret2 rfl (Rv_tmp rfl) (Rv_tmp rfl) (Ret.mk ?_)))
          exact .inr ⟨hRe, _, rfl, hS.pick [0, 0]⟩
        · repeat (first | (refine G_id ?_; first | refine G_nil ?_ | refine G_plain rfl rfl ?_) | (refine X_id ?_; first | refine X_yl (Yl_neq_t rfl rfl rfl (by omega)) rfl rfl ?_ | refine X_yl (Yl_load rfl rfl hS.cell) rfl rfl ?_) | (refine C_id ?_; first | refine C_seq ?_ | refine C_region ?_ | refine C_cond_t rfl ?_) | (refine E_id ?_; first | refine E_code ?_))
          refine C_ord (.s 0 (.s 1 (.s 2 .nil))) mixed (by kernel_rfl) rfl ?_
          have hS := hS.drew
          repeat (first | (refine C_id ?_; first | refine C_ret ?_) | (refine E_id ?_; first | refine E_code ?_ | refine E_then_ret ?_ | refine E_ret2 rfl (Rv_tmp rfl) (Rv_tmp rfl) (Ret.mk ?_)) | (refine GO_id ?_; first | refine GO_nil ?_ | refine GO_pure rfl rfl (fun _ => Yl_assign rfl rfl) rfl rfl ?_ | refine GO_read (fun w' => w'.cell? _ = some _) rfl rfl hS.cell (fun _ hc => Yl_load rfl rfl hc) rfl rfl ?_))
          exact .inl ⟨hRe, rfl, hS.pick [1]⟩
    · rw [if_pos (.inr (.inr (.inl h3)))] at e
      refine calls_C Tryz.func7 rfl Tryz.ntmps7 rfl ?_
      repeat (first | (refine G_id ?_; first | refine G_nil ?_ | refine G_plain rfl rfl ?_ | refine G_yes rfl rfl rfl rfl ?_ | refine G_no rfl rfl rfl rfl rfl rfl ?_) | (refine X_id ?_; first | (refine X_callg 16 rfl rfl rfl rfl rfl hon ?_; rintro _ _ ⟨rfl, rfl⟩) | refine X_yl (Yl_move rfl rfl) rfl rfl ?_ | refine X_yl (Yl_assign rfl rfl) rfl rfl ?_ | refine X_yl (Yl_pick_t rfl rfl rfl) rfl rfl ?_ | refine X_yl (Yl_pick_f rfl rfl rfl) rfl rfl ?_ | refine X_yl (Yl_not_t rfl rfl) rfl rfl ?_ | refine X_yl (Yl_neq_t rfl rfl rfl (by omega)) rfl rfl ?_ | refine X_yl (Yl_lss_f rfl rfl rfl (by omega)) rfl rfl ?_ | refine X_yl (Yl_gtr_f rfl rfl rfl (by omega)) rfl rfl ?_ | refine X_yl (Yl_remE rfl rfl rfl (by omega) (by omega)) rfl rfl ?_) | (refine C_id ?_; first | refine C_seq ?_ | refine C_region ?_ | refine C_block ?_ | refine C_ret ?_ | refine C_cond_t rfl ?_ | refine C_cond_f rfl ?_) | (refine E_id ?_; first | refine E_code ?_ | refine E_then_ret ?_ | refine E_blk_ret ?_ | refine E_ret2 rfl (Rv_tmp rfl) (Rv_tmp rfl) (Ret.mk ?_)))
      rw [e]
      exact .inl ⟨by simp, rfl, hS⟩
  · rw [hoff] at hon
    refine calls_C Tryz.func7 rfl Tryz.ntmps7 rfl ?_
    repeat (first | (refine G_id ?_; first | refine G_nil ?_ | refine G_plain rfl rfl ?_) | (refine X_id ?_; first | (refine X_callg 16 rfl rfl rfl rfl rfl hon ?_; rintro _ _ ⟨rfl, rfl⟩) | refine X_yl (Yl_move rfl rfl) rfl rfl ?_ | refine X_yl (Yl_assign rfl rfl) rfl rfl ?_ | refine X_yl (Yl_not_f rfl rfl) rfl rfl ?_) | (refine C_id ?_; first | refine C_seq ?_ | refine C_region ?_ | refine C_block ?_ | refine C_ret ?_ | refine C_cond_t rfl ?_) | (refine E_id ?_; first | refine E_code ?_ | refine E_then_ret ?_ | refine E_blk_ret ?_ | refine E_ret2 rfl (Rv_tmp rfl) (Rv_tmp rfl) (Ret.mk ?_)))
    rw [show openM rd fs D j = ⟨9, D, 0, false⟩ by unfold openM; rw [if_pos hoff]]
    exact .inl ⟨by simp, rfl, hS⟩
/-! ### Read -/
def wreadM (D : DiskM) (j : Nat) (no : Int) : Int × List UInt8 := if D.off = true then (9, []) else if no < 0 ∨ (D.laid.length : Int) - 1 - j ≤ no then (1, []) else D.read (1 + j + no)
theorem wread_nil (no : Int) (W : World) : Calls Tryz.prog 32 #[.pointer none, .int .i64 no] W (Ret fun v w => v = .tuple #[.slice none 0 0, .int .i64 16] ∧ W = w) := by
  refine calls_C Tryz.func32 rfl Tryz.ntmps32 rfl ?_
  repeat (first | (refine G_id ?_; first | refine G_nil ?_ | refine G_plain rfl rfl ?_) | (refine X_id ?_; first | refine X_yl (Yl_move rfl rfl) rfl rfl ?_ | refine X_yl (Yl_assign rfl rfl) rfl rfl ?_ | refine X_yl (Yl_eqlNil_none rfl rfl rfl) rfl rfl ?_) | (refine C_id ?_; first | refine C_seq ?_ | refine C_region ?_ | refine C_block ?_ | refine C_ret ?_ | refine C_cond_t rfl ?_) | (refine E_id ?_; first | refine E_code ?_ | refine E_then_ret ?_ | refine E_blk_ret ?_ | refine E_ret2 rfl (Rv_tmp rfl) (Rv_tmp rfl) (Ret.mk ?_)))
  exact ⟨rfl, rfl⟩
theorem wread_ (lp p : Nat) (o s m : Int) (j : Nat) (done : Int) (rdn : Bool) (D : DiskM) (no : Int) (W : World) (hL : Rd W (logAt lp p o s m j done rdn)) (hD : Rd W (disk p D)) (hj : j ≤ 4096) (hline : D.line.length < 1073741824) :
    Calls Tryz.prog 32 #[.pointer (some ⟨lp, 0, none⟩), .int .i64 no] W (Ret fun v w => ∃ a c, v = .tuple #[.slice a (wreadM D j no).2.length c, .int .i64 (wreadM D j no).1] ∧ (wreadM D j no).2.length ≤ c ∧ St W noF [bytes a (wreadM D j no).2] w) := by
  have hS := St.start W
  have hc := hL.pts
  have hLo := hL.ro
  have hDo := hD.ro
  have hmost := hD.disk.1.most
  have hon := fun w (h : Rd w (disk p D)) => on_ p D w h
  cases hoff : D.off
  · rw [hoff] at hon
    have e : wreadM D j no = if no < 0 ∨ (D.laid.length : Int) - 1 - j ≤ no then (1, []) else D.read (1 + j + no) := by unfold wreadM; rw [if_neg (by simp [hoff])]
    by_cases h1 : no < 0
    · rw [if_pos (.inl h1)] at e
      rw [e]
      refine calls_C Tryz.func32 rfl Tryz.ntmps32 rfl ?_
      repeat (first | (refine G_id ?_; first | refine G_nil ?_ | refine G_plain rfl rfl ?_ | refine G_no rfl rfl rfl rfl rfl rfl ?_) | (refine X_id ?_; first | (refine X_callg 16 rfl rfl rfl rfl rfl (hon _ (hDo.rd hS)) ?_; rintro _ _ ⟨rfl, rfl⟩) | refine X_yl (Yl_move rfl rfl) rfl rfl ?_ | refine X_yl (Yl_assign rfl rfl) rfl rfl ?_ | refine X_yl (Yl_nilCheck rfl rfl) rfl rfl ?_ | refine X_yl (Yl_fieldAddr0 rfl rfl rfl) rfl rfl ?_ | refine X_yl (Yl_pick_t rfl rfl rfl) rfl rfl ?_ | refine X_yl (Yl_not_t rfl rfl) rfl rfl ?_ | refine X_yl (Yl_lss_t rfl rfl rfl (by omega)) rfl rfl ?_ | refine X_yl (Yl_eqlNil_some rfl rfl rfl) rfl rfl ?_ | refine X_yl (Yl_load rfl rfl (cell_at (by assumption))) rfl rfl ?_) | (refine C_id ?_; first | refine C_seq ?_ | refine C_region ?_ | refine C_block ?_ | refine C_ret ?_ | refine C_cond_t rfl ?_ | refine C_cond_f rfl ?_) | (refine E_id ?_; first | refine E_code ?_ | refine E_then_ret ?_ | refine E_blk_ret ?_ | refine E_ret2 rfl (Rv_tmp rfl) (Rv_tmp rfl) (Ret.mk ?_)))
      exact ⟨none, 0, rfl, Nat.le_refl _, hS.row_none⟩
    by_cases h2 : (D.laid.length : Int) - 1 - j ≤ no
    · rw [if_pos (.inr h2)] at e
      rw [e]
      refine calls_C Tryz.func32 rfl Tryz.ntmps32 rfl ?_
      repeat (first | (refine G_id ?_; first | refine G_nil ?_ | refine G_plain rfl rfl ?_ | refine G_yes rfl rfl rfl rfl ?_) | (refine X_id ?_; first | (refine X_callq 33 rfl rfl rfl rfl rfl hS (wsectors_ lp p o s m j done rdn D _ (hLo.rd hS) (hDo.rd hS) hj) ?_; rintro _ _ rfl hS) | (refine X_callg 16 rfl rfl rfl rfl rfl (hon _ (hDo.rd hS)) ?_; rintro _ _ ⟨rfl, rfl⟩) | refine X_yl (Yl_move rfl rfl) rfl rfl ?_ | refine X_yl (Yl_assign rfl rfl) rfl rfl ?_ | refine X_yl (Yl_nilCheck rfl rfl) rfl rfl ?_ | refine X_yl (Yl_fieldAddr0 rfl rfl rfl) rfl rfl ?_ | refine X_yl (Yl_pick_f rfl rfl rfl) rfl rfl ?_ | refine X_yl (Yl_not_t rfl rfl) rfl rfl ?_ | refine X_yl (Yl_lss_f rfl rfl rfl (by omega)) rfl rfl ?_ | refine X_yl (Yl_geq_t rfl rfl rfl (by omega)) rfl rfl ?_ | refine X_yl (Yl_eqlNil_some rfl rfl rfl) rfl rfl ?_ | refine X_yl (Yl_load rfl rfl (cell_at (by assumption))) rfl rfl ?_) | (refine C_id ?_; first | refine C_seq ?_ | refine C_region ?_ | refine C_block ?_ | refine C_ret ?_ | refine C_cond_t rfl ?_ | refine C_cond_f rfl ?_) | (refine E_id ?_; first | refine E_code ?_ | refine E_then_ret ?_ | refine E_blk_ret ?_ | refine E_ret2 rfl (Rv_tmp rfl) (Rv_tmp rfl) (Ret.mk ?_)))
      exact ⟨none, 0, rfl, Nat.le_refl _, hS.row_none⟩
    · rw [if_neg (by omega)] at e
      rw [e]
      refine calls_C Tryz.func32 rfl Tryz.ntmps32 rfl ?_
      repeat (first | (refine G_id ?_; first | refine G_nil ?_ | refine G_plain rfl rfl ?_ | refine G_yes rfl rfl rfl rfl ?_) | (refine X_id ?_; first | (refine X_callq 33 rfl rfl rfl rfl rfl hS (wsectors_ lp p o s m j done rdn D _ (hLo.rd hS) (hDo.rd hS) hj) ?_; rintro _ _ rfl hS) | (refine X_callg 16 rfl rfl rfl rfl rfl (hon _ (hDo.rd hS)) ?_; rintro _ _ ⟨rfl, rfl⟩) | refine X_yl (Yl_move rfl rfl) rfl rfl ?_ | refine X_yl (Yl_assign rfl rfl) rfl rfl ?_ | refine X_yl (Yl_nilCheck rfl rfl) rfl rfl ?_ | refine X_yl (Yl_fieldAddr0 rfl rfl rfl) rfl rfl ?_ | refine X_yl (Yl_pick_f rfl rfl rfl) rfl rfl ?_ | refine X_yl (Yl_not_t rfl rfl) rfl rfl ?_ | refine X_yl (Yl_lss_f rfl rfl rfl (by omega)) rfl rfl ?_ | refine X_yl (Yl_geq_f rfl rfl rfl (by omega)) rfl rfl ?_ | refine X_yl (Yl_eqlNil_some rfl rfl rfl) rfl rfl ?_ | refine X_yl (Yl_load rfl rfl (cell_at (by assumption))) rfl rfl ?_) | (refine C_id ?_; first | refine C_seq ?_ | refine C_region ?_ | refine C_block ?_ | refine C_skip ?_ | refine C_cond_f rfl ?_) | (refine E_id ?_; first | refine E_code ?_ | refine E_blk_n ?_))
      refine C_ord (.s 0 (.s 1 (.s 2 (.s 3 (.s 4 (.s 5 (.s 6 (.s 7 (.s 8 (.s 9 (.s 10 (.h 11 (.s 12 (.s 13 (.s 14 (.s 15 .nil)))) .no)))))))))))) mixed (by kernel_rfl) rfl ?_
      have hS := hS.drew
      have hc := (hLo.rd hS).pts
      repeat (first | (refine GO_id ?_; first | refine GO_pure rfl rfl (fun _ => Yl_move rfl rfl) rfl rfl ?_ | refine GO_pure rfl rfl (fun _ => Yl_nilCheck rfl rfl) rfl rfl ?_ | refine GO_pure rfl rfl (fun _ => Yl_fieldAddr0 rfl rfl rfl) rfl rfl ?_ | refine GO_pure rfl rfl (fun _ => Yl_add rfl rfl rfl (w64 (by omega) (by omega))) rfl rfl ?_ | refine GO_read (fun w' => w'.cell? _ = some _) rfl rfl (cell_at (by assumption)) (fun _ hc => Yl_load rfl rfl hc) rfl rfl ?_ | refine GO_hard rfl rfl ?_))
      refine X_callg _ rfl rfl rfl rfl rfl (read_ p D (1 + j + no) _ (hDo.rd hS) hline) ?_
      rintro _ w ⟨a, ca, rfl, hca, hS'⟩
      replace hS := hS.plus hS'
      clear hS'
      have hc := (hLo.rd hS).pts
      repeat (first | (refine C_id ?_; first | refine C_ret ?_) | (refine E_id ?_; first | refine E_code ?_ | refine E_ret2 rfl (Rv_tmp rfl) (Rv_tmp rfl) (Ret.mk ?_)) | (refine GO_id ?_; first | refine GO_nil ?_ | refine GO_pure rfl rfl (fun _ => Yl_assign rfl rfl) rfl rfl ?_ | refine GO_pure rfl rfl (fun _ => Yl_extract rfl rfl) rfl rfl ?_) | (refine Keep_id ?_; first | refine And.intro (by repeat (first | exact trivial | refine And.intro (.inl (by decide +kernel)) ?_ | refine And.intro (.inr (by first | assumption | exact hS.cell | exact cell_at (by assumption) | exact hS.cellI (by omega) | exact hS.cellIP (by omega) | exact hS.cellsN | exact ((hr.rd hS).cellX (by omega) hx) | exact ((hr2.rd hS).cellX (by omega) hx2) | exact hS.cellB (by omega) | exact hS.cellBA (by omega) | exact (hb.rd hS).cellB' (by omega) | exact (hb2.rd hS).cellB' (by omega) | exact (hg.rd hS).cellI (by omega) | exact (hg2.rd hS).cellI (by omega) | exact ((hr.rd hS).cellF (by first | omega | (dsimp only; omega)) hx) | exact ((hr2.rd hS).cellF (by first | omega | (dsimp only; omega)) hx2) | exact hS.cellIA (by omega) | exact (hg.rd hS).cellIA (by omega) | exact (hg2.rd hS).cellIA (by omega))) ?_)) ?_))
      exact ⟨a, ca, rfl, hca, hS⟩
  · rw [hoff] at hon
    rw [show wreadM D j no = (9, []) by unfold wreadM; rw [if_pos hoff]]
    refine calls_C Tryz.func32 rfl Tryz.ntmps32 rfl ?_
    repeat (first | (refine G_id ?_; first | refine G_nil ?_ | refine G_plain rfl rfl ?_) | (refine X_id ?_; first | (refine X_callg 16 rfl rfl rfl rfl rfl (hon _ (hDo.rd hS)) ?_; rintro _ _ ⟨rfl, rfl⟩) | refine X_yl (Yl_move rfl rfl) rfl rfl ?_ | refine X_yl (Yl_assign rfl rfl) rfl rfl ?_ | refine X_yl (Yl_nilCheck rfl rfl) rfl rfl ?_ | refine X_yl (Yl_fieldAddr0 rfl rfl rfl) rfl rfl ?_ | refine X_yl (Yl_not_f rfl rfl) rfl rfl ?_ | refine X_yl (Yl_eqlNil_some rfl rfl rfl) rfl rfl ?_ | refine X_yl (Yl_load rfl rfl (cell_at (by assumption))) rfl rfl ?_) | (refine C_id ?_; first | refine C_seq ?_ | refine C_region ?_ | refine C_block ?_ | refine C_ret ?_ | refine C_cond_t rfl ?_ | refine C_cond_f rfl ?_) | (refine E_id ?_; first | refine E_code ?_ | refine E_then_ret ?_ | refine E_blk_ret ?_ | refine E_ret2 rfl (Rv_tmp rfl) (Rv_tmp rfl) (Ret.mk ?_)))
    exact ⟨none, 0, rfl, Nat.le_refl _, hS.row_none⟩
end Cr
namespace Cr
open Go Go.Proofs
set_option maxRecDepth 100000
set_option maxHeartbeats 8000000
attribute [local irreducible] Calls

def noteStep (n : Int) (d : List UInt8) (cnt : Nat) (x : Int × DiskM) (i : Nat) (v : Int × List UInt8) : Int × DiskM :=
  stepW (stepW x (1 + 2 * (i : Nat)) (noteB n (i : Nat) (cnt : Nat) v.1 d)) (1 + 2 * (i : Nat) + 1) v.2
def notesTo (n : Int) (d : List UInt8) (l : List (Int × List UInt8)) (x : Int × DiskM) : Nat → Int × DiskM
  | 0 => x
  | i + 1 => noteStep n d l.length (notesTo n d l x i) i (l.getD i (0, []))
theorem noteStep_line (n : Int) (d : List UInt8) (cnt : Nat) (x : Int × DiskM) (i : Nat) (v : Int × List UInt8) : (noteStep n d cnt x i v).2.line.length ≤ x.2.line.length + 2 ∧ (noteStep n d cnt x i v).2.laid.length = x.2.laid.length := by
  unfold noteStep
  have h1 := stepW_line x (1 + 2 * (i : Nat)) (noteB n (i : Nat) (cnt : Nat) v.1 d)
  have h2 := stepW_line (stepW x (1 + 2 * (i : Nat)) (noteB n (i : Nat) (cnt : Nat) v.1 d)) (1 + 2 * (i : Nat) + 1) v.2
  exact ⟨by omega, by rw [h2.2, h1.2]⟩
theorem notesTo_line (n : Int) (d : List UInt8) (l : List (Int × List UInt8)) (x : Int × DiskM) : ∀ i, (notesTo n d l x i).2.line.length ≤ x.2.line.length + 2 * i ∧ (notesTo n d l x i).2.laid.length = x.2.laid.length
  | 0 => by simp [notesTo]
  | i + 1 => by
    have h1 := notesTo_line n d l x i
    have h2 := noteStep_line n d l.length (notesTo n d l x i) i (l.getD i (0, []))
    simp only [notesTo]
    exact ⟨by omega, by rw [h2.2, h1.2]⟩
/-- What a transaction does: the error, the disk, the number. -/
def putM (rd fs : List Int) (D : DiskM) (j : Nat) (done : Int) (l : List (Int × List UInt8)) : Int × DiskM :=
  layM rd fs j (stepF (notesTo (done + 1) (sumB rd fs (done + 1) l) l (0, D) l.length)) (done + 1) l
def commitM (rd fs : List Int) (D : DiskM) (j : Nat) (done : Int) (l : List (Int × List UInt8)) : Int × DiskM × Int :=
  if D.off = true then (9, D, done) else if ¬ checkM l = 0 then (checkM l, D, done) else if hasM ((D.laid.length : Int) - 1 - j) l = false then (1, D, done) else
  if (j : Int) / 2 < l.length ∨ last ≤ done then (6, D, done) else if l = [] then (0, D, done) else
  ((putM rd fs D j done l).1, (putM rd fs D j done l).2, if (putM rd fs D j done l).1 = 0 then done + 1 else done)
theorem commit_nil (x : Value) (W : World) : Calls Tryz.prog 31 #[.pointer none, x] W (Ret fun v w => v = .int .i64 16 ∧ W = w) := by
  refine calls_C Tryz.func31 rfl Tryz.ntmps31 rfl ?_
  repeat (first | (refine G_id ?_; first | refine G_nil ?_ | refine G_plain rfl rfl ?_) | (refine X_id ?_; first | refine X_yl (Yl_move rfl rfl) rfl rfl ?_ | refine X_yl (Yl_assign rfl rfl) rfl rfl ?_ | refine X_yl (Yl_eqlNil_none rfl rfl rfl) rfl rfl ?_) | (refine C_id ?_; first | refine C_seq ?_ | refine C_region ?_ | refine C_block ?_ | refine C_ret ?_ | refine C_cond_t rfl ?_) | (refine E_id ?_; first | refine E_code ?_ | refine E_then_ret ?_ | refine E_blk_ret ?_ | refine E_ret1 rfl (Rv_tmp rfl) (Ret.mk ?_)))
  exact ⟨rfl, rfl⟩
theorem commit_ (lp p : Nat) (o s m : Int) (j : Nat) (done : Int) (rdn : Bool) (D : DiskM) (a : Option Addr) (c : Nat) (l : List Wr) (rd fs : List Int) (W : World) (F : Nat → Prop) (hG : Gl W F rd fs) (hW : Wrs W F a l) (hj : j ≤ 4096) (hdone : 0 ≤ done)
    (hl : l.length ≤ 1048576) (hx64 : ∀ v ∈ l, v.x.s.length ≤ 140737488355328) (hline : D.line.length < 1073000000) (hS : St W F [logAt lp p o s m j done rdn, disk p D] W) :
    Calls Tryz.prog 31 #[.pointer (some ⟨lp, 0, none⟩), .slice a l.length c] W (Ret fun v w => v = .int .i64 (commitM rd fs D j done (l.map Wr.data)).1 ∧
      St W F [logAt lp p o s m j (commitM rd fs D j done (l.map Wr.data)).2.2 rdn, disk p (commitM rd fs D j done (l.map Wr.data)).2.1] w) := by
  obtain ⟨d, hd⟩ : ∃ d, d = l.map Wr.data := ⟨_, rfl⟩
  have hdl : d.length = l.length := by rw [hd]; simp
  rw [← hd]
  have hD := hS.rd (List.mem_cons_of_mem _ (List.mem_cons_self ..))
  have hmost := hD.disk.1.most
  have hW0 : ∀ w rs, St W F rs w → Wrs w noF a l := fun w rs h => ⟨(hW.row.rd h).ro, fun v hv => ((hW.all v hv).rd h).ro⟩
  have hon : ∀ w rs, St W F (logAt lp p o s m j done rdn :: disk p D :: rs) w → Calls Tryz.prog 16 #[.pointer (some ⟨p, 0, none⟩)] w (Ret fun v w' => v = .bool (!D.off) ∧ w = w') := fun w rs h => on_ p D w (h.rd (List.mem_cons_of_mem _ (List.mem_cons_self ..)))
  cases hoff : D.off
  · rw [hoff] at hon
    by_cases hck : checkM d = 0
    · cases hh : hasM ((D.laid.length : Int) - 1 - j) d
      · rw [show commitM rd fs D j done d = (1, D, done) by unfold commitM; rw [if_neg (by simp [hoff]), if_neg (by simpa using hck), if_pos hh]]
        refine calls_C Tryz.func31 rfl Tryz.ntmps31 rfl ?_
        repeat (first | (refine G_id ?_; first | refine G_nil ?_ | refine G_plain rfl rfl ?_) | (refine X_id ?_; first | (refine X_callg 16 rfl rfl rfl rfl rfl (hon _ _ hS) ?_; rintro _ _ ⟨rfl, rfl⟩) | refine X_yl (Yl_move rfl rfl) rfl rfl ?_ | refine X_yl (Yl_assign rfl rfl) rfl rfl ?_ | refine X_yl (Yl_nilCheck rfl rfl) rfl rfl ?_ | refine X_yl (Yl_fieldAddr0 rfl rfl rfl) rfl rfl ?_ | refine X_yl (Yl_not_t rfl rfl) rfl rfl ?_ | refine X_yl (Yl_eqlNil_some rfl rfl rfl) rfl rfl ?_ | refine X_yl (Yl_load rfl rfl hS.cell) rfl rfl ?_) | (refine C_id ?_; first | refine C_seq ?_ | refine C_region ?_ | refine C_block ?_ | refine C_skip ?_ | refine C_cond_f rfl ?_) | (refine E_id ?_; first | refine E_code ?_ | refine E_blk_n ?_))
        refine X_callq _ rfl rfl rfl rfl rfl hS (check_ a c l _ (hW0 _ _ hS) hl hx64) ?_
        rintro _ w rfl hS
        rw [← hd]
        repeat (first | (refine G_id ?_; first | refine G_nil ?_ | refine G_plain rfl rfl ?_) | (refine X_id ?_; first | refine X_yl (Yl_move rfl rfl) rfl rfl ?_ | refine X_yl (Yl_assign rfl rfl) rfl rfl ?_ | refine X_yl (Yl_neq_f rfl rfl rfl (by omega)) rfl rfl ?_) | (refine C_id ?_; first | refine C_seq ?_ | refine C_region ?_ | refine C_block ?_ | refine C_skip ?_ | refine C_cond_f rfl ?_) | (refine E_id ?_; first | refine E_code ?_))
        refine X_callq _ rfl rfl rfl rfl rfl hS (whas_ lp p o s m j done rdn D _ a c l (hS.rd (List.mem_cons_self ..)) (hS.rd (List.mem_cons_of_mem _ (List.mem_cons_self ..))) hj (hW0 _ _ hS) hl) ?_
        rintro _ w rfl hS
        rw [← hd, hh]
        repeat (first | (refine G_id ?_; first | refine G_nil ?_ | refine G_plain rfl rfl ?_) | (refine X_id ?_; first | refine X_yl (Yl_assign rfl rfl) rfl rfl ?_ | refine X_yl (Yl_not_f rfl rfl) rfl rfl ?_) | (refine C_id ?_; first | refine C_seq ?_ | refine C_region ?_ | refine C_ret ?_ | refine C_cond_t rfl ?_) | (refine E_id ?_; first | refine E_code ?_ | refine E_then_ret ?_ | refine E_blk_ret ?_ | refine E_ret1 rfl (Rv_tmp rfl) (Ret.mk ?_)))
        exact ⟨rfl, hS⟩
      · by_cases hfull : (j : Int) / 2 < l.length ∨ last ≤ done
        · rw [show commitM rd fs D j done d = (6, D, done) by unfold commitM; rw [if_neg (by simp [hoff]), if_neg (by simpa using hck), if_neg (by simp [hh]), if_pos (by rw [hdl]; exact hfull)]]
          unfold last at hfull
          by_cases hf1 : (j : Int) / 2 < l.length
          · refine calls_C Tryz.func31 rfl Tryz.ntmps31 rfl ?_
            repeat (first | (refine G_id ?_; first | refine G_nil ?_ | refine G_plain rfl rfl ?_) | (refine X_id ?_; first | (refine X_callg 16 rfl rfl rfl rfl rfl (hon _ _ hS) ?_; rintro _ _ ⟨rfl, rfl⟩) | refine X_yl (Yl_move rfl rfl) rfl rfl ?_ | refine X_yl (Yl_assign rfl rfl) rfl rfl ?_ | refine X_yl (Yl_nilCheck rfl rfl) rfl rfl ?_ | refine X_yl (Yl_fieldAddr0 rfl rfl rfl) rfl rfl ?_ | refine X_yl (Yl_not_t rfl rfl) rfl rfl ?_ | refine X_yl (Yl_eqlNil_some rfl rfl rfl) rfl rfl ?_ | refine X_yl (Yl_load rfl rfl hS.cell) rfl rfl ?_) | (refine C_id ?_; first | refine C_seq ?_ | refine C_region ?_ | refine C_block ?_ | refine C_skip ?_ | refine C_cond_f rfl ?_) | (refine E_id ?_; first | refine E_code ?_ | refine E_blk_n ?_))
            refine X_callq _ rfl rfl rfl rfl rfl hS (check_ a c l _ (hW0 _ _ hS) hl hx64) ?_
            rintro _ w rfl hS
            rw [← hd]
            repeat (first | (refine G_id ?_; first | refine G_nil ?_ | refine G_plain rfl rfl ?_) | (refine X_id ?_; first | refine X_yl (Yl_move rfl rfl) rfl rfl ?_ | refine X_yl (Yl_assign rfl rfl) rfl rfl ?_ | refine X_yl (Yl_neq_f rfl rfl rfl (by omega)) rfl rfl ?_) | (refine C_id ?_; first | refine C_seq ?_ | refine C_region ?_ | refine C_block ?_ | refine C_skip ?_ | refine C_cond_f rfl ?_) | (refine E_id ?_; first | refine E_code ?_))
            refine X_callq _ rfl rfl rfl rfl rfl hS (whas_ lp p o s m j done rdn D _ a c l (hS.rd (List.mem_cons_self ..)) (hS.rd (List.mem_cons_of_mem _ (List.mem_cons_self ..))) hj (hW0 _ _ hS) hl) ?_
            rintro _ w rfl hS
            rw [← hd, hh]
            repeat (first | (refine G_id ?_; first | refine G_nil ?_ | refine G_plain rfl rfl ?_ | refine G_no rfl rfl rfl rfl rfl rfl ?_) | (refine X_id ?_; first | (refine X_callg 51 rfl rfl rfl rfl rfl (wmost_ lp p o s m j done rdn _ (hS.rd (List.mem_cons_self ..)) hj) ?_; rintro _ _ ⟨rfl, rfl⟩) | refine X_yl (Yl_move rfl rfl) rfl rfl ?_ | refine X_yl (Yl_assign rfl rfl) rfl rfl ?_ | refine X_yl (Yl_pick_t rfl rfl rfl) rfl rfl ?_ | refine X_yl (Yl_not_t rfl rfl) rfl rfl ?_ | refine X_yl (Yl_len rfl rfl) rfl rfl ?_ | refine X_yl (Yl_gtr_t rfl rfl rfl (by omega)) rfl rfl ?_) | (refine C_id ?_; first | refine C_seq ?_ | refine C_region ?_ | refine C_ret ?_ | refine C_cond_t rfl ?_ | refine C_cond_f rfl ?_) | (refine E_id ?_; first | refine E_code ?_ | refine E_then_ret ?_ | refine E_blk_ret ?_ | refine E_ret1 rfl (Rv_tmp rfl) (Ret.mk ?_)))
            exact ⟨rfl, hS⟩
          · have hf2 : 1152921504606846976 ≤ done := by omega
            refine calls_C Tryz.func31 rfl Tryz.ntmps31 rfl ?_
            repeat (first | (refine G_id ?_; first | refine G_nil ?_ | refine G_plain rfl rfl ?_) | (refine X_id ?_; first | (refine X_callg 16 rfl rfl rfl rfl rfl (hon _ _ hS) ?_; rintro _ _ ⟨rfl, rfl⟩) | refine X_yl (Yl_move rfl rfl) rfl rfl ?_ | refine X_yl (Yl_assign rfl rfl) rfl rfl ?_ | refine X_yl (Yl_nilCheck rfl rfl) rfl rfl ?_ | refine X_yl (Yl_fieldAddr0 rfl rfl rfl) rfl rfl ?_ | refine X_yl (Yl_not_t rfl rfl) rfl rfl ?_ | refine X_yl (Yl_eqlNil_some rfl rfl rfl) rfl rfl ?_ | refine X_yl (Yl_load rfl rfl hS.cell) rfl rfl ?_) | (refine C_id ?_; first | refine C_seq ?_ | refine C_region ?_ | refine C_block ?_ | refine C_skip ?_ | refine C_cond_f rfl ?_) | (refine E_id ?_; first | refine E_code ?_ | refine E_blk_n ?_))
            refine X_callq _ rfl rfl rfl rfl rfl hS (check_ a c l _ (hW0 _ _ hS) hl hx64) ?_
            rintro _ w rfl hS
            rw [← hd]
            repeat (first | (refine G_id ?_; first | refine G_nil ?_ | refine G_plain rfl rfl ?_) | (refine X_id ?_; first | refine X_yl (Yl_move rfl rfl) rfl rfl ?_ | refine X_yl (Yl_assign rfl rfl) rfl rfl ?_ | refine X_yl (Yl_neq_f rfl rfl rfl (by omega)) rfl rfl ?_) | (refine C_id ?_; first | refine C_seq ?_ | refine C_region ?_ | refine C_block ?_ | refine C_skip ?_ | refine C_cond_f rfl ?_) | (refine E_id ?_; first | refine E_code ?_))
            refine X_callq _ rfl rfl rfl rfl rfl hS (whas_ lp p o s m j done rdn D _ a c l (hS.rd (List.mem_cons_self ..)) (hS.rd (List.mem_cons_of_mem _ (List.mem_cons_self ..))) hj (hW0 _ _ hS) hl) ?_
            rintro _ w rfl hS
            rw [← hd, hh]
            repeat (first | (refine G_id ?_; first | refine G_nil ?_ | refine G_plain rfl rfl ?_ | refine G_yes rfl rfl rfl rfl ?_) | (refine X_id ?_; first | (refine X_callg 51 rfl rfl rfl rfl rfl (wmost_ lp p o s m j done rdn _ (hS.rd (List.mem_cons_self ..)) hj) ?_; rintro _ _ ⟨rfl, rfl⟩) | refine X_yl (Yl_move rfl rfl) rfl rfl ?_ | refine X_yl (Yl_assign rfl rfl) rfl rfl ?_ | refine X_yl (Yl_nilCheck rfl rfl) rfl rfl ?_ | refine X_yl (Yl_fieldAddr0 rfl rfl rfl) rfl rfl ?_ | refine X_yl (Yl_pick_f rfl rfl rfl) rfl rfl ?_ | refine X_yl (Yl_not_t rfl rfl) rfl rfl ?_ | refine X_yl (Yl_len rfl rfl) rfl rfl ?_ | refine X_yl (Yl_gtr_f rfl rfl rfl (by omega)) rfl rfl ?_ | refine X_yl (Yl_geq_t rfl rfl rfl (by omega)) rfl rfl ?_ | refine X_yl (Yl_load rfl rfl hS.cell) rfl rfl ?_) | (refine C_id ?_; first | refine C_seq ?_ | refine C_region ?_ | refine C_ret ?_ | refine C_cond_t rfl ?_ | refine C_cond_f rfl ?_) | (refine E_id ?_; first | refine E_code ?_ | refine E_then_ret ?_ | refine E_blk_ret ?_ | refine E_ret1 rfl (Rv_tmp rfl) (Ret.mk ?_)))
            exact ⟨rfl, hS⟩
        · unfold last at hfull
          by_cases hl0 : l = []
          · rw [show commitM rd fs D j done d = (0, D, done) by unfold commitM last; rw [if_neg (by simp [hoff]), if_neg (by simpa using hck), if_neg (by simp [hh]), if_neg (by rw [hdl]; exact hfull), if_pos (by rw [hd, hl0]; rfl)]]
            have hl1 : l.length = 0 := by rw [hl0]; rfl
            refine calls_C Tryz.func31 rfl Tryz.ntmps31 rfl ?_
            repeat (first | (refine G_id ?_; first | refine G_nil ?_ | refine G_plain rfl rfl ?_) | (refine X_id ?_; first | (refine X_callg 16 rfl rfl rfl rfl rfl (hon _ _ hS) ?_; rintro _ _ ⟨rfl, rfl⟩) | refine X_yl (Yl_move rfl rfl) rfl rfl ?_ | refine X_yl (Yl_assign rfl rfl) rfl rfl ?_ | refine X_yl (Yl_nilCheck rfl rfl) rfl rfl ?_ | refine X_yl (Yl_fieldAddr0 rfl rfl rfl) rfl rfl ?_ | refine X_yl (Yl_not_t rfl rfl) rfl rfl ?_ | refine X_yl (Yl_eqlNil_some rfl rfl rfl) rfl rfl ?_ | refine X_yl (Yl_load rfl rfl hS.cell) rfl rfl ?_) | (refine C_id ?_; first | refine C_seq ?_ | refine C_region ?_ | refine C_block ?_ | refine C_skip ?_ | refine C_cond_f rfl ?_) | (refine E_id ?_; first | refine E_code ?_ | refine E_blk_n ?_))
            refine X_callq _ rfl rfl rfl rfl rfl hS (check_ a c l _ (hW0 _ _ hS) hl hx64) ?_
            rintro _ w rfl hS
            rw [← hd]
            repeat (first | (refine G_id ?_; first | refine G_nil ?_ | refine G_plain rfl rfl ?_) | (refine X_id ?_; first | refine X_yl (Yl_move rfl rfl) rfl rfl ?_ | refine X_yl (Yl_assign rfl rfl) rfl rfl ?_ | refine X_yl (Yl_neq_f rfl rfl rfl (by omega)) rfl rfl ?_) | (refine C_id ?_; first | refine C_seq ?_ | refine C_region ?_ | refine C_block ?_ | refine C_skip ?_ | refine C_cond_f rfl ?_) | (refine E_id ?_; first | refine E_code ?_))
            refine X_callq _ rfl rfl rfl rfl rfl hS (whas_ lp p o s m j done rdn D _ a c l (hS.rd (List.mem_cons_self ..)) (hS.rd (List.mem_cons_of_mem _ (List.mem_cons_self ..))) hj (hW0 _ _ hS) hl) ?_
            rintro _ w rfl hS
            rw [← hd, hh]
            repeat (first | (refine G_id ?_; first | refine G_nil ?_ | refine G_plain rfl rfl ?_ | refine G_yes rfl rfl rfl rfl ?_) | (refine X_id ?_; first | (refine X_callg 51 rfl rfl rfl rfl rfl (wmost_ lp p o s m j done rdn _ (hS.rd (List.mem_cons_self ..)) hj) ?_; rintro _ _ ⟨rfl, rfl⟩) | refine X_yl (Yl_move rfl rfl) rfl rfl ?_ | refine X_yl (Yl_assign rfl rfl) rfl rfl ?_ | refine X_yl (Yl_nilCheck rfl rfl) rfl rfl ?_ | refine X_yl (Yl_fieldAddr0 rfl rfl rfl) rfl rfl ?_ | refine X_yl (Yl_pick_f rfl rfl rfl) rfl rfl ?_ | refine X_yl (Yl_not_t rfl rfl) rfl rfl ?_ | refine X_yl (Yl_len rfl rfl) rfl rfl ?_ | refine X_yl (Yl_eql_t rfl rfl rfl (by omega)) rfl rfl ?_ | refine X_yl (Yl_gtr_f rfl rfl rfl (by omega)) rfl rfl ?_ | refine X_yl (Yl_geq_f rfl rfl rfl (by omega)) rfl rfl ?_ | refine X_yl (Yl_load rfl rfl hS.cell) rfl rfl ?_) | (refine C_id ?_; first | refine C_seq ?_ | refine C_region ?_ | refine C_ret ?_ | refine C_cond_t rfl ?_ | refine C_cond_f rfl ?_) | (refine E_id ?_; first | refine E_code ?_ | refine E_then_ret ?_ | refine E_blk_ret ?_ | refine E_ret1 rfl (Rv_tmp rfl) (Ret.mk ?_)))
            exact ⟨rfl, hS⟩
          · have hl1 : ¬ l.length = 0 := fun h => hl0 (List.length_eq_zero_iff.1 h)
            rw [show commitM rd fs D j done d = ((putM rd fs D j done d).1, (putM rd fs D j done d).2, if (putM rd fs D j done d).1 = 0 then done + 1 else done) by
              unfold commitM last; rw [if_neg (by simp [hoff]), if_neg (by simpa using hck), if_neg (by simp [hh]), if_neg (by rw [hdl]; exact hfull), if_neg (by intro h; rw [h] at hdl; exact hl1 hdl.symm)]]
            refine calls_C Tryz.func31 rfl Tryz.ntmps31 rfl ?_
            repeat (first | (refine G_id ?_; first | refine G_nil ?_ | refine G_plain rfl rfl ?_) | (refine X_id ?_; first | (refine X_callg 16 rfl rfl rfl rfl rfl (hon _ _ hS) ?_; rintro _ _ ⟨rfl, rfl⟩) | refine X_yl (Yl_move rfl rfl) rfl rfl ?_ | refine X_yl (Yl_assign rfl rfl) rfl rfl ?_ | refine X_yl (Yl_nilCheck rfl rfl) rfl rfl ?_ | refine X_yl (Yl_fieldAddr0 rfl rfl rfl) rfl rfl ?_ | refine X_yl (Yl_not_t rfl rfl) rfl rfl ?_ | refine X_yl (Yl_eqlNil_some rfl rfl rfl) rfl rfl ?_ | refine X_yl (Yl_load rfl rfl hS.cell) rfl rfl ?_) | (refine C_id ?_; first | refine C_seq ?_ | refine C_region ?_ | refine C_block ?_ | refine C_skip ?_ | refine C_cond_f rfl ?_) | (refine E_id ?_; first | refine E_code ?_ | refine E_blk_n ?_))
            refine X_callq _ rfl rfl rfl rfl rfl hS (check_ a c l _ (hW0 _ _ hS) hl hx64) ?_
            rintro _ w rfl hS
            rw [← hd]
            repeat (first | (refine G_id ?_; first | refine G_nil ?_ | refine G_plain rfl rfl ?_) | (refine X_id ?_; first | refine X_yl (Yl_move rfl rfl) rfl rfl ?_ | refine X_yl (Yl_assign rfl rfl) rfl rfl ?_ | refine X_yl (Yl_neq_f rfl rfl rfl (by omega)) rfl rfl ?_) | (refine C_id ?_; first | refine C_seq ?_ | refine C_region ?_ | refine C_block ?_ | refine C_skip ?_ | refine C_cond_f rfl ?_) | (refine E_id ?_; first | refine E_code ?_))
            refine X_callq _ rfl rfl rfl rfl rfl hS (whas_ lp p o s m j done rdn D _ a c l (hS.rd (List.mem_cons_self ..)) (hS.rd (List.mem_cons_of_mem _ (List.mem_cons_self ..))) hj (hW0 _ _ hS) hl) ?_
            rintro _ w rfl hS
            rw [← hd, hh]
            repeat (first | (refine G_id ?_; first | refine G_nil ?_ | refine G_plain rfl rfl ?_ | refine G_yes rfl rfl rfl rfl ?_) | (refine X_id ?_; first | (refine X_callg 51 rfl rfl rfl rfl rfl (wmost_ lp p o s m j done rdn _ (hS.rd (List.mem_cons_self ..)) hj) ?_; rintro _ _ ⟨rfl, rfl⟩) | refine X_yl (Yl_move rfl rfl) rfl rfl ?_ | refine X_yl (Yl_assign rfl rfl) rfl rfl ?_ | refine X_yl (Yl_nilCheck rfl rfl) rfl rfl ?_ | refine X_yl (Yl_fieldAddr0 rfl rfl rfl) rfl rfl ?_ | refine X_yl (Yl_pick_f rfl rfl rfl) rfl rfl ?_ | refine X_yl (Yl_not_t rfl rfl) rfl rfl ?_ | refine X_yl (Yl_len rfl rfl) rfl rfl ?_ | refine X_yl (Yl_eql_f rfl rfl rfl (by omega)) rfl rfl ?_ | refine X_yl (Yl_gtr_f rfl rfl rfl (by omega)) rfl rfl ?_ | refine X_yl (Yl_geq_f rfl rfl rfl (by omega)) rfl rfl ?_ | refine X_yl (Yl_build rfl rfl rfl) rfl rfl ?_ | refine X_yl (Yl_add rfl rfl rfl (w64 (by omega) (by omega))) rfl rfl ?_ | refine X_yl (Yl_load rfl rfl hS.cell) rfl rfl ?_ | refine X_box rfl rfl rfl rfl hS (fun _ _ hS _ => ?_)) | (refine C_id ?_; first | refine C_seq ?_ | refine C_region ?_ | refine C_skip ?_ | refine C_cond_f rfl ?_) | (refine E_id ?_; first | refine E_code ?_ | refine E_blk_n ?_))
            rename_i sp _ _
            have hgood : ∀ v ∈ l, 0 ≤ v.no ∧ v.no < (D.laid.length : Int) - 1 - j ∧ v.x.s.length = 64 := fun v hv => by
              have h1 := check_good hck v.data (by rw [hd]; exact List.mem_map.2 ⟨v, hv, rfl⟩)
              have h2 := List.all_eq_true.1 hh v.data (by rw [hd]; exact List.mem_map.2 ⟨v, hv, rfl⟩)
              exact ⟨h1.1, of_decide_eq_true h2, h1.2⟩
            have hfr := framed_sum_le (done + 1) d (fun x hx => by
              have := (check_good hck x hx).2
              omega)
            have hpm : putM rd fs D j done d = layM rd fs j (stepF (notesTo (done + 1) (sumB rd fs (done + 1) d) d (0, D) d.length)) (done + 1) d := rfl
            refine X_callq _ rfl rfl rfl rfl rfl hS (wsum_ (done + 1) a c l rd fs _ (hG.mono fun r hr => (hr.rd hS).ro) (hW0 _ _ hS) hl (by rw [← hd]; omega)) ?_
            rintro _ w rfl hS
            rw [← hd]
            obtain ⟨sd, hsd⟩ : ∃ sd, sd = sumB rd fs (done + 1) d := ⟨_, rfl⟩
            have hsl : sd.length = 32 := by rw [hsd]; exact sumB_length ..
            rw [← hsd] at hpm ⊢
            have hl32 : LenO (bv sd) 32 := ⟨by simp [hsl]⟩
            repeat (first | (refine G_id ?_; first | refine G_nil ?_ | refine G_plain rfl rfl ?_) | (refine X_id ?_; first | refine X_yl (Yl_move rfl rfl) rfl rfl ?_ | refine X_yl (Yl_len rfl rfl) rfl rfl ?_ | refine X_store rfl rfl rfl rfl hS (fun _ hS _ => ?_) | refine X_alloc rfl rfl rfl hS (fun _ _ hS _ => ?_)) | (refine C_id ?_; first | refine C_seq ?_ | refine C_region ?_ | refine C_block ?_) | (refine E_id ?_; first | refine E_code ?_))
            rename_i b8 _ _ _ _ _
            have hS := hS.pick [1, 2, 1, 0]
            refine C_loop (α := Nat) (fun i => [(0, .pointer (some ⟨lp, 0, none⟩)), (1, .slice a l.length c), (6, .pointer (some ⟨sp, 0, none⟩)), (7, .int .i64 (done + 1)), (8, .pointer (some ⟨b8, 0, none⟩)), (62, .slice a l.length c), (63, .int .i64 (l.length : Nat)), (64, .int .i64 (i : Nat))])
              (fun i w => i ≤ l.length ∧ St W F [stepAt sp p (notesTo (done + 1) sd d (0, D) i).1, disk p (notesTo (done + 1) sd d (0, D) i).2, logAt lp p o s m j done rdn, pts b8 (.cells (bv sd).toArray 105)] w) (fun i => l.length - i) 0 ⟨rfl, rfl, rfl, rfl, rfl, rfl, rfl, rfl, trivial⟩ ⟨Nat.zero_le _, hS⟩ ?_
            clear hS
            rintro i w ⟨hi, hS⟩
            have hnl := notesTo_line (done + 1) sd d (0, D) i
            simp only at hnl
            obtain ⟨X, hX⟩ : ∃ X, X = notesTo (done + 1) sd d (0, D) i := ⟨_, rfl⟩
            rw [← hX] at hS hnl
            by_cases hlt : i < l.length
            · have hx0 : l[i]? = some l[i] := List.getElem?_eq_getElem hlt
              generalize l[i] = v at hx0
              have hvm := List.mem_of_getElem? hx0
              have hgv := (hgood v hvm).2.2
              have hdi : d.getD i (0, []) = (v.no, v.x.s) := by rw [List.getD_eq_getElem?_getD, hd]; simp [hx0, Wr.data]
              have hr := hW.row
              have hxs : ((l.flatMap Wr.cells).drop (i * 2)).take 2 = [.int .i64 v.no, .slice v.x.a v.x.s.length v.x.c] := wr_seg hx0
              obtain ⟨ab, ao, rfl⟩ := (hW.row.rd hS).base (by intro e; rw [e] at hxs; simp at hxs)
              repeat (first | (refine G_id ?_; first | refine G_nil ?_ | refine G_plain rfl rfl ?_) | (refine X_id ?_; first | refine X_yl (Yl_move rfl rfl) rfl rfl ?_ | refine X_yl (Yl_assign rfl rfl) rfl rfl ?_ | refine X_yl (Yl_fieldAddr0 rfl rfl rfl) rfl rfl ?_ | refine X_yl (Yl_len rfl rfl) rfl rfl ?_ | refine X_yl (Yl_lss_t rfl rfl rfl (by omega)) rfl rfl ?_ | refine X_yl (Yl_indexAddr rfl rfl rfl (by omega) (by omega) (by first | assumption | exact ⟨_, _, rfl⟩)) rfl rfl ?_ | refine X_yl (Yl_add rfl rfl rfl (w64 (by omega) (by omega))) rfl rfl ?_ | refine X_yl (Yl_mul rfl rfl rfl (w64 (by omega) (by omega))) rfl rfl ?_ | refine X_yl (Yl_load rfl rfl hS.cell) rfl rfl ?_ | refine X_yl (Yl_loadN rfl rfl hS.cellsN) rfl rfl ?_ | refine X_yl (Yl_loadN rfl rfl ((hr.rd hS).cellsX (by omega) hxs rfl)) rfl rfl ?_ | refine X_store rfl rfl rfl rfl hS (fun _ hS _ => ?_) | refine X_alloc rfl rfl rfl hS (fun _ _ hS _ => ?_)) | (refine C_id ?_; first | refine C_seq ?_ | refine C_region ?_ | refine C_block ?_ | refine C_skip ?_ | refine C_cond_t rfl ?_) | (refine E_id ?_; first | refine E_code ?_))
              refine X_callg _ rfl rfl rfl rfl rfl (note_ (done + 1) (i : Nat) (l.length : Nat) v.no sd hsl _) ?_
              rintro _ w ⟨q, k, rfl, hS'⟩
              replace hS := hS.plus hS'
              clear hS'
              repeat (first | (refine G_id ?_; first | refine G_plain rfl rfl ?_))
              obtain ⟨_, hc, hr, hw, hbk⟩ := hS.call [false, false, true, true, false, false]
              refine X_callg _ rfl rfl rfl rfl rfl (swrite_ sp p X _ _ 64 k (noteB (done + 1) (i : Nat) (l.length : Nat) v.no sd) _ _ hc (hr _ (List.mem_cons_self ..)) (noteB_length ..) (by omega)) ?_
              rintro _ w ⟨_, hS⟩
              replace hS := hbk hS
              clear hc hr hw hbk
              have hX2 := stepW_line X (1 + 2 * (i : Nat)) (noteB (done + 1) (i : Nat) (l.length : Nat) v.no sd)
              repeat (first | (refine G_id ?_; first | refine G_nil ?_ | refine G_plain rfl rfl ?_) | (refine X_id ?_; first | refine X_yl (Yl_move rfl rfl) rfl rfl ?_ | refine X_yl (Yl_fieldAddr0 rfl rfl rfl) rfl rfl ?_ | refine X_yl (Yl_add rfl rfl rfl (w64 (by omega) (by omega))) rfl rfl ?_ | refine X_yl (Yl_mul rfl rfl rfl (w64 (by omega) (by omega))) rfl rfl ?_ | refine X_yl (Yl_load rfl rfl hS.cell) rfl rfl ?_) | (refine C_id ?_; first | refine C_region ?_) | (refine E_id ?_; first | refine E_code ?_))
              obtain ⟨_, hc, hr, hw, hbk⟩ := hS.call [true, true, false, false, false, false]
              refine X_callg _ rfl rfl rfl rfl rfl (swrite_ sp p (stepW X (1 + 2 * (i : Nat)) (noteB (done + 1) (i : Nat) (l.length : Nat) v.no sd)) _ _ _ _ v.x.s _ _ hc (hw _ (hW.all v hvm)) rfl (by omega)) ?_
              rintro _ w ⟨_, hS⟩
              replace hS := hbk hS
              clear hc hr hw hbk
              repeat (first | (refine G_id ?_; first | refine G_nil ?_ | refine G_plain rfl rfl ?_) | (refine X_id ?_; first | refine X_yl (Yl_move rfl rfl) rfl rfl ?_ | refine X_yl (Yl_add rfl rfl rfl (w64 (by omega) (by omega))) rfl rfl ?_) | (refine C_id ?_; first | refine C_region ?_) | (refine E_id ?_; first | refine E_code ?_ | refine E_blk_n ?_))
              refine E_round (i + 1) ⟨rfl, rfl, rfl, rfl, rfl, rfl, rfl, rfl, trivial⟩ ⟨by omega, ?_⟩ (by omega)
              simp only [notesTo]
              rw [hdi, ← hX, hdl]
              have hS := hS.pick [0, 0, 2, 2]
              exact hS
            · obtain rfl : i = l.length := by omega
              rw [hdl, ← hX] at hpm
              have hX2 := stepF_line X
              repeat (first | (refine G_id ?_; first | refine G_nil ?_ | refine G_plain rfl rfl ?_) | (refine X_id ?_; first | refine X_yl (Yl_move rfl rfl) rfl rfl ?_ | refine X_yl (Yl_lss_f rfl rfl rfl (by omega)) rfl rfl ?_) | (refine C_id ?_; first | refine C_seq ?_ | refine C_region ?_ | refine C_exit ?_ | refine C_cond_f rfl ?_) | (refine E_id ?_; first | refine E_code ?_ | refine E_then_exit ?_ | refine E_blk_same ?_))
              obtain ⟨_, hc, hr, hw, hbk⟩ := hS.call [true, true, false, false]
              refine X_callg _ rfl rfl rfl rfl rfl (sflush_ sp p X _ _ hc (by omega)) ?_
              rintro _ w ⟨_, hS⟩
              replace hS := hbk hS
              clear hc hr hw hbk
              repeat (first | (refine G_id ?_; first | refine G_nil ?_ | refine G_plain rfl rfl ?_) | (refine X_id ?_; first | refine X_yl (Yl_move rfl rfl) rfl rfl ?_) | (refine C_id ?_; first | refine C_seq ?_ | refine C_region ?_) | (refine E_id ?_; first | refine E_code ?_))
              have hS := hS.pick [2, 0, 0]
              obtain ⟨_, hc, hr, hw, hbk⟩ := hS.call [true, true, true]
              refine X_callg _ rfl rfl rfl rfl rfl (wlay_ lp sp p o s m j done rdn (stepF X) (done + 1) a c l rd fs _ _ (hG.mono hw) (hW.mono hw) hj hl (fun v hv => by have := hgood v hv; omega) (by omega) hc) ?_
              rintro _ w ⟨rfl, hS⟩
              replace hS := hbk hS
              clear hc hr hw hbk
              rw [hpm, hd]
              repeat (first | (refine G_id ?_; first | refine G_nil ?_ | refine G_plain rfl rfl ?_) | (refine X_id ?_; first | refine X_yl (Yl_assign rfl rfl) rfl rfl ?_) | (refine C_id ?_; first | refine C_ret ?_) | (refine E_id ?_; first | refine E_code ?_ | refine E_ret1 rfl (Rv_tmp rfl) (Ret.mk ?_)))
              exact ⟨rfl, hS.pick [0, 1]⟩
    · rw [show commitM rd fs D j done d = (checkM d, D, done) by unfold commitM; rw [if_neg (by simp [hoff]), if_pos hck]]
      refine calls_C Tryz.func31 rfl Tryz.ntmps31 rfl ?_
      repeat (first | (refine G_id ?_; first | refine G_nil ?_ | refine G_plain rfl rfl ?_) | (refine X_id ?_; first | (refine X_callg 16 rfl rfl rfl rfl rfl (hon _ _ hS) ?_; rintro _ _ ⟨rfl, rfl⟩) | refine X_yl (Yl_move rfl rfl) rfl rfl ?_ | refine X_yl (Yl_assign rfl rfl) rfl rfl ?_ | refine X_yl (Yl_nilCheck rfl rfl) rfl rfl ?_ | refine X_yl (Yl_fieldAddr0 rfl rfl rfl) rfl rfl ?_ | refine X_yl (Yl_not_t rfl rfl) rfl rfl ?_ | refine X_yl (Yl_eqlNil_some rfl rfl rfl) rfl rfl ?_ | refine X_yl (Yl_load rfl rfl hS.cell) rfl rfl ?_) | (refine C_id ?_; first | refine C_seq ?_ | refine C_region ?_ | refine C_block ?_ | refine C_skip ?_ | refine C_cond_f rfl ?_) | (refine E_id ?_; first | refine E_code ?_ | refine E_blk_n ?_))
      refine X_callq _ rfl rfl rfl rfl rfl hS (check_ a c l _ (hW0 _ _ hS) hl hx64) ?_
      rintro _ w rfl hS
      rw [← hd]
      repeat (first | (refine G_id ?_; first | refine G_nil ?_ | refine G_plain rfl rfl ?_) | (refine X_id ?_; first | refine X_yl (Yl_move rfl rfl) rfl rfl ?_ | refine X_yl (Yl_assign rfl rfl) rfl rfl ?_ | refine X_yl (Yl_neq_t rfl rfl rfl (by omega)) rfl rfl ?_) | (refine C_id ?_; first | refine C_seq ?_ | refine C_region ?_ | refine C_ret ?_ | refine C_cond_t rfl ?_) | (refine E_id ?_; first | refine E_code ?_ | refine E_then_ret ?_ | refine E_ret1 rfl (Rv_tmp rfl) (Ret.mk ?_)))
      exact ⟨rfl, hS⟩
  · rw [hoff] at hon
    rw [show commitM rd fs D j done d = (9, D, done) by unfold commitM; rw [if_pos hoff]]
    refine calls_C Tryz.func31 rfl Tryz.ntmps31 rfl ?_
    repeat (first | (refine G_id ?_; first | refine G_nil ?_ | refine G_plain rfl rfl ?_) | (refine X_id ?_; first | (refine X_callg 16 rfl rfl rfl rfl rfl (hon _ _ hS) ?_; rintro _ _ ⟨rfl, rfl⟩) | refine X_yl (Yl_move rfl rfl) rfl rfl ?_ | refine X_yl (Yl_assign rfl rfl) rfl rfl ?_ | refine X_yl (Yl_nilCheck rfl rfl) rfl rfl ?_ | refine X_yl (Yl_fieldAddr0 rfl rfl rfl) rfl rfl ?_ | refine X_yl (Yl_not_f rfl rfl) rfl rfl ?_ | refine X_yl (Yl_eqlNil_some rfl rfl rfl) rfl rfl ?_ | refine X_yl (Yl_load rfl rfl hS.cell) rfl rfl ?_) | (refine C_id ?_; first | refine C_seq ?_ | refine C_region ?_ | refine C_block ?_ | refine C_ret ?_ | refine C_cond_t rfl ?_ | refine C_cond_f rfl ?_) | (refine E_id ?_; first | refine E_code ?_ | refine E_then_ret ?_ | refine E_blk_ret ?_ | refine E_ret1 rfl (Rv_tmp rfl) (Ret.mk ?_)))
    exact ⟨rfl, hS⟩
end Cr
namespace Cr
open Go Go.Proofs
structure Quiet (D : DiskM) (n : Nat) : Prop where
  off : D.off = false
  armed : D.armed = false
  len : D.laid.length = n
structure Qs (x : Int × DiskM) (n : Nat) (laid : List (List UInt8)) (line : List (Int × List UInt8)) : Prop where
  e : x.1 = 0
  q : Quiet x.2 n
  laid : x.2.laid = laid
  line : x.2.line = line
theorem Qs.len {x : Int × DiskM} {n : Nat} {laid : List (List UInt8)} {line : List (Int × List UInt8)} (h : Qs x n laid line) : laid.length = n := by rw [← h.laid]; exact h.q.len
theorem Qs.write {x : Int × DiskM} {n : Nat} {laid : List (List UInt8)} {line : List (Int × List UInt8)} (h : Qs x n laid line) {no : Int} {b : List UInt8} (h0 : 0 ≤ no) (h1 : no < n) (hb : b.length = 64) : Qs (stepW x no b) n laid (line ++ [(no, b)]) := by
  obtain ⟨e, ⟨qo, qa, ql⟩, hl, hn⟩ := h
  have hu : useB x.2.off x.2.armed x.2.left = true := by rw [qo, qa]; rfl
  have hw := DiskM.write_yes (D := x.2) (no := no) (b := b) qo (by simp [inDisk, h0, ql, h1]) hb hu
  unfold stepW
  rw [if_pos e, hw]
  refine ⟨rfl, ⟨?_, qa, ql⟩, hl, by simp [hn]⟩
  show useOff x.2.off x.2.armed x.2.left = false
  rw [qo, qa]; rfl
theorem Qs.flush {x : Int × DiskM} {n : Nat} {laid : List (List UInt8)} {line : List (Int × List UInt8)} (h : Qs x n laid line) : Qs (stepF x) n (layOn laid line) [] := by
  obtain ⟨e, ⟨qo, qa, ql⟩, hl, hn⟩ := h
  have hu : useB x.2.off x.2.armed x.2.left = true := by rw [qo, qa]; rfl
  have hw := DiskM.flush_yes (D := x.2) qo hu
  unfold stepF
  rw [if_pos e, hw]
  refine ⟨rfl, ⟨?_, qa, ?_⟩, ?_, rfl⟩
  · show useOff x.2.off x.2.armed x.2.left = false
    rw [qo, qa]; rfl
  · show (layOn x.2.laid x.2.line).length = n
    rw [layOn_length]; exact ql
  · show layOn x.2.laid x.2.line = _
    rw [hl, hn]
theorem Qs.puts (k : Int) {n : Nat} {laid : List (List UInt8)} : ∀ (l : List (Int × List UInt8)) {x : Int × DiskM} {line : List (Int × List UInt8)}, Qs x n laid line → (∀ v ∈ l, 0 ≤ k + v.1 ∧ k + v.1 < n ∧ v.2.length = 64) → Qs (putsM k x l) n laid (line ++ l.map fun v => (k + v.1, v.2))
  | [], _, _, h, _ => by simpa [putsM] using h
  | v :: l, x, line, h, hl => by
    have hv := hl v (List.mem_cons_self ..)
    have := Qs.puts k l (h.write hv.1 hv.2.1 hv.2.2) fun u hu => hl u (List.mem_cons_of_mem _ hu)
    simpa [putsM] using this
theorem Qs.notes (m : Int) (d : List UInt8) (l : List (Int × List UInt8)) {n : Nat} {laid : List (List UInt8)} {x : Int × DiskM} {line : List (Int × List UInt8)} (h : Qs x n laid line) (hl : ∀ v ∈ l, v.2.length = 64) (hn : 2 * l.length < n) :
    ∀ i, i ≤ l.length → ∃ L, (∀ v ∈ L, 0 ≤ v.1 ∧ v.1 < 1 + 2 * (l.length : Int)) ∧ Qs (notesTo m d l x i) n laid (line ++ L)
  | 0, _ => ⟨[], by simp, by simpa [notesTo] using h⟩
  | i + 1, hi => by
    obtain ⟨L, hL, hq⟩ := Qs.notes m d l h hl hn i (by omega)
    have hv : (l.getD i (0, [])).2.length = 64 := by
      rw [List.getD_eq_getElem?_getD, List.getElem?_eq_getElem (by omega)]
      exact hl _ (List.getElem_mem _)
    have h1 := hq.write (no := 1 + 2 * (i : Nat)) (b := noteB m (i : Nat) (l.length : Nat) (l.getD i (0, [])).1 d) (by omega) (by omega) (noteB_length ..)
    have h2 := h1.write (no := 1 + 2 * (i : Nat) + 1) (b := (l.getD i (0, [])).2) (by omega) (by omega) hv
    refine ⟨L ++ [(1 + 2 * ((i : Nat) : Int), noteB m (i : Nat) (l.length : Nat) (l.getD i (0, [])).1 d), (1 + 2 * ((i : Nat) : Int) + 1, (l.getD i (0, [])).2)], ?_, by simpa [notesTo, noteStep, List.append_assoc] using h2⟩
    intro v hv
    rcases List.mem_append.1 hv with hv | hv
    · exact hL v hv
    · simp only [List.mem_cons, List.not_mem_nil, or_false] at hv
      rcases hv with rfl | rfl <;> (simp only; omega)
/-- What a list of writes leaves at a place. -/
def lastOf (l : List (Int × List UInt8)) (m : Int) : Option (List UInt8) := (l.reverse.find? fun v => v.1 == m).map (·.2)
theorem lastOf_cons (v : Int × List UInt8) (l : List (Int × List UInt8)) (m : Int) : lastOf (v :: l) m = (lastOf l m).or (if v.1 = m then some v.2 else none) := by
  unfold lastOf
  rw [List.reverse_cons, List.find?_append]
  cases h : l.reverse.find? fun v => v.1 == m with
  | some x => simp
  | none => by_cases e : v.1 = m <;> simp [e]
theorem lastOf_none {l : List (Int × List UInt8)} {m : Int} (h : ∀ v ∈ l, v.1 ≠ m) : lastOf l m = none := by
  unfold lastOf
  rw [List.find?_eq_none.2 (fun v hv => by simpa using h v (List.mem_reverse.1 hv))]; rfl
theorem lastOf_map (k m : Int) : ∀ l : List (Int × List UInt8), lastOf (l.map fun v => (k + v.1, v.2)) (k + m) = lastOf l m
  | [] => rfl
  | v :: l => by
    rw [List.map_cons, lastOf_cons, lastOf_cons, lastOf_map k m l]
    congr 1
    by_cases e : v.1 = m
    · rw [if_pos e, if_pos (by rw [e])]
    · rw [if_neg e, if_neg (fun h => e (Int.add_left_cancel h))]
theorem lastOf_some {l : List (Int × List UInt8)} {m : Int} {s : List UInt8} (h : lastOf l m = some s) : (m, s) ∈ l := by
  unfold lastOf at h
  obtain ⟨v, hv, rfl⟩ := Option.map_eq_some_iff.1 h
  have h1 := List.mem_of_find?_eq_some hv
  have h2 := List.find?_some hv
  simp only [beq_iff_eq] at h2
  subst h2
  exact List.mem_reverse.1 h1
theorem layOn_get : ∀ (xs : List (Int × List UInt8)) (l : List (List UInt8)) (k : Nat), k < l.length → (∀ v ∈ xs, 0 ≤ v.1) → (layOn l xs).getD k [] = (lastOf xs k).getD (l.getD k [])
  | [], _, _, _, _ => rfl
  | v :: xs, l, k, hk, hx => by
    have hv := hx v (List.mem_cons_self ..)
    have ih := layOn_get xs (l.set v.1.toNat v.2) k (by simpa using hk) fun u hu => hx u (List.mem_cons_of_mem _ hu)
    have e : layOn l (v :: xs) = layOn (l.set v.1.toNat v.2) xs := rfl
    rw [e, ih, lastOf_cons]
    cases lastOf xs k with
    | some s => rfl
    | none =>
      simp only [Option.getD_none, Option.none_or]
      rw [List.getD_eq_getElem?_getD, List.getElem?_set]
      by_cases e2 : v.1.toNat = k
      · rw [if_pos e2, if_pos (by omega), if_pos (by omega)]; rfl
      · rw [if_neg e2, if_neg (by omega)]; simp [List.getD_eq_getElem?_getD]
def dataM (D : DiskM) (j : Nat) : List UInt8 := (List.range (D.laid.length - 1 - j)).flatMap fun k => D.find (1 + (j : Int) + ((k : Nat) : Int))
theorem find_quiet {D : DiskM} (h : D.line = []) (no : Int) : D.find no = D.laid.getD no.toNat [] := by unfold DiskM.find; rw [h]; rfl
theorem lastOf_only {l : List (Int × List UInt8)} (h : twiceTo l l.length = false) {v : Int × List UInt8} (hv : v ∈ l) : lastOf l v.1 = some v.2 := by
  obtain ⟨i, hi, rfl⟩ := List.mem_iff_getElem.1 hv
  cases h1 : lastOf l l[i].1 with
  | none =>
    unfold lastOf at h1
    rw [Option.map_eq_none_iff, List.find?_eq_none] at h1
    have := h1 l[i] (List.mem_reverse.2 (List.getElem_mem _))
    simp at this
  | some s =>
    obtain ⟨k, hk, hk'⟩ := List.mem_iff_getElem.1 (lastOf_some h1)
    have hg : ∀ {a : Nat} (ha : a < l.length), l.getD a (0, []) = l[a] := fun ha => by simp [List.getD_eq_getElem?_getD, ha]
    rcases Nat.lt_trichotomy k i with hlt | rfl | hlt
    · have := twice_of (d := l) hi hlt (by rw [hg hk, hg hi, hk']) l.length hi
      rw [this] at h; cases h
    · rw [hk']
    · have := twice_of (d := l) hk hlt (by rw [hg hk, hg hi, hk']) l.length hk
      rw [this] at h; cases h
end Cr
namespace Cr
open Go Go.Proofs
set_option maxRecDepth 100000
set_option maxHeartbeats 8000000
attribute [local irreducible] Calls

def putTo (d : List UInt8) (o : Nat) (s : List UInt8) (k : Nat) : List UInt8 := d.take o ++ s.take k ++ d.drop (o + k)
theorem putTo_length {d s : List UInt8} {o k : Nat} (h : o + k ≤ d.length) (hs : k ≤ s.length) : (putTo d o s k).length = d.length := by simp [putTo]; omega
theorem putTo_zero (d s : List UInt8) (o : Nat) : putTo d o s 0 = d := by simp [putTo]
theorem putTo_succ {d s : List UInt8} {o k : Nat} (h : o + k < d.length) (hs : k < s.length) : (putTo d o s k).set (o + k) (s.getD k 0) = putTo d o s (k + 1) := by
  unfold putTo
  have e1 : (d.take o ++ s.take k).length = o + k := by simp; omega
  rw [List.set_append_right _ _ (by omega), e1, Nat.sub_self, ← Nat.add_assoc]
  have e2 : d.drop (o + k) = d[o + k] :: d.drop (o + k + 1) := List.drop_eq_getElem_cons h
  have e3 : s.getD k 0 = s[k] := by simp [List.getD_eq_getElem?_getD, hs]
  rw [e2, List.set_cons_zero, e3, List.take_succ_eq_append_getElem hs]
  simp only [List.append_assoc, List.cons_append, List.nil_append]
def layTo (d : List UInt8) (l : List (Int × List UInt8)) : List UInt8 := l.foldl (fun d v => putTo d (64 * v.1.toNat) v.2 64) d
theorem layTo_snoc {d : List UInt8} {l : List (Int × List UInt8)} {i : Nat} {v : Int × List UInt8} (h : l[i]? = some v) : layTo d (l.take (i + 1)) = putTo (layTo d (l.take i)) (64 * v.1.toNat) v.2 64 := by
  have : l.take (i + 1) = l.take i ++ [v] := by rw [List.take_add_one, h]; rfl
  rw [this, layTo, List.foldl_append]; rfl
theorem layTo_length {n : Nat} : ∀ {l : List (Int × List UInt8)} {d : List UInt8}, d.length = n → (∀ v ∈ l, 64 * v.1.toNat + 64 ≤ n ∧ v.2.length = 64) → (layTo d l).length = n
  | [], _, h, _ => h
  | v :: l, d, h, hl => by
    have hv := hl v (List.mem_cons_self ..)
    exact layTo_length (d := putTo d (64 * v.1.toNat) v.2 64) (by rw [putTo_length (by omega) (by omega)]; exact h) fun u hu => hl u (List.mem_cons_of_mem _ hu)
theorem rlay_ (a : Option Addr) (c : Nat) (d : List UInt8) (aw : Option Addr) (cw : Nat) (l : List Wr) (W : World) (hd : Rd W (bytes a d)) (hW : Wrs W noF aw l) (hl : l.length ≤ 1048576) (hdl : d.length ≤ 1073741824) (hok : ∀ v ∈ l, 0 ≤ v.no ∧ 64 * v.no.toNat + 64 ≤ d.length ∧ v.x.s.length = 64) :
    Calls Tryz.prog 29 #[.slice a d.length c, .slice aw l.length cw] W (Ret fun v w => ∃ p k, v = .slice p d.length k ∧ St W noF [bytes p (layTo d (l.map Wr.data))] w) := by
  have hS := St.start W
  refine calls_C Tryz.func29 rfl Tryz.ntmps29 rfl ?_
  repeat (first | (refine G_id ?_; first | refine G_nil ?_ | refine G_plain rfl rfl ?_) | (refine X_id ?_; first | refine X_yl (Yl_move rfl rfl) rfl rfl ?_ | refine X_yl (Yl_assign rfl rfl) rfl rfl ?_ | refine X_buildSlice rfl rfl rfl rfl rfl rfl rfl rfl hS (fun _ _ hS _ => ?_)) | (refine C_id ?_; first | refine C_seq ?_ | refine C_region ?_) | (refine E_id ?_; first | refine E_code ?_))
  refine X_append rfl rfl rfl rfl rfl hS rfl (Nat.le_refl _) (hd.ro.rd hS) (by simp) bv_one (by omega) (by simp only [maxLen]; omega) (fun p k w hS hk _ => ?_)
  rw [List.nil_append] at hS
  rw [Nat.zero_add] at hk ⊢
  repeat (first | (refine G_id ?_; first | refine G_nil ?_ | refine G_plain rfl rfl ?_) | (refine X_id ?_; first | refine X_yl (Yl_assign rfl rfl) rfl rfl ?_) | (refine C_id ?_; first | refine C_seq ?_ | refine C_region ?_ | refine C_block ?_) | (refine E_id ?_; first | refine E_code ?_))
  refine C_loop (α := Nat) (fun i => [(1, .slice aw l.length cw), (5, .slice p d.length k), (6, .int .i64 (i : Nat))])
    (fun i w => i ≤ l.length ∧ St W noF [own 5 1 p k (bv (layTo d ((l.map Wr.data).take i)))] w) (fun i => l.length - i) 0 ⟨rfl, rfl, rfl, trivial⟩ ⟨Nat.zero_le _, hS⟩ ?_
  clear hS
  rintro i w ⟨hi, hS⟩
  have hwd : ∀ v ∈ l.map Wr.data, 64 * v.1.toNat + 64 ≤ d.length ∧ v.2.length = 64 := fun v hv => by
    obtain ⟨u, hu, rfl⟩ := List.mem_map.1 hv
    exact (hok u hu).2
  have hll := layTo_length (d := d) (l := (l.map Wr.data).take i) rfl (fun v hv => hwd v (List.mem_of_mem_take hv))
  by_cases h1 : i < l.length
  · have hx0 : l[i]? = some l[i] := List.getElem?_eq_getElem h1
    generalize l[i] = v at hx0
    have hvo := hok v (List.mem_of_getElem? hx0)
    have hsn := layTo_snoc (d := d) (l := l.map Wr.data) (i := i) (v := v.data) (by simp [hx0])
    obtain ⟨D, hD⟩ : ∃ D, D = layTo d ((l.map Wr.data).take i) := ⟨_, rfl⟩
    rw [← hD] at hS hll hsn
    obtain ⟨m, hm⟩ : ∃ m : Nat, v.no = m := ⟨v.no.toNat, by omega⟩
    have hmt : v.no.toNat = m := by omega
    rw [hmt] at hvo
    obtain ⟨pb, po, rfl⟩ := (hS.rd (List.mem_cons_self ..)).own_row.base (by intro e; have := bv_length D; rw [e] at this; simp at this; omega)
    have hr := hW.row
    have hr2 := hW.row
    have hx := wr_no hx0
    have hx2 := wr_b hx0
    rw [hm] at hx
    obtain ⟨wb, wo, rfl⟩ := (hW.row.rd hS).base (by intro e; rw [e] at hx; simp at hx)
    have hvb := hW.all v (List.mem_of_getElem? hx0)
    obtain ⟨xb, xo, hxa⟩ := (hvb.rd hS).base (by intro e; have := bv_length v.x.s; rw [e] at this; simp at this; omega)
    rw [hxa] at hx2 hvb
    have hb := hvb
    repeat (first | (refine G_id ?_; first | refine G_nil ?_ | refine G_plain rfl rfl ?_) | (refine X_id ?_; first | refine X_yl (Yl_move rfl rfl) rfl rfl ?_ | refine X_yl (Yl_assign rfl rfl) rfl rfl ?_ | refine X_yl (Yl_len rfl rfl) rfl rfl ?_ | refine X_yl (Yl_lss_t rfl rfl rfl (by omega)) rfl rfl ?_) | (refine C_id ?_; first | refine C_seq ?_ | refine C_region ?_ | refine C_block ?_ | refine C_skip ?_ | refine C_cond_t rfl ?_) | (refine E_id ?_; first | refine E_code ?_))
    refine C_loop (α := Nat) (fun j => [(1, .slice (some ⟨wb, wo, none⟩) l.length cw), (5, .slice (some ⟨pb, po, none⟩) d.length k), (6, .int .i64 (i : Nat)), (7, .int .i64 (j : Nat))])
      (fun j w => j ≤ 64 ∧ St W noF [own 5 1 (some ⟨pb, po, none⟩) k (bv (putTo D (64 * m) v.x.s j))] w) (fun j => 64 - j) 0 ⟨rfl, rfl, rfl, rfl, trivial⟩ ⟨Nat.zero_le _, by rw [putTo_zero]; exact hS⟩ ?_
    clear hS
    rintro j w ⟨hj, hS⟩
    by_cases h2 : j < 64
    · have hpl := putTo_length (d := D) (s := v.x.s) (o := 64 * m) (k := j) (by omega) (by omega)
      obtain ⟨E, hE⟩ : ∃ E, E = putTo D (64 * m) v.x.s j := ⟨_, rfl⟩
      rw [← hE] at hS hpl
      repeat (first | (refine G_id ?_; first | refine G_nil ?_ | refine G_plain rfl rfl ?_) | (refine X_id ?_; first | refine X_yl (Yl_move rfl rfl) rfl rfl ?_ | refine X_yl (Yl_lss_t rfl rfl rfl (by omega)) rfl rfl ?_) | (refine C_id ?_; first | refine C_seq ?_ | refine C_region ?_ | refine C_block ?_ | refine C_skip ?_ | refine C_cond_t rfl ?_) | (refine E_id ?_; first | refine E_code ?_))
      refine C_ord (.s 0 (.s 1 (.s 2 (.s 3 (.s 4 (.s 5 (.s 6 (.s 7 (.s 8 (.s 9 (.s 10 (.s 11 (.s 12 (.s 13 (.s 14 (.s 15 (.s 16 (.s 17 (.h 18 .nil .no))))))))))))))))))) mixed (by kernel_rfl) rfl ?_
      have hS := hS.drew
      repeat (first | (refine GO_id ?_; first | refine GO_pure rfl rfl (fun _ => Yl_move rfl rfl) rfl rfl ?_ | refine GO_pure rfl rfl (fun _ => Yl_fieldAddr rfl rfl rfl) rfl rfl ?_ | refine GO_pure rfl rfl (fun _ => Yl_indexAddr rfl rfl rfl (by omega) (by omega) (by first | assumption | exact ⟨_, _, rfl⟩)) rfl rfl ?_ | refine GO_pure rfl rfl (fun _ => Yl_add rfl rfl rfl (w64 (by omega) (by omega))) rfl rfl ?_ | refine GO_pure rfl rfl (fun _ => Yl_mul rfl rfl rfl (w64 (by omega) (by omega))) rfl rfl ?_ | refine GO_read (fun w' => w'.cell? _ = some _) rfl rfl ((hb.rd hS).cellB' (by omega)) (fun _ hc => Yl_load rfl rfl hc) rfl rfl ?_ | refine GO_read (fun w' => w'.cell? _ = some _) rfl rfl ((hr.rd hS).cellX (by omega) hx) (fun _ hc => Yl_load rfl rfl hc) rfl rfl ?_ | refine GO_hard rfl rfl ?_ | refine GO_read (fun w' => w'.cell? _ = some _) rfl rfl ((hr2.rd hS).cellF (by first | omega | (dsimp only; omega)) hx2) (fun _ hc => Yl_load rfl rfl hc) rfl rfl ?_))
      have had : adr (some ⟨pb, po, none⟩) ((64 * (m : Int) + (j : Int)).toNat * 1) = adr (some ⟨pb, po, none⟩) (64 * m + j) := by congr 1; omega
      refine X_storeOwn rfl rfl had rfl rfl rfl rfl hS (by rw [bv_length]; omega) (fun w hS => ?_)
      rw [bv_set, show (j : Int).toNat * 1 = j by omega, hE, putTo_succ (by omega) (by omega)] at hS
      repeat (first | (refine G_id ?_; first | refine G_nil ?_ | refine G_plain rfl rfl ?_) | (refine X_id ?_; first | refine X_yl (Yl_move rfl rfl) rfl rfl ?_ | refine X_yl (Yl_assign rfl rfl) rfl rfl ?_ | refine X_yl (Yl_add rfl rfl rfl (w64 (by omega) (by omega))) rfl rfl ?_) | (refine C_id ?_; first | refine C_region ?_) | (refine E_id ?_; first | refine E_code ?_ | refine E_blk_n ?_) | (refine GO_id ?_; first | refine GO_nil ?_) | (refine Keep_id ?_; first | refine And.intro (by repeat (first | exact trivial | refine And.intro (.inl (by decide +kernel)) ?_ | refine And.intro (.inr (by first | assumption | exact hS.cell | exact cell_at (by assumption) | exact hS.cellI (by omega) | exact hS.cellIP (by omega) | exact hS.cellsN | exact ((hr.rd hS).cellX (by omega) hx) | exact ((hr2.rd hS).cellX (by omega) hx2) | exact hS.cellB (by omega) | exact hS.cellBA (by omega) | exact (hb.rd hS).cellB' (by omega) | exact (hb2.rd hS).cellB' (by omega) | exact (hg.rd hS).cellI (by omega) | exact (hg2.rd hS).cellI (by omega) | exact ((hr.rd hS).cellF (by first | omega | (dsimp only; omega)) hx) | exact ((hr2.rd hS).cellF (by first | omega | (dsimp only; omega)) hx2) | exact hS.cellO 0 (by omega) | exact hS.cellO 1 (by omega) | exact hS.cellIA (by omega) | exact (hg.rd hS).cellIA (by omega) | exact (hg2.rd hS).cellIA (by omega))) ?_)) ?_))
      exact E_round (j + 1) ⟨rfl, rfl, rfl, rfl, trivial⟩ ⟨h2, hS⟩ (by omega)
    · obtain rfl : j = 64 := by omega
      repeat (first | (refine G_id ?_; first | refine G_nil ?_ | refine G_plain rfl rfl ?_) | (refine X_id ?_; first | refine X_yl (Yl_move rfl rfl) rfl rfl ?_ | refine X_yl (Yl_assign rfl rfl) rfl rfl ?_ | refine X_yl (Yl_lss_f rfl rfl rfl (by omega)) rfl rfl ?_ | refine X_yl (Yl_add rfl rfl rfl (w64 (by omega) (by omega))) rfl rfl ?_) | (refine C_id ?_; first | refine C_seq ?_ | refine C_region ?_ | refine C_exit ?_ | refine C_cond_f rfl ?_) | (refine E_id ?_; first | refine E_code ?_ | refine E_then_exit ?_ | refine E_blk_same ?_ | refine E_blk_n ?_))
      refine E_round (i + 1) ⟨rfl, rfl, rfl, trivial⟩ ⟨h1, ?_⟩ (by omega)
      rw [hsn]
      show St W noF [own _ 1 _ k (bv (putTo D (64 * v.no.toNat) v.x.s 64))] w
      rw [hmt]; exact hS
  · obtain rfl : i = l.length := by omega
    repeat (first | (refine G_id ?_; first | refine G_nil ?_ | refine G_plain rfl rfl ?_) | (refine X_id ?_; first | refine X_yl (Yl_move rfl rfl) rfl rfl ?_ | refine X_yl (Yl_assign rfl rfl) rfl rfl ?_ | refine X_yl (Yl_len rfl rfl) rfl rfl ?_ | refine X_yl (Yl_lss_f rfl rfl rfl (by omega)) rfl rfl ?_) | (refine C_id ?_; first | refine C_seq ?_ | refine C_region ?_ | refine C_ret ?_ | refine C_exit ?_ | refine C_cond_f rfl ?_) | (refine E_id ?_; first | refine E_code ?_ | refine E_then_exit ?_ | refine E_blk_same ?_ | refine E_ret1 rfl (Rv_tmp rfl) (Ret.mk ?_)))
    have e : (l.map Wr.data).take l.length = l.map Wr.data := by rw [show l.length = (l.map Wr.data).length by simp, List.take_length]
    rw [e] at hS
    exact ⟨p, k, rfl, hS.head fun _ h => h.row⟩
end Cr
