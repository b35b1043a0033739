/-
  Layer 4 (wal): redo.
  sync.Mutex, sync.Once, as one goroutine meets them.
  Layer 4 (wal): Once.Do at Open; Open.
  Layer 4 (wal): Open, Read.
  Layer 4 (wal): Commit.
  The law's helpers: Same, known.
  The law WalNil: for every number it returns true. What the row lists gives the two tables of package digest.
  A law's wrap, for every law alike: what is as it was reads as it did.
-/
import Derived.Test.YtobnnhlgdoddgaaDoorOrd6
import Derived.Laws.LoneSync
import Derived.KernelRfl
import Derived.Test.YtobnnhlgdoddgaaDoorCards
import Derived.Test.YtobnnhlgdoddgaaDoorTie
import Derived.WalkKit
import Derived.ProofKit
import Derived.OpenShut
import Derived.Deep.DeepHandedRow
import Derived.Lib.LaidTab
import Derived.Stop.LaidErr
import Derived.Carry
namespace Cr
open Go Go.Proofs
set_option maxRecDepth 100000
set_option maxHeartbeats 8000000
attribute [local irreducible] Calls

theorem check_good {d : List (Int × List UInt8)} (h : checkM d = 0) : ∀ x ∈ d, 0 ≤ x.1 ∧ x.2.length = 64 := by
  intro x hx
  unfold checkM at h
  by_cases ha : d.any badW = true
  · rw [if_pos ha] at h; cases h
  · have : badW x = false := by
      cases hb : badW x
      · rfl
      · exact absurd (List.any_eq_true.2 ⟨x, hx, hb⟩) ha
    unfold badW at this
    simp only [Bool.or_eq_false_iff, decide_eq_false_iff_not] at this
    omega
theorem entM_top {D : DiskM} {j : Nat} {number at_ : Int} (h : (entM D j number at_).ok = true) : (entM D j number at_).no < (D.laid.length : Int) - 1 - j := by
  unfold entM at h ⊢
  split at h
  · simp [Ent.none] at h
  · rename_i h1
    rw [if_neg h1]
    split at h
    · simp [Ent.none] at h
    · rename_i h2
      rw [if_neg h2]
      simp only [entOf, Bool.and_eq_true, decide_eq_true_eq] at h ⊢
      exact h.2
theorem found_good (rd fs : List Int) (D : DiskM) (j : Nat) (number : Int) : (∀ x ∈ foundM rd fs D j number, 0 ≤ x.1 ∧ x.1 < (D.laid.length : Int) - 1 - j ∧ x.2.length = 64) ∧ ((foundM rd fs D j number).length : Int) ≤ (j : Int) / 2 := by
  unfold foundM
  cases hf : foundL D j number with
  | none => simp; omega
  | some ws =>
    simp only
    split
    · rename_i hc
      unfold foundL at hf
      split at hf
      · split at hf
        · rename_i h1 h2
          simp only [Option.some.injEq] at hf
          have hall := List.all_eq_true.1 h2
          have hg : ∀ e ∈ entList D j number (entM D j number 0).count.toNat, e.ok = true := fun e he => by
            have := hall e he
            simp only [goodE, Bool.and_eq_true] at this
            exact this.1.1
          constructor
          · intro x hx
            have h3 := check_good hc.1 x hx
            refine ⟨h3.1, ?_, h3.2⟩
            rw [← hf] at hx
            obtain ⟨e, he, rfl⟩ := List.mem_map.1 hx
            obtain ⟨i, hi, rfl⟩ := List.mem_map.1 he
            exact entM_top (hg _ he)
          · rw [← hf]
            simp only [List.length_map, entList, List.length_range]
            rcases Nat.eq_zero_or_pos (entM D j number 0).count.toNat with h0 | h0
            · rw [h0]; omega
            · have := hg (entM D j number ((entM D j number 0).count.toNat - 1 : Nat)) (List.mem_map.2 ⟨_, List.mem_range.2 (by omega), rfl⟩)
              have := (entM_ok this).2
              omega
        · cases hf
      · cases hf
    · simp; omega

/-- What recovering does: the error, the disk, the number, whether something was redone. -/
structure RedoM where
  e : Int
  D : DiskM
  done : Int
  redone : Bool
def last : Int := 1152921504606846976
def redoM (rd fs : List Int) (D : DiskM) (j : Nat) (done : Int) (rdn : Bool) : RedoM :=
  if ¬ (D.read 0).1 = 0 then ⟨(D.read 0).1, D, done, rdn⟩ else
  if (headNum rd fs (D.read 0).2).2 = false then ⟨5, D, done, rdn⟩ else
  if last ≤ (headNum rd fs (D.read 0).2).1 then ⟨0, D, (headNum rd fs (D.read 0).2).1, rdn⟩ else
  if foundM rd fs D j ((headNum rd fs (D.read 0).2).1 + 1) = [] then
    ⟨(clearM D ((headNum rd fs (D.read 0).2).1 + 1)).1, (clearM D ((headNum rd fs (D.read 0).2).1 + 1)).2, (headNum rd fs (D.read 0).2).1, rdn⟩
  else
    ⟨(layM rd fs j (0, D) ((headNum rd fs (D.read 0).2).1 + 1) (foundM rd fs D j ((headNum rd fs (D.read 0).2).1 + 1))).1, (layM rd fs j (0, D) ((headNum rd fs (D.read 0).2).1 + 1) (foundM rd fs D j ((headNum rd fs (D.read 0).2).1 + 1))).2,
      if (layM rd fs j (0, D) ((headNum rd fs (D.read 0).2).1 + 1) (foundM rd fs D j ((headNum rd fs (D.read 0).2).1 + 1))).1 = 0 then (headNum rd fs (D.read 0).2).1 + 1 else (headNum rd fs (D.read 0).2).1, true⟩
theorem redo_ (lp p : Nat) (o s m : Int) (j : Nat) (done : Int) (rdn : Bool) (D : DiskM) (rd fs : List Int) (W : World) (F : Nat → Prop) (hG : Gl W F rd fs) (hj : j ≤ 4096) (hline : D.line.length < 1073700000) (hS : St W F [logAt lp p o s m j done rdn, disk p D] W) :
    Calls Tryd.prog 23 #[.pointer (some ⟨lp, 0, none⟩)] W (Ret fun v w => v = .int .i64 (redoM rd fs D j done rdn).e ∧ St W F [logAt lp p o s m j (redoM rd fs D j done rdn).done (redoM rd fs D j done rdn).redone, disk p (redoM rd fs D j done rdn).D] w) := by
  have hok := (hS.rd (List.mem_cons_of_mem _ (List.mem_cons_self ..)) : Rd W (disk p D)).disk.1
  have h64 := fun (h : (D.read 0).1 = 0) => read_64 hok h
  obtain ⟨R, hR⟩ : ∃ R, R = redoM rd fs D j done rdn := ⟨_, rfl⟩
  rw [← hR]
  have e := hR
  unfold redoM at e
  clear hR
  refine calls_C Tryd.func23 rfl Tryd.ntmps23 rfl ?_
  repeat (first | (refine G_id ?_; first | refine G_nil ?_ | refine G_plain rfl rfl ?_) | (refine X_id ?_; first | refine X_yl (Yl_move rfl rfl) rfl rfl ?_ | refine X_yl (Yl_assign rfl rfl) rfl rfl ?_ | refine X_yl (Yl_nilCheck rfl rfl) rfl rfl ?_ | refine X_yl (Yl_fieldAddr0 rfl rfl rfl) rfl rfl ?_ | refine X_yl (Yl_load rfl rfl hS.cell) rfl rfl ?_) | (refine C_id ?_; first | refine C_seq ?_ | refine C_region ?_) | (refine E_id ?_; first | refine E_code ?_))
  refine X_callg _ rfl rfl rfl rfl rfl (read_ p D 0 _ (hS.rd (List.mem_cons_of_mem _ (List.mem_cons_self ..))) (by omega)) ?_
  rintro _ w ⟨a, ca, rfl, hca, hS'⟩
  replace hS := hS.plus hS'
  clear hS'
  generalize D.read 0 = ra at h64 hca hS e ⊢
  obtain ⟨ea, la⟩ := ra
  simp only at h64 hca hS e ⊢
  by_cases hea : ea = 0
  · subst hea
    have hla := h64 rfl
    rw [if_neg (by simp)] at e
    rw [hla]
    have hnb : (headNum rd fs la).2 = true → 0 ≤ (headNum rd fs la).1 ∧ (headNum rd fs la).1 ≤ 1152921504606846976 := fun h => by
      unfold headNum at h ⊢
      split at h
      · rename_i h1; rw [if_pos h1]; omega
      · rename_i h1
        rw [if_neg h1]
        simp only [isFront, Bool.and_eq_true, decide_eq_true_eq] at h ⊢
        omega
    repeat (first | (refine G_id ?_; first | refine G_nil ?_ | refine G_plain rfl rfl ?_) | (refine X_id ?_; first | refine X_yl (Yl_move rfl rfl) rfl rfl ?_ | refine X_yl (Yl_assign rfl rfl) rfl rfl ?_ | refine X_yl (Yl_extract rfl rfl) rfl rfl ?_ | refine X_yl (Yl_neq_f rfl rfl rfl (by omega)) rfl rfl ?_) | (refine C_id ?_; first | refine C_seq ?_ | refine C_region ?_ | refine C_skip ?_ | refine C_cond_f rfl ?_) | (refine E_id ?_; first | refine E_code ?_))
    refine X_callq _ rfl rfl rfl rfl rfl hS (number_ a ca la rd fs _ (hG.mono fun r hr => (hr.rd hS).ro) (hS.rd (List.mem_cons_self ..)) hla (by omega)) ?_
    rintro _ w rfl hS
    generalize headNum rd fs la = hn at hnb e ⊢
    obtain ⟨n, ok⟩ := hn
    simp only at hnb e ⊢
    cases ok
    · rw [if_pos rfl] at e
      subst e
      repeat (first | (refine G_id ?_; first | refine G_nil ?_ | refine G_plain rfl rfl ?_) | (refine X_id ?_; first | refine X_yl (Yl_move rfl rfl) rfl rfl ?_ | refine X_yl (Yl_assign rfl rfl) rfl rfl ?_ | refine X_yl (Yl_extract rfl rfl) rfl rfl ?_ | refine X_yl (Yl_not_f rfl rfl) rfl rfl ?_) | (refine C_id ?_; first | refine C_seq ?_ | refine C_region ?_ | refine C_ret ?_ | refine C_cond_t rfl ?_) | (refine E_id ?_; first | refine E_code ?_ | refine E_then_ret ?_ | refine E_ret1 rfl (Rv_tmp rfl) (Ret.mk ?_)))
      exact ⟨rfl, hS.pick [1, 1]⟩
    · rw [if_neg (by simp)] at e
      have hn1 := hnb rfl
      by_cases hl : last ≤ n
      · rw [if_pos hl] at e
        subst e
        unfold last at hl
        repeat (first | (refine G_id ?_; first | refine G_nil ?_ | refine G_plain rfl rfl ?_) | (refine X_id ?_; first | refine X_yl (Yl_move rfl rfl) rfl rfl ?_ | refine X_yl (Yl_assign rfl rfl) rfl rfl ?_ | refine X_yl (Yl_nilCheck rfl rfl) rfl rfl ?_ | refine X_yl (Yl_fieldAddr0 rfl rfl rfl) rfl rfl ?_ | refine X_yl (Yl_extract rfl rfl) rfl rfl ?_ | refine X_yl (Yl_not_t rfl rfl) rfl rfl ?_ | refine X_yl (Yl_geq_t rfl rfl rfl (by omega)) rfl rfl ?_ | refine X_store rfl rfl rfl rfl hS (fun _ hS _ => ?_)) | (refine C_id ?_; first | refine C_seq ?_ | refine C_region ?_ | refine C_ret ?_ | refine C_skip ?_ | refine C_cond_t rfl ?_ | refine C_cond_f rfl ?_) | (refine E_id ?_; first | refine E_code ?_ | refine E_then_ret ?_ | refine E_ret1 rfl (Rv_tmp rfl) (Ret.mk ?_)))
        exact ⟨rfl, hS.pick [1, 1]⟩
      · rw [if_neg hl] at e
        unfold last at hl
        repeat (first | (refine G_id ?_; first | refine G_nil ?_ | refine G_plain rfl rfl ?_) | (refine X_id ?_; first | refine X_yl (Yl_move rfl rfl) rfl rfl ?_ | refine X_yl (Yl_assign rfl rfl) rfl rfl ?_ | refine X_yl (Yl_nilCheck rfl rfl) rfl rfl ?_ | refine X_yl (Yl_fieldAddr0 rfl rfl rfl) rfl rfl ?_ | refine X_yl (Yl_extract rfl rfl) rfl rfl ?_ | refine X_yl (Yl_not_t rfl rfl) rfl rfl ?_ | refine X_yl (Yl_geq_f rfl rfl rfl (by omega)) rfl rfl ?_ | refine X_yl (Yl_add rfl rfl rfl (w64 (by omega) (by omega))) rfl rfl ?_ | refine X_store rfl rfl rfl rfl hS (fun _ hS _ => ?_)) | (refine C_id ?_; first | refine C_seq ?_ | refine C_region ?_ | refine C_skip ?_ | refine C_cond_f rfl ?_) | (refine E_id ?_; first | refine E_code ?_))
        have hfg := found_good rd fs D j (n + 1)
        refine X_callg _ rfl rfl rfl rfl rfl (found_ lp p o s m j n rdn D (n + 1) rd fs _ (hG.mono fun r hr => (hr.rd hS).ro) (hS.rd (List.mem_cons_of_mem _ (List.mem_cons_self ..))) (hS.rd (List.mem_cons_of_mem _ (List.mem_cons_of_mem _ (List.mem_cons_self ..)))) hj (by omega)) ?_
        rintro _ w ⟨fa, fc, ws, O, rfl, hwd, hnone, hO, hS'⟩
        replace hS := hS.plus hS'
        clear hS'
        rw [← hwd] at e hfg
        by_cases hws : ws = []
        · obtain rfl := hnone.2 hws
          rw [if_pos (by rw [hws]; rfl)] at e
          subst e
          repeat (first | (refine G_id ?_; first | refine G_nil ?_ | refine G_plain rfl rfl ?_) | (refine X_id ?_; first | refine X_yl (Yl_move rfl rfl) rfl rfl ?_ | refine X_yl (Yl_assign rfl rfl) rfl rfl ?_ | refine X_yl (Yl_add rfl rfl rfl (w64 (by omega) (by omega))) rfl rfl ?_ | refine X_yl (Yl_neqNilSlice rfl rfl rfl) rfl rfl ?_) | (refine C_id ?_; first | refine C_seq ?_ | refine C_region ?_ | refine C_skip ?_ | refine C_cond_f rfl ?_) | (refine E_id ?_; first | refine E_code ?_))
          obtain ⟨_, hc, hr, hw, hbk⟩ := hS.call [false, false, false, true, true]
          refine X_callg _ rfl rfl rfl rfl rfl (clear_ lp p o s m j n rdn D (n + 1) _ _ (by omega) hc) ?_
          rintro _ w ⟨rfl, hS⟩
          replace hS := hbk hS
          clear hc hr hw hbk
          repeat (first | (refine G_id ?_; first | refine G_nil ?_ | refine G_plain rfl rfl ?_) | (refine X_id ?_; first | refine X_yl (Yl_assign rfl rfl) rfl rfl ?_) | (refine C_id ?_; first | refine C_ret ?_) | (refine E_id ?_; first | refine E_code ?_ | refine E_ret1 rfl (Rv_tmp rfl) (Ret.mk ?_)))
          exact ⟨rfl, hS.pick [0, 0]⟩
        · obtain ⟨ad, rfl⟩ : ∃ ad, fa = some ad := by
            cases fa with
            | none => exact absurd (hnone.1 rfl) hws
            | some ad => exact ⟨ad, rfl⟩
          rw [if_neg (by simpa using hws)] at e
          have hwl : ws.length ≤ 2048 := by
            have := hfg.2
            rw [List.length_map] at this
            omega
          repeat (first | (refine G_id ?_; first | refine G_nil ?_ | refine G_plain rfl rfl ?_) | (refine X_id ?_; first | refine X_yl (Yl_move rfl rfl) rfl rfl ?_ | refine X_yl (Yl_assign rfl rfl) rfl rfl ?_ | refine X_yl (Yl_nilCheck rfl rfl) rfl rfl ?_ | refine X_yl (Yl_fieldAddr0 rfl rfl rfl) rfl rfl ?_ | refine X_yl (Yl_build rfl rfl rfl) rfl rfl ?_ | refine X_yl (Yl_add rfl rfl rfl (w64 (by omega) (by omega))) rfl rfl ?_ | refine X_yl (Yl_neqNilSlice rfl rfl rfl) rfl rfl ?_ | refine X_yl (Yl_load rfl rfl hS.cell) rfl rfl ?_ | refine X_store rfl rfl rfl rfl hS (fun _ hS _ => ?_) | refine X_box rfl rfl rfl rfl hS (fun _ _ hS _ => ?_)) | (refine C_id ?_; first | refine C_seq ?_ | refine C_region ?_ | refine C_cond_t rfl ?_) | (refine E_id ?_; first | refine E_code ?_))
          have hS := hS.pick [4, 0, 3, 0, 0]
          have hmost := hok.most
          have hvno : ∀ v ∈ ws, -4611686018427387904 ≤ v.no ∧ v.no ≤ 4611686018427387904 := fun v hv => by
            have := hfg.1 v.data (List.mem_map.2 ⟨v, hv, rfl⟩)
            simp only [Wr.data] at this
            omega
          obtain ⟨_, hc, hr, hw, hbk⟩ := hS.call [true, true, true, false, false]
          refine X_callg _ rfl rfl rfl rfl rfl (wlay_ lp _ p o s m j n true (0, D) (n + 1) (some ad) fc ws rd fs _ _ (hG.mono hw) ⟨(hr _ (List.mem_cons_self ..)).own_row, fun v hv => Ro.rds (hr _ (List.mem_cons_of_mem _ (List.mem_cons_self ..))) _ (hO v hv)⟩ hj (by omega) hvno (by simp only; omega) hc) ?_
          rintro _ w ⟨rfl, hS⟩
          replace hS := hbk hS
          clear hc hr hw hbk
          subst e
          repeat (first | (refine G_id ?_; first | refine G_nil ?_ | refine G_plain rfl rfl ?_) | (refine X_id ?_; first | refine X_yl (Yl_assign rfl rfl) rfl rfl ?_) | (refine C_id ?_; first | refine C_ret ?_) | (refine E_id ?_; first | refine E_code ?_ | refine E_then_ret ?_ | refine E_ret1 rfl (Rv_tmp rfl) (Ret.mk ?_)))
          exact ⟨rfl, hS.pick [0, 1]⟩
  · rw [if_pos hea] at e
    subst e
    repeat (first | (refine G_id ?_; first | refine G_nil ?_ | refine G_plain rfl rfl ?_) | (refine X_id ?_; first | refine X_yl (Yl_move rfl rfl) rfl rfl ?_ | refine X_yl (Yl_assign rfl rfl) rfl rfl ?_ | refine X_yl (Yl_extract rfl rfl) rfl rfl ?_ | refine X_yl (Yl_neq_t rfl rfl rfl (by omega)) rfl rfl ?_) | (refine C_id ?_; first | refine C_seq ?_ | refine C_region ?_ | refine C_ret ?_ | refine C_cond_t rfl ?_) | (refine E_id ?_; first | refine E_code ?_ | refine E_then_ret ?_ | refine E_ret1 rfl (Rv_tmp rfl) (Ret.mk ?_)))
    exact ⟨rfl, hS.pick [1, 1]⟩
end Cr
namespace Cr
open Go Go.Proofs
set_option maxRecDepth 100000
set_option maxHeartbeats 8000000
attribute [local irreducible] Calls

instance : Und Tryd.prog 136 .unsafePointer := ⟨Tryd.underlying136⟩
theorem Yl_toUnsafe {P : Program} {o : Oper} {σ : Env} {w : World} {x : Operand} {src dst t : TypeId} {n : Nat} {a : Addr} {v : Value} (ho : o.op = .convert src dst x) (hx : ev σ x = some (.pointer (some a))) [hs : Und P src (.pointer t)] [hd : Und P dst .unsafePointer] [hz : Siz P t n] (hn : Nat.blt 0 n = true) (hc : w.cell? a = some v) : Yl P o σ w (.pointer (some a)) := ⟨fun N ds f ha => by
  have hpos : 0 < n := lt_of_blt hn
  have hsz : (P.info? t).map (fun i => decide (i.size = 0)) = some false := by
    have := hz.siz
    cases hi : P.info? t with
    | none => rw [hi] at this; cases this
    | some i =>
      rw [hi] at this
      simp only [Option.map_some, Option.some.injEq] at this ⊢
      exact decide_eq_false (by omega)
  have := run_convert_to_unsafe hs.und hd.und hsz hc
  simp [execOp, ho, ha.eval hx, this]⟩
theorem ilock_ (b off : Nat) (l l' : List Value) (T : TypeId) (W : World) (F : Nat → Prop) [hn : Nth l off (.int .i32 0)] [hs : Spl l off [.int .i32 1] l'] (hS : St W F [pts b (.cells l.toArray T)] W) :
    Calls Tryd.prog 61 #[.pointer (some ⟨b, off, none⟩)] W (Ret fun _ w => True ∧ St W F [pts b (.cells l'.toArray T)] w) := by
  have hn1 : Nth l' off (.int .i32 1) := ⟨by
    have h := hs.spl
    rw [← h.2]
    simp at h
    rw [List.append_assoc, List.getElem?_append_right (by simp; omega), List.length_take, Nat.min_eq_left (by omega)]
    simp⟩
  refine calls_C Tryd.func61 rfl Tryd.ntmps61 rfl ?_
  repeat (first | (refine G_id ?_; first | refine G_nil ?_ | refine G_plain rfl rfl ?_) | (refine X_id ?_; first | refine X_yl (Yl_move rfl rfl) rfl rfl ?_ | refine X_yl (Yl_nilCheck rfl rfl) rfl rfl ?_ | refine X_yl (Yl_fieldAddr rfl rfl rfl) rfl rfl ?_ | refine X_emark0 rfl rfl rfl rfl rfl ?_ | refine X_ecas rfl rfl rfl rfl rfl hS (fun _ hS => ?_)) | (refine C_id ?_; first | refine C_seq ?_ | refine C_region ?_ | refine C_cond_t rfl ?_) | (refine E_id ?_; first | refine E_code ?_))
  refine X_yl (Yl_toUnsafe rfl rfl rfl hS.cell) rfl rfl ?_
  repeat (first | (refine G_id ?_; first | refine G_nil ?_ | refine G_plain rfl rfl ?_) | (refine X_id ?_; first | refine X_emark rfl rfl rfl rfl rfl ?_) | (refine C_id ?_; first | refine C_ret ?_) | (refine E_id ?_; first | refine E_code ?_ | refine E_then_ret ?_ | refine E_ret0 rfl (Ret.mk ?_)))
  exact ⟨trivial, hS⟩
theorem iunlock_ (b off : Nat) (l l' : List Value) (T : TypeId) (W : World) (F : Nat → Prop) [hn : Nth l off (.int .i32 1)] [hs : Spl l off [.int .i32 0] l'] (hS : St W F [pts b (.cells l.toArray T)] W) :
    Calls Tryd.prog 62 #[.pointer (some ⟨b, off, none⟩)] W (Ret fun _ w => True ∧ St W F [pts b (.cells l'.toArray T)] w) := by
  refine calls_C Tryd.func62 rfl Tryd.ntmps62 rfl ?_
  repeat (first | (refine G_id ?_; first | refine G_nil ?_ | refine G_plain rfl rfl ?_) | (refine X_id ?_; first | refine X_yl (Yl_move rfl rfl) rfl rfl ?_ | refine X_yl (Yl_nilCheck rfl rfl) rfl rfl ?_ | refine X_yl (Yl_fieldAddr rfl rfl rfl) rfl rfl ?_ | refine X_yl (Yl_load rfl rfl hS.cell) rfl rfl ?_) | (refine C_id ?_; first | refine C_seq ?_ | refine C_region ?_ | refine C_cond_t rfl ?_) | (refine E_id ?_; first | refine E_code ?_))
  refine X_yl (Yl_toUnsafe rfl rfl rfl hS.cell) rfl rfl ?_
  repeat (first | (refine G_id ?_; first | refine G_nil ?_ | refine G_plain rfl rfl ?_) | (refine X_id ?_; first | refine X_yl (Yl_move rfl rfl) rfl rfl ?_ | refine X_yl (Yl_nilCheck rfl rfl) rfl rfl ?_ | refine X_yl (Yl_fieldAddr rfl rfl rfl) rfl rfl ?_ | refine X_emark0 rfl rfl rfl rfl rfl ?_ | refine X_emark rfl rfl rfl rfl rfl ?_) | (refine C_id ?_; first | refine C_seq ?_ | refine C_region ?_) | (refine E_id ?_; first | refine E_code ?_))
  refine X_eadd (s := 0) rfl rfl rfl rfl rfl rfl hS (fun _ hS => ?_)
  repeat (first | (refine G_id ?_; first | refine G_nil ?_ | refine G_plain rfl rfl ?_) | (refine X_id ?_; first | refine X_yl (Yl_move rfl rfl) rfl rfl ?_ | refine X_yl (Yl_assign rfl rfl) rfl rfl ?_ | refine X_yl (Yl_neq_f rfl rfl rfl (by omega)) rfl rfl ?_ | refine X_emark0 rfl rfl rfl rfl rfl ?_) | (refine C_id ?_; first | refine C_seq ?_ | refine C_region ?_ | refine C_skip ?_ | refine C_cond_f rfl ?_) | (refine E_id ?_; first | refine E_code ?_ | refine E_end0 rfl (Ret.mk ?_)))
  exact ⟨trivial, hS⟩
theorem bload_ (b off : Nat) (l : List Value) (T : TypeId) (x : Int) (W : World) [hn : Nth l off (.int .u32 x)] (hL : Rd W (pts b (.cells l.toArray T))) :
    Calls Tryd.prog 32 #[.pointer (some ⟨b, off, none⟩)] W (Ret fun v w => v = .bool (decide (¬ x = 0)) ∧ W = w) := by
  have hc := hL.pts
  have hS := St.start W
  refine calls_C Tryd.func32 rfl Tryd.ntmps32 rfl ?_
  repeat (first | (refine G_id ?_; first | refine G_nil ?_ | refine G_plain rfl rfl ?_) | (refine X_id ?_; first | refine X_yl (Yl_move rfl rfl) rfl rfl ?_ | refine X_yl (Yl_assign rfl rfl) rfl rfl ?_ | refine X_yl (Yl_nilCheck rfl rfl) rfl rfl ?_ | refine X_yl (Yl_fieldAddr rfl rfl rfl) rfl rfl ?_ | refine X_yl (Yl_neq rfl rfl rfl) rfl rfl ?_ | refine X_eload rfl rfl rfl (cell_at (by assumption)) rfl rfl ?_) | (refine C_id ?_; first | refine C_seq ?_ | refine C_region ?_ | refine C_ret ?_) | (refine E_id ?_; first | refine E_code ?_ | refine E_ret1 rfl (Rv_tmp rfl) (Ret.mk ?_)))
  exact ⟨rfl, rfl⟩
theorem bstore_ (b off : Nat) (l l' : List Value) (T : TypeId) (x : Int) (W : World) (F : Nat → Prop) [hn : Nth l off (.int .u32 x)] [hs : Spl l off [.int .u32 1] l'] (hS : St W F [pts b (.cells l.toArray T)] W) :
    Calls Tryd.prog 49 #[.pointer (some ⟨b, off, none⟩), .bool true] W (Ret fun _ w => True ∧ St W F [pts b (.cells l'.toArray T)] w) := by
  have hb32 : ∀ w, Calls Tryd.prog 64 #[.bool true] w (Ret fun v w' => v = .int .u32 1 ∧ w = w') := fun w => by
    refine calls_C Tryd.func64 rfl Tryd.ntmps64 rfl ?_
    repeat (first | (refine G_id ?_; first | refine G_nil ?_ | refine G_plain rfl rfl ?_) | (refine X_id ?_; first | refine X_yl (Yl_move rfl rfl) rfl rfl ?_ | refine X_yl (Yl_assign rfl rfl) rfl rfl ?_) | (refine C_id ?_; first | refine C_seq ?_ | refine C_region ?_ | refine C_ret ?_ | refine C_cond_t rfl ?_) | (refine E_id ?_; first | refine E_code ?_ | refine E_then_ret ?_ | refine E_ret1 rfl (Rv_tmp rfl) (Ret.mk ?_)))
    exact ⟨rfl, rfl⟩
  refine calls_C Tryd.func49 rfl Tryd.ntmps49 rfl ?_
  repeat (first | fail)
  refine C_ord [(0, true), (1, true), (2, true), (3, true), (4, false), (5, false)] mixed (by kernel_rfl) rfl ?_
  have hS := hS.drew
  repeat (first | (refine X_id ?_; first | (refine X_callg 64 rfl rfl rfl rfl rfl (hb32 _) ?_; rintro _ _ ⟨rfl, rfl⟩) | refine X_estore rfl rfl rfl rfl rfl hS (fun _ hS => ?_)) | (refine E_id ?_; first | refine E_end0 rfl (Ret.mk ?_)) | (refine GO_id ?_; first | refine GO_nil ?_ | refine GO_pure rfl rfl (fun _ => Yl_move rfl rfl) rfl rfl ?_ | refine GO_pure rfl rfl (fun _ => Yl_nilCheck rfl rfl) rfl rfl ?_ | refine GO_pure rfl rfl (fun _ => Yl_fieldAddr rfl rfl rfl) rfl rfl ?_ | refine GO_hard rfl rfl ?_) | (refine Keep_id ?_; first | refine And.intro (by repeat (first | exact trivial | refine And.intro (.inl (by decide +kernel)) ?_ | refine And.intro (.inr (by first | assumption | exact hS.cell | exact cell_at (by assumption) | exact hS.cellI (by omega) | exact hS.cellIP (by omega) | exact hS.cellsN | exact ((hr.rd hS).cellX (by omega) hx) | exact ((hr2.rd hS).cellX (by omega) hx2) | exact hS.cellB (by omega) | exact hS.cellBA (by omega) | exact (hb.rd hS).cellB' (by omega) | exact (hb2.rd hS).cellB' (by omega) | exact (hg.rd hS).cellI (by omega) | exact (hg2.rd hS).cellI (by omega) | exact ((hr.rd hS).cellF (by first | omega | (dsimp only; omega)) hx) | exact ((hr2.rd hS).cellF (by first | omega | (dsimp only; omega)) hx2))) ?_)) ?_))
  exact ⟨trivial, hS⟩
end Cr
namespace Cr
open Go Go.Proofs
set_option maxRecDepth 100000
set_option maxHeartbeats 8000000
attribute [local irreducible] Calls

abbrev ptrAt (b lp : Nat) : Res := pts b (.cells #[.pointer (some ⟨lp, 0, none⟩)] 26)
abbrev errAt (b : Nat) (e : Int) : Res := pts b (.cells #[.int .i64 e] 29)
theorem b32_ (W : World) : Calls Tryd.prog 64 #[.bool true] W (Ret fun v w => v = .int .u32 1 ∧ W = w) := by
  refine calls_C Tryd.func64 rfl Tryd.ntmps64 rfl ?_
  repeat (first | (refine G_id ?_; first | refine G_nil ?_ | refine G_plain rfl rfl ?_) | (refine X_id ?_; first | refine X_yl (Yl_move rfl rfl) rfl rfl ?_ | refine X_yl (Yl_assign rfl rfl) rfl rfl ?_) | (refine C_id ?_; first | refine C_seq ?_ | refine C_region ?_ | refine C_ret ?_ | refine C_cond_t rfl ?_) | (refine E_id ?_; first | refine E_code ?_ | refine E_then_ret ?_ | refine E_ret1 rfl (Rv_tmp rfl) (Ret.mk ?_)))
  exact ⟨rfl, rfl⟩
theorem open1_ (lp p b6 b7 : Nat) (o s m : Int) (j : Nat) (done : Int) (rdn : Bool) (D : DiskM) (e0 : Int) (rd fs : List Int) (W : World) (F : Nat → Prop) (hG : Gl W F rd fs) (hj : j ≤ 4096) (hline : D.line.length < 1073700000)
    (hS : St W F [logAt lp p o s m j done rdn, disk p D, ptrAt b6 lp, errAt b7 e0] W) :
    Calls Tryd.prog 22 #[.pointer (some ⟨b6, 0, none⟩), .pointer (some ⟨b7, 0, none⟩)] W (Ret fun _ w => True ∧
      St W F [logAt lp p o s m j (redoM rd fs D j done rdn).done (redoM rd fs D j done rdn).redone, disk p (redoM rd fs D j done rdn).D, ptrAt b6 lp, errAt b7 (redoM rd fs D j done rdn).e] w) := by
  refine calls_C Tryd.func22 rfl Tryd.ntmps22 rfl ?_
  repeat (first | (refine G_id ?_; first | refine G_plain rfl rfl ?_) | (refine X_id ?_; first | refine X_yl (Yl_load rfl rfl hS.cell) rfl rfl ?_) | (refine C_id ?_; first | refine C_region ?_))
  obtain ⟨_, hc, hr, hw, hbk⟩ := hS.call [true, true, false, false]
  refine X_callg _ rfl rfl rfl rfl rfl (redo_ lp p o s m j done rdn D rd fs _ _ (hG.mono hw) hj hline hc) ?_
  rintro _ w ⟨rfl, hS⟩
  replace hS := hbk hS
  clear hc hr hw hbk
  generalize redoM rd fs D j done rdn = R at hS ⊢
  repeat (first | (refine G_id ?_; first | refine G_nil ?_ | refine G_plain rfl rfl ?_) | (refine X_id ?_; first | refine X_store rfl rfl rfl rfl hS (fun _ hS _ => ?_)) | (refine E_id ?_; first | refine E_end0 rfl (Ret.mk ?_)))
  exact ⟨trivial, hS⟩
theorem doSlow_ (lp p b6 b7 : Nat) (m : Int) (j : Nat) (done : Int) (rdn : Bool) (D : DiskM) (e0 : Int) (rd fs : List Int) (W : World) (F : Nat → Prop) (hG : Gl W F rd fs) (hj : j ≤ 4096) (hline : D.line.length < 1073700000)
    (hS : St W F [logAt lp p 0 0 m j done rdn, disk p D, ptrAt b6 lp, errAt b7 e0] W) :
    Calls Tryd.prog 33 #[.pointer (some ⟨lp, 1, none⟩), .func (.func 22) #[] #[.pointer (some ⟨b6, 0, none⟩), .pointer (some ⟨b7, 0, none⟩)]] W (Ret fun _ w => True ∧
      St W F [logAt lp p 1 0 m j (redoM rd fs D j done rdn).done (redoM rd fs D j done rdn).redone, disk p (redoM rd fs D j done rdn).D, ptrAt b6 lp, errAt b7 (redoM rd fs D j done rdn).e] w) := by
  have hlock : ∀ W F, St W F [logAt lp p 0 0 m j done rdn] W → Calls Tryd.prog 47 #[.pointer (some ⟨lp, 2, none⟩)] W (Ret fun _ w => True ∧ St W F [logAt lp p 0 1 m j done rdn] w) := fun W F hS => by
    refine calls_C Tryd.func47 rfl Tryd.ntmps47 rfl ?_
    repeat (first | (refine G_id ?_; first | refine G_plain rfl rfl ?_) | (refine X_id ?_; first | refine X_yl (Yl_move rfl rfl) rfl rfl ?_ | refine X_yl (Yl_nilCheck rfl rfl) rfl rfl ?_ | refine X_yl (Yl_fieldAddr rfl rfl rfl) rfl rfl ?_) | (refine C_id ?_; first | refine C_region ?_))
    refine X_callg _ rfl rfl rfl rfl rfl (ilock_ lp 2 _ _ _ _ _ hS) ?_
    rintro _ w ⟨_, hS⟩
    repeat (first | (refine G_id ?_; first | refine G_nil ?_) | (refine E_id ?_; first | refine E_end0 rfl (Ret.mk ?_)))
    exact ⟨trivial, hS⟩
  refine calls_C Tryd.func33 rfl Tryd.ntmps33 rfl ?_
  repeat (first | (refine G_id ?_; first | refine G_plain rfl rfl ?_) | (refine X_id ?_; first | refine X_yl (Yl_move rfl rfl) rfl rfl ?_ | refine X_yl (Yl_nilCheck rfl rfl) rfl rfl ?_ | refine X_yl (Yl_fieldAddr rfl rfl rfl) rfl rfl ?_) | (refine C_id ?_; first | refine C_seq ?_ | refine C_region ?_))
  obtain ⟨_, hc, hr, hw, hbk⟩ := hS.call [true, false, false, false]
  refine X_callg _ rfl rfl rfl rfl rfl (hlock _ _ hc) ?_
  rintro _ w ⟨_, hS⟩
  replace hS := hbk hS
  clear hc hr hw hbk
  repeat (first | (refine G_id ?_; first | refine G_nil ?_ | refine G_defer rfl rfl rfl rfl rfl ?_ | refine G_plain rfl rfl ?_) | (refine X_id ?_; first | refine X_yl (Yl_move rfl rfl) rfl rfl ?_ | refine X_yl (Yl_nilCheck rfl rfl) rfl rfl ?_ | refine X_yl (Yl_fieldAddr rfl rfl rfl) rfl rfl ?_) | (refine C_id ?_; first | refine C_seq ?_ | refine C_region ?_) | (refine E_id ?_; first | refine E_code ?_ | refine E_code2 rfl ?_))
  refine X_callg _ rfl rfl rfl rfl rfl (bload_ lp 1 _ _ 0 _ (hS.rd (List.mem_cons_self ..))) ?_
  rintro _ _ ⟨rfl, rfl⟩
  rw [decide_eq_false (show ¬ ¬ (0 : Int) = 0 by simp)]
  repeat (first | (refine G_id ?_; first | refine G_nil ?_ | refine G_defer rfl rfl rfl rfl rfl ?_ | refine G_plain rfl rfl ?_) | (refine X_id ?_; first | refine X_yl (Yl_move rfl rfl) rfl rfl ?_ | refine X_yl (Yl_nilCheck rfl rfl) rfl rfl ?_ | refine X_yl (Yl_fieldAddr rfl rfl rfl) rfl rfl ?_ | refine X_yl (Yl_not_f rfl rfl) rfl rfl ?_) | (refine C_id ?_; first | refine C_seq ?_ | refine C_region ?_ | refine C_cond_t rfl ?_) | (refine E_id ?_; first | refine E_code ?_ | refine E_code2 rfl ?_))
  obtain ⟨_, hc, hr, hw, hbk⟩ := hS.call [true, true, true, true]
  refine X_call (first := []) (captured := [.pointer (some ⟨b6, 0, none⟩), .pointer (some ⟨b7, 0, none⟩)]) rfl rfl rfl rfl rfl (open1_ lp p b6 b7 0 1 m j done rdn D e0 rd fs _ _ (hG.mono hw) hj hline hc) ?_
  rintro _ w ⟨_, hS⟩
  replace hS := hbk hS
  clear hc hr hw hbk
  generalize redoM rd fs D j done rdn = R at hS ⊢
  repeat (first | (refine G_id ?_; first | refine G_nil ?_))
  refine E_defer (args := [.pointer (some ⟨lp, 1, none⟩), .bool true]) (captured := []) rfl rfl rfl rfl (.inr rfl) ?_
  repeat (first | fail)
  refine C_ord [(0, true), (1, true), (2, true), (3, true), (4, false), (5, false)] mixed (by kernel_rfl) rfl ?_
  have hS := hS.drew
  repeat (first | (refine X_id ?_; first | (refine X_callg 64 rfl rfl rfl rfl rfl (b32_ _) ?_; rintro _ _ ⟨rfl, rfl⟩) | refine X_estore rfl rfl rfl rfl rfl hS (fun _ hS => ?_)) | (refine E_id ?_; first | refine E_end0d rfl (Ret.mk ?_)) | (refine GO_id ?_; first | refine GO_nil ?_ | refine GO_pure rfl rfl (fun _ => Yl_move rfl rfl) rfl rfl ?_ | refine GO_pure rfl rfl (fun _ => Yl_nilCheck rfl rfl) rfl rfl ?_ | refine GO_pure rfl rfl (fun _ => Yl_fieldAddr rfl rfl rfl) rfl rfl ?_ | refine GO_hard rfl rfl ?_) | (refine Keep_id ?_; first | refine And.intro (by repeat (first | exact trivial | refine And.intro (.inl (by decide +kernel)) ?_ | refine And.intro (.inr (by first | assumption | exact hS.cell | exact cell_at (by assumption) | exact hS.cellI (by omega) | exact hS.cellIP (by omega) | exact hS.cellsN | exact ((hr.rd hS).cellX (by omega) hx) | exact ((hr2.rd hS).cellX (by omega) hx2) | exact hS.cellB (by omega) | exact hS.cellBA (by omega) | exact (hb.rd hS).cellB' (by omega) | exact (hb2.rd hS).cellB' (by omega) | exact (hg.rd hS).cellI (by omega) | exact (hg2.rd hS).cellI (by omega) | exact ((hr.rd hS).cellF (by first | omega | (dsimp only; omega)) hx) | exact ((hr2.rd hS).cellF (by first | omega | (dsimp only; omega)) hx2))) ?_)) ?_))
  refine E_defer (args := [.pointer (some ⟨lp, 2, none⟩)]) (captured := []) rfl rfl rfl rfl (.inr rfl) ?_
  repeat (first | (refine G_id ?_; first | refine G_plain rfl rfl ?_) | (refine X_id ?_; first | refine X_yl (Yl_move rfl rfl) rfl rfl ?_ | refine X_yl (Yl_nilCheck rfl rfl) rfl rfl ?_ | refine X_yl (Yl_fieldAddr rfl rfl rfl) rfl rfl ?_) | (refine C_id ?_; first | refine C_region ?_))
  obtain ⟨_, hc, hr, hw, hbk⟩ := hS.call [true, false, false, false]
  refine X_callg _ rfl rfl rfl rfl rfl (iunlock_ lp 2 _ _ _ _ _ hc) ?_
  rintro _ w ⟨_, hS⟩
  replace hS := hbk hS
  clear hc hr hw hbk
  repeat (first | (refine G_id ?_; first | refine G_nil ?_) | (refine E_id ?_; first | refine E_end0 rfl (Ret.mk ?_) | refine E_end0d rfl (Ret.mk ?_)))
  exact ⟨trivial, hS⟩
theorem do_ (lp p b6 b7 : Nat) (m : Int) (j : Nat) (done : Int) (rdn : Bool) (D : DiskM) (e0 : Int) (rd fs : List Int) (W : World) (F : Nat → Prop) (hG : Gl W F rd fs) (hj : j ≤ 4096) (hline : D.line.length < 1073700000)
    (hS : St W F [logAt lp p 0 0 m j done rdn, disk p D, ptrAt b6 lp, errAt b7 e0] W) :
    Calls Tryd.prog 21 #[.pointer (some ⟨lp, 1, none⟩), .func (.func 22) #[] #[.pointer (some ⟨b6, 0, none⟩), .pointer (some ⟨b7, 0, none⟩)]] W (Ret fun _ w => True ∧
      St W F [logAt lp p 1 0 m j (redoM rd fs D j done rdn).done (redoM rd fs D j done rdn).redone, disk p (redoM rd fs D j done rdn).D, ptrAt b6 lp, errAt b7 (redoM rd fs D j done rdn).e] w) := by
  refine calls_C Tryd.func21 rfl Tryd.ntmps21 rfl ?_
  repeat (first | (refine G_id ?_; first | refine G_plain rfl rfl ?_) | (refine X_id ?_; first | refine X_yl (Yl_move rfl rfl) rfl rfl ?_ | refine X_yl (Yl_nilCheck rfl rfl) rfl rfl ?_ | refine X_yl (Yl_fieldAddr rfl rfl rfl) rfl rfl ?_) | (refine C_id ?_; first | refine C_seq ?_ | refine C_region ?_))
  refine X_callg _ rfl rfl rfl rfl rfl (bload_ lp 1 _ _ 0 _ (hS.rd (List.mem_cons_self ..))) ?_
  rintro _ _ ⟨rfl, rfl⟩
  rw [decide_eq_false (show ¬ ¬ (0 : Int) = 0 by simp)]
  repeat (first | (refine G_id ?_; first | refine G_nil ?_ | refine G_plain rfl rfl ?_) | (refine X_id ?_; first | refine X_yl (Yl_move rfl rfl) rfl rfl ?_ | refine X_yl (Yl_not_f rfl rfl) rfl rfl ?_) | (refine C_id ?_; first | refine C_region ?_ | refine C_cond_t rfl ?_) | (refine E_id ?_; first | refine E_code ?_))
  obtain ⟨_, hc, hr, hw, hbk⟩ := hS.call [true, true, true, true]
  refine X_callg _ rfl rfl rfl rfl rfl (doSlow_ lp p b6 b7 m j done rdn D e0 rd fs _ _ (hG.mono hw) hj hline hc) ?_
  rintro _ w ⟨_, hS⟩
  replace hS := hbk hS
  clear hc hr hw hbk
  repeat (first | (refine G_id ?_; first | refine G_nil ?_) | (refine E_id ?_; first | refine E_end0 rfl (Ret.mk ?_)))
  exact ⟨trivial, hS⟩

/-! ### Open -/
structure OpenM where
  e : Int
  D : DiskM
  done : Int
  redone : Bool
def openM (rd fs : List Int) (D : DiskM) (j : Int) : RedoM :=
  if D.off = true then ⟨9, D, 0, false⟩ else if j < 2 ∨ 1024 < j ∨ ¬ j % 2 = 0 ∨ (D.laid.length : Int) < j + 2 then ⟨1, D, 0, false⟩ else redoM rd fs D j.toNat 0 false
theorem open_nil (j : Int) (W : World) : Calls Tryd.prog 7 #[.pointer none, .int .i64 j] W (Ret fun v w => v = .tuple #[.pointer none, .int .i64 9] ∧ W = w) := by
  refine calls_C Tryd.func7 rfl Tryd.ntmps7 rfl ?_
  repeat (first | (refine G_id ?_; first | refine G_nil ?_ | refine G_plain rfl rfl ?_) | (refine X_id ?_; first | (refine X_callg 19 rfl rfl rfl rfl rfl (on_nil _) ?_; rintro _ _ ⟨rfl, rfl⟩) | refine X_yl (Yl_move rfl rfl) rfl rfl ?_ | refine X_yl (Yl_assign rfl rfl) rfl rfl ?_ | refine X_yl (Yl_not_f rfl rfl) rfl rfl ?_) | (refine C_id ?_; first | refine C_seq ?_ | refine C_region ?_ | refine C_block ?_ | refine C_ret ?_ | refine C_cond_t rfl ?_) | (refine E_id ?_; first | refine E_code ?_ | refine E_then_ret ?_ | refine E_blk_ret ?_ | refine E_ret2 rfl (Rv_tmp rfl) (Rv_tmp rfl) (Ret.mk ?_)))
  exact ⟨rfl, rfl⟩
end Cr
namespace Cr
open Go Go.Proofs
set_option maxRecDepth 100000
set_option maxHeartbeats 8000000
attribute [local irreducible] Calls

def OpenR (W : World) (F : Nat → Prop) (p : Nat) (j : Nat) (R : RedoM) (v : Value) (w : World) : Prop :=
  (¬ R.e = 0 ∧ v = .tuple #[.pointer none, .int .i64 R.e] ∧ St W F [disk p R.D] w) ∨ (R.e = 0 ∧ ∃ lp, v = .tuple #[.pointer (some ⟨lp, 0, none⟩), .int .i64 0] ∧ St W F [logAt lp p 1 0 0 j R.done R.redone, disk p R.D] w)
theorem open_ (p : Nat) (D : DiskM) (j : Int) (rd fs : List Int) (W : World) (F : Nat → Prop) (hG : Gl W F rd fs) (hline : D.line.length < 1073700000) (hS : St W F [disk p D] W) :
    Calls Tryd.prog 7 #[.pointer (some ⟨p, 0, none⟩), .int .i64 j] W (Ret fun v w => OpenR W F p j.toNat (openM rd fs D j) v w) := by
  have hd := hS.rd (List.mem_cons_self ..)
  have hmost := hd.disk.1.most
  have hon := on_ p D W hd
  have hse := sectors_ p D W hd
  cases hoff : D.off
  · rw [hoff] at hon
    have e : openM rd fs D j = if j < 2 ∨ 1024 < j ∨ ¬ j % 2 = 0 ∨ (D.laid.length : Int) < j + 2 then ⟨1, D, 0, false⟩ else redoM rd fs D j.toNat 0 false := by unfold openM; rw [if_neg (by simp [hoff])]
    by_cases h1 : j < 2
    · rw [if_pos (.inl h1)] at e
      refine calls_C Tryd.func7 rfl Tryd.ntmps7 rfl ?_
      repeat (first | (refine G_id ?_; first | refine G_nil ?_ | refine G_plain rfl rfl ?_ | refine G_no rfl rfl rfl rfl rfl rfl ?_) | (refine X_id ?_; first | (refine X_callg 19 rfl rfl rfl rfl rfl hon ?_; rintro _ _ ⟨rfl, rfl⟩) | refine X_yl (Yl_move rfl rfl) rfl rfl ?_ | refine X_yl (Yl_assign rfl rfl) rfl rfl ?_ | refine X_yl (Yl_pick_t rfl rfl rfl) rfl rfl ?_ | refine X_yl (Yl_not_t rfl rfl) rfl rfl ?_ | refine X_yl (Yl_lss_t rfl rfl rfl (by omega)) rfl rfl ?_) | (refine C_id ?_; first | refine C_seq ?_ | refine C_region ?_ | refine C_block ?_ | refine C_ret ?_ | refine C_cond_t rfl ?_ | refine C_cond_f rfl ?_) | (refine E_id ?_; first | refine E_code ?_ | refine E_then_ret ?_ | refine E_blk_ret ?_ | refine E_ret2 rfl (Rv_tmp rfl) (Rv_tmp rfl) (Ret.mk ?_)))
      rw [e]
      exact .inl ⟨by simp, rfl, hS⟩
    by_cases h2 : 1024 < j
    · rw [if_pos (.inr (.inl h2))] at e
      refine calls_C Tryd.func7 rfl Tryd.ntmps7 rfl ?_
      repeat (first | (refine G_id ?_; first | refine G_nil ?_ | refine G_plain rfl rfl ?_ | refine G_yes rfl rfl rfl rfl ?_ | refine G_no rfl rfl rfl rfl rfl rfl ?_) | (refine X_id ?_; first | (refine X_callg 19 rfl rfl rfl rfl rfl hon ?_; rintro _ _ ⟨rfl, rfl⟩) | refine X_yl (Yl_move rfl rfl) rfl rfl ?_ | refine X_yl (Yl_assign rfl rfl) rfl rfl ?_ | refine X_yl (Yl_pick_t rfl rfl rfl) rfl rfl ?_ | refine X_yl (Yl_pick_f rfl rfl rfl) rfl rfl ?_ | refine X_yl (Yl_not_t rfl rfl) rfl rfl ?_ | refine X_yl (Yl_lss_f rfl rfl rfl (by omega)) rfl rfl ?_ | refine X_yl (Yl_gtr_t rfl rfl rfl (by omega)) rfl rfl ?_) | (refine C_id ?_; first | refine C_seq ?_ | refine C_region ?_ | refine C_block ?_ | refine C_ret ?_ | refine C_cond_t rfl ?_ | refine C_cond_f rfl ?_) | (refine E_id ?_; first | refine E_code ?_ | refine E_then_ret ?_ | refine E_blk_ret ?_ | refine E_ret2 rfl (Rv_tmp rfl) (Rv_tmp rfl) (Ret.mk ?_)))
      rw [e]
      exact .inl ⟨by simp, rfl, hS⟩
    by_cases h3 : j % 2 = 0
    · by_cases h4 : (D.laid.length : Int) < j + 2
      · rw [if_pos (.inr (.inr (.inr h4)))] at e
        refine calls_C Tryd.func7 rfl Tryd.ntmps7 rfl ?_
        repeat (first | (refine G_id ?_; first | refine G_nil ?_ | refine G_plain rfl rfl ?_ | refine G_yes rfl rfl rfl rfl ?_) | (refine X_id ?_; first | (refine X_callg 19 rfl rfl rfl rfl rfl hon ?_; rintro _ _ ⟨rfl, rfl⟩) | (refine X_callg 20 rfl rfl rfl rfl rfl hse ?_; rintro _ _ ⟨rfl, rfl⟩) | refine X_yl (Yl_move rfl rfl) rfl rfl ?_ | refine X_yl (Yl_assign rfl rfl) rfl rfl ?_ | refine X_yl (Yl_pick_f rfl rfl rfl) rfl rfl ?_ | refine X_yl (Yl_not_t rfl rfl) rfl rfl ?_ | refine X_yl (Yl_neq_f rfl rfl rfl (by omega)) rfl rfl ?_ | refine X_yl (Yl_lss_t rfl rfl rfl (by omega)) rfl rfl ?_ | refine X_yl (Yl_lss_f rfl rfl rfl (by omega)) rfl rfl ?_ | refine X_yl (Yl_gtr_f rfl rfl rfl (by omega)) rfl rfl ?_ | refine X_yl (Yl_add rfl rfl rfl (w64 (by omega) (by omega))) rfl rfl ?_ | refine X_yl (Yl_remE rfl rfl rfl (by omega) (by omega)) rfl rfl ?_) | (refine C_id ?_; first | refine C_seq ?_ | refine C_region ?_ | refine C_block ?_ | refine C_ret ?_ | refine C_cond_t rfl ?_ | refine C_cond_f rfl ?_) | (refine E_id ?_; first | refine E_code ?_ | refine E_then_ret ?_ | refine E_blk_ret ?_ | refine E_ret2 rfl (Rv_tmp rfl) (Rv_tmp rfl) (Ret.mk ?_)))
        rw [e]
        exact .inl ⟨by simp, rfl, hS⟩
      · rw [if_neg (by omega)] at e
        obtain ⟨jn, rfl⟩ : ∃ n : Nat, j = n := ⟨j.toNat, by omega⟩
        rw [Int.toNat_natCast] at e ⊢
        rw [e]
        refine calls_C Tryd.func7 rfl Tryd.ntmps7 rfl ?_
        repeat (first | (refine G_id ?_; first | refine G_nil ?_ | refine G_plain rfl rfl ?_ | refine G_yes rfl rfl rfl rfl ?_) | (refine X_id ?_; first | (refine X_callg 19 rfl rfl rfl rfl rfl hon ?_; rintro _ _ ⟨rfl, rfl⟩) | (refine X_callg 20 rfl rfl rfl rfl rfl hse ?_; rintro _ _ ⟨rfl, rfl⟩) | refine X_yl (Yl_move rfl rfl) rfl rfl ?_ | refine X_yl (Yl_assign rfl rfl) rfl rfl ?_ | refine X_yl (Yl_nilCheck rfl rfl) rfl rfl ?_ | refine X_yl (Yl_fieldAddr0 rfl rfl rfl) rfl rfl ?_ | refine X_yl (Yl_pick_f rfl rfl rfl) rfl rfl ?_ | refine X_yl (Yl_not_t rfl rfl) rfl rfl ?_ | refine X_yl (Yl_makeFunc rfl rfl rfl) rfl rfl ?_ | refine X_yl (Yl_neq_f rfl rfl rfl (by omega)) rfl rfl ?_ | refine X_yl (Yl_lss_f rfl rfl rfl (by omega)) rfl rfl ?_ | refine X_yl (Yl_gtr_f rfl rfl rfl (by omega)) rfl rfl ?_ | refine X_yl (Yl_build rfl rfl rfl) rfl rfl ?_ | refine X_yl (Yl_add rfl rfl rfl (w64 (by omega) (by omega))) rfl rfl ?_ | refine X_yl (Yl_remE rfl rfl rfl (by omega) (by omega)) rfl rfl ?_ | refine X_yl (Yl_load rfl rfl hS.cell) rfl rfl ?_ | refine X_store rfl rfl rfl rfl hS (fun _ hS _ => ?_) | refine X_box rfl rfl rfl rfl hS (fun _ _ hS _ => ?_) | refine X_alloc rfl rfl rfl hS (fun _ _ hS _ => ?_)) | (refine C_id ?_; first | refine C_seq ?_ | refine C_region ?_ | refine C_block ?_ | refine C_skip ?_ | refine C_cond_f rfl ?_) | (refine E_id ?_; first | refine E_code ?_ | refine E_blk_n ?_))
        have hS := hS.pick [2, 2, 1, 0]
        obtain ⟨_, hc, hr, hw, hbk⟩ := hS.call [true, true, true, true]
        refine X_callg _ rfl rfl rfl rfl rfl (do_ _ p _ _ 0 jn 0 false D 0 rd fs _ _ (hG.mono hw) (by omega) hline hc) ?_
        rintro _ w ⟨_, hS⟩
        replace hS := hbk hS
        clear hc hr hw hbk
        generalize redoM rd fs D jn 0 false = R at hS ⊢
        by_cases hRe : R.e = 0
        · rw [hRe] at hS
          repeat (first | (refine G_id ?_; first | refine G_nil ?_ | refine G_plain rfl rfl ?_) | (refine X_id ?_; first | refine X_yl (Yl_assign rfl rfl) rfl rfl ?_ | refine X_yl (Yl_neq_f rfl rfl rfl (by omega)) rfl rfl ?_ | refine X_yl (Yl_load rfl rfl hS.cell) rfl rfl ?_) | (refine C_id ?_; first | refine C_seq ?_ | refine C_region ?_ | refine C_ret ?_ | refine C_skip ?_ | refine C_cond_f rfl ?_) | (refine E_id ?_; first | refine E_code ?_ | refine E_ret2 rfl (Rv_tmp rfl) (Rv_tmp rfl) (Ret.mk ?_)))
          exact .inr ⟨hRe, _, rfl, hS.pick [0, 0]⟩
        · repeat (first | (refine G_id ?_; first | refine G_nil ?_ | refine G_plain rfl rfl ?_) | (refine X_id ?_; first | refine X_yl (Yl_neq_t rfl rfl rfl (by omega)) rfl rfl ?_ | refine X_yl (Yl_load rfl rfl hS.cell) rfl rfl ?_) | (refine C_id ?_; first | refine C_seq ?_ | refine C_region ?_ | refine C_cond_t rfl ?_) | (refine E_id ?_; first | refine E_code ?_))
          refine C_ord [(0, true), (1, true), (2, true)] mixed (by kernel_rfl) rfl ?_
          have hS := hS.drew
          repeat (first | (refine C_id ?_; first | refine C_ret ?_) | (refine E_id ?_; first | refine E_code ?_ | refine E_then_ret ?_ | refine E_ret2 rfl (Rv_tmp rfl) (Rv_tmp rfl) (Ret.mk ?_)) | (refine GO_id ?_; first | refine GO_nil ?_ | refine GO_pure rfl rfl (fun _ => Yl_assign rfl rfl) rfl rfl ?_ | refine GO_read (fun w' => w'.cell? _ = some _) rfl rfl hS.cell (fun _ hc => Yl_load rfl rfl hc) rfl rfl ?_))
          exact .inl ⟨hRe, rfl, hS.pick [1]⟩
    · rw [if_pos (.inr (.inr (.inl h3)))] at e
      refine calls_C Tryd.func7 rfl Tryd.ntmps7 rfl ?_
      repeat (first | (refine G_id ?_; first | refine G_nil ?_ | refine G_plain rfl rfl ?_ | refine G_yes rfl rfl rfl rfl ?_ | refine G_no rfl rfl rfl rfl rfl rfl ?_) | (refine X_id ?_; first | (refine X_callg 19 rfl rfl rfl rfl rfl hon ?_; rintro _ _ ⟨rfl, rfl⟩) | refine X_yl (Yl_move rfl rfl) rfl rfl ?_ | refine X_yl (Yl_assign rfl rfl) rfl rfl ?_ | refine X_yl (Yl_pick_t rfl rfl rfl) rfl rfl ?_ | refine X_yl (Yl_pick_f rfl rfl rfl) rfl rfl ?_ | refine X_yl (Yl_not_t rfl rfl) rfl rfl ?_ | refine X_yl (Yl_neq_t rfl rfl rfl (by omega)) rfl rfl ?_ | refine X_yl (Yl_lss_f rfl rfl rfl (by omega)) rfl rfl ?_ | refine X_yl (Yl_gtr_f rfl rfl rfl (by omega)) rfl rfl ?_ | refine X_yl (Yl_remE rfl rfl rfl (by omega) (by omega)) rfl rfl ?_) | (refine C_id ?_; first | refine C_seq ?_ | refine C_region ?_ | refine C_block ?_ | refine C_ret ?_ | refine C_cond_t rfl ?_ | refine C_cond_f rfl ?_) | (refine E_id ?_; first | refine E_code ?_ | refine E_then_ret ?_ | refine E_blk_ret ?_ | refine E_ret2 rfl (Rv_tmp rfl) (Rv_tmp rfl) (Ret.mk ?_)))
      rw [e]
      exact .inl ⟨by simp, rfl, hS⟩
  · rw [hoff] at hon
    refine calls_C Tryd.func7 rfl Tryd.ntmps7 rfl ?_
    repeat (first | (refine G_id ?_; first | refine G_nil ?_ | refine G_plain rfl rfl ?_) | (refine X_id ?_; first | (refine X_callg 19 rfl rfl rfl rfl rfl hon ?_; rintro _ _ ⟨rfl, rfl⟩) | refine X_yl (Yl_move rfl rfl) rfl rfl ?_ | refine X_yl (Yl_assign rfl rfl) rfl rfl ?_ | refine X_yl (Yl_not_f rfl rfl) rfl rfl ?_) | (refine C_id ?_; first | refine C_seq ?_ | refine C_region ?_ | refine C_block ?_ | refine C_ret ?_ | refine C_cond_t rfl ?_) | (refine E_id ?_; first | refine E_code ?_ | refine E_then_ret ?_ | refine E_blk_ret ?_ | refine E_ret2 rfl (Rv_tmp rfl) (Rv_tmp rfl) (Ret.mk ?_)))
    rw [show openM rd fs D j = ⟨9, D, 0, false⟩ by unfold openM; rw [if_pos hoff]]
    exact .inl ⟨by simp, rfl, hS⟩
/-! ### Read -/
def wreadM (D : DiskM) (j : Nat) (no : Int) : Int × List UInt8 := if D.off = true then (9, []) else if no < 0 ∨ (D.laid.length : Int) - 1 - j ≤ no then (1, []) else D.read (1 + j + no)
theorem wread_nil (no : Int) (W : World) : Calls Tryd.prog 11 #[.pointer none, .int .i64 no] W (Ret fun v w => v = .tuple #[.slice none 0 0, .int .i64 16] ∧ W = w) := by
  refine calls_C Tryd.func11 rfl Tryd.ntmps11 rfl ?_
  repeat (first | (refine G_id ?_; first | refine G_nil ?_ | refine G_plain rfl rfl ?_) | (refine X_id ?_; first | refine X_yl (Yl_move rfl rfl) rfl rfl ?_ | refine X_yl (Yl_assign rfl rfl) rfl rfl ?_ | refine X_yl (Yl_eqlNil_none rfl rfl rfl) rfl rfl ?_) | (refine C_id ?_; first | refine C_seq ?_ | refine C_region ?_ | refine C_block ?_ | refine C_ret ?_ | refine C_cond_t rfl ?_) | (refine E_id ?_; first | refine E_code ?_ | refine E_then_ret ?_ | refine E_blk_ret ?_ | refine E_ret2 rfl (Rv_tmp rfl) (Rv_tmp rfl) (Ret.mk ?_)))
  exact ⟨rfl, rfl⟩
theorem wread_ (lp p : Nat) (o s m : Int) (j : Nat) (done : Int) (rdn : Bool) (D : DiskM) (no : Int) (W : World) (hL : Rd W (logAt lp p o s m j done rdn)) (hD : Rd W (disk p D)) (hj : j ≤ 4096) (hline : D.line.length < 1073741824) :
    Calls Tryd.prog 11 #[.pointer (some ⟨lp, 0, none⟩), .int .i64 no] W (Ret fun v w => ∃ a c, v = .tuple #[.slice a (wreadM D j no).2.length c, .int .i64 (wreadM D j no).1] ∧ (wreadM D j no).2.length ≤ c ∧ St W noF [bytes a (wreadM D j no).2] w) := by
  have hS := St.start W
  have hc := hL.pts
  have hLo := hL.ro
  have hDo := hD.ro
  have hmost := hD.disk.1.most
  have hon := fun w (h : Rd w (disk p D)) => on_ p D w h
  cases hoff : D.off
  · rw [hoff] at hon
    have e : wreadM D j no = if no < 0 ∨ (D.laid.length : Int) - 1 - j ≤ no then (1, []) else D.read (1 + j + no) := by unfold wreadM; rw [if_neg (by simp [hoff])]
    by_cases h1 : no < 0
    · rw [if_pos (.inl h1)] at e
      rw [e]
      refine calls_C Tryd.func11 rfl Tryd.ntmps11 rfl ?_
      repeat (first | (refine G_id ?_; first | refine G_nil ?_ | refine G_plain rfl rfl ?_ | refine G_no rfl rfl rfl rfl rfl rfl ?_) | (refine X_id ?_; first | (refine X_callg 19 rfl rfl rfl rfl rfl (hon _ (hDo.rd hS)) ?_; rintro _ _ ⟨rfl, rfl⟩) | refine X_yl (Yl_move rfl rfl) rfl rfl ?_ | refine X_yl (Yl_assign rfl rfl) rfl rfl ?_ | refine X_yl (Yl_nilCheck rfl rfl) rfl rfl ?_ | refine X_yl (Yl_fieldAddr0 rfl rfl rfl) rfl rfl ?_ | refine X_yl (Yl_pick_t rfl rfl rfl) rfl rfl ?_ | refine X_yl (Yl_not_t rfl rfl) rfl rfl ?_ | refine X_yl (Yl_lss_t rfl rfl rfl (by omega)) rfl rfl ?_ | refine X_yl (Yl_eqlNil_some rfl rfl rfl) rfl rfl ?_ | refine X_yl (Yl_load rfl rfl (cell_at (by assumption))) rfl rfl ?_) | (refine C_id ?_; first | refine C_seq ?_ | refine C_region ?_ | refine C_block ?_ | refine C_ret ?_ | refine C_cond_t rfl ?_ | refine C_cond_f rfl ?_) | (refine E_id ?_; first | refine E_code ?_ | refine E_then_ret ?_ | refine E_blk_ret ?_ | refine E_ret2 rfl (Rv_tmp rfl) (Rv_tmp rfl) (Ret.mk ?_)))
      exact ⟨none, 0, rfl, Nat.le_refl _, hS.row_none⟩
    by_cases h2 : (D.laid.length : Int) - 1 - j ≤ no
    · rw [if_pos (.inr h2)] at e
      rw [e]
      refine calls_C Tryd.func11 rfl Tryd.ntmps11 rfl ?_
      repeat (first | (refine G_id ?_; first | refine G_nil ?_ | refine G_plain rfl rfl ?_ | refine G_yes rfl rfl rfl rfl ?_) | (refine X_id ?_; first | (refine X_callq 14 rfl rfl rfl rfl rfl hS (wsectors_ lp p o s m j done rdn D _ (hLo.rd hS) (hDo.rd hS) hj) ?_; rintro _ _ rfl hS) | (refine X_callg 19 rfl rfl rfl rfl rfl (hon _ (hDo.rd hS)) ?_; rintro _ _ ⟨rfl, rfl⟩) | refine X_yl (Yl_move rfl rfl) rfl rfl ?_ | refine X_yl (Yl_assign rfl rfl) rfl rfl ?_ | refine X_yl (Yl_nilCheck rfl rfl) rfl rfl ?_ | refine X_yl (Yl_fieldAddr0 rfl rfl rfl) rfl rfl ?_ | refine X_yl (Yl_pick_f rfl rfl rfl) rfl rfl ?_ | refine X_yl (Yl_not_t rfl rfl) rfl rfl ?_ | refine X_yl (Yl_lss_f rfl rfl rfl (by omega)) rfl rfl ?_ | refine X_yl (Yl_geq_t rfl rfl rfl (by omega)) rfl rfl ?_ | refine X_yl (Yl_eqlNil_some rfl rfl rfl) rfl rfl ?_ | refine X_yl (Yl_load rfl rfl (cell_at (by assumption))) rfl rfl ?_) | (refine C_id ?_; first | refine C_seq ?_ | refine C_region ?_ | refine C_block ?_ | refine C_ret ?_ | refine C_cond_t rfl ?_ | refine C_cond_f rfl ?_) | (refine E_id ?_; first | refine E_code ?_ | refine E_then_ret ?_ | refine E_blk_ret ?_ | refine E_ret2 rfl (Rv_tmp rfl) (Rv_tmp rfl) (Ret.mk ?_)))
      exact ⟨none, 0, rfl, Nat.le_refl _, hS.row_none⟩
    · rw [if_neg (by omega)] at e
      rw [e]
      refine calls_C Tryd.func11 rfl Tryd.ntmps11 rfl ?_
      repeat (first | (refine G_id ?_; first | refine G_nil ?_ | refine G_plain rfl rfl ?_ | refine G_yes rfl rfl rfl rfl ?_) | (refine X_id ?_; first | (refine X_callq 14 rfl rfl rfl rfl rfl hS (wsectors_ lp p o s m j done rdn D _ (hLo.rd hS) (hDo.rd hS) hj) ?_; rintro _ _ rfl hS) | (refine X_callg 19 rfl rfl rfl rfl rfl (hon _ (hDo.rd hS)) ?_; rintro _ _ ⟨rfl, rfl⟩) | refine X_yl (Yl_move rfl rfl) rfl rfl ?_ | refine X_yl (Yl_assign rfl rfl) rfl rfl ?_ | refine X_yl (Yl_nilCheck rfl rfl) rfl rfl ?_ | refine X_yl (Yl_fieldAddr0 rfl rfl rfl) rfl rfl ?_ | refine X_yl (Yl_pick_f rfl rfl rfl) rfl rfl ?_ | refine X_yl (Yl_not_t rfl rfl) rfl rfl ?_ | refine X_yl (Yl_lss_f rfl rfl rfl (by omega)) rfl rfl ?_ | refine X_yl (Yl_geq_f rfl rfl rfl (by omega)) rfl rfl ?_ | refine X_yl (Yl_eqlNil_some rfl rfl rfl) rfl rfl ?_ | refine X_yl (Yl_load rfl rfl (cell_at (by assumption))) rfl rfl ?_) | (refine C_id ?_; first | refine C_seq ?_ | refine C_region ?_ | refine C_block ?_ | refine C_skip ?_ | refine C_cond_f rfl ?_) | (refine E_id ?_; first | refine E_code ?_ | refine E_blk_n ?_))
      refine C_ord [(0, true), (1, true), (2, true), (3, true), (4, true), (5, true), (6, true), (7, true), (8, true), (9, true), (10, true), (11, false), (12, true), (13, true), (14, true), (15, true)] mixed (by kernel_rfl) rfl ?_
      have hS := hS.drew
      have hc := (hLo.rd hS).pts
      repeat (first | (refine GO_id ?_; first | refine GO_pure rfl rfl (fun _ => Yl_move rfl rfl) rfl rfl ?_ | refine GO_pure rfl rfl (fun _ => Yl_nilCheck rfl rfl) rfl rfl ?_ | refine GO_pure rfl rfl (fun _ => Yl_fieldAddr0 rfl rfl rfl) rfl rfl ?_ | refine GO_pure rfl rfl (fun _ => Yl_add rfl rfl rfl (w64 (by omega) (by omega))) rfl rfl ?_ | refine GO_read (fun w' => w'.cell? _ = some _) rfl rfl (cell_at (by assumption)) (fun _ hc => Yl_load rfl rfl hc) rfl rfl ?_ | refine GO_hard rfl rfl ?_))
      refine X_callg _ rfl rfl rfl rfl rfl (read_ p D (1 + j + no) _ (hDo.rd hS) hline) ?_
      rintro _ w ⟨a, ca, rfl, hca, hS'⟩
      replace hS := hS.plus hS'
      clear hS'
      have hc := (hLo.rd hS).pts
      repeat (first | (refine C_id ?_; first | refine C_ret ?_) | (refine E_id ?_; first | refine E_code ?_ | refine E_ret2 rfl (Rv_tmp rfl) (Rv_tmp rfl) (Ret.mk ?_)) | (refine GO_id ?_; first | refine GO_nil ?_ | refine GO_pure rfl rfl (fun _ => Yl_assign rfl rfl) rfl rfl ?_ | refine GO_pure rfl rfl (fun _ => Yl_extract rfl rfl) rfl rfl ?_) | (refine Keep_id ?_; first | refine And.intro (by repeat (first | exact trivial | refine And.intro (.inl (by decide +kernel)) ?_ | refine And.intro (.inr (by first | assumption | exact hS.cell | exact cell_at (by assumption) | exact hS.cellI (by omega) | exact hS.cellIP (by omega) | exact hS.cellsN | exact ((hr.rd hS).cellX (by omega) hx) | exact ((hr2.rd hS).cellX (by omega) hx2) | exact hS.cellB (by omega) | exact hS.cellBA (by omega) | exact (hb.rd hS).cellB' (by omega) | exact (hb2.rd hS).cellB' (by omega) | exact (hg.rd hS).cellI (by omega) | exact (hg2.rd hS).cellI (by omega) | exact ((hr.rd hS).cellF (by first | omega | (dsimp only; omega)) hx) | exact ((hr2.rd hS).cellF (by first | omega | (dsimp only; omega)) hx2))) ?_)) ?_))
      exact ⟨a, ca, rfl, hca, hS⟩
  · rw [hoff] at hon
    rw [show wreadM D j no = (9, []) by unfold wreadM; rw [if_pos hoff]]
    refine calls_C Tryd.func11 rfl Tryd.ntmps11 rfl ?_
    repeat (first | (refine G_id ?_; first | refine G_nil ?_ | refine G_plain rfl rfl ?_) | (refine X_id ?_; first | (refine X_callg 19 rfl rfl rfl rfl rfl (hon _ (hDo.rd hS)) ?_; rintro _ _ ⟨rfl, rfl⟩) | refine X_yl (Yl_move rfl rfl) rfl rfl ?_ | refine X_yl (Yl_assign rfl rfl) rfl rfl ?_ | refine X_yl (Yl_nilCheck rfl rfl) rfl rfl ?_ | refine X_yl (Yl_fieldAddr0 rfl rfl rfl) rfl rfl ?_ | refine X_yl (Yl_not_f rfl rfl) rfl rfl ?_ | refine X_yl (Yl_eqlNil_some rfl rfl rfl) rfl rfl ?_ | refine X_yl (Yl_load rfl rfl (cell_at (by assumption))) rfl rfl ?_) | (refine C_id ?_; first | refine C_seq ?_ | refine C_region ?_ | refine C_block ?_ | refine C_ret ?_ | refine C_cond_t rfl ?_ | refine C_cond_f rfl ?_) | (refine E_id ?_; first | refine E_code ?_ | refine E_then_ret ?_ | refine E_blk_ret ?_ | refine E_ret2 rfl (Rv_tmp rfl) (Rv_tmp rfl) (Ret.mk ?_)))
    exact ⟨none, 0, rfl, Nat.le_refl _, hS.row_none⟩
end Cr
namespace Cr
open Go Go.Proofs
set_option maxRecDepth 100000
set_option maxHeartbeats 8000000
attribute [local irreducible] Calls

def noteStep (n : Int) (d : List UInt8) (cnt : Nat) (x : Int × DiskM) (i : Nat) (v : Int × List UInt8) : Int × DiskM :=
  stepW (stepW x (1 + 2 * (i : Nat)) (noteB n (i : Nat) (cnt : Nat) v.1 d)) (1 + 2 * (i : Nat) + 1) v.2
def notesTo (n : Int) (d : List UInt8) (l : List (Int × List UInt8)) (x : Int × DiskM) : Nat → Int × DiskM
  | 0 => x
  | i + 1 => noteStep n d l.length (notesTo n d l x i) i (l.getD i (0, []))
theorem noteStep_line (n : Int) (d : List UInt8) (cnt : Nat) (x : Int × DiskM) (i : Nat) (v : Int × List UInt8) : (noteStep n d cnt x i v).2.line.length ≤ x.2.line.length + 2 ∧ (noteStep n d cnt x i v).2.laid.length = x.2.laid.length := by
  unfold noteStep
  have h1 := stepW_line x (1 + 2 * (i : Nat)) (noteB n (i : Nat) (cnt : Nat) v.1 d)
  have h2 := stepW_line (stepW x (1 + 2 * (i : Nat)) (noteB n (i : Nat) (cnt : Nat) v.1 d)) (1 + 2 * (i : Nat) + 1) v.2
  exact ⟨by omega, by rw [h2.2, h1.2]⟩
theorem notesTo_line (n : Int) (d : List UInt8) (l : List (Int × List UInt8)) (x : Int × DiskM) : ∀ i, (notesTo n d l x i).2.line.length ≤ x.2.line.length + 2 * i ∧ (notesTo n d l x i).2.laid.length = x.2.laid.length
  | 0 => by simp [notesTo]
  | i + 1 => by
    have h1 := notesTo_line n d l x i
    have h2 := noteStep_line n d l.length (notesTo n d l x i) i (l.getD i (0, []))
    simp only [notesTo]
    exact ⟨by omega, by rw [h2.2, h1.2]⟩
/-- What a transaction does: the error, the disk, the number. -/
def putM (rd fs : List Int) (D : DiskM) (j : Nat) (done : Int) (l : List (Int × List UInt8)) : Int × DiskM :=
  layM rd fs j (stepF (notesTo (done + 1) (sumB rd fs (done + 1) l) l (0, D) l.length)) (done + 1) l
def commitM (rd fs : List Int) (D : DiskM) (j : Nat) (done : Int) (l : List (Int × List UInt8)) : Int × DiskM × Int :=
  if D.off = true then (9, D, done) else if ¬ checkM l = 0 then (checkM l, D, done) else if hasM ((D.laid.length : Int) - 1 - j) l = false then (1, D, done) else
  if (j : Int) / 2 < l.length ∨ last ≤ done then (6, D, done) else if l = [] then (0, D, done) else
  ((putM rd fs D j done l).1, (putM rd fs D j done l).2, if (putM rd fs D j done l).1 = 0 then done + 1 else done)
theorem commit_nil (x : Value) (W : World) : Calls Tryd.prog 10 #[.pointer none, x] W (Ret fun v w => v = .int .i64 16 ∧ W = w) := by
  refine calls_C Tryd.func10 rfl Tryd.ntmps10 rfl ?_
  repeat (first | (refine G_id ?_; first | refine G_nil ?_ | refine G_plain rfl rfl ?_) | (refine X_id ?_; first | refine X_yl (Yl_move rfl rfl) rfl rfl ?_ | refine X_yl (Yl_assign rfl rfl) rfl rfl ?_ | refine X_yl (Yl_eqlNil_none rfl rfl rfl) rfl rfl ?_) | (refine C_id ?_; first | refine C_seq ?_ | refine C_region ?_ | refine C_block ?_ | refine C_ret ?_ | refine C_cond_t rfl ?_) | (refine E_id ?_; first | refine E_code ?_ | refine E_then_ret ?_ | refine E_blk_ret ?_ | refine E_ret1 rfl (Rv_tmp rfl) (Ret.mk ?_)))
  exact ⟨rfl, rfl⟩
theorem commit_ (lp p : Nat) (o s m : Int) (j : Nat) (done : Int) (rdn : Bool) (D : DiskM) (a : Option Addr) (c : Nat) (l : List Wr) (rd fs : List Int) (W : World) (F : Nat → Prop) (hG : Gl W F rd fs) (hW : Wrs W F a l) (hj : j ≤ 4096) (hdone : 0 ≤ done)
    (hl : l.length ≤ 1048576) (hx64 : ∀ v ∈ l, v.x.s.length ≤ 140737488355328) (hline : D.line.length < 1073000000) (hS : St W F [logAt lp p o s m j done rdn, disk p D] W) :
    Calls Tryd.prog 10 #[.pointer (some ⟨lp, 0, none⟩), .slice a l.length c] W (Ret fun v w => v = .int .i64 (commitM rd fs D j done (l.map Wr.data)).1 ∧
      St W F [logAt lp p o s m j (commitM rd fs D j done (l.map Wr.data)).2.2 rdn, disk p (commitM rd fs D j done (l.map Wr.data)).2.1] w) := by
  obtain ⟨d, hd⟩ : ∃ d, d = l.map Wr.data := ⟨_, rfl⟩
  have hdl : d.length = l.length := by rw [hd]; simp
  rw [← hd]
  have hD := hS.rd (List.mem_cons_of_mem _ (List.mem_cons_self ..))
  have hmost := hD.disk.1.most
  have hW0 : ∀ w rs, St W F rs w → Wrs w noF a l := fun w rs h => ⟨(hW.row.rd h).ro, fun v hv => ((hW.all v hv).rd h).ro⟩
  have hon : ∀ w rs, St W F (logAt lp p o s m j done rdn :: disk p D :: rs) w → Calls Tryd.prog 19 #[.pointer (some ⟨p, 0, none⟩)] w (Ret fun v w' => v = .bool (!D.off) ∧ w = w') := fun w rs h => on_ p D w (h.rd (List.mem_cons_of_mem _ (List.mem_cons_self ..)))
  cases hoff : D.off
  · rw [hoff] at hon
    by_cases hck : checkM d = 0
    · cases hh : hasM ((D.laid.length : Int) - 1 - j) d
      · rw [show commitM rd fs D j done d = (1, D, done) by unfold commitM; rw [if_neg (by simp [hoff]), if_neg (by simpa using hck), if_pos hh]]
        refine calls_C Tryd.func10 rfl Tryd.ntmps10 rfl ?_
        repeat (first | (refine G_id ?_; first | refine G_nil ?_ | refine G_plain rfl rfl ?_) | (refine X_id ?_; first | (refine X_callg 19 rfl rfl rfl rfl rfl (hon _ _ hS) ?_; rintro _ _ ⟨rfl, rfl⟩) | refine X_yl (Yl_move rfl rfl) rfl rfl ?_ | refine X_yl (Yl_assign rfl rfl) rfl rfl ?_ | refine X_yl (Yl_nilCheck rfl rfl) rfl rfl ?_ | refine X_yl (Yl_fieldAddr0 rfl rfl rfl) rfl rfl ?_ | refine X_yl (Yl_not_t rfl rfl) rfl rfl ?_ | refine X_yl (Yl_eqlNil_some rfl rfl rfl) rfl rfl ?_ | refine X_yl (Yl_load rfl rfl hS.cell) rfl rfl ?_) | (refine C_id ?_; first | refine C_seq ?_ | refine C_region ?_ | refine C_block ?_ | refine C_skip ?_ | refine C_cond_f rfl ?_) | (refine E_id ?_; first | refine E_code ?_ | refine E_blk_n ?_))
        refine X_callq _ rfl rfl rfl rfl rfl hS (check_ a c l _ (hW0 _ _ hS) hl hx64) ?_
        rintro _ w rfl hS
        rw [← hd]
        repeat (first | (refine G_id ?_; first | refine G_nil ?_ | refine G_plain rfl rfl ?_) | (refine X_id ?_; first | refine X_yl (Yl_move rfl rfl) rfl rfl ?_ | refine X_yl (Yl_assign rfl rfl) rfl rfl ?_ | refine X_yl (Yl_neq_f rfl rfl rfl (by omega)) rfl rfl ?_) | (refine C_id ?_; first | refine C_seq ?_ | refine C_region ?_ | refine C_block ?_ | refine C_skip ?_ | refine C_cond_f rfl ?_) | (refine E_id ?_; first | refine E_code ?_))
        refine X_callq _ rfl rfl rfl rfl rfl hS (whas_ lp p o s m j done rdn D _ a c l (hS.rd (List.mem_cons_self ..)) (hS.rd (List.mem_cons_of_mem _ (List.mem_cons_self ..))) hj (hW0 _ _ hS) hl) ?_
        rintro _ w rfl hS
        rw [← hd, hh]
        repeat (first | (refine G_id ?_; first | refine G_nil ?_ | refine G_plain rfl rfl ?_) | (refine X_id ?_; first | refine X_yl (Yl_assign rfl rfl) rfl rfl ?_ | refine X_yl (Yl_not_f rfl rfl) rfl rfl ?_) | (refine C_id ?_; first | refine C_seq ?_ | refine C_region ?_ | refine C_ret ?_ | refine C_cond_t rfl ?_) | (refine E_id ?_; first | refine E_code ?_ | refine E_then_ret ?_ | refine E_blk_ret ?_ | refine E_ret1 rfl (Rv_tmp rfl) (Ret.mk ?_)))
        exact ⟨rfl, hS⟩
      · by_cases hfull : (j : Int) / 2 < l.length ∨ last ≤ done
        · rw [show commitM rd fs D j done d = (6, D, done) by unfold commitM; rw [if_neg (by simp [hoff]), if_neg (by simpa using hck), if_neg (by simp [hh]), if_pos (by rw [hdl]; exact hfull)]]
          unfold last at hfull
          by_cases hf1 : (j : Int) / 2 < l.length
          · refine calls_C Tryd.func10 rfl Tryd.ntmps10 rfl ?_
            repeat (first | (refine G_id ?_; first | refine G_nil ?_ | refine G_plain rfl rfl ?_) | (refine X_id ?_; first | (refine X_callg 19 rfl rfl rfl rfl rfl (hon _ _ hS) ?_; rintro _ _ ⟨rfl, rfl⟩) | refine X_yl (Yl_move rfl rfl) rfl rfl ?_ | refine X_yl (Yl_assign rfl rfl) rfl rfl ?_ | refine X_yl (Yl_nilCheck rfl rfl) rfl rfl ?_ | refine X_yl (Yl_fieldAddr0 rfl rfl rfl) rfl rfl ?_ | refine X_yl (Yl_not_t rfl rfl) rfl rfl ?_ | refine X_yl (Yl_eqlNil_some rfl rfl rfl) rfl rfl ?_ | refine X_yl (Yl_load rfl rfl hS.cell) rfl rfl ?_) | (refine C_id ?_; first | refine C_seq ?_ | refine C_region ?_ | refine C_block ?_ | refine C_skip ?_ | refine C_cond_f rfl ?_) | (refine E_id ?_; first | refine E_code ?_ | refine E_blk_n ?_))
            refine X_callq _ rfl rfl rfl rfl rfl hS (check_ a c l _ (hW0 _ _ hS) hl hx64) ?_
            rintro _ w rfl hS
            rw [← hd]
            repeat (first | (refine G_id ?_; first | refine G_nil ?_ | refine G_plain rfl rfl ?_) | (refine X_id ?_; first | refine X_yl (Yl_move rfl rfl) rfl rfl ?_ | refine X_yl (Yl_assign rfl rfl) rfl rfl ?_ | refine X_yl (Yl_neq_f rfl rfl rfl (by omega)) rfl rfl ?_) | (refine C_id ?_; first | refine C_seq ?_ | refine C_region ?_ | refine C_block ?_ | refine C_skip ?_ | refine C_cond_f rfl ?_) | (refine E_id ?_; first | refine E_code ?_))
            refine X_callq _ rfl rfl rfl rfl rfl hS (whas_ lp p o s m j done rdn D _ a c l (hS.rd (List.mem_cons_self ..)) (hS.rd (List.mem_cons_of_mem _ (List.mem_cons_self ..))) hj (hW0 _ _ hS) hl) ?_
            rintro _ w rfl hS
            rw [← hd, hh]
            repeat (first | (refine G_id ?_; first | refine G_nil ?_ | refine G_plain rfl rfl ?_ | refine G_no rfl rfl rfl rfl rfl rfl ?_) | (refine X_id ?_; first | (refine X_callg 15 rfl rfl rfl rfl rfl (wmost_ lp p o s m j done rdn _ (hS.rd (List.mem_cons_self ..)) hj) ?_; rintro _ _ ⟨rfl, rfl⟩) | refine X_yl (Yl_move rfl rfl) rfl rfl ?_ | refine X_yl (Yl_assign rfl rfl) rfl rfl ?_ | refine X_yl (Yl_pick_t rfl rfl rfl) rfl rfl ?_ | refine X_yl (Yl_not_t rfl rfl) rfl rfl ?_ | refine X_yl (Yl_len rfl rfl) rfl rfl ?_ | refine X_yl (Yl_gtr_t rfl rfl rfl (by omega)) rfl rfl ?_) | (refine C_id ?_; first | refine C_seq ?_ | refine C_region ?_ | refine C_ret ?_ | refine C_cond_t rfl ?_ | refine C_cond_f rfl ?_) | (refine E_id ?_; first | refine E_code ?_ | refine E_then_ret ?_ | refine E_blk_ret ?_ | refine E_ret1 rfl (Rv_tmp rfl) (Ret.mk ?_)))
            exact ⟨rfl, hS⟩
          · have hf2 : 1152921504606846976 ≤ done := by omega
            refine calls_C Tryd.func10 rfl Tryd.ntmps10 rfl ?_
            repeat (first | (refine G_id ?_; first | refine G_nil ?_ | refine G_plain rfl rfl ?_) | (refine X_id ?_; first | (refine X_callg 19 rfl rfl rfl rfl rfl (hon _ _ hS) ?_; rintro _ _ ⟨rfl, rfl⟩) | refine X_yl (Yl_move rfl rfl) rfl rfl ?_ | refine X_yl (Yl_assign rfl rfl) rfl rfl ?_ | refine X_yl (Yl_nilCheck rfl rfl) rfl rfl ?_ | refine X_yl (Yl_fieldAddr0 rfl rfl rfl) rfl rfl ?_ | refine X_yl (Yl_not_t rfl rfl) rfl rfl ?_ | refine X_yl (Yl_eqlNil_some rfl rfl rfl) rfl rfl ?_ | refine X_yl (Yl_load rfl rfl hS.cell) rfl rfl ?_) | (refine C_id ?_; first | refine C_seq ?_ | refine C_region ?_ | refine C_block ?_ | refine C_skip ?_ | refine C_cond_f rfl ?_) | (refine E_id ?_; first | refine E_code ?_ | refine E_blk_n ?_))
            refine X_callq _ rfl rfl rfl rfl rfl hS (check_ a c l _ (hW0 _ _ hS) hl hx64) ?_
            rintro _ w rfl hS
            rw [← hd]
            repeat (first | (refine G_id ?_; first | refine G_nil ?_ | refine G_plain rfl rfl ?_) | (refine X_id ?_; first | refine X_yl (Yl_move rfl rfl) rfl rfl ?_ | refine X_yl (Yl_assign rfl rfl) rfl rfl ?_ | refine X_yl (Yl_neq_f rfl rfl rfl (by omega)) rfl rfl ?_) | (refine C_id ?_; first | refine C_seq ?_ | refine C_region ?_ | refine C_block ?_ | refine C_skip ?_ | refine C_cond_f rfl ?_) | (refine E_id ?_; first | refine E_code ?_))
            refine X_callq _ rfl rfl rfl rfl rfl hS (whas_ lp p o s m j done rdn D _ a c l (hS.rd (List.mem_cons_self ..)) (hS.rd (List.mem_cons_of_mem _ (List.mem_cons_self ..))) hj (hW0 _ _ hS) hl) ?_
            rintro _ w rfl hS
            rw [← hd, hh]
            repeat (first | (refine G_id ?_; first | refine G_nil ?_ | refine G_plain rfl rfl ?_ | refine G_yes rfl rfl rfl rfl ?_) | (refine X_id ?_; first | (refine X_callg 15 rfl rfl rfl rfl rfl (wmost_ lp p o s m j done rdn _ (hS.rd (List.mem_cons_self ..)) hj) ?_; rintro _ _ ⟨rfl, rfl⟩) | refine X_yl (Yl_move rfl rfl) rfl rfl ?_ | refine X_yl (Yl_assign rfl rfl) rfl rfl ?_ | refine X_yl (Yl_nilCheck rfl rfl) rfl rfl ?_ | refine X_yl (Yl_fieldAddr0 rfl rfl rfl) rfl rfl ?_ | refine X_yl (Yl_pick_f rfl rfl rfl) rfl rfl ?_ | refine X_yl (Yl_not_t rfl rfl) rfl rfl ?_ | refine X_yl (Yl_len rfl rfl) rfl rfl ?_ | refine X_yl (Yl_gtr_f rfl rfl rfl (by omega)) rfl rfl ?_ | refine X_yl (Yl_geq_t rfl rfl rfl (by omega)) rfl rfl ?_ | refine X_yl (Yl_load rfl rfl hS.cell) rfl rfl ?_) | (refine C_id ?_; first | refine C_seq ?_ | refine C_region ?_ | refine C_ret ?_ | refine C_cond_t rfl ?_ | refine C_cond_f rfl ?_) | (refine E_id ?_; first | refine E_code ?_ | refine E_then_ret ?_ | refine E_blk_ret ?_ | refine E_ret1 rfl (Rv_tmp rfl) (Ret.mk ?_)))
            exact ⟨rfl, hS⟩
        · unfold last at hfull
          by_cases hl0 : l = []
          · rw [show commitM rd fs D j done d = (0, D, done) by unfold commitM last; rw [if_neg (by simp [hoff]), if_neg (by simpa using hck), if_neg (by simp [hh]), if_neg (by rw [hdl]; exact hfull), if_pos (by rw [hd, hl0]; rfl)]]
            have hl1 : l.length = 0 := by rw [hl0]; rfl
            refine calls_C Tryd.func10 rfl Tryd.ntmps10 rfl ?_
            repeat (first | (refine G_id ?_; first | refine G_nil ?_ | refine G_plain rfl rfl ?_) | (refine X_id ?_; first | (refine X_callg 19 rfl rfl rfl rfl rfl (hon _ _ hS) ?_; rintro _ _ ⟨rfl, rfl⟩) | refine X_yl (Yl_move rfl rfl) rfl rfl ?_ | refine X_yl (Yl_assign rfl rfl) rfl rfl ?_ | refine X_yl (Yl_nilCheck rfl rfl) rfl rfl ?_ | refine X_yl (Yl_fieldAddr0 rfl rfl rfl) rfl rfl ?_ | refine X_yl (Yl_not_t rfl rfl) rfl rfl ?_ | refine X_yl (Yl_eqlNil_some rfl rfl rfl) rfl rfl ?_ | refine X_yl (Yl_load rfl rfl hS.cell) rfl rfl ?_) | (refine C_id ?_; first | refine C_seq ?_ | refine C_region ?_ | refine C_block ?_ | refine C_skip ?_ | refine C_cond_f rfl ?_) | (refine E_id ?_; first | refine E_code ?_ | refine E_blk_n ?_))
            refine X_callq _ rfl rfl rfl rfl rfl hS (check_ a c l _ (hW0 _ _ hS) hl hx64) ?_
            rintro _ w rfl hS
            rw [← hd]
            repeat (first | (refine G_id ?_; first | refine G_nil ?_ | refine G_plain rfl rfl ?_) | (refine X_id ?_; first | refine X_yl (Yl_move rfl rfl) rfl rfl ?_ | refine X_yl (Yl_assign rfl rfl) rfl rfl ?_ | refine X_yl (Yl_neq_f rfl rfl rfl (by omega)) rfl rfl ?_) | (refine C_id ?_; first | refine C_seq ?_ | refine C_region ?_ | refine C_block ?_ | refine C_skip ?_ | refine C_cond_f rfl ?_) | (refine E_id ?_; first | refine E_code ?_))
            refine X_callq _ rfl rfl rfl rfl rfl hS (whas_ lp p o s m j done rdn D _ a c l (hS.rd (List.mem_cons_self ..)) (hS.rd (List.mem_cons_of_mem _ (List.mem_cons_self ..))) hj (hW0 _ _ hS) hl) ?_
            rintro _ w rfl hS
            rw [← hd, hh]
            repeat (first | (refine G_id ?_; first | refine G_nil ?_ | refine G_plain rfl rfl ?_ | refine G_yes rfl rfl rfl rfl ?_) | (refine X_id ?_; first | (refine X_callg 15 rfl rfl rfl rfl rfl (wmost_ lp p o s m j done rdn _ (hS.rd (List.mem_cons_self ..)) hj) ?_; rintro _ _ ⟨rfl, rfl⟩) | refine X_yl (Yl_move rfl rfl) rfl rfl ?_ | refine X_yl (Yl_assign rfl rfl) rfl rfl ?_ | refine X_yl (Yl_nilCheck rfl rfl) rfl rfl ?_ | refine X_yl (Yl_fieldAddr0 rfl rfl rfl) rfl rfl ?_ | refine X_yl (Yl_pick_f rfl rfl rfl) rfl rfl ?_ | refine X_yl (Yl_not_t rfl rfl) rfl rfl ?_ | refine X_yl (Yl_len rfl rfl) rfl rfl ?_ | refine X_yl (Yl_eql_t rfl rfl rfl (by omega)) rfl rfl ?_ | refine X_yl (Yl_gtr_f rfl rfl rfl (by omega)) rfl rfl ?_ | refine X_yl (Yl_geq_f rfl rfl rfl (by omega)) rfl rfl ?_ | refine X_yl (Yl_load rfl rfl hS.cell) rfl rfl ?_) | (refine C_id ?_; first | refine C_seq ?_ | refine C_region ?_ | refine C_ret ?_ | refine C_cond_t rfl ?_ | refine C_cond_f rfl ?_) | (refine E_id ?_; first | refine E_code ?_ | refine E_then_ret ?_ | refine E_blk_ret ?_ | refine E_ret1 rfl (Rv_tmp rfl) (Ret.mk ?_)))
            exact ⟨rfl, hS⟩
          · have hl1 : ¬ l.length = 0 := fun h => hl0 (List.length_eq_zero_iff.1 h)
            rw [show commitM rd fs D j done d = ((putM rd fs D j done d).1, (putM rd fs D j done d).2, if (putM rd fs D j done d).1 = 0 then done + 1 else done) by
              unfold commitM last; rw [if_neg (by simp [hoff]), if_neg (by simpa using hck), if_neg (by simp [hh]), if_neg (by rw [hdl]; exact hfull), if_neg (by intro h; rw [h] at hdl; exact hl1 hdl.symm)]]
            refine calls_C Tryd.func10 rfl Tryd.ntmps10 rfl ?_
            repeat (first | (refine G_id ?_; first | refine G_nil ?_ | refine G_plain rfl rfl ?_) | (refine X_id ?_; first | (refine X_callg 19 rfl rfl rfl rfl rfl (hon _ _ hS) ?_; rintro _ _ ⟨rfl, rfl⟩) | refine X_yl (Yl_move rfl rfl) rfl rfl ?_ | refine X_yl (Yl_assign rfl rfl) rfl rfl ?_ | refine X_yl (Yl_nilCheck rfl rfl) rfl rfl ?_ | refine X_yl (Yl_fieldAddr0 rfl rfl rfl) rfl rfl ?_ | refine X_yl (Yl_not_t rfl rfl) rfl rfl ?_ | refine X_yl (Yl_eqlNil_some rfl rfl rfl) rfl rfl ?_ | refine X_yl (Yl_load rfl rfl hS.cell) rfl rfl ?_) | (refine C_id ?_; first | refine C_seq ?_ | refine C_region ?_ | refine C_block ?_ | refine C_skip ?_ | refine C_cond_f rfl ?_) | (refine E_id ?_; first | refine E_code ?_ | refine E_blk_n ?_))
            refine X_callq _ rfl rfl rfl rfl rfl hS (check_ a c l _ (hW0 _ _ hS) hl hx64) ?_
            rintro _ w rfl hS
            rw [← hd]
            repeat (first | (refine G_id ?_; first | refine G_nil ?_ | refine G_plain rfl rfl ?_) | (refine X_id ?_; first | refine X_yl (Yl_move rfl rfl) rfl rfl ?_ | refine X_yl (Yl_assign rfl rfl) rfl rfl ?_ | refine X_yl (Yl_neq_f rfl rfl rfl (by omega)) rfl rfl ?_) | (refine C_id ?_; first | refine C_seq ?_ | refine C_region ?_ | refine C_block ?_ | refine C_skip ?_ | refine C_cond_f rfl ?_) | (refine E_id ?_; first | refine E_code ?_))
            refine X_callq _ rfl rfl rfl rfl rfl hS (whas_ lp p o s m j done rdn D _ a c l (hS.rd (List.mem_cons_self ..)) (hS.rd (List.mem_cons_of_mem _ (List.mem_cons_self ..))) hj (hW0 _ _ hS) hl) ?_
            rintro _ w rfl hS
            rw [← hd, hh]
            repeat (first | (refine G_id ?_; first | refine G_nil ?_ | refine G_plain rfl rfl ?_ | refine G_yes rfl rfl rfl rfl ?_) | (refine X_id ?_; first | (refine X_callg 15 rfl rfl rfl rfl rfl (wmost_ lp p o s m j done rdn _ (hS.rd (List.mem_cons_self ..)) hj) ?_; rintro _ _ ⟨rfl, rfl⟩) | refine X_yl (Yl_move rfl rfl) rfl rfl ?_ | refine X_yl (Yl_assign rfl rfl) rfl rfl ?_ | refine X_yl (Yl_nilCheck rfl rfl) rfl rfl ?_ | refine X_yl (Yl_fieldAddr0 rfl rfl rfl) rfl rfl ?_ | refine X_yl (Yl_pick_f rfl rfl rfl) rfl rfl ?_ | refine X_yl (Yl_not_t rfl rfl) rfl rfl ?_ | refine X_yl (Yl_len rfl rfl) rfl rfl ?_ | refine X_yl (Yl_eql_f rfl rfl rfl (by omega)) rfl rfl ?_ | refine X_yl (Yl_gtr_f rfl rfl rfl (by omega)) rfl rfl ?_ | refine X_yl (Yl_geq_f rfl rfl rfl (by omega)) rfl rfl ?_ | refine X_yl (Yl_build rfl rfl rfl) rfl rfl ?_ | refine X_yl (Yl_add rfl rfl rfl (w64 (by omega) (by omega))) rfl rfl ?_ | refine X_yl (Yl_load rfl rfl hS.cell) rfl rfl ?_ | refine X_box rfl rfl rfl rfl hS (fun _ _ hS _ => ?_)) | (refine C_id ?_; first | refine C_seq ?_ | refine C_region ?_ | refine C_skip ?_ | refine C_cond_f rfl ?_) | (refine E_id ?_; first | refine E_code ?_ | refine E_blk_n ?_))
            rename_i sp _ _
            have hgood : ∀ v ∈ l, 0 ≤ v.no ∧ v.no < (D.laid.length : Int) - 1 - j ∧ v.x.s.length = 64 := fun v hv => by
              have h1 := check_good hck v.data (by rw [hd]; exact List.mem_map.2 ⟨v, hv, rfl⟩)
              have h2 := List.all_eq_true.1 hh v.data (by rw [hd]; exact List.mem_map.2 ⟨v, hv, rfl⟩)
              exact ⟨h1.1, of_decide_eq_true h2, h1.2⟩
            have hfr := framed_sum_le (done + 1) d (fun x hx => by
              have := (check_good hck x hx).2
              omega)
            have hpm : putM rd fs D j done d = layM rd fs j (stepF (notesTo (done + 1) (sumB rd fs (done + 1) d) d (0, D) d.length)) (done + 1) d := rfl
            refine X_callq _ rfl rfl rfl rfl rfl hS (wsum_ (done + 1) a c l rd fs _ (hG.mono fun r hr => (hr.rd hS).ro) (hW0 _ _ hS) hl (by rw [← hd]; omega)) ?_
            rintro _ w rfl hS
            rw [← hd]
            obtain ⟨sd, hsd⟩ : ∃ sd, sd = sumB rd fs (done + 1) d := ⟨_, rfl⟩
            have hsl : sd.length = 32 := by rw [hsd]; exact sumB_length ..
            rw [← hsd] at hpm ⊢
            have hl32 : LenO (bv sd) 32 := ⟨by simp [hsl]⟩
            repeat (first | (refine G_id ?_; first | refine G_nil ?_ | refine G_plain rfl rfl ?_) | (refine X_id ?_; first | refine X_yl (Yl_move rfl rfl) rfl rfl ?_ | refine X_yl (Yl_len rfl rfl) rfl rfl ?_ | refine X_store rfl rfl rfl rfl hS (fun _ hS _ => ?_) | refine X_alloc rfl rfl rfl hS (fun _ _ hS _ => ?_)) | (refine C_id ?_; first | refine C_seq ?_ | refine C_region ?_ | refine C_block ?_) | (refine E_id ?_; first | refine E_code ?_))
            rename_i b8 _ _ _ _ _
            have hS := hS.pick [1, 2, 1, 0]
            refine C_loop (α := Nat) (fun i => [(0, .pointer (some ⟨lp, 0, none⟩)), (1, .slice a l.length c), (6, .pointer (some ⟨sp, 0, none⟩)), (7, .int .i64 (done + 1)), (8, .pointer (some ⟨b8, 0, none⟩)), (62, .slice a l.length c), (63, .int .i64 (l.length : Nat)), (64, .int .i64 (i : Nat))])
              (fun i w => i ≤ l.length ∧ St W F [stepAt sp p (notesTo (done + 1) sd d (0, D) i).1, disk p (notesTo (done + 1) sd d (0, D) i).2, logAt lp p o s m j done rdn, pts b8 (.cells (bv sd).toArray 78)] w) (fun i => l.length - i) 0 ⟨rfl, rfl, rfl, rfl, rfl, rfl, rfl, rfl, trivial⟩ ⟨Nat.zero_le _, hS⟩ ?_
            clear hS
            rintro i w ⟨hi, hS⟩
            have hnl := notesTo_line (done + 1) sd d (0, D) i
            simp only at hnl
            obtain ⟨X, hX⟩ : ∃ X, X = notesTo (done + 1) sd d (0, D) i := ⟨_, rfl⟩
            rw [← hX] at hS hnl
            by_cases hlt : i < l.length
            · have hx0 : l[i]? = some l[i] := List.getElem?_eq_getElem hlt
              generalize l[i] = v at hx0
              have hvm := List.mem_of_getElem? hx0
              have hgv := (hgood v hvm).2.2
              have hdi : d.getD i (0, []) = (v.no, v.x.s) := by rw [List.getD_eq_getElem?_getD, hd]; simp [hx0, Wr.data]
              have hr := hW.row
              have hxs : ((l.flatMap Wr.cells).drop (i * 2)).take 2 = [.int .i64 v.no, .slice v.x.a v.x.s.length v.x.c] := wr_seg hx0
              obtain ⟨ab, ao, rfl⟩ := (hW.row.rd hS).base (by intro e; rw [e] at hxs; simp at hxs)
              repeat (first | (refine G_id ?_; first | refine G_nil ?_ | refine G_plain rfl rfl ?_) | (refine X_id ?_; first | refine X_yl (Yl_move rfl rfl) rfl rfl ?_ | refine X_yl (Yl_assign rfl rfl) rfl rfl ?_ | refine X_yl (Yl_fieldAddr0 rfl rfl rfl) rfl rfl ?_ | refine X_yl (Yl_len rfl rfl) rfl rfl ?_ | refine X_yl (Yl_lss_t rfl rfl rfl (by omega)) rfl rfl ?_ | refine X_yl (Yl_indexAddr rfl rfl rfl (by omega) (by omega) (by first | assumption | exact ⟨_, _, rfl⟩)) rfl rfl ?_ | refine X_yl (Yl_add rfl rfl rfl (w64 (by omega) (by omega))) rfl rfl ?_ | refine X_yl (Yl_mul rfl rfl rfl (w64 (by omega) (by omega))) rfl rfl ?_ | refine X_yl (Yl_load rfl rfl hS.cell) rfl rfl ?_ | refine X_yl (Yl_loadN rfl rfl hS.cellsN) rfl rfl ?_ | refine X_yl (Yl_loadN rfl rfl ((hr.rd hS).cellsX (by omega) hxs rfl)) rfl rfl ?_ | refine X_store rfl rfl rfl rfl hS (fun _ hS _ => ?_) | refine X_alloc rfl rfl rfl hS (fun _ _ hS _ => ?_)) | (refine C_id ?_; first | refine C_seq ?_ | refine C_region ?_ | refine C_block ?_ | refine C_skip ?_ | refine C_cond_t rfl ?_) | (refine E_id ?_; first | refine E_code ?_))
              refine X_callg _ rfl rfl rfl rfl rfl (note_ (done + 1) (i : Nat) (l.length : Nat) v.no sd hsl _) ?_
              rintro _ w ⟨q, k, rfl, hS'⟩
              replace hS := hS.plus hS'
              clear hS'
              repeat (first | (refine G_id ?_; first | refine G_plain rfl rfl ?_))
              obtain ⟨_, hc, hr, hw, hbk⟩ := hS.call [false, false, true, true, false, false]
              refine X_callg _ rfl rfl rfl rfl rfl (swrite_ sp p X _ _ 64 k (noteB (done + 1) (i : Nat) (l.length : Nat) v.no sd) _ _ hc (hr _ (List.mem_cons_self ..)) (noteB_length ..) (by omega)) ?_
              rintro _ w ⟨_, hS⟩
              replace hS := hbk hS
              clear hc hr hw hbk
              have hX2 := stepW_line X (1 + 2 * (i : Nat)) (noteB (done + 1) (i : Nat) (l.length : Nat) v.no sd)
              repeat (first | (refine G_id ?_; first | refine G_nil ?_ | refine G_plain rfl rfl ?_) | (refine X_id ?_; first | refine X_yl (Yl_move rfl rfl) rfl rfl ?_ | refine X_yl (Yl_fieldAddr0 rfl rfl rfl) rfl rfl ?_ | refine X_yl (Yl_add rfl rfl rfl (w64 (by omega) (by omega))) rfl rfl ?_ | refine X_yl (Yl_mul rfl rfl rfl (w64 (by omega) (by omega))) rfl rfl ?_ | refine X_yl (Yl_load rfl rfl hS.cell) rfl rfl ?_) | (refine C_id ?_; first | refine C_region ?_) | (refine E_id ?_; first | refine E_code ?_))
              obtain ⟨_, hc, hr, hw, hbk⟩ := hS.call [true, true, false, false, false, false]
              refine X_callg _ rfl rfl rfl rfl rfl (swrite_ sp p (stepW X (1 + 2 * (i : Nat)) (noteB (done + 1) (i : Nat) (l.length : Nat) v.no sd)) _ _ _ _ v.x.s _ _ hc (hw _ (hW.all v hvm)) rfl (by omega)) ?_
              rintro _ w ⟨_, hS⟩
              replace hS := hbk hS
              clear hc hr hw hbk
              repeat (first | (refine G_id ?_; first | refine G_nil ?_ | refine G_plain rfl rfl ?_) | (refine X_id ?_; first | refine X_yl (Yl_move rfl rfl) rfl rfl ?_ | refine X_yl (Yl_add rfl rfl rfl (w64 (by omega) (by omega))) rfl rfl ?_) | (refine C_id ?_; first | refine C_region ?_) | (refine E_id ?_; first | refine E_code ?_ | refine E_blk_n ?_))
              refine E_round (i + 1) ⟨rfl, rfl, rfl, rfl, rfl, rfl, rfl, rfl, trivial⟩ ⟨by omega, ?_⟩ (by omega)
              simp only [notesTo]
              rw [hdi, ← hX, hdl]
              have hS := hS.pick [0, 0, 2, 2]
              exact hS
            · obtain rfl : i = l.length := by omega
              rw [hdl, ← hX] at hpm
              have hX2 := stepF_line X
              repeat (first | (refine G_id ?_; first | refine G_nil ?_ | refine G_plain rfl rfl ?_) | (refine X_id ?_; first | refine X_yl (Yl_move rfl rfl) rfl rfl ?_ | refine X_yl (Yl_lss_f rfl rfl rfl (by omega)) rfl rfl ?_) | (refine C_id ?_; first | refine C_seq ?_ | refine C_region ?_ | refine C_exit ?_ | refine C_cond_f rfl ?_) | (refine E_id ?_; first | refine E_code ?_ | refine E_then_exit ?_ | refine E_blk_same ?_))
              obtain ⟨_, hc, hr, hw, hbk⟩ := hS.call [true, true, false, false]
              refine X_callg _ rfl rfl rfl rfl rfl (sflush_ sp p X _ _ hc (by omega)) ?_
              rintro _ w ⟨_, hS⟩
              replace hS := hbk hS
              clear hc hr hw hbk
              repeat (first | (refine G_id ?_; first | refine G_nil ?_ | refine G_plain rfl rfl ?_) | (refine X_id ?_; first | refine X_yl (Yl_move rfl rfl) rfl rfl ?_) | (refine C_id ?_; first | refine C_seq ?_ | refine C_region ?_) | (refine E_id ?_; first | refine E_code ?_))
              have hS := hS.pick [2, 0, 0]
              obtain ⟨_, hc, hr, hw, hbk⟩ := hS.call [true, true, true]
              refine X_callg _ rfl rfl rfl rfl rfl (wlay_ lp sp p o s m j done rdn (stepF X) (done + 1) a c l rd fs _ _ (hG.mono hw) (hW.mono hw) hj hl (fun v hv => by have := hgood v hv; omega) (by omega) hc) ?_
              rintro _ w ⟨rfl, hS⟩
              replace hS := hbk hS
              clear hc hr hw hbk
              rw [hpm, hd]
              repeat (first | (refine G_id ?_; first | refine G_nil ?_ | refine G_plain rfl rfl ?_) | (refine X_id ?_; first | refine X_yl (Yl_assign rfl rfl) rfl rfl ?_) | (refine C_id ?_; first | refine C_ret ?_) | (refine E_id ?_; first | refine E_code ?_ | refine E_ret1 rfl (Rv_tmp rfl) (Ret.mk ?_)))
              exact ⟨rfl, hS.pick [0, 1]⟩
    · rw [show commitM rd fs D j done d = (checkM d, D, done) by unfold commitM; rw [if_neg (by simp [hoff]), if_pos hck]]
      refine calls_C Tryd.func10 rfl Tryd.ntmps10 rfl ?_
      repeat (first | (refine G_id ?_; first | refine G_nil ?_ | refine G_plain rfl rfl ?_) | (refine X_id ?_; first | (refine X_callg 19 rfl rfl rfl rfl rfl (hon _ _ hS) ?_; rintro _ _ ⟨rfl, rfl⟩) | refine X_yl (Yl_move rfl rfl) rfl rfl ?_ | refine X_yl (Yl_assign rfl rfl) rfl rfl ?_ | refine X_yl (Yl_nilCheck rfl rfl) rfl rfl ?_ | refine X_yl (Yl_fieldAddr0 rfl rfl rfl) rfl rfl ?_ | refine X_yl (Yl_not_t rfl rfl) rfl rfl ?_ | refine X_yl (Yl_eqlNil_some rfl rfl rfl) rfl rfl ?_ | refine X_yl (Yl_load rfl rfl hS.cell) rfl rfl ?_) | (refine C_id ?_; first | refine C_seq ?_ | refine C_region ?_ | refine C_block ?_ | refine C_skip ?_ | refine C_cond_f rfl ?_) | (refine E_id ?_; first | refine E_code ?_ | refine E_blk_n ?_))
      refine X_callq _ rfl rfl rfl rfl rfl hS (check_ a c l _ (hW0 _ _ hS) hl hx64) ?_
      rintro _ w rfl hS
      rw [← hd]
      repeat (first | (refine G_id ?_; first | refine G_nil ?_ | refine G_plain rfl rfl ?_) | (refine X_id ?_; first | refine X_yl (Yl_move rfl rfl) rfl rfl ?_ | refine X_yl (Yl_assign rfl rfl) rfl rfl ?_ | refine X_yl (Yl_neq_t rfl rfl rfl (by omega)) rfl rfl ?_) | (refine C_id ?_; first | refine C_seq ?_ | refine C_region ?_ | refine C_ret ?_ | refine C_cond_t rfl ?_) | (refine E_id ?_; first | refine E_code ?_ | refine E_then_ret ?_ | refine E_ret1 rfl (Rv_tmp rfl) (Ret.mk ?_)))
      exact ⟨rfl, hS⟩
  · rw [hoff] at hon
    rw [show commitM rd fs D j done d = (9, D, done) by unfold commitM; rw [if_pos hoff]]
    refine calls_C Tryd.func10 rfl Tryd.ntmps10 rfl ?_
    repeat (first | (refine G_id ?_; first | refine G_nil ?_ | refine G_plain rfl rfl ?_) | (refine X_id ?_; first | (refine X_callg 19 rfl rfl rfl rfl rfl (hon _ _ hS) ?_; rintro _ _ ⟨rfl, rfl⟩) | refine X_yl (Yl_move rfl rfl) rfl rfl ?_ | refine X_yl (Yl_assign rfl rfl) rfl rfl ?_ | refine X_yl (Yl_nilCheck rfl rfl) rfl rfl ?_ | refine X_yl (Yl_fieldAddr0 rfl rfl rfl) rfl rfl ?_ | refine X_yl (Yl_not_f rfl rfl) rfl rfl ?_ | refine X_yl (Yl_eqlNil_some rfl rfl rfl) rfl rfl ?_ | refine X_yl (Yl_load rfl rfl hS.cell) rfl rfl ?_) | (refine C_id ?_; first | refine C_seq ?_ | refine C_region ?_ | refine C_block ?_ | refine C_ret ?_ | refine C_cond_t rfl ?_ | refine C_cond_f rfl ?_) | (refine E_id ?_; first | refine E_code ?_ | refine E_then_ret ?_ | refine E_blk_ret ?_ | refine E_ret1 rfl (Rv_tmp rfl) (Ret.mk ?_)))
    exact ⟨rfl, hS⟩
end Cr
namespace Cr
open Go Go.Proofs
set_option maxRecDepth 100000
set_option maxHeartbeats 8000000
attribute [local irreducible] Calls

def kb : List UInt8 := (List.replicate 64 0).set 5 7
theorem known_open (rd fs : List Int) : openM rd fs (newDisk 6) 2 = ⟨0, newDisk 6, 0, false⟩ := by kernel_rfl
theorem known_c1 (rd fs : List Int) : commitM rd fs (newDisk 6) 2 0 [(0, kb), (1, kb)] = (6, newDisk 6, 0) := by kernel_rfl
theorem known_c2 (rd fs : List Int) : (commitM rd fs (newDisk 6) 2 0 [(2, kb)]).1 = 0 ∧ (commitM rd fs (newDisk 6) 2 0 [(2, kb)]).2.2 = 1 ∧ wreadM (commitM rd fs (newDisk 6) 2 0 [(2, kb)]).2.1 2 2 = (0, kb) ∧
    (commitM rd fs (newDisk 6) 2 0 [(2, kb)]).2.1.laid.length = 6 ∧ (commitM rd fs (newDisk 6) 2 0 [(2, kb)]).2.1.line.length = 0 := ⟨by kernel_rfl, by kernel_rfl, by kernel_rfl, by kernel_rfl, by kernel_rfl⟩

theorem same_ (a b : Option Addr) (c c' : Nat) (s t : List UInt8) (W : World) (ha : Rd W (bytes a s)) (hb : Rd W (bytes b t)) (hs : s.length ≤ 1099511627776) :
    Calls Tryd.prog 12 #[.slice a s.length c, .slice b t.length c'] W (Ret fun v w => v = .bool (decide (s = t)) ∧ St W noF [] w) := by
  have hS := St.start W
  by_cases hl : s.length = t.length
  · refine calls_C Tryd.func12 rfl Tryd.ntmps12 rfl ?_
    repeat (first | (refine G_id ?_; first | refine G_nil ?_ | refine G_plain rfl rfl ?_) | (refine X_id ?_; first | refine X_yl (Yl_move rfl rfl) rfl rfl ?_ | refine X_yl (Yl_assign rfl rfl) rfl rfl ?_ | refine X_yl (Yl_len rfl rfl) rfl rfl ?_ | refine X_yl (Yl_neq_f rfl rfl rfl (by omega)) rfl rfl ?_) | (refine C_id ?_; first | refine C_seq ?_ | refine C_region ?_ | refine C_block ?_ | refine C_skip ?_ | refine C_cond_f rfl ?_) | (refine E_id ?_; first | refine E_code ?_))
    refine C_loop (α := Nat) (fun i => [(0, .slice a s.length c), (1, .slice b t.length c'), (5, .int .i64 (i : Nat))])
      (fun i w => i ≤ s.length ∧ s.take i = t.take i ∧ St W noF [] w) (fun i => s.length - i) 0 ⟨rfl, rfl, rfl, trivial⟩ ⟨Nat.zero_le _, rfl, hS⟩ ?_
    clear hS
    rintro i w ⟨hi, htk, hS⟩
    by_cases hlt : i < s.length
    · obtain ⟨ab, ao, rfl⟩ := ha.base (by intro e; have := bv_length s; rw [e] at this; simp at this; omega)
      obtain ⟨bb, bo, rfl⟩ := hb.base (by intro e; have := bv_length t; rw [e] at this; simp at this; omega)
      have h1 := ha.ro
      have h2 := hb.ro
      clear ha hb
      have hb := h1
      have hb2 := h2
      have hlt2 : i < t.length := by omega
      have ei : (i : Int).toNat * 1 = i := by omega
      by_cases he : s.getD i 0 = t.getD i 0
      · have hq : ((s.getD ((i : Int).toNat * 1) 0).toNat : Int) = ((t.getD ((i : Int).toNat * 1) 0).toNat : Int) := by rw [ei, he]
        repeat (first | (refine G_id ?_; first | refine G_nil ?_ | refine G_plain rfl rfl ?_) | (refine X_id ?_; first | refine X_yl (Yl_move rfl rfl) rfl rfl ?_ | refine X_yl (Yl_len rfl rfl) rfl rfl ?_ | refine X_yl (Yl_lss_t rfl rfl rfl (by omega)) rfl rfl ?_) | (refine C_id ?_; first | refine C_seq ?_ | refine C_region ?_ | refine C_block ?_ | refine C_skip ?_ | refine C_cond_t rfl ?_) | (refine E_id ?_; first | refine E_code ?_))
        refine C_ord [(0, true), (1, true), (2, true), (3, true), (4, true), (5, true), (6, true), (7, true), (8, true)] mixed (by kernel_rfl) rfl ?_
        have hS := hS.drew
        repeat (first | (refine G_id ?_; first | refine G_nil ?_ | refine G_plain rfl rfl ?_) | (refine X_id ?_; first | refine X_yl (Yl_move rfl rfl) rfl rfl ?_ | refine X_yl (Yl_assign rfl rfl) rfl rfl ?_ | refine X_yl (Yl_add rfl rfl rfl (w64 (by omega) (by omega))) rfl rfl ?_) | (refine C_id ?_; first | refine C_region ?_ | refine C_skip ?_ | refine C_cond_f rfl ?_) | (refine E_id ?_; first | refine E_code ?_ | refine E_blk_n ?_) | (refine GO_id ?_; first | refine GO_nil ?_ | refine GO_pure rfl rfl (fun _ => Yl_move rfl rfl) rfl rfl ?_ | refine GO_pure rfl rfl (fun _ => Yl_neq_f rfl rfl rfl (by omega)) rfl rfl ?_ | refine GO_pure rfl rfl (fun _ => Yl_indexAddr rfl rfl rfl (by omega) (by omega) (by first | assumption | exact ⟨_, _, rfl⟩)) rfl rfl ?_ | refine GO_read (fun w' => w'.cell? _ = some _) rfl rfl ((hb.rd hS).cellB' (by omega)) (fun _ hc => Yl_load rfl rfl hc) rfl rfl ?_ | refine GO_read (fun w' => w'.cell? _ = some _) rfl rfl ((hb2.rd hS).cellB' (by omega)) (fun _ hc => Yl_load rfl rfl hc) rfl rfl ?_))
        refine E_round (i + 1) ⟨rfl, rfl, rfl, trivial⟩ ⟨by omega, ?_, hS⟩ (by omega)
        rw [List.take_succ_eq_append_getElem hlt, List.take_succ_eq_append_getElem hlt2, htk]
        rw [List.getD_eq_getElem?_getD, List.getD_eq_getElem?_getD, List.getElem?_eq_getElem hlt, List.getElem?_eq_getElem hlt2] at he
        simp only [Option.getD_some] at he
        rw [he]
      · have hq : ¬ ((s.getD ((i : Int).toNat * 1) 0).toNat : Int) = ((t.getD ((i : Int).toNat * 1) 0).toNat : Int) := by
          rw [ei]; intro h; exact he (UInt8.toNat_inj.1 (by omega))
        repeat (first | (refine G_id ?_; first | refine G_nil ?_ | refine G_plain rfl rfl ?_) | (refine X_id ?_; first | refine X_yl (Yl_move rfl rfl) rfl rfl ?_ | refine X_yl (Yl_len rfl rfl) rfl rfl ?_ | refine X_yl (Yl_lss_t rfl rfl rfl (by omega)) rfl rfl ?_) | (refine C_id ?_; first | refine C_seq ?_ | refine C_region ?_ | refine C_block ?_ | refine C_skip ?_ | refine C_cond_t rfl ?_) | (refine E_id ?_; first | refine E_code ?_))
        refine C_ord [(0, true), (1, true), (2, true), (3, true), (4, true), (5, true), (6, true), (7, true), (8, true)] mixed (by kernel_rfl) rfl ?_
        have hS := hS.drew
        repeat (first | (refine G_id ?_; first | refine G_nil ?_ | refine G_plain rfl rfl ?_) | (refine X_id ?_; first | refine X_yl (Yl_assign rfl rfl) rfl rfl ?_) | (refine C_id ?_; first | refine C_seq ?_ | refine C_region ?_ | refine C_ret ?_ | refine C_cond_t rfl ?_) | (refine E_id ?_; first | refine E_code ?_ | refine E_then_ret ?_ | refine E_blk_ret ?_ | refine E_ret1 rfl (Rv_tmp rfl) (Ret.mk ?_)) | (refine GO_id ?_; first | refine GO_nil ?_ | refine GO_pure rfl rfl (fun _ => Yl_move rfl rfl) rfl rfl ?_ | refine GO_pure rfl rfl (fun _ => Yl_neq_t rfl rfl rfl (by omega)) rfl rfl ?_ | refine GO_pure rfl rfl (fun _ => Yl_indexAddr rfl rfl rfl (by omega) (by omega) (by first | assumption | exact ⟨_, _, rfl⟩)) rfl rfl ?_ | refine GO_read (fun w' => w'.cell? _ = some _) rfl rfl ((hb.rd hS).cellB' (by omega)) (fun _ hc => Yl_load rfl rfl hc) rfl rfl ?_ | refine GO_read (fun w' => w'.cell? _ = some _) rfl rfl ((hb2.rd hS).cellB' (by omega)) (fun _ hc => Yl_load rfl rfl hc) rfl rfl ?_))
        refine ⟨?_, hS⟩
        rw [decide_eq_false (fun h => he (by rw [h]))]
    · obtain rfl : i = s.length := by omega
      repeat (first | (refine G_id ?_; first | refine G_nil ?_ | refine G_plain rfl rfl ?_) | (refine X_id ?_; first | refine X_yl (Yl_move rfl rfl) rfl rfl ?_ | refine X_yl (Yl_assign rfl rfl) rfl rfl ?_ | refine X_yl (Yl_len rfl rfl) rfl rfl ?_ | refine X_yl (Yl_lss_f rfl rfl rfl (by omega)) rfl rfl ?_) | (refine C_id ?_; first | refine C_seq ?_ | refine C_region ?_ | refine C_ret ?_ | refine C_exit ?_ | refine C_cond_f rfl ?_) | (refine E_id ?_; first | refine E_code ?_ | refine E_then_exit ?_ | refine E_blk_same ?_ | refine E_ret1 rfl (Rv_tmp rfl) (Ret.mk ?_)))
      refine ⟨?_, hS⟩
      rw [List.take_length, hl, List.take_length] at htk
      simp [htk]
  · refine calls_C Tryd.func12 rfl Tryd.ntmps12 rfl ?_
    repeat (first | (refine G_id ?_; first | refine G_nil ?_ | refine G_plain rfl rfl ?_) | (refine X_id ?_; first | refine X_yl (Yl_move rfl rfl) rfl rfl ?_ | refine X_yl (Yl_assign rfl rfl) rfl rfl ?_ | refine X_yl (Yl_len rfl rfl) rfl rfl ?_ | refine X_yl (Yl_neq_t rfl rfl rfl (by omega)) rfl rfl ?_) | (refine C_id ?_; first | refine C_seq ?_ | refine C_region ?_ | refine C_ret ?_ | refine C_cond_t rfl ?_) | (refine E_id ?_; first | refine E_code ?_ | refine E_then_ret ?_ | refine E_ret1 rfl (Rv_tmp rfl) (Ret.mk ?_)))
    exact ⟨by rw [decide_eq_false (fun h => hl (by rw [h]))], hS⟩
theorem known_ (rd fs : List Int) (W : World) (hG : Gl W noF rd fs) : Calls Tryd.prog 9 #[] W (Ret fun v w => v = .bool true ∧ St W noF [] w) := by
  have hS := St.start W
  refine calls_C Tryd.func9 rfl Tryd.ntmps9 rfl ?_
  repeat (first | (refine G_id ?_; first | refine G_nil ?_ | refine G_plain rfl rfl ?_) | (refine X_id ?_; first | refine X_yl (Yl_assign rfl rfl) rfl rfl ?_) | (refine C_id ?_; first | refine C_seq ?_ | refine C_region ?_) | (refine E_id ?_; first | refine E_code ?_))
  refine X_callg _ rfl rfl rfl rfl rfl (new_ 6 _ (by omega) (by omega)) ?_
  rintro _ w ⟨p, rfl, hS'⟩
  replace hS := hS.plus hS'
  clear hS'
  repeat (first | (refine G_id ?_; first | refine G_nil ?_ | refine G_plain rfl rfl ?_) | (refine X_id ?_; first | refine X_yl (Yl_move rfl rfl) rfl rfl ?_ | refine X_yl (Yl_assign rfl rfl) rfl rfl ?_ | refine X_yl (Yl_extract rfl rfl) rfl rfl ?_) | (refine C_id ?_; first | refine C_seq ?_ | refine C_region ?_) | (refine E_id ?_; first | refine E_code ?_))
  have hopen := open_ p (newDisk 6) 2 rd fs
  rw [known_open] at hopen
  obtain ⟨_, hc, hr, hw, hbk⟩ := hS.call [true]
  refine X_callg _ rfl rfl rfl rfl rfl (hopen _ _ (hG.mono hw) (by simp [newDisk]) hc) ?_
  rintro _ w (⟨h, _⟩ | ⟨_, lp, rfl, hS⟩)
  · exact absurd rfl h
  replace hS := hbk hS
  clear hc hr hw hbk hopen
  replace hS : St W noF [logAt lp p 1 0 0 2 0 false, disk p (newDisk 6)] w := hS
  repeat (first | (refine G_id ?_; first | refine G_nil ?_ | refine G_plain rfl rfl ?_ | refine G_yes rfl rfl rfl rfl ?_) | (refine X_id ?_; first | refine X_yl (Yl_move rfl rfl) rfl rfl ?_ | refine X_yl (Yl_assign rfl rfl) rfl rfl ?_ | refine X_yl (Yl_extract rfl rfl) rfl rfl ?_ | refine X_yl (Yl_pick_f rfl rfl rfl) rfl rfl ?_ | refine X_yl (Yl_neq_f rfl rfl rfl (by omega)) rfl rfl ?_ | refine X_yl (Yl_eqlNil_some rfl rfl rfl) rfl rfl ?_) | (refine C_id ?_; first | refine C_seq ?_ | refine C_region ?_ | refine C_skip ?_ | refine C_cond_f rfl ?_) | (refine E_id ?_; first | refine E_code ?_))
  refine X_makeB (c := 64) rfl rfl rfl (by omega) (by omega) rfl rfl hS (fun kp _ hS => ?_)
  repeat (first | (refine G_id ?_; first | refine G_nil ?_ | refine G_plain rfl rfl ?_) | (refine X_id ?_; first | refine X_yl (Yl_move rfl rfl) rfl rfl ?_ | refine X_yl (Yl_assign rfl rfl) rfl rfl ?_ | refine X_yl (Yl_indexAddr rfl rfl rfl (by omega) (by omega) (by first | assumption | exact ⟨_, _, rfl⟩)) rfl rfl ?_) | (refine C_id ?_; first | refine C_seq ?_ | refine C_region ?_) | (refine E_id ?_; first | refine E_code ?_))
  refine X_setG (b := kp) (off := 5) (l' := bv kb) rfl rfl rfl rfl hS (by simp) rfl (fun _ hS => ?_)
  repeat (first | (refine G_id ?_; first | refine G_nil ?_ | refine G_plain rfl rfl ?_) | (refine X_id ?_; first | refine X_yl (Yl_move rfl rfl) rfl rfl ?_ | refine X_yl (Yl_build rfl rfl rfl) rfl rfl ?_ | refine X_buildSlice rfl rfl rfl rfl rfl rfl rfl rfl hS (fun _ _ hS _ => ?_)) | (refine C_id ?_; first | refine C_seq ?_ | refine C_region ?_) | (refine E_id ?_; first | refine E_code ?_))
  rename_i nb w1 _
  have hS := hS.pick [2, 2, 0, 0]
  have hWr : ∀ F, (∀ r ∈ [own 48 2 (some ⟨nb, 0, none⟩) 2 [.int .i64 0, .slice (some ⟨kp, 0, none⟩) 64 64, .int .i64 1, .slice (some ⟨kp, 0, none⟩) 64 64], pts kp (.cells (bv kb).toArray 5)], Ro w1 F r) → Wrs w1 F (some ⟨nb, 0, none⟩) [⟨0, ⟨some ⟨kp, 0, none⟩, 64, kb⟩⟩, ⟨1, ⟨some ⟨kp, 0, none⟩, 64, kb⟩⟩] := fun F hr => by
    refine ⟨(hr _ (List.mem_cons_self ..)).own_row, fun v hv => ?_⟩
    have h1 : Ro w1 F (bytes (some ⟨kp, 0, none⟩) kb) := (hr _ (List.mem_cons_of_mem _ (List.mem_cons_self ..))).mono fun g hg => ⟨g, row_pts g hg, fun _ _ e => e⟩
    simp only [List.mem_cons, List.not_mem_nil, or_false] at hv
    rcases hv with rfl | rfl <;> exact h1
  obtain ⟨_, hc, hr, hw, hbk⟩ := hS.call [true, true, false, false]
  refine X_callg _ rfl rfl rfl rfl rfl (commit_ lp p 1 0 0 2 0 false (newDisk 6) _ 2 _ rd fs _ _ (hG.mono hw) (hWr _ hr) (by omega) (by omega) (by simp) (fun v hv => by
    simp only [List.mem_cons, List.not_mem_nil, or_false] at hv
    rcases hv with rfl | rfl <;> simp [kb]) (by simp [newDisk]) hc) ?_
  rintro _ w ⟨rfl, hS⟩
  replace hS := hbk hS
  clear hc hr hw hbk hWr
  have e1 : commitM rd fs (newDisk 6) 2 0 (List.map Wr.data [⟨0, ⟨some ⟨kp, 0, none⟩, 64, kb⟩⟩, ⟨1, ⟨some ⟨kp, 0, none⟩, 64, kb⟩⟩]) = (6, newDisk 6, 0) := known_c1 rd fs
  rw [e1] at hS
  rw [show (commitM rd fs (newDisk 6) 2 0 (List.map Wr.data [⟨0, ⟨some ⟨kp, 0, none⟩, 64, kb⟩⟩, ⟨1, ⟨some ⟨kp, 0, none⟩, 64, kb⟩⟩])).1 = 6 by rw [e1]]
  replace hS : St W noF [logAt lp p 1 0 0 2 0 false, disk p (newDisk 6), pts kp (.cells (bv kb).toArray 5)] w := hS.pick [0, 0, 1]
  clear e1
  repeat (first | (refine G_id ?_; first | refine G_nil ?_ | refine G_plain rfl rfl ?_) | (refine X_id ?_; first | refine X_yl (Yl_move rfl rfl) rfl rfl ?_ | refine X_yl (Yl_assign rfl rfl) rfl rfl ?_ | refine X_yl (Yl_build rfl rfl rfl) rfl rfl ?_ | refine X_buildSlice rfl rfl rfl rfl rfl rfl rfl rfl hS (fun _ _ hS _ => ?_)) | (refine C_id ?_; first | refine C_seq ?_ | refine C_region ?_) | (refine E_id ?_; first | refine E_code ?_))
  rename_i nb w1 _
  have hS := hS.pick [1, 1, 0, 0]
  have hWr : ∀ F, (∀ r ∈ [own 48 2 (some ⟨nb, 0, none⟩) 1 [.int .i64 2, .slice (some ⟨kp, 0, none⟩) 64 64], pts kp (.cells (bv kb).toArray 5)], Ro w1 F r) → Wrs w1 F (some ⟨nb, 0, none⟩) [⟨2, ⟨some ⟨kp, 0, none⟩, 64, kb⟩⟩] := fun F hr => by
    refine ⟨(hr _ (List.mem_cons_self ..)).own_row, fun v hv => ?_⟩
    have h1 : Ro w1 F (bytes (some ⟨kp, 0, none⟩) kb) := (hr _ (List.mem_cons_of_mem _ (List.mem_cons_self ..))).mono fun g hg => ⟨g, row_pts g hg, fun _ _ e => e⟩
    simp only [List.mem_cons, List.not_mem_nil, or_false] at hv
    subst hv
    exact h1
  obtain ⟨_, hc, hr, hw, hbk⟩ := hS.call [true, true, false, false]
  refine X_callg _ rfl rfl rfl rfl rfl (commit_ lp p 1 0 0 2 0 false (newDisk 6) _ 1 _ rd fs _ _ (hG.mono hw) (hWr _ hr) (by omega) (by omega) (by simp) (fun v hv => by
    simp only [List.mem_cons, List.not_mem_nil, or_false] at hv
    subst hv; simp [kb]) (by simp [newDisk]) hc) ?_
  rintro _ w ⟨rfl, hS⟩
  replace hS := hbk hS
  clear hc hr hw hbk hWr
  obtain ⟨k1, k2, k3, k4, k5⟩ := known_c2 rd fs
  rw [show List.map Wr.data [⟨2, ⟨some ⟨kp, 0, none⟩, 64, kb⟩⟩] = [(2, kb)] from rfl] at hS ⊢
  generalize commitM rd fs (newDisk 6) 2 0 [(2, kb)] = R at k1 k2 k3 k4 k5 hS ⊢
  obtain ⟨e2, D2, n2⟩ := R
  simp only at k1 k2 k3 k4 k5 hS ⊢
  subst k1 k2
  replace hS := hS.pick [0, 0, 1]
  repeat (first | (refine G_id ?_; first | refine G_nil ?_ | refine G_plain rfl rfl ?_) | (refine X_id ?_; first | refine X_yl (Yl_move rfl rfl) rfl rfl ?_ | refine X_yl (Yl_assign rfl rfl) rfl rfl ?_) | (refine C_id ?_; first | refine C_seq ?_ | refine C_region ?_) | (refine E_id ?_; first | refine E_code ?_))
  refine X_callg _ rfl rfl rfl rfl rfl (wread_ lp p 1 0 0 2 1 false D2 2 _ (hS.rd (List.mem_cons_self ..)) (hS.rd (List.mem_cons_of_mem _ (List.mem_cons_self ..))) (by omega) (by omega)) ?_
  rw [k3]
  rintro _ w ⟨ra, rc, rfl, _, hS'⟩
  replace hS := hS.plus hS'
  clear hS'
  have hsame := same_ ra (some ⟨kp, 0, none⟩) rc 64 kb kb
  rw [decide_eq_true rfl] at hsame
  repeat (first | (refine G_id ?_; first | refine G_nil ?_ | refine G_plain rfl rfl ?_ | refine G_yes rfl rfl rfl rfl ?_) | (refine X_id ?_; first | (refine X_callq 14 rfl rfl rfl rfl rfl hS (wsectors_ lp p 1 0 0 2 1 false D2 _ (hS.rd (List.mem_cons_of_mem _ (List.mem_cons_self ..))) (hS.rd (List.mem_cons_of_mem _ (List.mem_cons_of_mem _ (List.mem_cons_self ..)))) (by omega)) ?_; rintro _ _ rfl hS) | (refine X_callq 12 rfl rfl rfl rfl rfl hS (hsame _ (hS.rd (List.mem_cons_self ..)) ((hS.rd (List.mem_cons_of_mem _ (List.mem_cons_of_mem _ (List.mem_cons_of_mem _ (List.mem_cons_self ..))))).ptsB) (by simp [kb])) ?_; rintro _ _ rfl hS) | (refine X_callg 16 rfl rfl rfl rfl rfl (wdone_ lp p 1 0 0 2 1 false _ (hS.rd (List.mem_cons_of_mem _ (List.mem_cons_self ..)))) ?_; rintro _ _ ⟨rfl, rfl⟩) | refine X_yl (Yl_move rfl rfl) rfl rfl ?_ | refine X_yl (Yl_assign rfl rfl) rfl rfl ?_ | refine X_yl (Yl_extract rfl rfl) rfl rfl ?_ | refine X_yl (Yl_pick_t rfl rfl rfl) rfl rfl ?_ | refine X_yl (Yl_eql_t rfl rfl rfl (by omega)) rfl rfl ?_) | (refine C_id ?_; first | refine C_seq ?_ | refine C_region ?_ | refine C_ret ?_) | (refine E_id ?_; first | refine E_code ?_ | refine E_ret1 rfl (Rv_tmp rfl) (Ret.mk ?_)))
  exact ⟨rfl, hS.drops⟩
theorem walNil_ (no : Int) (rd fs : List Int) (W : World) (hG : Gl W noF rd fs) : Calls Tryd.prog 4 #[.int .i64 no] W (Ret fun v w => v = .bool true ∧ St W noF [] w) := by
  have hS := St.start W
  refine calls_C Tryd.func4 rfl Tryd.ntmps4 rfl ?_
  repeat (first | (refine G_id ?_; first | refine G_nil ?_ | refine G_plain rfl rfl ?_ | refine G_yes rfl rfl rfl rfl ?_) | (refine X_id ?_; first | (refine X_callq 9 rfl rfl rfl rfl rfl hS (known_ rd fs _ hG) ?_; rintro _ _ rfl hS) | (refine X_callg 11 rfl rfl rfl rfl rfl (wread_nil _ _) ?_; rintro _ _ ⟨rfl, rfl⟩) | (refine X_callg 7 rfl rfl rfl rfl rfl (open_nil _ _) ?_; rintro _ _ ⟨rfl, rfl⟩) | (refine X_callg 10 rfl rfl rfl rfl rfl (commit_nil _ _) ?_; rintro _ _ ⟨rfl, rfl⟩) | (refine X_callg 14 rfl rfl rfl rfl rfl (wsectors_nil _) ?_; rintro _ _ ⟨rfl, rfl⟩) | (refine X_callg 15 rfl rfl rfl rfl rfl (wmost_nil _) ?_; rintro _ _ ⟨rfl, rfl⟩) | (refine X_callg 16 rfl rfl rfl rfl rfl (wdone_nil _) ?_; rintro _ _ ⟨rfl, rfl⟩) | (refine X_callg 17 rfl rfl rfl rfl rfl (wredone_nil _) ?_; rintro _ _ ⟨rfl, rfl⟩) | refine X_yl (Yl_move rfl rfl) rfl rfl ?_ | refine X_yl (Yl_assign rfl rfl) rfl rfl ?_ | refine X_yl (Yl_extract rfl rfl) rfl rfl ?_ | refine X_yl (Yl_pick_t rfl rfl rfl) rfl rfl ?_ | refine X_yl (Yl_not_f rfl rfl) rfl rfl ?_ | refine X_yl (Yl_eql_t rfl rfl rfl (by omega)) rfl rfl ?_) | (refine C_id ?_; first | refine C_seq ?_ | refine C_region ?_ | refine C_ret ?_) | (refine E_id ?_; first | refine E_code ?_ | refine E_ret1 rfl (Rv_tmp rfl) (Ret.mk ?_)))
  exact ⟨rfl, hS⟩
end Cr
namespace Cr
open Go Go.Proofs
theorem Rd.ofCells {w : World} {b : Nat} {l : List Value} (h : ∀ i v, l[i]? = some v → w.cell? ⟨b, i, none⟩ = some v) (hl : l ≠ []) : Rd w (row (some ⟨b, 0, none⟩) l) := by
  obtain ⟨v0, hv0⟩ : ∃ v, l[0]? = some v := by
    cases l with
    | nil => exact absurd rfl hl
    | cons x r => exact ⟨x, rfl⟩
  have h0 := h 0 v0 hv0
  unfold World.cell? at h0
  split at h0
  · rename_i c t fz hb
    refine ⟨single b (.cells c t fz), .inr ⟨b, 0, c, t, fz, rfl, rfl, fun i v hv => ?_⟩, fun k o e => ?_⟩
    · have := h i v hv
      rw [cell_of_row w b i c t fz hb] at this
      simpa using this
    · obtain ⟨rfl, rfl⟩ := of_single e
      exact hb
  · cases h0
def roundL : List Int := [1116352408, 1899447441, 3049323471, 3921009573, 961987163, 1508970993, 2453635748, 2870763221, 3624381080, 310598401, 607225278, 1426881987, 1925078388, 2162078206, 2614888103, 3248222580, 3835390401, 4022224774, 264347078, 604807628, 770255983, 1249150122, 1555081692, 1996064986, 2554220882, 2821834349, 2952996808, 3210313671, 3336571891, 3584528711, 113926993, 338241895, 666307205, 773529912, 1294757372, 1396182291, 1695183700, 1986661051, 2177026350, 2456956037, 2730485921, 2820302411, 3259730800, 3345764771, 3516065817, 3600352804, 4094571909, 275423344, 430227734, 506948616, 659060556, 883997877, 958139571, 1322822218, 1537002063, 1747873779, 1955562222, 2024104815, 2227730452, 2361852424, 2428436474, 2756734187, 3204031479, 3329325298]
def firstL : List Int := [1779033703, 3144134277, 1013904242, 2773480762, 1359893119, 2600822924, 528734635, 1541459225]
theorem roundL_length : roundL.length = 64 := rfl
theorem firstL_length : firstL.length = 8 := rfl
theorem gl_of_laid {W : World} (h : laidMetH Tryd.prog Go.Proofs.YtobnnhlgdoddgaaDoor.Rows.walNilRow.laid W) : Gl W noF roundL firstL := by
  have h1 : Lib.TabIs Tryd.prog W "creel/digest.round" .u32 roundL := Lib.tabIs_of_head (g := 2) (t := 144) (e := 61) (n := 64) (rest := [_]) (by kernel_rfl) (by kernel_rfl) Tryd.underlying144 Tryd.underlying61 (by kernel_rfl) (by kernel_rfl) h
  have h2 : Lib.TabIs Tryd.prog W "creel/digest.first" .u32 firstL := Lib.tabIs_of_head (g := 0) (t := 112) (e := 61) (n := 8) (rest := []) (by kernel_rfl) (by kernel_rfl) Tryd.underlying112 Tryd.underlying61 (by kernel_rfl) (by kernel_rfl) (laidMet.tail h)
  refine ⟨(Rd.ofCells (fun i v hv => ?_) (by simp [ints, roundL])).ro, (Rd.ofCells (fun i v hv => ?_) (by simp [ints, firstL])).ro, rfl, rfl⟩
  · have hi : i < roundL.length := by
      rcases Nat.lt_or_ge i roundL.length with h | h
      · exact h
      · rw [List.getElem?_eq_none (by rw [ints_length]; omega)] at hv; cases hv
    rw [ints_get hi] at hv
    rw [← Option.some.inj hv]
    exact h1.cell (by kernel_rfl) i hi
  · have hi : i < firstL.length := by
      rcases Nat.lt_or_ge i firstL.length with h | h
      · exact h
      · rw [List.getElem?_eq_none (by rw [ints_length]; omega)] at hv; cases hv
    rw [ints_get hi] at hv
    rw [← Option.some.inj hv]
    exact h2.cell (by kernel_rfl) i hi
end Cr
namespace Go.Proofs.YtobnnhlgdoddgaaDoor
open Go.ChangeShapes Go.WideShapes Go.ChangeAt Go.RowKit
theorem lawOwn : ownKnob Tryd.prog.godebug = none := by kernel_rfl
theorem lawLaid : laidOutB Tryd.prog = true := by kernel_rfl
theorem post_of_law {H : Type} {enc : TypeId × Value → H} {P : Program} {f : Func} {s : ChangeSpec} {apart fresh handsOn again : Bool} {W W' : World} {args : Array Value} {v : Value} {ds gs : List (DataW H)} {before pa pv : List MemPlace}
    (hW : DataW.Whole enc P f.params.toList s.vars apart W args.toList ds gs before)
    (hres : ∀ (b : Nat) (sp : Nat → Bool) (hd : Bool), DataW.TrodAll enc P W' b sp hd f.resultTypes.toList (v.resultList f.resultTypes.size) (s.fn H (ds ++ gs)).results [])
    (hargs : ∀ sp : Nat → Bool, (∀ p ∈ before, sp p.block = true) → DataW.TrodAll enc P W' 0 sp true f.params.toList args.toList (s.fn H (ds ++ gs)).args pa)
    (hvars : ∀ sp : Nat → Bool, (∀ p ∈ before, sp p.block = true) → DataW.TrodVars enc P W' sp s.vars (s.fn H (ds ++ gs)).vars pv)
    (hps : before = pa ++ pv) (hk : W.keptBut W' (· ∈ before)) (hfz : ∀ a : Addr, a.block < W.heap.size → W'.frozen? a = W.frozen? a)
    (hok : ∀ (j : Nat) (t : TypeId) (r : Value), f.resultTypes[j]? = some t → (v.resultList f.resultTypes.size)[j]? = some r → Value.okWide P W' .any 0 t r) :
    s.post enc P f apart fresh handsOn again W args v W' := by
  have hold : ∀ p ∈ before, (fun b => decide (b < W.heap.size)) p.block = true := fun p hp => by simpa using hW.lt p hp
  have hlt : ∀ p ∈ before, p.block < W.heap.size := hW.lt
  refine ⟨ds, gs, before, [], pa, pv, hW, hres _ _ _, hargs _ hold, hvars _ hold, World.keptBut_mono (fun p hp => ⟨hp, ?_⟩) hk, fun _ => ?_⟩
  · rw [hps, List.mem_append] at hp
    exact Or.inr hp
  · obtain ⟨_, _, _, _, _, hz, hn⟩ := hW
    refine ⟨hok, _, _, ([] ++ pa) ++ pv, ⟨[] ++ pa, pv, trodAll_append (hargs _ (fun _ _ => rfl)) (hres _ _ _), hvars _ (fun _ _ => rfl), rfl, ?_, ?_⟩, ?_⟩
    · intro b off hp
      have hp' := hp
      rw [show ([] ++ pa) ++ pv = before by rw [hps]; rfl] at hp'
      rw [hfz _ (hlt _ hp')]
      exact hz b off hp'
    · intro ha
      have := hn ha
      rw [hps] at this
      simpa using this
    · intro p hp _
      rw [hps]
      simpa using hp
theorem trodAll_stays {H : Type} {enc : TypeId × Value → H} {P : Program} (hl : laidOutB P = true) {W W' : World} (hb : Below W.heap.size W W') {sp : Nat → Bool} : ∀ {ts : List TypeId} {vs : List Value} {ds : List (DataW H)} {ps : List MemPlace}, (∀ t ∈ ts, P.readableRec t = true ∧ t < P.types.size) →
    DataW.TrodAll enc P W 0 (fun _ => true) true ts vs ds ps → (∀ p ∈ ps, p.block < W.heap.size) → (∀ p ∈ ps, sp p.block = true) → DataW.TrodAll enc P W' 0 sp true ts vs ds ps
  | [], [], [], _, _, h, _, _ => h
  | _ :: _, _ :: _, _ :: _, _, hT, ⟨p, q, h1, h2, e⟩, hlt, hs => ⟨p, q,
      WideElems.Trod_stays hl (hT _ (List.mem_cons_self ..)).1 (hT _ (List.mem_cons_self ..)).2 h1 (fun x hx => hb.same (hlt x (by rw [e]; exact List.mem_append_left _ hx))) (fun x hx => hs x (by rw [e]; exact List.mem_append_left _ hx)),
      trodAll_stays hl hb (fun t ht => hT t (List.mem_cons_of_mem _ ht)) h2 (fun x hx => hlt x (by rw [e]; exact List.mem_append_right _ hx)) (fun x hx => hs x (by rw [e]; exact List.mem_append_right _ hx)), e⟩
def tabOf (l : List Value) : Obj → Obj
  | .cells _ t frozen => .cells l.toArray t frozen
  | o => o
/-- A world for a witness: the settled one, the two tables of package digest as their initialisers lay them. -/
noncomputable def lawWorld (os : Os) : World :=
  { World.holding Tryd.prog os ⟨#[], #[], []⟩ with heap := ((World.holding Tryd.prog os ⟨#[], #[], []⟩).heap.modify 2 (tabOf (Cr.ints .u32 Cr.roundL))).modify 0 (tabOf (Cr.ints .u32 Cr.firstL)) }
end Go.Proofs.YtobnnhlgdoddgaaDoor
