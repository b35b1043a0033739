/-
  Layer 1 (block): New, Write, Flush.
-/
import Derived.Test.YtobnnhlgdoddgaaDoorBlk
namespace Cr
open Go Go.Proofs
set_option maxRecDepth 100000

/-! ### New -/
def zero64 : List UInt8 := List.replicate 64 0
def newDisk (n : Nat) : DiskM := { off := false, armed := false, left := 0, laid := List.replicate n zero64, line := [], writes := 0, flushes := 0 }
theorem newDisk_ok {n : Nat} (h : 1 ≤ n) (h' : n ≤ 4096) : (newDisk n).ok := by
  refine ⟨fun s hs => ?_, fun x hx => by simp [newDisk] at hx, by simpa [newDisk] using h, by simpa [newDisk] using h', by simp [newDisk], by simp [newDisk]⟩
  simp [newDisk] at hs; rw [hs.2]; simp [zero64]
theorem laidCells_replicate (n : Nat) : laidCells (List.replicate n zero64) = List.replicate (n * 64) (.int .u8 0) := by
  induction n with
  | zero => rfl
  | succ n ih =>
    have e : bv zero64 = List.replicate 64 (.int .u8 0) := by simp [bv, zero64]
    have : laidCells (List.replicate (n + 1) zero64) = bv zero64 ++ laidCells (List.replicate n zero64) := by simp [laidCells, List.replicate_succ]
    rw [this, ih, e, List.replicate_append_replicate]
    congr 1; omega
theorem madeCells_zeros (m n : Nat) : madeCells (List.replicate m (Value.int .u8 0)).toArray n = (List.replicate n (if m = 0 then default else Value.int .u8 0)).toArray := by
  apply Array.ext
  · simp [madeCells]
  · intro i h1 h2
    simp only [madeCells, Array.getElem_map, Array.getElem_range, List.size_toArray, List.length_replicate]
    by_cases hm : m = 0
    · subst hm; simp
    · have : i % m < m := Nat.mod_lt _ (by omega)
      simp [hm, this]
theorem new_bad (n : Int) (W : World) (h : n < 1 ∨ 4096 < n) : Calls Tryd.prog 6 #[.int .i64 n] W (Ret fun v w => v = .tuple #[.pointer none, .int .i64 1] ∧ W = w) := by
  by_cases h1 : n < 1
  · refine calls_C Tryd.func6 rfl Tryd.ntmps6 rfl ?_
    repeat (first | (refine G_id ?_; first | refine G_nil ?_ | refine G_plain rfl rfl ?_ | refine G_no rfl rfl rfl rfl rfl rfl ?_) | (refine X_id ?_; first | refine X_yl (Yl_move rfl rfl) rfl rfl ?_ | refine X_yl (Yl_assign rfl rfl) rfl rfl ?_ | refine X_yl (Yl_pick_t rfl rfl rfl) rfl rfl ?_ | refine X_yl (Yl_lss_t rfl rfl rfl (by omega)) rfl rfl ?_) | (refine C_id ?_; first | refine C_seq ?_ | refine C_region ?_ | refine C_ret ?_ | refine C_cond_t rfl ?_) | (refine E_id ?_; first | refine E_code ?_ | refine E_then_ret ?_ | refine E_ret2 rfl (Rv_tmp rfl) (Rv_tmp rfl) (Ret.mk ?_)))
    exact ⟨rfl, rfl⟩
  · have h2 : 4096 < n := by omega
    refine calls_C Tryd.func6 rfl Tryd.ntmps6 rfl ?_
    repeat (first | (refine G_id ?_; first | refine G_nil ?_ | refine G_plain rfl rfl ?_ | refine G_yes rfl rfl rfl rfl ?_) | (refine X_id ?_; first | refine X_yl (Yl_move rfl rfl) rfl rfl ?_ | refine X_yl (Yl_assign rfl rfl) rfl rfl ?_ | refine X_yl (Yl_pick_f rfl rfl rfl) rfl rfl ?_ | refine X_yl (Yl_lss_f rfl rfl rfl (by omega)) rfl rfl ?_ | refine X_yl (Yl_gtr_t rfl rfl rfl (by omega)) rfl rfl ?_) | (refine C_id ?_; first | refine C_seq ?_ | refine C_region ?_ | refine C_ret ?_ | refine C_cond_t rfl ?_) | (refine E_id ?_; first | refine E_code ?_ | refine E_then_ret ?_ | refine E_ret2 rfl (Rv_tmp rfl) (Rv_tmp rfl) (Ret.mk ?_)))
    exact ⟨rfl, rfl⟩
theorem new_ (n : Nat) (W : World) (h1 : 1 ≤ n) (h2 : n ≤ 4096) : Calls Tryd.prog 6 #[.int .i64 (n : Int)] W (Ret fun v w => ∃ p, v = .tuple #[.pointer (some ⟨p, 0, none⟩), .int .i64 0] ∧ St W noF [disk p (newDisk n)] w) := by
  have hS := St.start W
  refine calls_C Tryd.func6 rfl Tryd.ntmps6 rfl ?_
  repeat (first | (refine G_id ?_; first | refine G_nil ?_ | refine G_plain rfl rfl ?_ | refine G_yes rfl rfl rfl rfl ?_) | (refine X_id ?_; first | refine X_yl (Yl_move rfl rfl) rfl rfl ?_ | refine X_yl (Yl_assign rfl rfl) rfl rfl ?_ | refine X_yl (Yl_pick_f rfl rfl rfl) rfl rfl ?_ | refine X_yl (Yl_lss_f rfl rfl rfl (by omega)) rfl rfl ?_ | refine X_yl (Yl_gtr_f rfl rfl rfl (by omega)) rfl rfl ?_) | (refine C_id ?_; first | refine C_seq ?_ | refine C_region ?_ | refine C_skip ?_ | refine C_cond_f rfl ?_) | (refine E_id ?_; first | refine E_code ?_))
  refine X_make rfl rfl rfl (by omega) (by omega) (by omega) (by omega) rfl rfl hS (fun al w hS _ => ?_)
  repeat (first | (refine G_id ?_; first | refine G_nil ?_ | refine G_plain rfl rfl ?_) | (refine X_id ?_; first | refine X_yl (Yl_assign rfl rfl) rfl rfl ?_ | refine X_yl (Yl_build rfl rfl rfl) rfl rfl ?_ | refine X_box rfl rfl rfl rfl hS (fun _ _ hS _ => ?_)) | (refine C_id ?_; first | refine C_ret ?_) | (refine E_id ?_; first | refine E_code ?_ | refine E_ret2 rfl (Rv_tmp rfl) (Rv_tmp rfl) (Ret.mk ?_)))
  refine ⟨_, rfl, ?_⟩
  have e : madeCells (Value.agg (List.replicate 64 (Value.int .u8 0)).toArray).cells ((n : Int).toNat * 64) = (laidCells (newDisk n).laid).toArray := by
    show madeCells (List.replicate 64 (Value.int .u8 0)).toArray _ = _
    rw [madeCells_zeros, newDisk, laidCells_replicate]; simp
  rw [e] at hS
  have hl : (laidCells (newDisk n).laid).length = n * 64 := by rw [newDisk, laidCells_replicate]; simp
  have hS := ((hS.second (own_of_pts (c := n) (cs := laidCells (newDisk n).laid) hl (by simp only [maxLen]; omega) (by simp))).own_none 101 65 none).sel [false, true, true]
  refine St.shutR (rs' := [_, _, _]) (rs := []) hS fun h hh => ⟨newDisk_ok h1 h2, some ⟨al, 0, none⟩, n, none, 0, by simp [newDisk], by simp [newDisk], ?_⟩
  have el : (newDisk n).laid.length = n := by simp [newDisk]
  rw [el]
  exact hh

/-! ### slices.Clone at bytes -/
theorem clone_ (a : Option Addr) (n c : Nat) (s : List UInt8) (W : World) (hs : Rd W (bytes a s)) (hn : s.length = n) (hlim : n ≤ 1073741824) :
    Calls Tryd.prog 45 #[.slice a n c] W (Ret fun v w => ∃ a' c', v = .slice a' n c' ∧ (a' = none ↔ a = none) ∧ n ≤ c' ∧ St W noF [own 5 1 a' c' (bv s)] w) := by
  have hS := St.start W
  cases a with
  | none =>
    have h0 : bv s = [] := hs.none_nil
    obtain rfl : n = 0 := by rw [← hn, ← bv_length s, h0]; rfl
    refine calls_C Tryd.func45 rfl Tryd.ntmps45 rfl ?_
    repeat (first | (refine G_id ?_; first | refine G_nil ?_ | refine G_plain rfl rfl ?_) | (refine X_id ?_; first | refine X_yl (Yl_move rfl rfl) rfl rfl ?_ | refine X_yl (Yl_assign rfl rfl) rfl rfl ?_ | refine X_yl (Yl_eqlNilSlice rfl rfl rfl) rfl rfl ?_) | (refine C_id ?_; first | refine C_seq ?_ | refine C_region ?_ | refine C_ret ?_ | refine C_cond_t rfl ?_) | (refine E_id ?_; first | refine E_code ?_ | refine E_then_ret ?_ | refine E_ret1 rfl (Rv_tmp rfl) (Ret.mk ?_)))
    refine ⟨none, 0, rfl, by simp, by omega, ?_⟩
    rw [h0]
    exact hS.own_none _ _ _
  | some ad =>
    refine calls_C Tryd.func45 rfl Tryd.ntmps45 rfl ?_
    repeat (first | (refine G_id ?_; first | refine G_nil ?_ | refine G_plain rfl rfl ?_) | (refine X_id ?_; first | refine X_yl (Yl_move rfl rfl) rfl rfl ?_ | refine X_yl (Yl_assign rfl rfl) rfl rfl ?_ | refine X_yl (Yl_eqlNilSlice rfl rfl rfl) rfl rfl ?_ | refine X_buildSlice rfl rfl rfl rfl rfl rfl rfl rfl hS (fun _ _ hS _ => ?_)) | (refine C_id ?_; first | refine C_seq ?_ | refine C_region ?_ | refine C_skip ?_ | refine C_cond_f rfl ?_) | (refine E_id ?_; first | refine E_code ?_))
    rename_i b w hb
    have hs := hs.below hb
    repeat (first | fail)
    refine X_append rfl rfl rfl rfl rfl hS rfl (by omega) hs (by simp [hn]) bv_one (by omega) (by simp only [maxLen]; omega) (fun a' c' w hS hc hnil => ?_)
    repeat (first | (refine G_id ?_; first | refine G_nil ?_ | refine G_plain rfl rfl ?_) | (refine X_id ?_; first | refine X_yl (Yl_assign rfl rfl) rfl rfl ?_) | (refine C_id ?_; first | refine C_ret ?_) | (refine E_id ?_; first | refine E_code ?_ | refine E_ret1 rfl (Rv_tmp rfl) (Ret.mk ?_)))
    refine ⟨a', c', by rw [Nat.zero_add], by rw [hnil]; simp, by omega, hS⟩
end Cr
