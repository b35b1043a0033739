/-
  Layer 4 (wal): big, small, full, front, note.
-/
import Derived.Test.YtobnnhlgdoddgaaDoorMkb
import Derived.Test.YtobnnhlgdoddgaaDoorJoin
namespace Cr
open Go Go.Proofs
set_option maxRecDepth 100000
set_option maxHeartbeats 4000000
attribute [local irreducible] Calls

/-! ### big -/
def bigAt (n : Int) (c i : Nat) : UInt8 := b8 (ishr .u64 (IntKind.u64.wrap n) (8 * (c - 1 - i)))
def bigTo (n : Int) (c : Nat) : Nat → List UInt8
  | 0 => List.replicate c 0
  | i + 1 => (bigTo n c i).set i (bigAt n c i)
theorem bigTo_length (n : Int) (c : Nat) : ∀ i, (bigTo n c i).length = c
  | 0 => by simp [bigTo]
  | i + 1 => by simp [bigTo, bigTo_length n c i]
def bigB (n : Int) (c : Nat) : List UInt8 := bigTo n c c
theorem bigB_length (n : Int) (c : Nat) : (bigB n c).length = c := bigTo_length n c c
attribute [irreducible] bigB
theorem big_ (n : Int) (c : Nat) (W : World) (hc : c ≤ 1048576) :
    Calls Tryd.prog 37 #[.int .i64 n, .int .i64 (c : Nat)] W (Ret fun v w => ∃ p, v = .slice (some ⟨p, 0, none⟩) c c ∧ St W noF [pts p (.cells (bv (bigB n c)).toArray 5)] w) := by
  have hS := St.start W
  refine calls_C Tryd.func37 rfl Tryd.ntmps37 rfl ?_
  repeat (first | (refine G_id ?_; first | refine G_nil ?_ | refine G_plain rfl rfl ?_) | (refine X_id ?_; first | refine X_yl (Yl_move rfl rfl) rfl rfl ?_ | refine X_yl (Yl_assign rfl rfl) rfl rfl ?_ | refine X_yl (Yl_len rfl rfl) rfl rfl ?_ | refine X_makeB rfl rfl rfl (by omega) (by omega) rfl rfl hS (fun _ _ hS => ?_)) | (refine C_id ?_; first | refine C_seq ?_ | refine C_region ?_ | refine C_block ?_) | (refine E_id ?_; first | refine E_code ?_))
  rename_i p w0
  refine C_loop (α := Nat) (fun i => [(0, .int .i64 n), (1, .int .i64 (c : Nat)), (5, .slice (some ⟨p, 0, none⟩) c c), (10, .int .i64 (c : Nat)), (11, .int .i64 (i : Nat))])
    (fun i w => i ≤ c ∧ St W noF [pts p (.cells (bv (bigTo n c i)).toArray 5)] w) (fun i => c - i) 0 ⟨rfl, rfl, rfl, rfl, rfl, trivial⟩ ⟨Nat.zero_le _, hS⟩ ?_
  clear hS
  rintro i w ⟨hi, hS⟩
  obtain ⟨L, hLe⟩ : ∃ L, L = bigTo n c i := ⟨_, rfl⟩
  have hL : L.length = c := by rw [hLe]; exact bigTo_length n c i
  rw [← hLe] at hS
  by_cases hlt : i < c
  · repeat (first | (refine G_id ?_; first | refine G_nil ?_ | refine G_plain rfl rfl ?_) | (refine X_id ?_; first | refine X_yl (Yl_move rfl rfl) rfl rfl ?_ | refine X_yl (Yl_assign rfl rfl) rfl rfl ?_ | refine X_yl (Yl_lss_t rfl rfl rfl (by omega)) rfl rfl ?_ | refine X_yl (Yl_indexAddr rfl rfl rfl (by omega) (by omega) (by first | assumption | exact ⟨_, _, rfl⟩)) rfl rfl ?_ | refine X_yl (Yl_add rfl rfl rfl (w64 (by omega) (by omega))) rfl rfl ?_ | refine X_yl (Yl_sub rfl rfl rfl (w64 (by omega) (by omega))) rfl rfl ?_ | refine X_yl (Yl_mul rfl rfl rfl (w64 (by omega) (by omega))) rfl rfl ?_ | refine X_yl (Yl_convU8 rfl rfl) rfl rfl ?_ | refine X_yl (Yl_convInt rfl rfl rfl) rfl rfl ?_ | refine X_yl (Yl_shr rfl rfl rfl (by omega)) rfl rfl ?_ | refine X_storeBA rfl rfl rfl rfl hS (by omega) (fun _ hS => ?_)) | (refine C_id ?_; first | refine C_seq ?_ | refine C_region ?_ | refine C_block ?_ | refine C_skip ?_ | refine C_cond_t rfl ?_) | (refine E_id ?_; first | refine E_code ?_ | refine E_blk_n ?_))
    refine E_round (i + 1) ⟨rfl, rfl, rfl, rfl, rfl, trivial⟩ ⟨by omega, ?_⟩ (by omega)
    simp only [bigTo, bigAt]
    rw [← hLe]
    rw [show 0 + (i : Int).toNat * 1 = i by omega, show (8 * ((c : Int) - 1 - (i : Int))).toNat = 8 * (c - 1 - i) by omega] at hS
    exact hS
  · obtain rfl : i = c := by omega
    repeat (first | (refine G_id ?_; first | refine G_nil ?_ | refine G_plain rfl rfl ?_) | (refine X_id ?_; first | refine X_yl (Yl_move rfl rfl) rfl rfl ?_ | refine X_yl (Yl_assign rfl rfl) rfl rfl ?_ | refine X_yl (Yl_lss_f rfl rfl rfl (by omega)) rfl rfl ?_) | (refine C_id ?_; first | refine C_seq ?_ | refine C_region ?_ | refine C_ret ?_ | refine C_exit ?_ | refine C_cond_f rfl ?_) | (refine E_id ?_; first | refine E_code ?_ | refine E_then_exit ?_ | refine E_blk_same ?_ | refine E_ret1 rfl (Rv_tmp rfl) (Ret.mk ?_)))
    refine ⟨p, rfl, ?_⟩
    unfold bigB
    rw [← hLe]
    exact hS

/-! ### small -/
def smallTo (s : List UInt8) : Nat → Int
  | 0 => 0
  | i + 1 => ior .i64 (ishl .i64 (smallTo s i) 8) ((s.getD i 0).toNat : Int)
def smallN (s : List UInt8) : Int := smallTo s s.length
theorem small_ (a : Option Addr) (c : Nat) (s : List UInt8) (W : World) (hs : Rd W (bytes a s)) (hl : s.length ≤ 1048576) :
    Calls Tryd.prog 50 #[.slice a s.length c] W (Ret fun v w => v = .int .i64 (smallN s) ∧ W = w) := by
  have hS := St.start W
  have hso := hs.ro
  refine calls_C Tryd.func50 rfl Tryd.ntmps50 rfl ?_
  repeat (first | (refine G_id ?_; first | refine G_nil ?_ | refine G_plain rfl rfl ?_) | (refine X_id ?_; first | refine X_yl (Yl_move rfl rfl) rfl rfl ?_ | refine X_yl (Yl_assign rfl rfl) rfl rfl ?_ | refine X_yl (Yl_len rfl rfl) rfl rfl ?_) | (refine C_id ?_; first | refine C_seq ?_ | refine C_region ?_ | refine C_block ?_) | (refine E_id ?_; first | refine E_code ?_))
  refine C_loop (α := Nat) (fun i => [(3, .int .i64 (smallTo s i)), (6, .slice a s.length c), (7, .int .i64 (s.length : Nat)), (8, .int .i64 (i : Nat))])
    (fun i w => i ≤ s.length ∧ w = W) (fun i => s.length - i) 0 ⟨rfl, rfl, rfl, rfl, trivial⟩ ⟨Nat.zero_le _, rfl⟩ ?_
  rintro i w ⟨hi, rfl⟩
  by_cases hlt : i < s.length
  · obtain ⟨xb, xo, rfl⟩ := hs.base (by intro e; have := bv_length s; rw [e] at this; simp at this; omega)
    have hb : Ro w noF (bytes (some ⟨xb, xo, none⟩) s) := hso
    have h256 := UInt8.toNat_lt (s.getD ((i : Int).toNat * 1) 0)
    repeat (first | (refine G_id ?_; first | refine G_nil ?_ | refine G_plain rfl rfl ?_) | (refine X_id ?_; first | refine X_yl (Yl_move rfl rfl) rfl rfl ?_ | refine X_yl (Yl_assign rfl rfl) rfl rfl ?_ | refine X_yl (Yl_lss_t rfl rfl rfl (by omega)) rfl rfl ?_ | refine X_yl (Yl_indexAddr rfl rfl rfl (by omega) (by omega) (by first | assumption | exact ⟨_, _, rfl⟩)) rfl rfl ?_ | refine X_yl (Yl_add rfl rfl rfl (w64 (by omega) (by omega))) rfl rfl ?_ | refine X_yl (Yl_convInt rfl rfl (w64 (by omega) (by omega))) rfl rfl ?_ | refine X_yl (Yl_or rfl rfl rfl) rfl rfl ?_ | refine X_yl (Yl_shl rfl rfl rfl (by omega)) rfl rfl ?_ | refine X_yl (Yl_load rfl rfl ((hb.rd hS).cellB' (by omega))) rfl rfl ?_) | (refine C_id ?_; first | refine C_seq ?_ | refine C_region ?_ | refine C_block ?_ | refine C_skip ?_ | refine C_cond_t rfl ?_) | (refine E_id ?_; first | refine E_code ?_ | refine E_blk_n ?_))
    refine E_round (i + 1) ⟨?_, rfl, rfl, rfl, trivial⟩ ⟨by omega, rfl⟩ (by omega)
    show some _ = some _
    simp only [smallTo]
    rw [show (i : Int).toNat * 1 = i by omega]
    rfl
  · obtain rfl : i = s.length := by omega
    repeat (first | (refine G_id ?_; first | refine G_nil ?_ | refine G_plain rfl rfl ?_) | (refine X_id ?_; first | refine X_yl (Yl_move rfl rfl) rfl rfl ?_ | refine X_yl (Yl_assign rfl rfl) rfl rfl ?_ | refine X_yl (Yl_lss_f rfl rfl rfl (by omega)) rfl rfl ?_) | (refine C_id ?_; first | refine C_seq ?_ | refine C_region ?_ | refine C_ret ?_ | refine C_exit ?_ | refine C_cond_f rfl ?_) | (refine E_id ?_; first | refine E_code ?_ | refine E_then_exit ?_ | refine E_blk_same ?_ | refine E_ret1 rfl (Rv_tmp rfl) (Ret.mk ?_)))
    exact ⟨rfl, rfl⟩
end Cr
