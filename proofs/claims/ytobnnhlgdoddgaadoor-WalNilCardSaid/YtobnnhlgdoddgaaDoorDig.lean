/-
  Layer 2 (digest): what each function of package digest computes.
-/
import Derived.Test.YtobnnhlgdoddgaaDoorFacts
import Derived.Test.YtobnnhlgdoddgaaDoorBit
namespace Cr
open Go Go.Proofs
set_option maxRecDepth 100000
set_option maxHeartbeats 4000000

def spin (x : Int) (n : Nat) : Int := ior .u32 (ishr .u32 x n) (ishl .u32 x (32 - n))
theorem spin_ (x : Int) (n : Nat) (W : World) (h : n ≤ 32) : Calls Tryd.prog 88 #[.int .u32 x, .int .i64 n] W (Ret fun v w => v = .int .u32 (spin x n) ∧ St W noF [] w) := by
  have hS := St.start W
  refine calls_C Tryd.func88 rfl Tryd.ntmps88 rfl ?_
  repeat (first | (refine G_id ?_; first | refine G_nil ?_ | refine G_plain rfl rfl ?_) | (refine X_id ?_; first | refine X_yl (Yl_assign rfl rfl) rfl rfl ?_) | (refine C_id ?_; first | refine C_seq ?_ | refine C_region ?_) | (refine E_id ?_; first | refine E_code ?_))
  refine C_ord [(0, true), (1, true), (2, true), (3, true), (4, true), (5, true), (6, true), (7, true), (8, true)] mixed (by kernel_rfl) rfl ?_
  have hS := hS.drew
  repeat (first | (refine C_id ?_; first | refine C_ret ?_) | (refine E_id ?_; first | refine E_code ?_ | refine E_ret1 rfl (Rv_tmp rfl) (Ret.mk ?_)) | (refine GO_id ?_; first | refine GO_nil ?_ | refine GO_pure rfl rfl (fun _ => Yl_move rfl rfl) rfl rfl ?_ | refine GO_pure rfl rfl (fun _ => Yl_assign rfl rfl) rfl rfl ?_ | refine GO_pure rfl rfl (fun _ => Yl_sub rfl rfl rfl (w64 (by omega) (by omega))) rfl rfl ?_ | refine GO_pure rfl rfl (fun _ => Yl_or rfl rfl rfl) rfl rfl ?_ | refine GO_pure rfl rfl (fun _ => Yl_shr rfl rfl rfl (by omega)) rfl rfl ?_ | refine GO_pure rfl rfl (fun _ => Yl_shl rfl rfl rfl (by omega)) rfl rfl ?_))
  refine ⟨?_, hS⟩
  unfold spin
  congr 3
  omega
theorem at_ (k i : Int) (b bi : Nat) (W : World) (hk : 0 ≤ k) (hk' : k < 8) (hi : 0 ≤ i) (hi' : i < 64) (hbi : Ro W noF (pts bi (.cells #[.int .i64 i] 3))) :
    Calls Tryd.prog 87 #[.int .i64 k, .pointer (some ⟨b, 0, none⟩), .pointer (some ⟨bi, 0, none⟩)] W (Ret fun v w => v = .pointer (some ⟨b, ((k - i) % 8).toNat, none⟩) ∧ W = w) := by
  have hS := St.start W
  have hbi := (hbi.rd hS).pts
  refine calls_C Tryd.func87 rfl Tryd.ntmps87 rfl ?_
  repeat (first | (refine G_id ?_; first | refine G_nil ?_ | refine G_plain rfl rfl ?_) | (refine X_id ?_; first | refine X_yl (Yl_move rfl rfl) rfl rfl ?_ | refine X_yl (Yl_assign rfl rfl) rfl rfl ?_ | refine X_yl (Yl_sub rfl rfl rfl (w64 (by omega) (by omega))) rfl rfl ?_ | refine X_yl (Yl_and rfl rfl rfl) rfl rfl ?_ | refine X_yl (Yl_load rfl rfl (cell_at (by assumption))) rfl rfl ?_) | (refine C_id ?_; first | refine C_seq ?_ | refine C_region ?_) | (refine E_id ?_; first | refine E_code ?_))
  rw [iand_7]
  repeat (first | (refine G_id ?_; first | refine G_nil ?_ | refine G_plain rfl rfl ?_) | (refine X_id ?_; first | refine X_yl (Yl_assign rfl rfl) rfl rfl ?_ | refine X_yl (Yl_indexAddr_arr rfl rfl rfl (by omega) (by omega)) rfl rfl ?_) | (refine C_id ?_; first | refine C_ret ?_) | (refine E_id ?_; first | refine E_code ?_ | refine E_ret1 rfl (Rv_tmp rfl) (Ret.mk ?_)))
  exact ⟨by simp, rfl⟩

/-! ### spread -/
def u32 (x : Int) : Int := IntKind.u32.wrap x
def byteAt (b : List UInt8) (i : Nat) : Int := u32 (b.getD i 0).toNat
def word (b : List UInt8) (i : Nat) : Int := ior .u32 (ior .u32 (ior .u32 (ishl .u32 (byteAt b (4 * i)) 24) (ishl .u32 (byteAt b (4 * i + 1)) 16)) (ishl .u32 (byteAt b (4 * i + 2)) 8)) (byteAt b (4 * i + 3))
def sig (a : Int) (p q r : Nat) : Int := ixor .u32 (ixor .u32 (spin a p) (spin a q)) (ishr .u32 a r)
def later (L : List Int) (i : Nat) : Int := u32 (u32 (u32 (L.getD (i - 16) 0 + sig (L.getD (i - 15) 0) 7 18 3) + L.getD (i - 7) 0) + sig (L.getD (i - 2) 0) 17 19 10)
def spreadTo (b : List UInt8) : Nat → List Int
  | 0 => List.replicate 64 0
  | i + 1 => (spreadTo b i).set i (if i < 16 then word b i else later (spreadTo b i) i)
theorem spreadTo_length (b : List UInt8) : ∀ i, (spreadTo b i).length = 64
  | 0 => by simp [spreadTo]
  | i + 1 => by simp [spreadTo, spreadTo_length b i]
theorem spread_ (a : Option Addr) (c : Nat) (b : List UInt8) (W : World) (hb : Rd W (bytes a b)) (h64 : b.length = 64) (hc : 64 ≤ c) :
    Calls Tryd.prog 86 #[.slice a 64 c] W (Ret fun v w => v = .agg (ints .u32 (spreadTo b 64)).toArray ∧ St W noF [] w) := by
  have hS := St.start W
  have hbo := hb.ro
  obtain ⟨ab, ao, rfl⟩ := hb.base (by intro e; have := bv_length b; rw [e] at this; simp at this; omega)
  refine calls_C Tryd.func86 rfl Tryd.ntmps86 rfl ?_
  repeat (first | (refine G_id ?_; first | refine G_nil ?_ | refine G_plain rfl rfl ?_) | (refine X_id ?_; first | refine X_yl (Yl_move rfl rfl) rfl rfl ?_ | refine X_alloc rfl rfl rfl hS (fun _ _ hS _ => ?_)) | (refine C_id ?_; first | refine C_seq ?_ | refine C_region ?_ | refine C_block ?_) | (refine E_id ?_; first | refine E_code ?_))
  rename_i b2 _ _ _ b3 _ _
  rw [ints_rep] at hS
  refine C_loop (α := Nat) (fun i => [(0, .slice (some ⟨ab, ao, none⟩) 64 c), (2, .pointer (some ⟨b2, 0, none⟩)), (3, .pointer (some ⟨b3, 0, none⟩)), (8, .int .i64 (i : Nat))])
    (fun i w => i ≤ 64 ∧ St W noF [pts b3 (.cells (ints .u32 (spreadTo b i)).toArray 144), pts b2 (.cells (List.replicate 64 (.int .u32 0)).toArray 144)] w) (fun i => 64 - i) 0 ⟨rfl, rfl, rfl, rfl, trivial⟩ ⟨Nat.zero_le _, hS⟩ ?_
  clear hS
  rintro i w ⟨hi, hS⟩
  obtain ⟨L, hLe⟩ : ∃ L, L = spreadTo b i := ⟨_, rfl⟩
  have hL : L.length = 64 := by rw [hLe]; exact spreadTo_length b i
  rw [← hLe] at hS
  by_cases h16 : i < 16
  · repeat (first | (refine G_id ?_; first | refine G_nil ?_ | refine G_plain rfl rfl ?_) | (refine X_id ?_; first | refine X_yl (Yl_move rfl rfl) rfl rfl ?_ | refine X_yl (Yl_assign rfl rfl) rfl rfl ?_ | refine X_yl (Yl_lss_t rfl rfl rfl (by omega)) rfl rfl ?_ | refine X_yl (Yl_add rfl rfl rfl (w64 (by omega) (by omega))) rfl rfl ?_ | refine X_yl (Yl_mul rfl rfl rfl (w64 (by omega) (by omega))) rfl rfl ?_) | (refine C_id ?_; first | refine C_seq ?_ | refine C_region ?_ | refine C_block ?_ | refine C_skip ?_ | refine C_cond_t rfl ?_) | (refine E_id ?_; first | refine E_code ?_))
    refine X_yl (Yl_slice (l := 4 * i) (h := 4 * i + 4) rfl rfl rfl rfl (.inr ⟨_, _, rfl, by omega, by omega, by omega⟩) (.inr ⟨_, _, rfl, by omega, by omega, by omega⟩)) rfl rfl ?_
    rw [show sub (some ⟨ab, ao, none⟩) (4 * i) 1 c = some ⟨ab, ao + 4 * i, none⟩ by unfold sub; rw [if_neg (by omega)]; simp [add_lit], show 4 * i + 4 - 4 * i = 4 by omega]
    repeat (first | (refine G_id ?_; first | refine G_nil ?_ | refine G_plain rfl rfl ?_) | (refine X_id ?_; first | refine X_yl (Yl_assign rfl rfl) rfl rfl ?_) | (refine C_id ?_; first | refine C_seq ?_) | (refine E_id ?_; first | refine E_code ?_))
    refine C_ord [(0, true), (1, true), (2, true), (3, true), (4, true), (5, true), (6, true), (7, true), (8, true), (9, true), (10, true), (11, true), (12, true), (13, true), (14, true), (15, true), (16, true), (17, true), (18, true), (19, true), (20, true), (21, true), (22, true), (23, true), (24, false)] mixed (by kernel_rfl) rfl ?_
    have hS := hS.drew
    have hcell : ∀ j, j < 4 → _root_.Go.World.cell? _ ⟨ab, ao + 4 * i + j, none⟩ = some (.int .u8 ((b.getD (4 * i + j) 0).toNat : Nat)) := fun j hj => by
      have := (hbo.rd hS).cell (i := 4 * i + j) (v := .int .u8 ((b.getD (4 * i + j) 0).toNat : Nat)) (by simp [bv, List.getD_eq_getElem?_getD, show 4 * i + j < b.length by omega])
      simpa [adr, Nat.add_assoc] using this
    have q0 := hcell 0 (by omega)
    have q1 := hcell 1 (by omega)
    have q2 := hcell 2 (by omega)
    have q3 := hcell 3 (by omega)
    repeat (first | (refine G_id ?_; first | refine G_nil ?_ | refine G_plain rfl rfl ?_) | (refine X_id ?_; first | refine X_yl (Yl_move rfl rfl) rfl rfl ?_ | refine X_yl (Yl_add rfl rfl rfl (w64 (by omega) (by omega))) rfl rfl ?_ | refine X_storeI rfl rfl rfl rfl hS (by omega) (fun _ hS => ?_)) | (refine C_id ?_; first | refine C_region ?_ | refine C_exit ?_) | (refine E_id ?_; first | refine E_code ?_ | refine E_then_exit ?_ | refine E_blk_same ?_) | (refine GO_id ?_; first | refine GO_nil ?_ | refine GO_pure rfl rfl (fun _ => Yl_move rfl rfl) rfl rfl ?_ | refine GO_pure rfl rfl (fun _ => Yl_indexAddr_arr rfl rfl rfl (by omega) (by omega)) rfl rfl ?_ | refine GO_pure rfl rfl (fun _ => Yl_indexAddr rfl rfl rfl (by omega) (by omega) (by first | assumption | exact ⟨_, _, rfl⟩)) rfl rfl ?_ | refine GO_pure rfl rfl (fun _ => Yl_convInt rfl rfl rfl) rfl rfl ?_ | refine GO_pure rfl rfl (fun _ => Yl_or rfl rfl rfl) rfl rfl ?_ | refine GO_pure rfl rfl (fun _ => Yl_shl rfl rfl rfl (by omega)) rfl rfl ?_ | refine GO_read (fun w' => w'.cell? _ = some _) rfl rfl (by assumption) (fun _ hc => Yl_load rfl rfl hc) rfl rfl ?_ | refine GO_hard rfl rfl ?_) | (refine Keep_id ?_; first | refine And.intro (by repeat (first | exact trivial | refine And.intro (.inl (by decide +kernel)) ?_ | refine And.intro (.inr (by first | assumption | exact hS.cell | exact cell_at (by assumption) | exact hS.cellI (by omega) | exact hS.cellIP (by omega) | exact hS.cellsN | exact ((hr.rd hS).cellX (by omega) hx) | exact ((hr2.rd hS).cellX (by omega) hx2) | exact hS.cellB (by omega) | exact hS.cellBA (by omega) | exact (hb.rd hS).cellB' (by omega) | exact (hb2.rd hS).cellB' (by omega) | exact (hg.rd hS).cellI (by omega) | exact (hg2.rd hS).cellI (by omega) | exact ((hr.rd hS).cellF (by first | omega | (dsimp only; omega)) hx) | exact ((hr2.rd hS).cellF (by first | omega | (dsimp only; omega)) hx2))) ?_)) ?_))
    refine E_round (i + 1) ⟨rfl, rfl, rfl, rfl, trivial⟩ ⟨by omega, ?_⟩ (by omega)
    rw [show 0 + (i : Int).toNat * 1 = i by omega, hLe] at hS
    simp only [spreadTo, if_pos h16]
    exact hS
  · by_cases h64 : i < 64
    · repeat (first | (refine G_id ?_; first | refine G_nil ?_ | refine G_plain rfl rfl ?_) | (refine X_id ?_; first | refine X_yl (Yl_move rfl rfl) rfl rfl ?_ | refine X_yl (Yl_assign rfl rfl) rfl rfl ?_ | refine X_yl (Yl_lss_t rfl rfl rfl (by omega)) rfl rfl ?_ | refine X_yl (Yl_lss_f rfl rfl rfl (by omega)) rfl rfl ?_) | (refine C_id ?_; first | refine C_seq ?_ | refine C_region ?_ | refine C_block ?_ | refine C_skip ?_ | refine C_cond_t rfl ?_ | refine C_cond_f rfl ?_) | (refine E_id ?_; first | refine E_code ?_))
      refine C_ord [(0, true), (1, true), (2, true), (3, true), (4, true), (5, true), (6, true), (7, true), (8, true), (9, true)] mixed (by kernel_rfl) rfl ?_
      have hS := hS.drew
      repeat (first | (refine E_id ?_; first | refine E_code ?_) | (refine GO_id ?_; first | refine GO_nil ?_ | refine GO_pure rfl rfl (fun _ => Yl_move rfl rfl) rfl rfl ?_ | refine GO_pure rfl rfl (fun _ => Yl_assign rfl rfl) rfl rfl ?_ | refine GO_pure rfl rfl (fun _ => Yl_indexAddr_arr rfl rfl rfl (by omega) (by omega)) rfl rfl ?_ | refine GO_pure rfl rfl (fun _ => Yl_sub rfl rfl rfl (w64 (by omega) (by omega))) rfl rfl ?_ | refine GO_read (fun w' => w'.cell? _ = some _) rfl rfl (hS.cellI (by omega)) (fun _ hc => Yl_load rfl rfl hc) rfl rfl ?_))
      refine C_ord [(0, true), (1, true), (2, true), (3, true), (4, true), (5, true), (7, true), (10, true), (11, true), (14, true), (15, true), (16, true), (17, true), (19, true), (21, true), (24, true), (25, true), (6, false), (8, false), (9, true), (12, true), (13, true), (18, true), (20, false), (22, false), (23, true), (26, true), (27, true), (28, true), (29, false)] mixed (by kernel_rfl) rfl ?_
      have hS := hS.drew
      repeat (first | (refine G_id ?_; first | refine G_nil ?_ | refine G_plain rfl rfl ?_) | (refine X_id ?_; first | (refine X_callq 88 rfl rfl rfl rfl rfl hS (spin_ _ _ _ (by decide)) ?_; rintro _ _ rfl hS) | refine X_yl (Yl_move rfl rfl) rfl rfl ?_ | refine X_yl (Yl_add rfl rfl rfl (w64 (by omega) (by omega))) rfl rfl ?_ | refine X_storeI rfl rfl rfl rfl hS (by omega) (fun _ hS => ?_)) | (refine C_id ?_; first | refine C_region ?_) | (refine E_id ?_; first | refine E_code ?_ | refine E_blk_n ?_) | (refine GO_id ?_; first | refine GO_nil ?_ | refine GO_pure rfl rfl (fun _ => Yl_move rfl rfl) rfl rfl ?_ | refine GO_pure rfl rfl (fun _ => Yl_indexAddr_arr rfl rfl rfl (by omega) (by omega)) rfl rfl ?_ | refine GO_pure rfl rfl (fun _ => Yl_sub rfl rfl rfl (w64 (by omega) (by omega))) rfl rfl ?_ | refine GO_pure rfl rfl (fun _ => Yl_add rfl rfl rfl rfl) rfl rfl ?_ | refine GO_pure rfl rfl (fun _ => Yl_xor rfl rfl rfl) rfl rfl ?_ | refine GO_pure rfl rfl (fun _ => Yl_shr rfl rfl rfl (by omega)) rfl rfl ?_ | refine GO_read (fun w' => w'.cell? _ = some _) rfl rfl (hS.cellI (by omega)) (fun _ hc => Yl_load rfl rfl hc) rfl rfl ?_ | refine GO_hard rfl rfl ?_) | (refine Keep_id ?_; first | refine And.intro (by repeat (first | exact trivial | refine And.intro (.inl (by decide +kernel)) ?_ | refine And.intro (.inr (by first | assumption | exact hS.cell | exact cell_at (by assumption) | exact hS.cellI (by omega) | exact hS.cellIP (by omega) | exact hS.cellsN | exact ((hr.rd hS).cellX (by omega) hx) | exact ((hr2.rd hS).cellX (by omega) hx2) | exact hS.cellB (by omega) | exact hS.cellBA (by omega) | exact (hb.rd hS).cellB' (by omega) | exact (hb2.rd hS).cellB' (by omega) | exact (hg.rd hS).cellI (by omega) | exact (hg2.rd hS).cellI (by omega) | exact ((hr.rd hS).cellF (by first | omega | (dsimp only; omega)) hx) | exact ((hr2.rd hS).cellF (by first | omega | (dsimp only; omega)) hx2))) ?_)) ?_))
      refine E_round (i + 1) ⟨rfl, rfl, rfl, rfl, trivial⟩ ⟨by omega, ?_⟩ (by omega)
      rw [show 0 + (i : Int).toNat * 1 = i by omega, show 0 + ((i : Int) - 16).toNat * 1 = i - 16 by omega, show 0 + ((i : Int) - 15).toNat * 1 = i - 15 by omega, show 0 + ((i : Int) - 7).toNat * 1 = i - 7 by omega, show 0 + ((i : Int) - 2).toNat * 1 = i - 2 by omega, hLe] at hS
      simp only [spreadTo, if_neg h16]
      exact hS
    · obtain rfl : i = 64 := by omega
      have hlen : LenIs (ints .u32 L) 64 := ⟨by rw [ints_length]; exact hL⟩
      repeat (first | (refine G_id ?_; first | refine G_nil ?_ | refine G_plain rfl rfl ?_) | (refine X_id ?_; first | refine X_yl (Yl_lss_f rfl rfl rfl (by omega)) rfl rfl ?_ | refine X_yl (Yl_loadN rfl rfl hS.cellsN) rfl rfl ?_ | refine X_store rfl rfl rfl rfl hS (fun _ hS _ => ?_)) | (refine C_id ?_; first | refine C_seq ?_ | refine C_region ?_ | refine C_ret ?_ | refine C_exit ?_ | refine C_cond_f rfl ?_) | (refine E_id ?_; first | refine E_code ?_ | refine E_then_exit ?_ | refine E_blk_same ?_ | refine E_ret1 rfl (by first | exact Rv_tmp rfl | exact Rv_cell rfl (run_load1 hS.cell) | exact Rv_cell rfl (run_loadN hS.cellsN)) (Ret.mk ?_)))
      exact ⟨by rw [hLe], hS.drops⟩
end Cr
