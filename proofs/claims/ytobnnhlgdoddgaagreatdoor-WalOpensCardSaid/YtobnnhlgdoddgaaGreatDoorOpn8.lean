/-
  The laws' helper Same: are bytes the same?
  The document's answers: a head's number.
  The document's answers: notes, a transaction's digest.
  The document's answers: a transaction's digest.
  Layer 4 (wal): clear; Once.Do.
  Arrays of bytes compared. Over any program.
  Layer 4 (wal): found.
  The document's answers: the transaction that a journal has whole.
-/
import Derived.Test.YtobnnhlgdoddgaaGreatDoorOpn5
import Derived.Test.YtobnnhlgdoddgaaGreatDoorOpn7
import Derived.Test.YtobnnhlgdoddgaaGreatDoorOpn6
import Derived.Test.YtobnnhlgdoddgaaGreatDoorOpn3
import Derived.Laws.StructEq
namespace Cr
open Go Go.Proofs
set_option maxRecDepth 100000
set_option maxHeartbeats 8000000
attribute [local irreducible] Calls

theorem same_ (a b : Option Addr) (c c' : Nat) (s t : List UInt8) (W : World) (ha : Rd W (bytes a s)) (hb : Rd W (bytes b t)) (hs : s.length ≤ 1099511627776) :
    Calls Tryz.prog 13 #[.slice a s.length c, .slice b t.length c'] W (Ret fun v w => v = .bool (decide (s = t)) ∧ St W noF [] w) := by
  have hS := St.start W
  by_cases hl : s.length = t.length
  · refine calls_C Tryz.func13 rfl Tryz.ntmps13 rfl ?_
    repeat (first | (refine G_id ?_; first | refine G_nil ?_ | refine G_plain rfl rfl ?_) | (refine X_id ?_; first | refine X_yl (Yl_move rfl rfl) rfl rfl ?_ | refine X_yl (Yl_assign rfl rfl) rfl rfl ?_ | refine X_yl (Yl_len rfl rfl) rfl rfl ?_ | refine X_yl (Yl_neq_f rfl rfl rfl (by omega)) rfl rfl ?_) | (refine C_id ?_; first | refine C_seq ?_ | refine C_region ?_ | refine C_block ?_ | refine C_skip ?_ | refine C_cond_f rfl ?_) | (refine E_id ?_; first | refine E_code ?_))
    refine C_loop (α := Nat) (fun i => [(0, .slice a s.length c), (1, .slice b t.length c'), (5, .int .i64 (i : Nat))])
      (fun i w => i ≤ s.length ∧ s.take i = t.take i ∧ St W noF [] w) (fun i => s.length - i) 0 ⟨rfl, rfl, rfl, trivial⟩ ⟨Nat.zero_le _, rfl, hS⟩ ?_
    clear hS
    rintro i w ⟨hi, htk, hS⟩
    by_cases hlt : i < s.length
    · obtain ⟨ab, ao, rfl⟩ := ha.base (by intro e; have := bv_length s; rw [e] at this; simp at this; omega)
      obtain ⟨bb, bo, rfl⟩ := hb.base (by intro e; have := bv_length t; rw [e] at this; simp at this; omega)
      have h1 := ha.ro
      have h2 := hb.ro
      clear ha hb
      have hb := h1
      have hb2 := h2
      have hlt2 : i < t.length := by omega
      have ei : (i : Int).toNat * 1 = i := by omega
      by_cases he : s.getD i 0 = t.getD i 0
      · have hq : ((s.getD ((i : Int).toNat * 1) 0).toNat : Int) = ((t.getD ((i : Int).toNat * 1) 0).toNat : Int) := by rw [ei, he]
        repeat (first | (refine G_id ?_; first | refine G_nil ?_ | refine G_plain rfl rfl ?_) | (refine X_id ?_; first | refine X_yl (Yl_move rfl rfl) rfl rfl ?_ | refine X_yl (Yl_len rfl rfl) rfl rfl ?_ | refine X_yl (Yl_lss_t rfl rfl rfl (by omega)) rfl rfl ?_) | (refine C_id ?_; first | refine C_seq ?_ | refine C_region ?_ | refine C_block ?_ | refine C_skip ?_ | refine C_cond_t rfl ?_) | (refine E_id ?_; first | refine E_code ?_))
        refine C_ord (.s 0 (.s 1 (.s 2 (.s 3 (.s 4 (.s 5 (.s 6 (.s 7 (.s 8 .nil))))))))) mixed (by kernel_rfl) rfl ?_
        have hS := hS.drew
        repeat (first | (refine G_id ?_; first | refine G_nil ?_ | refine G_plain rfl rfl ?_) | (refine X_id ?_; first | refine X_yl (Yl_move rfl rfl) rfl rfl ?_ | refine X_yl (Yl_assign rfl rfl) rfl rfl ?_ | refine X_yl (Yl_add rfl rfl rfl (w64 (by omega) (by omega))) rfl rfl ?_) | (refine C_id ?_; first | refine C_region ?_ | refine C_skip ?_ | refine C_cond_f rfl ?_) | (refine E_id ?_; first | refine E_code ?_ | refine E_blk_n ?_) | (refine GO_id ?_; first | refine GO_nil ?_ | refine GO_pure rfl rfl (fun _ => Yl_move rfl rfl) rfl rfl ?_ | refine GO_pure rfl rfl (fun _ => Yl_neq_f rfl rfl rfl (by omega)) rfl rfl ?_ | refine GO_pure rfl rfl (fun _ => Yl_indexAddr rfl rfl rfl (by omega) (by omega) (by first | assumption | exact ⟨_, _, rfl⟩)) rfl rfl ?_ | refine GO_read (fun w' => w'.cell? _ = some _) rfl rfl ((hb.rd hS).cellB' (by omega)) (fun _ hc => Yl_load rfl rfl hc) rfl rfl ?_ | refine GO_read (fun w' => w'.cell? _ = some _) rfl rfl ((hb2.rd hS).cellB' (by omega)) (fun _ hc => Yl_load rfl rfl hc) rfl rfl ?_))
        refine E_round (i + 1) ⟨rfl, rfl, rfl, trivial⟩ ⟨by omega, ?_, hS⟩ (by omega)
        rw [List.take_succ_eq_append_getElem hlt, List.take_succ_eq_append_getElem hlt2, htk]
        rw [List.getD_eq_getElem?_getD, List.getD_eq_getElem?_getD, List.getElem?_eq_getElem hlt, List.getElem?_eq_getElem hlt2] at he
        simp only [Option.getD_some] at he
        rw [he]
      · have hq : ¬ ((s.getD ((i : Int).toNat * 1) 0).toNat : Int) = ((t.getD ((i : Int).toNat * 1) 0).toNat : Int) := by
          rw [ei]; intro h; exact he (UInt8.toNat_inj.1 (by omega))
        repeat (first | (refine G_id ?_; first | refine G_nil ?_ | refine G_plain rfl rfl ?_) | (refine X_id ?_; first | refine X_yl (Yl_move rfl rfl) rfl rfl ?_ | refine X_yl (Yl_len rfl rfl) rfl rfl ?_ | refine X_yl (Yl_lss_t rfl rfl rfl (by omega)) rfl rfl ?_) | (refine C_id ?_; first | refine C_seq ?_ | refine C_region ?_ | refine C_block ?_ | refine C_skip ?_ | refine C_cond_t rfl ?_) | (refine E_id ?_; first | refine E_code ?_))
        refine C_ord (.s 0 (.s 1 (.s 2 (.s 3 (.s 4 (.s 5 (.s 6 (.s 7 (.s 8 .nil))))))))) mixed (by kernel_rfl) rfl ?_
        have hS := hS.drew
        repeat (first | (refine G_id ?_; first | refine G_nil ?_ | refine G_plain rfl rfl ?_) | (refine X_id ?_; first | refine X_yl (Yl_assign rfl rfl) rfl rfl ?_) | (refine C_id ?_; first | refine C_seq ?_ | refine C_region ?_ | refine C_ret ?_ | refine C_cond_t rfl ?_) | (refine E_id ?_; first | refine E_code ?_ | refine E_then_ret ?_ | refine E_blk_ret ?_ | refine E_ret1 rfl (Rv_tmp rfl) (Ret.mk ?_)) | (refine GO_id ?_; first | refine GO_nil ?_ | refine GO_pure rfl rfl (fun _ => Yl_move rfl rfl) rfl rfl ?_ | refine GO_pure rfl rfl (fun _ => Yl_neq_t rfl rfl rfl (by omega)) rfl rfl ?_ | refine GO_pure rfl rfl (fun _ => Yl_indexAddr rfl rfl rfl (by omega) (by omega) (by first | assumption | exact ⟨_, _, rfl⟩)) rfl rfl ?_ | refine GO_read (fun w' => w'.cell? _ = some _) rfl rfl ((hb.rd hS).cellB' (by omega)) (fun _ hc => Yl_load rfl rfl hc) rfl rfl ?_ | refine GO_read (fun w' => w'.cell? _ = some _) rfl rfl ((hb2.rd hS).cellB' (by omega)) (fun _ hc => Yl_load rfl rfl hc) rfl rfl ?_))
        refine ⟨?_, hS⟩
        rw [decide_eq_false (fun h => he (by rw [h]))]
    · obtain rfl : i = s.length := by omega
      repeat (first | (refine G_id ?_; first | refine G_nil ?_ | refine G_plain rfl rfl ?_) | (refine X_id ?_; first | refine X_yl (Yl_move rfl rfl) rfl rfl ?_ | refine X_yl (Yl_assign rfl rfl) rfl rfl ?_ | refine X_yl (Yl_len rfl rfl) rfl rfl ?_ | refine X_yl (Yl_lss_f rfl rfl rfl (by omega)) rfl rfl ?_) | (refine C_id ?_; first | refine C_seq ?_ | refine C_region ?_ | refine C_ret ?_ | refine C_exit ?_ | refine C_cond_f rfl ?_) | (refine E_id ?_; first | refine E_code ?_ | refine E_then_exit ?_ | refine E_blk_same ?_ | refine E_ret1 rfl (Rv_tmp rfl) (Ret.mk ?_)))
      refine ⟨?_, hS⟩
      rw [List.take_length, hl, List.take_length] at htk
      simp [htk]
  · refine calls_C Tryz.func13 rfl Tryz.ntmps13 rfl ?_
    repeat (first | (refine G_id ?_; first | refine G_nil ?_ | refine G_plain rfl rfl ?_) | (refine X_id ?_; first | refine X_yl (Yl_move rfl rfl) rfl rfl ?_ | refine X_yl (Yl_assign rfl rfl) rfl rfl ?_ | refine X_yl (Yl_len rfl rfl) rfl rfl ?_ | refine X_yl (Yl_neq_t rfl rfl rfl (by omega)) rfl rfl ?_) | (refine C_id ?_; first | refine C_seq ?_ | refine C_region ?_ | refine C_ret ?_ | refine C_cond_t rfl ?_) | (refine E_id ?_; first | refine E_code ?_ | refine E_then_ret ?_ | refine E_ret1 rfl (Rv_tmp rfl) (Ret.mk ?_)))
    exact ⟨by rw [decide_eq_false (fun h => hl (by rw [h]))], hS⟩
end Cr
namespace Cr
open Go Go.Proofs
set_option maxRecDepth 100000
set_option maxHeartbeats 8000000
attribute [local irreducible] Calls

def rnumM (b : List UInt8) : Int :=
  if b = List.replicate 64 0 then 0 else if 16 < (b.getD 0 0).toNat then -1 else
  if 1152921504606846976 < natTo b 8 ∨ ¬ b = frontB roundL firstL (natTo b 8 : Nat) then -1 else (natTo b 8 : Nat)
theorem rnumM_le (b : List UInt8) : rnumM b ≤ 1152921504606846976 ∧ -1 ≤ rnumM b := by
  unfold rnumM
  split
  · omega
  · split
    · omega
    · split
      · omega
      · rename_i h; omega
def bnd : Nat → Nat
  | 0 => 1
  | 1 => 17
  | i + 2 => bnd (i + 1) * 256
theorem bnd_le (i : Nat) (h : i < 9) : bnd i ≤ 1224979098644774912 := (by decide : ∀ i, i < 9 → bnd i ≤ 1224979098644774912) i h
theorem bnd_le7 (i : Nat) (h : i < 8) : bnd i ≤ 4785074604081152 := (by decide : ∀ i, i < 8 → bnd i ≤ 4785074604081152) i h
theorem rnumber_ (a : Option Addr) (c : Nat) (b : List UInt8) (W : World) (hb : Rd W (bytes a b)) (h64 : b.length = 64) :
    Calls Tryz.prog 26 #[tabV, .slice a 64 c] W (Ret fun v w => v = .int .i64 (rnumM b) ∧ St W noF [] w) := by
  have hS := St.start W
  have hbo := hb.ro
  obtain ⟨ab, ao, rfl⟩ := hb.base (by intro e; have := bv_length b; rw [e] at this; simp at this; omega)
  have hl72 : LenO (ints .i64 (tabTo 310)) 72 := ⟨by rw [ints_length]; exact tabTo_length 310⟩
  clear hb
  have hb := hbo
  refine calls_C Tryz.func26 rfl Tryz.ntmps26 rfl ?_
  repeat (first | (refine G_id ?_; first | refine G_nil ?_ | refine G_plain rfl rfl ?_) | (refine X_id ?_; first | refine X_yl (Yl_move rfl rfl) rfl rfl ?_ | refine X_yl (Yl_assign rfl rfl) rfl rfl ?_ | refine X_box rfl rfl rfl rfl hS (fun _ _ hS _ => ?_)) | (refine C_id ?_; first | refine C_seq ?_ | refine C_region ?_) | (refine E_id ?_; first | refine E_code ?_))
  rename_i b2 _ _
  refine X_makeB (c := 64) rfl rfl rfl (by omega) (by omega) rfl rfl hS (fun p w hS => ?_)
  repeat (first | (refine G_id ?_; first | refine G_plain rfl rfl ?_))
  have hsame := same_ (some ⟨ab, ao, none⟩) (some ⟨p, 0, none⟩) c 64 b (List.replicate 64 0) _ (hb.rd hS) (hS.rd (List.mem_cons_self ..)).ptsB (by omega)
  rw [h64] at hsame
  refine X_callq _ rfl rfl rfl rfl rfl hS hsame ?_
  clear hsame
  rintro _ w rfl hS
  by_cases hz : b = List.replicate 64 0
  · rw [decide_eq_true hz]
    repeat (first | (refine G_id ?_; first | refine G_nil ?_ | refine G_plain rfl rfl ?_) | (refine X_id ?_; first | refine X_yl (Yl_assign rfl rfl) rfl rfl ?_) | (refine C_id ?_; first | refine C_seq ?_ | refine C_region ?_ | refine C_ret ?_ | refine C_cond_t rfl ?_) | (refine E_id ?_; first | refine E_code ?_ | refine E_then_ret ?_ | refine E_ret1 rfl (Rv_tmp rfl) (Ret.mk ?_)))
    exact ⟨by rw [rnumM, if_pos hz], hS.drops⟩
  · rw [decide_eq_false hz]
    repeat (first | (refine G_id ?_; first | refine G_nil ?_ | refine G_plain rfl rfl ?_) | (refine X_id ?_; first | refine X_yl (Yl_assign rfl rfl) rfl rfl ?_) | (refine C_id ?_; first | refine C_seq ?_ | refine C_region ?_ | refine C_block ?_ | refine C_skip ?_ | refine C_cond_f rfl ?_) | (refine E_id ?_; first | refine E_code ?_))
    have hS := hS.pick [1]
    refine C_joinB (α := Unit) (fun _ => [(1, .slice (some ⟨ab, ao, none⟩) 64 c), (2, .pointer (some ⟨b2, 0, none⟩)), (5, .int .i64 (natTo b 8 : Nat))])
      (fun _ w => ¬ 16 < (b.getD 0 0).toNat ∧ natTo b 8 < 1224979098644774912 ∧ St W noF [pts b2 (.cells (ints .i64 (tabTo 310)).toArray 38)] w) ?_ ?_
    · refine C_loop (α := Nat) (fun i => [(1, .slice (some ⟨ab, ao, none⟩) 64 c), (2, .pointer (some ⟨b2, 0, none⟩)), (5, .int .i64 (natTo b i : Nat)), (6, .int .i64 (i : Nat))])
        (fun i w => i ≤ 8 ∧ natTo b i < bnd i ∧ (0 < i → ¬ 16 < (b.getD 0 0).toNat) ∧ St W noF [pts b2 (.cells (ints .i64 (tabTo 310)).toArray 38)] w) (fun i => 8 - i) 0 ⟨rfl, rfl, rfl, rfl, trivial⟩ ⟨Nat.zero_le _, (by show 0 < 1; omega), fun h => absurd h (by omega), hS⟩ ?_
      clear hS
      rintro i w ⟨hi, hbd, h16, hS⟩
      obtain ⟨n, hn⟩ : ∃ n, n = natTo b i := ⟨_, rfl⟩
      have hbm := bnd_le i (by omega)
      have hby := UInt8.toNat_lt (b.getD ((i : Int).toNat * 1) 0)
      rw [← hn] at hbd ⊢
      by_cases h8 : i < 8
      · have hbm7 := bnd_le7 i h8
        have hnx : natTo b (i + 1) = n * 256 + (b.getD ((i : Int).toNat * 1) 0).toNat := by rw [natTo, ← hn, show (i : Int).toNat * 1 = i by omega]
        by_cases h0 : i = 0
        · subst h0
          obtain rfl : n = 0 := by rw [hn]; rfl
          by_cases hg : 16 < (b.getD ((0 : Int).toNat * 1) 0).toNat
          · have hg' : (16 : Int) < ((b.getD ((0 : Int).toNat * 1) 0).toNat : Int) := by omega
            repeat (first | (refine G_id ?_; first | refine G_nil ?_ | refine G_plain rfl rfl ?_ | refine G_yes rfl rfl rfl rfl ?_) | (refine X_id ?_; first | refine X_yl (Yl_move rfl rfl) rfl rfl ?_ | refine X_yl (Yl_assign rfl rfl) rfl rfl ?_ | refine X_yl (Yl_pick_t rfl rfl rfl) rfl rfl ?_ | refine X_yl (Yl_eql_t rfl rfl rfl (by omega)) rfl rfl ?_ | refine X_yl (Yl_lss_t rfl rfl rfl (by omega)) rfl rfl ?_ | refine X_yl (Yl_gtr_t rfl rfl rfl (by omega)) rfl rfl ?_ | refine X_yl (Yl_indexAddr rfl rfl rfl (by omega) (by omega) (by first | assumption | exact ⟨_, _, rfl⟩)) rfl rfl ?_ | refine X_yl (Yl_load rfl rfl ((hb.rd hS).cellB' (by omega))) rfl rfl ?_) | (refine C_id ?_; first | refine C_seq ?_ | refine C_region ?_ | refine C_block ?_ | refine C_ret ?_ | refine C_skip ?_ | refine C_cond_t rfl ?_) | (refine E_id ?_; first | refine E_code ?_ | refine E_then_ret ?_ | refine E_blk_ret ?_ | refine E_ret1 rfl (Rv_tmp rfl) (Ret.mk ?_)))
            exact ⟨by rw [rnumM, if_neg hz, if_pos (show 16 < (b.getD 0 0).toNat from hg)], hS.drops⟩
          · have hg' : ¬ (16 : Int) < ((b.getD ((0 : Int).toNat * 1) 0).toNat : Int) := by omega
            repeat (first | (refine G_id ?_; first | refine G_nil ?_ | refine G_plain rfl rfl ?_ | refine G_yes rfl rfl rfl rfl ?_) | (refine X_id ?_; first | refine X_yl (Yl_move rfl rfl) rfl rfl ?_ | refine X_yl (Yl_assign rfl rfl) rfl rfl ?_ | refine X_yl (Yl_pick_t rfl rfl rfl) rfl rfl ?_ | refine X_yl (Yl_eql_t rfl rfl rfl (by omega)) rfl rfl ?_ | refine X_yl (Yl_lss_t rfl rfl rfl (by omega)) rfl rfl ?_ | refine X_yl (Yl_gtr_f rfl rfl rfl (by omega)) rfl rfl ?_ | refine X_yl (Yl_indexAddr rfl rfl rfl (by omega) (by omega) (by first | assumption | exact ⟨_, _, rfl⟩)) rfl rfl ?_ | refine X_yl (Yl_add rfl rfl rfl (w64 (by omega) (by omega))) rfl rfl ?_ | refine X_yl (Yl_mul rfl rfl rfl (w64 (by omega) (by omega))) rfl rfl ?_ | refine X_yl (Yl_convInt rfl rfl (w64 (by omega) (by omega))) rfl rfl ?_ | refine X_yl (Yl_load rfl rfl ((hb.rd hS).cellB' (by omega))) rfl rfl ?_) | (refine C_id ?_; first | refine C_seq ?_ | refine C_region ?_ | refine C_block ?_ | refine C_skip ?_ | refine C_cond_t rfl ?_ | refine C_cond_f rfl ?_) | (refine E_id ?_; first | refine E_code ?_ | refine E_blk_n ?_))
            refine E_round 1 ⟨rfl, rfl, ?_, rfl, trivial⟩ ⟨by omega, ?_, fun _ => hg, hS⟩ (by omega)
            · show some _ = some _
              rw [hnx]; simp
            · rw [hnx]
              have : b.getD ((0 : Int).toNat * 1) 0 = b.getD ((((0 : Nat) : Int)).toNat * 1) 0 := rfl
              rw [← this]
              show _ < 17
              omega
        · repeat (first | (refine G_id ?_; first | refine G_nil ?_ | refine G_plain rfl rfl ?_ | refine G_no rfl rfl rfl rfl rfl rfl ?_) | (refine X_id ?_; first | refine X_yl (Yl_move rfl rfl) rfl rfl ?_ | refine X_yl (Yl_assign rfl rfl) rfl rfl ?_ | refine X_yl (Yl_pick_f rfl rfl rfl) rfl rfl ?_ | refine X_yl (Yl_eql_f rfl rfl rfl (by omega)) rfl rfl ?_ | refine X_yl (Yl_lss_t rfl rfl rfl (by omega)) rfl rfl ?_ | refine X_yl (Yl_indexAddr rfl rfl rfl (by omega) (by omega) (by first | assumption | exact ⟨_, _, rfl⟩)) rfl rfl ?_ | refine X_yl (Yl_add rfl rfl rfl (w64 (by omega) (by omega))) rfl rfl ?_ | refine X_yl (Yl_mul rfl rfl rfl (w64 (by omega) (by omega))) rfl rfl ?_ | refine X_yl (Yl_convInt rfl rfl (w64 (by omega) (by omega))) rfl rfl ?_ | refine X_yl (Yl_load rfl rfl ((hb.rd hS).cellB' (by omega))) rfl rfl ?_) | (refine C_id ?_; first | refine C_seq ?_ | refine C_region ?_ | refine C_block ?_ | refine C_skip ?_ | refine C_cond_t rfl ?_ | refine C_cond_f rfl ?_) | (refine E_id ?_; first | refine E_code ?_ | refine E_blk_n ?_))
          refine E_round (i + 1) ⟨rfl, rfl, ?_, rfl, trivial⟩ ⟨by omega, ?_, fun _ => h16 (by omega), hS⟩ (by omega)
          · show some _ = some _
            rw [hnx]; congr 2; omega
          · rw [hnx]
            obtain ⟨k, rfl⟩ : ∃ k, i = k + 1 := ⟨i - 1, by omega⟩
            show _ < bnd (k + 1) * 256
            omega
      · obtain rfl : i = 8 := by omega
        repeat (first | (refine G_id ?_; first | refine G_nil ?_ | refine G_plain rfl rfl ?_) | (refine X_id ?_; first | refine X_yl (Yl_move rfl rfl) rfl rfl ?_ | refine X_yl (Yl_lss_f rfl rfl rfl (by omega)) rfl rfl ?_) | (refine C_id ?_; first | refine C_seq ?_ | refine C_region ?_ | refine C_exit ?_ | refine C_cond_f rfl ?_) | (refine E_id ?_; first | refine E_code ?_ | refine E_then_exit ?_ | refine E_blk_same ?_))
        exact E_mid () ⟨rfl, rfl, by rw [hn]; rfl, trivial⟩ ⟨h16 (by omega), by rw [← hn]; omega, hS⟩
    clear hS
    rintro _ w ⟨h16, hlt, hS⟩
    obtain ⟨n, hn⟩ : ∃ n, n = natTo b 8 := ⟨_, rfl⟩
    have hr : rnumM b = if 1152921504606846976 < n ∨ ¬ b = frontB roundL firstL (n : Nat) then (-1 : Int) else ((n : Nat) : Int) := by rw [rnumM, if_neg hz, if_neg h16, ← hn]
    rw [← hn] at hlt ⊢
    by_cases hl : (1152921504606846976 : Int) < (n : Int)
    · repeat (first | (refine G_id ?_; first | refine G_nil ?_ | refine G_plain rfl rfl ?_ | refine G_no rfl rfl rfl rfl rfl rfl ?_) | (refine X_id ?_; first | refine X_yl (Yl_move rfl rfl) rfl rfl ?_ | refine X_yl (Yl_assign rfl rfl) rfl rfl ?_ | refine X_yl (Yl_pick_t rfl rfl rfl) rfl rfl ?_ | refine X_yl (Yl_gtr_t rfl rfl rfl (by omega)) rfl rfl ?_) | (refine C_id ?_; first | refine C_seq ?_ | refine C_region ?_ | refine C_ret ?_ | refine C_cond_t rfl ?_) | (refine E_id ?_; first | refine E_code ?_ | refine E_then_ret ?_ | refine E_ret1 rfl (Rv_tmp rfl) (Ret.mk ?_)))
      exact ⟨by rw [hr, if_pos (.inl (by omega))], hS.drops⟩
    · repeat (first | (refine G_id ?_; first | refine G_plain rfl rfl ?_ | refine G_yes rfl rfl rfl rfl ?_) | (refine X_id ?_; first | refine X_yl (Yl_move rfl rfl) rfl rfl ?_ | refine X_yl (Yl_gtr_f rfl rfl rfl (by omega)) rfl rfl ?_ | refine X_yl (Yl_loadN rfl rfl hS.cellsN) rfl rfl ?_) | (refine C_id ?_; first | refine C_seq ?_ | refine C_region ?_))
      refine X_callg _ rfl rfl rfl rfl rfl (rhead_ n _ (by omega)) ?_
      rintro _ w ⟨q, rfl, hS'⟩
      replace hS := hS.plus hS'
      clear hS'
      have hsame := same_ (some ⟨ab, ao, none⟩) (some ⟨q, 0, none⟩) c 64 b (frontB roundL firstL (n : Nat)) _ (hb.rd hS) (hS.rd (List.mem_cons_self ..)).ptsB (by omega)
      rw [h64, show (frontB roundL firstL (n : Int)).length = 64 from fullB_length _] at hsame
      repeat (first | (refine G_id ?_; first | refine G_yes rfl rfl rfl rfl ?_))
      refine X_callq _ rfl rfl rfl rfl rfl hS hsame ?_
      clear hsame
      rintro _ w rfl hS
      by_cases he : b = frontB roundL firstL (n : Nat)
      · rw [decide_eq_true he]
        repeat (first | (refine G_id ?_; first | refine G_nil ?_ | refine G_plain rfl rfl ?_ | refine G_yes rfl rfl rfl rfl ?_) | (refine X_id ?_; first | refine X_yl (Yl_move rfl rfl) rfl rfl ?_ | refine X_yl (Yl_assign rfl rfl) rfl rfl ?_ | refine X_yl (Yl_pick_f rfl rfl rfl) rfl rfl ?_ | refine X_yl (Yl_not_t rfl rfl) rfl rfl ?_) | (refine C_id ?_; first | refine C_seq ?_ | refine C_region ?_ | refine C_ret ?_ | refine C_skip ?_ | refine C_cond_f rfl ?_) | (refine E_id ?_; first | refine E_code ?_ | refine E_ret1 rfl (Rv_tmp rfl) (Ret.mk ?_)))
        exact ⟨by rw [hr, if_neg (by rintro (h | h); omega; exact h he)], hS.drops⟩
      · rw [decide_eq_false he]
        repeat (first | (refine G_id ?_; first | refine G_nil ?_ | refine G_plain rfl rfl ?_ | refine G_yes rfl rfl rfl rfl ?_) | (refine X_id ?_; first | refine X_yl (Yl_assign rfl rfl) rfl rfl ?_ | refine X_yl (Yl_pick_f rfl rfl rfl) rfl rfl ?_ | refine X_yl (Yl_not_f rfl rfl) rfl rfl ?_) | (refine C_id ?_; first | refine C_seq ?_ | refine C_region ?_ | refine C_ret ?_ | refine C_cond_t rfl ?_) | (refine E_id ?_; first | refine E_code ?_ | refine E_then_ret ?_ | refine E_ret1 rfl (Rv_tmp rfl) (Ret.mk ?_)))
        exact ⟨by rw [hr, if_pos (.inr he)], hS.drops⟩
end Cr
namespace Cr
open Go Go.Proofs
set_option maxRecDepth 100000
set_option maxHeartbeats 8000000
attribute [local irreducible] Calls

theorem St.ownB {W : World} {F : Nat → Prop} {rs : List Res} {w : World} {p n : Nat} {s : List UInt8} {T : TypeId} (hS : St W F (pts p (.cells (bv s).toArray T) :: rs) w) (hn : s.length = n) (hm : n ≤ 1099511627776) : St W F (own T 1 (some ⟨p, 0, none⟩) n (bv s) :: rs) w :=
  hS.head (own_of_pts (by rw [bv_length, hn, Nat.mul_one]) (by simp only [maxLen]; omega) (by rw [List.take_length]))
theorem rnote_ (number at_ count no : Nat) (d : List UInt8) (hd : d.length = 32) (W : World) (h1 : number < 9223372036854775808) (h2 : at_ < 9223372036854775808) (h3 : count < 9223372036854775808) (h4 : no < 9223372036854775808) :
    Calls Tryz.prog 45 #[.int .i64 (number : Nat), .int .i64 (at_ : Nat), .int .i64 (count : Nat), .int .i64 (no : Nat), .agg (bv d).toArray] W (Ret fun v w => ∃ p, v = .slice (some ⟨p, 0, none⟩) 64 64 ∧ St W noF [pts p (.cells (bv (noteB number at_ count no d)).toArray 5)] w) := by
  have hS := St.start W
  have hl32 : LenO (bv d) 32 := ⟨by rw [bv_length]; exact hd⟩
  obtain ⟨B1, hB1⟩ : ∃ B, B = bigB (number : Int) 8 := ⟨_, rfl⟩
  obtain ⟨B2, hB2⟩ : ∃ B, B = bigB (at_ : Int) 4 := ⟨_, rfl⟩
  obtain ⟨B3, hB3⟩ : ∃ B, B = bigB (count : Int) 4 := ⟨_, rfl⟩
  obtain ⟨B4, hB4⟩ : ∃ B, B = bigB (no : Int) 4 := ⟨_, rfl⟩
  have l1 : B1.length = 8 := by rw [hB1]; exact bigB_length _ _
  have l2 : B2.length = 4 := by rw [hB2]; exact bigB_length _ _
  have l3 : B3.length = 4 := by rw [hB3]; exact bigB_length _ _
  have l4 : B4.length = 4 := by rw [hB4]; exact bigB_length _ _
  refine calls_C Tryz.func45 rfl Tryz.ntmps45 rfl ?_
  repeat (first | (refine G_id ?_; first | refine G_nil ?_ | refine G_plain rfl rfl ?_) | (refine X_id ?_; first | refine X_yl (Yl_move rfl rfl) rfl rfl ?_ | refine X_yl (Yl_assign rfl rfl) rfl rfl ?_ | refine X_box rfl rfl rfl rfl hS (fun _ _ hS _ => ?_)) | (refine C_id ?_; first | refine C_seq ?_ | refine C_region ?_) | (refine E_id ?_; first | refine E_code ?_))
  rename_i b9 _ _
  refine X_callg _ rfl rfl rfl rfl rfl (rbig_ number 8 _ h1 (by omega)) ?_
  rintro _ w ⟨q1, rfl, hS'⟩
  replace hS := hS.plus hS'
  clear hS'
  repeat (first | (refine G_id ?_; first | refine G_plain rfl rfl ?_) | (refine X_id ?_; first | refine X_yl (Yl_move rfl rfl) rfl rfl ?_))
  refine X_callg _ rfl rfl rfl rfl rfl (rbig_ at_ 4 _ h2 (by omega)) ?_
  rintro _ w ⟨q2, rfl, hS'⟩
  replace hS := hS.plus hS'
  clear hS'
  rw [← hB1, ← hB2] at hS
  repeat (first | (refine G_id ?_; first | refine G_plain rfl rfl ?_))
  have hS := hS.pick [1, 0, 0]
  replace hS := hS.ownB l1 (by omega)
  refine X_append rfl rfl rfl rfl rfl hS (by simp [l1]) (Nat.le_refl _) (hS.rd (r := pts q2 (.cells (bv B2).toArray 5)) (by simp)).ptsB (by simp [l2]) bv_one (by omega) (by simp only [maxLen]; omega) (fun a1 c1 w hS hc1 _ => ?_)
  repeat (first | (refine G_id ?_; first | refine G_nil ?_ | refine G_plain rfl rfl ?_) | (refine X_id ?_; first | refine X_yl (Yl_move rfl rfl) rfl rfl ?_ | refine X_yl (Yl_assign rfl rfl) rfl rfl ?_) | (refine C_id ?_; first | refine C_seq ?_ | refine C_region ?_) | (refine E_id ?_; first | refine E_code ?_))
  have hS := hS.pick [0, 1]
  refine X_callg _ rfl rfl rfl rfl rfl (rbig_ count 4 _ h3 (by omega)) ?_
  rintro _ w ⟨q3, rfl, hS'⟩
  replace hS := hS.plus hS'
  clear hS'
  rw [← hB3] at hS
  repeat (first | (refine G_id ?_; first | refine G_plain rfl rfl ?_))
  refine X_append rfl rfl rfl rfl rfl hS (by simp [l1, l2]) (by omega) (hS.rd (r := pts q3 (.cells (bv B3).toArray 5)) (by simp)).ptsB (by simp [l3]) bv_one (by omega) (by simp only [maxLen]; omega) (fun a2 c2 w hS hc2 _ => ?_)
  repeat (first | (refine G_id ?_; first | refine G_plain rfl rfl ?_) | (refine X_id ?_; first | refine X_yl (Yl_move rfl rfl) rfl rfl ?_))
  have hS := hS.pick [0, 1]
  refine X_callg _ rfl rfl rfl rfl rfl (rbig_ no 4 _ h4 (by omega)) ?_
  rintro _ w ⟨q4, rfl, hS'⟩
  replace hS := hS.plus hS'
  clear hS'
  rw [← hB4] at hS
  repeat (first | (refine G_id ?_; first | refine G_plain rfl rfl ?_))
  refine X_append rfl rfl rfl rfl rfl hS (by simp [l1, l2, l3]) (by omega) (hS.rd (r := pts q4 (.cells (bv B4).toArray 5)) (by simp)).ptsB (by simp [l4]) bv_one (by omega) (by simp only [maxLen]; omega) (fun a3 c3 w hS hc3 _ => ?_)
  repeat (first | (refine G_id ?_; first | refine G_nil ?_ | refine G_plain rfl rfl ?_) | (refine X_id ?_; first | refine X_yl (Yl_move rfl rfl) rfl rfl ?_ | refine X_yl (Yl_assign rfl rfl) rfl rfl ?_ | refine X_yl (Yl_slice_arr rfl rfl) rfl rfl ?_) | (refine C_id ?_; first | refine C_seq ?_ | refine C_region ?_) | (refine E_id ?_; first | refine E_code ?_))
  have hS := hS.pick [0, 1]
  refine X_append rfl rfl rfl rfl rfl hS (by simp [l1, l2, l3, l4]) (by omega) (hS.rd (r := pts b9 (.cells (bv d).toArray 105)) (by simp)).ptsB (by simp [hd]) bv_one (by omega) (by simp only [maxLen]; omega) (fun a4 c4 w hS hc4 _ => ?_)
  repeat (first | (refine G_id ?_; first | refine G_plain rfl rfl ?_))
  have hall : (B1 ++ (B2 ++ (B3 ++ (B4 ++ d)))).length = 8 + 4 + 4 + 4 + 32 := by simp [l1, l2, l3, l4, hd]
  rw [← hall]
  have hrow : Rd w (bytes a4 (B1 ++ (B2 ++ (B3 ++ (B4 ++ d))))) := by
    have := (hS.rd (List.mem_cons_self ..)).own_row
    simpa [bytes, bv_append] using this
  refine X_callg _ rfl rfl rfl rfl rfl (rfull_ a4 c4 _ _ hrow) ?_
  rintro _ w ⟨r, rfl, hS'⟩
  replace hS := hS.plus hS'
  clear hS'
  repeat (first | (refine G_id ?_; first | refine G_nil ?_ | refine G_plain rfl rfl ?_) | (refine X_id ?_; first | refine X_yl (Yl_assign rfl rfl) rfl rfl ?_) | (refine C_id ?_; first | refine C_ret ?_) | (refine E_id ?_; first | refine E_code ?_ | refine E_ret1 rfl (Rv_tmp rfl) (Ret.mk ?_)))
  refine ⟨r, rfl, ?_⟩
  rw [noteB, ← hB1, ← hB2, ← hB3, ← hB4]
  exact hS.pick [0]
end Cr
namespace Cr
open Go Go.Proofs
set_option maxRecDepth 100000
set_option maxHeartbeats 8000000
attribute [local irreducible] Calls

theorem rtsum_ (number : Nat) (a : Option Addr) (c : Nat) (l : List Wr) (W : World) (hW : Wrs W noF a l) (hnum : number < 9223372036854775808) (hno : ∀ v ∈ l, 0 ≤ v.no ∧ v.no < 9223372036854775808) (hl : l.length ≤ 1048576) (hn : (framed (sumTexts number (l.map Wr.data))).length ≤ 1099511627776) :
    Calls Tryz.prog 46 #[tabV, .int .i64 (number : Nat), .slice a l.length c] W (Ret fun v w => v = .agg (bv (sumB roundL firstL number (l.map Wr.data))).toArray ∧ St W noF [] w) := by
  have hS := St.start W
  have hl72 : LenO (ints .i64 (tabTo 310)) 72 := ⟨by rw [ints_length]; exact tabTo_length 310⟩
  refine calls_C Tryz.func46 rfl Tryz.ntmps46 rfl ?_
  repeat (first | (refine G_id ?_; first | refine G_nil ?_ | refine G_plain rfl rfl ?_) | (refine X_id ?_; first | refine X_yl (Yl_move rfl rfl) rfl rfl ?_ | refine X_box rfl rfl rfl rfl hS (fun _ _ hS _ => ?_) | refine X_alloc rfl rfl rfl hS (fun _ _ hS _ => ?_)) | (refine C_id ?_; first | refine C_seq ?_ | refine C_region ?_) | (refine E_id ?_; first | refine E_code ?_))
  rename_i b3 _ _ _ b6 _ _
  refine X_callg _ rfl rfl rfl rfl rfl (rbig_ number 8 _ hnum (by omega)) ?_
  rintro _ w ⟨p1, rfl, hS'⟩
  replace hS := hS.plus hS'
  clear hS'
  repeat (first | (refine G_id ?_; first | refine G_plain rfl rfl ?_) | (refine X_id ?_; first | refine X_yl (Yl_move rfl rfl) rfl rfl ?_ | refine X_yl (Yl_len rfl rfl) rfl rfl ?_))
  refine X_callg _ rfl rfl rfl rfl rfl (rbig_ l.length 4 _ (by omega) (by omega)) ?_
  rintro _ w ⟨p2, rfl, hS'⟩
  replace hS := hS.plus hS'
  clear hS'
  repeat (first | (refine G_id ?_; first | refine G_nil ?_ | refine G_plain rfl rfl ?_) | (refine X_id ?_; first | refine X_yl (Yl_assign rfl rfl) rfl rfl ?_ | refine X_buildSlice rfl rfl rfl rfl rfl rfl rfl rfl hS (fun _ _ hS _ => ?_)) | (refine C_id ?_; first | refine C_seq ?_ | refine C_region ?_ | refine C_block ?_) | (refine E_id ?_; first | refine E_code ?_))
  rename_i b5 w5 _
  refine C_joinB (α := Option Addr × Nat × List Bs × List Bs) (fun z => [(3, .pointer (some ⟨b3, 0, none⟩)), (6, .pointer (some ⟨b6, 0, none⟩)), (7, .slice z.1 z.2.2.1.length z.2.1)])
    (fun z w => texts z.2.2.1 = sumTexts number (l.map Wr.data) ∧ (∀ x ∈ z.2.2.1, x ∈ z.2.2.2 ∨ ∃ v ∈ l, x = v.x) ∧ St W noF [own 22 1 z.1 z.2.1 (z.2.2.1.map Bs.val), rds z.2.2.2, pts b6 (.cells (List.replicate 32 (.int .u8 0)).toArray 105), pts b3 (.cells (ints .i64 (tabTo 310)).toArray 38)] w) ?_ ?_
  · refine C_loop (α := Nat × Option Addr × Nat × List Bs × List Bs) (fun z => [(2, .slice a l.length c), (3, .pointer (some ⟨b3, 0, none⟩)), (6, .pointer (some ⟨b6, 0, none⟩)), (7, .slice z.2.1 z.2.2.2.1.length z.2.2.1), (8, .int .i64 (z.1 : Nat))])
      (fun z w => z.1 ≤ l.length ∧ texts z.2.2.2.1 = [bigB number 8, bigB (l.length : Nat) 4] ++ (l.take z.1).flatMap (fun v => [bigB v.no 4, v.x.s]) ∧ z.2.2.2.1.length = 2 + 2 * z.1 ∧ z.2.2.2.1.length ≤ z.2.2.1 ∧ (∀ x ∈ z.2.2.2.1, x ∈ z.2.2.2.2 ∨ ∃ v ∈ l, x = v.x) ∧
        St W noF [own 22 1 z.2.1 z.2.2.1 (z.2.2.2.1.map Bs.val), rds z.2.2.2.2, pts b6 (.cells (List.replicate 32 (.int .u8 0)).toArray 105), pts b3 (.cells (ints .i64 (tabTo 310)).toArray 38)] w) (fun z => l.length - z.1)
      (0, some ⟨b5, 0, none⟩, 2, [⟨some ⟨p1, 0, none⟩, 8, bigB number 8⟩, ⟨some ⟨p2, 0, none⟩, 4, bigB (l.length : Nat) 4⟩], [⟨some ⟨p2, 0, none⟩, 4, bigB (l.length : Nat) 4⟩, ⟨some ⟨p1, 0, none⟩, 8, bigB number 8⟩])
      ⟨rfl, rfl, rfl, rfl, rfl, trivial⟩ ⟨Nat.zero_le _, rfl, rfl, Nat.le_refl _, by simp, ?_⟩ ?_
    · replace hS := hS.rdsNil
      have hS := hS.pick [2, 0, 1, 0, 0, 0]
      replace hS := hS.rdsPut 4
      have hS := hS.pick [1, 0, 0, 0, 0]
      replace hS := hS.rdsPut 8
      have hS := hS.pick [1, 0, 0, 0]
      simpa [Bs.val, bigB_length] using hS
    clear hS
    rintro ⟨i, a5, c5, L, O⟩ w ⟨hi, hT, hL, hLc, hO, hS⟩
    simp only at hi hT hL hLc hO hS ⊢
    by_cases hlt : i < l.length
    · have hx0 : l[i]? = some l[i] := List.getElem?_eq_getElem hlt
      have hlv := List.take_succ_eq_append_getElem hlt
      generalize l[i] = v at hx0 hlv
      have hvn := hno v (List.mem_of_getElem? hx0)
      have hr := hW.row
      have hr2 := hW.row
      have hx := wr_no hx0
      have hx2 := wr_b hx0
      obtain ⟨ab, ao, rfl⟩ := (hW.row.rd hS).base (by intro e; rw [e] at hx; simp at hx)
      obtain ⟨m, hm⟩ : ∃ m : Nat, v.no = m := ⟨v.no.toNat, by omega⟩
      rw [hm] at hx hvn
      repeat (first | (refine G_id ?_; first | refine G_nil ?_ | refine G_plain rfl rfl ?_) | (refine X_id ?_; first | refine X_yl (Yl_move rfl rfl) rfl rfl ?_ | refine X_yl (Yl_len rfl rfl) rfl rfl ?_ | refine X_yl (Yl_lss_t rfl rfl rfl (by omega)) rfl rfl ?_) | (refine C_id ?_; first | refine C_seq ?_ | refine C_region ?_ | refine C_block ?_ | refine C_skip ?_ | refine C_cond_t rfl ?_) | (refine E_id ?_; first | refine E_code ?_))
      refine C_ord (.s 0 (.s 1 (.s 2 (.s 3 (.s 4 (.s 5 (.s 7 (.s 8 (.s 9 (.s 10 (.s 11 (.h 6 (.h 12 (.h 13 (.s 14 .nil) .no) .no) .no)))))))))))) mixed (by kernel_rfl) rfl ?_
      have hS := hS.drew
      repeat (first | (refine GO_id ?_; first | refine GO_pure rfl rfl (fun _ => Yl_move rfl rfl) rfl rfl ?_ | refine GO_pure rfl rfl (fun _ => Yl_fieldAddr rfl rfl rfl) rfl rfl ?_ | refine GO_pure rfl rfl (fun _ => Yl_indexAddr rfl rfl rfl (by omega) (by omega) (by first | assumption | exact ⟨_, _, rfl⟩)) rfl rfl ?_ | refine GO_read (fun w' => w'.cell? _ = some _) rfl rfl ((hr.rd hS).cellX (by omega) hx) (fun _ hc => Yl_load rfl rfl hc) rfl rfl ?_ | refine GO_hard rfl rfl ?_ | refine GO_read (fun w' => w'.cell? _ = some _) rfl rfl ((hr2.rd hS).cellF (by first | omega | (dsimp only; omega)) hx2) (fun _ hc => Yl_load rfl rfl hc) rfl rfl ?_))
      refine X_callg _ rfl rfl rfl rfl rfl (rbig_ m 4 _ (by omega) (by omega)) ?_
      rintro _ w ⟨p, rfl, hS'⟩
      replace hS := hS.plus hS'
      clear hS'
      repeat (first | (refine X_id ?_; first | refine X_buildSlice rfl rfl rfl rfl rfl rfl rfl rfl hS (fun _ _ hS _ => ?_)) | (refine GO_id ?_; first | refine GO_hard rfl rfl ?_) | (refine Keep_id ?_; first | refine And.intro (by repeat (first | exact trivial | refine And.intro (.inl (by decide +kernel)) ?_ | refine And.intro (.inr (by first | assumption | exact hS.cell | exact cell_at (by assumption) | exact hS.cellI (by omega) | exact hS.cellIP (by omega) | exact hS.cellsN | exact ((hr.rd hS).cellX (by omega) hx) | exact ((hr2.rd hS).cellX (by omega) hx2) | exact hS.cellB (by omega) | exact hS.cellBA (by omega) | exact (hb.rd hS).cellB' (by omega) | exact (hb2.rd hS).cellB' (by omega) | exact (hg.rd hS).cellI (by omega) | exact (hg2.rd hS).cellI (by omega) | exact ((hr.rd hS).cellF (by first | omega | (dsimp only; omega)) hx) | exact ((hr2.rd hS).cellF (by first | omega | (dsimp only; omega)) hx2) | exact hS.cellO 0 (by omega) | exact hS.cellO 1 (by omega) | exact hS.cellIA (by omega) | exact (hg.rd hS).cellIA (by omega) | exact (hg2.rd hS).cellIA (by omega))) ?_)) ?_))
      refine X_append rfl rfl rfl rfl rfl hS (by simp) hLc (hS.rd (List.mem_cons_self ..)).own_row rfl (fun u hu => by
        simp only [List.mem_cons, List.not_mem_nil, or_false] at hu
        rcases hu with rfl | rfl <;> rfl) (by omega) (by simp only [maxLen]; omega) (fun a' c' w hS hc' hnil => ?_)
      repeat (first | (refine G_id ?_; first | refine G_nil ?_ | refine G_plain rfl rfl ?_) | (refine X_id ?_; first | refine X_yl (Yl_move rfl rfl) rfl rfl ?_ | refine X_yl (Yl_assign rfl rfl) rfl rfl ?_ | refine X_yl (Yl_add rfl rfl rfl (w64 (by omega) (by omega))) rfl rfl ?_) | (refine C_id ?_; first | refine C_region ?_) | (refine E_id ?_; first | refine E_code ?_ | refine E_blk_n ?_) | (refine GO_id ?_; first | refine GO_nil ?_ | refine GO_pure rfl rfl (fun _ => Yl_assign rfl rfl) rfl rfl ?_) | (refine Keep_id ?_; first | refine And.intro (by repeat (first | exact trivial | refine And.intro (.inl (by decide +kernel)) ?_ | refine And.intro (.inr (by first | assumption | exact hS.cell | exact cell_at (by assumption) | exact hS.cellI (by omega) | exact hS.cellIP (by omega) | exact hS.cellsN | exact ((hr.rd hS).cellX (by omega) hx) | exact ((hr2.rd hS).cellX (by omega) hx2) | exact hS.cellB (by omega) | exact hS.cellBA (by omega) | exact (hb.rd hS).cellB' (by omega) | exact (hb2.rd hS).cellB' (by omega) | exact (hg.rd hS).cellI (by omega) | exact (hg2.rd hS).cellI (by omega) | exact ((hr.rd hS).cellF (by first | omega | (dsimp only; omega)) hx) | exact ((hr2.rd hS).cellF (by first | omega | (dsimp only; omega)) hx2) | exact hS.cellO 0 (by omega) | exact hS.cellO 1 (by omega) | exact hS.cellIA (by omega) | exact (hg.rd hS).cellIA (by omega) | exact (hg2.rd hS).cellIA (by omega))) ?_)) ?_))
      refine E_round (z := (i, a5, c5, L, O)) (i + 1, a', c', L ++ [(⟨some ⟨p, 0, none⟩, 4, bigB v.no 4⟩ : Bs), v.x], O ++ [(⟨some ⟨p, 0, none⟩, 4, bigB v.no 4⟩ : Bs)]) ⟨rfl, rfl, rfl, ?_, rfl, trivial⟩ ⟨by simp only; omega, ?_, by simp; omega, by simp; omega, ?_, ?_⟩ (by simp only; omega)
      · show some _ = some _
        simp
      · rw [hlv]
        simp only [texts, List.map_append, List.flatMap_append, List.flatMap_cons, List.flatMap_nil, List.map_cons, List.map_nil] at hT ⊢
        rw [hT]
        simp
      · intro x hx
        simp only [List.mem_append, List.mem_cons, List.not_mem_nil, or_false] at hx ⊢
        rcases hx with hx | rfl | rfl
        · rcases hO x hx with h | h
          · exact .inl (.inl h)
          · exact .inr h
        · exact .inl (.inr rfl)
        · exact .inr ⟨v, List.mem_of_getElem? hx0, rfl⟩
      · skip
        have hS := hS.pick [2, 2, 0, 1, 1]
        replace hS := hS.rdsPut 4
        have hS := hS.pick [1, 0, 0, 0]
        rw [← hm] at hS
        simpa [Bs.val, bigB_length] using hS
    · obtain rfl : i = l.length := by omega
      repeat (first | (refine G_id ?_; first | refine G_nil ?_ | refine G_plain rfl rfl ?_) | (refine X_id ?_; first | refine X_yl (Yl_move rfl rfl) rfl rfl ?_ | refine X_yl (Yl_len rfl rfl) rfl rfl ?_ | refine X_yl (Yl_lss_f rfl rfl rfl (by omega)) rfl rfl ?_) | (refine C_id ?_; first | refine C_seq ?_ | refine C_region ?_ | refine C_exit ?_ | refine C_cond_f rfl ?_) | (refine E_id ?_; first | refine E_code ?_ | refine E_then_exit ?_ | refine E_blk_same ?_))
      refine E_mid (a5, c5, L, O) ⟨rfl, rfl, rfl, trivial⟩ ⟨?_, hO, hS⟩
      rw [hT, List.take_length]
      simp [sumTexts, Wr.data, List.flatMap_map]
  clear hS
  rintro ⟨a5, c5, L, O⟩ w ⟨hT, hO, hS⟩
  simp only at hT hO hS ⊢
  have hl32 : LenO (bv (sha (framed (texts L)))) 32 := ⟨by rw [bv_length]; exact sha_length _⟩
  repeat (first | (refine C_id ?_; first | refine C_seq ?_))
  refine C_ord (.s 0 (.s 1 (.h 2 (.h 3 (.h 4 .nil .no) .no) .no))) mixed (by kernel_rfl) rfl ?_
  have hS := hS.drew
  repeat (first | (refine GO_id ?_; first | refine GO_pure rfl rfl (fun _ => Yl_move rfl rfl) rfl rfl ?_ | refine GO_read (fun w' => CellsN w' _ _ _) rfl rfl hS.cellsN (fun _ hc => Yl_loadN rfl rfl hc) rfl rfl ?_ | refine GO_hard rfl rfl ?_))
  have hB := fun (w : World) (hS : St W noF [own 22 1 a5 c5 (L.map Bs.val), rds O, pts b6 (.cells (List.replicate 32 (.int .u8 0)).toArray 105), pts b3 (.cells (ints .i64 (tabTo 310)).toArray 38)] w) => Bss.ofRd (w := w) (a := a5) (l := L) ((hS.rd (List.mem_cons_self ..)).own_row) (fun x hx => by
    rcases hO x hx with h | ⟨v, hv, rfl⟩
    · have h1 : Ro w noF (rds O) := (hS.rd (by simp)).ro
      exact (h1.rds x h).start
    · exact (hW.all v hv).rd hS)
  refine X_callg _ rfl rfl rfl rfl rfl (frame_ a5 c5 L _ (hB _ hS) (by rw [hT]; exact hn)) ?_
  rintro _ w ⟨p, k, rfl, hS'⟩
  replace hS := hS.plus hS'
  clear hS'
  repeat (first | (refine GO_id ?_; first | refine GO_hard rfl rfl ?_) | (refine Keep_id ?_; first | refine And.intro (by repeat (first | exact trivial | refine And.intro (.inl (by decide +kernel)) ?_ | refine And.intro (.inr (by first | assumption | exact hS.cell | exact cell_at (by assumption) | exact hS.cellI (by omega) | exact hS.cellIP (by omega) | exact hS.cellsN | exact ((hr.rd hS).cellX (by omega) hx) | exact ((hr2.rd hS).cellX (by omega) hx2) | exact hS.cellB (by omega) | exact hS.cellBA (by omega) | exact (hb.rd hS).cellB' (by omega) | exact (hb2.rd hS).cellB' (by omega) | exact (hg.rd hS).cellI (by omega) | exact (hg2.rd hS).cellI (by omega) | exact ((hr.rd hS).cellF (by first | omega | (dsimp only; omega)) hx) | exact ((hr2.rd hS).cellF (by first | omega | (dsimp only; omega)) hx2) | exact hS.cellO 0 (by omega) | exact hS.cellO 1 (by omega) | exact hS.cellIA (by omega) | exact (hg.rd hS).cellIA (by omega) | exact (hg2.rd hS).cellIA (by omega))) ?_)) ?_))
  refine X_callq _ rfl rfl rfl rfl rfl hS (rsum_ p k (framed (texts L)) _ (hS.rd (List.mem_cons_self ..)) (by rw [hT]; exact hn)) ?_
  rintro _ w rfl hS
  repeat (first | (refine X_id ?_; first | refine X_store rfl rfl rfl rfl hS (fun _ hS _ => ?_)) | (refine C_id ?_; first | refine C_ret ?_) | (refine E_id ?_; first | refine E_code ?_ | refine E_ret1 rfl (by first | exact Rv_tmp rfl | exact Rv_cell rfl (run_load1 hS.cell) | exact Rv_cell rfl (run_loadN hS.cellsN)) (Ret.mk ?_)) | (refine GO_id ?_; first | refine GO_nil ?_ | refine GO_hard rfl rfl ?_) | (refine Keep_id ?_; first | refine And.intro (by repeat (first | exact trivial | refine And.intro (.inl (by decide +kernel)) ?_ | refine And.intro (.inr (by first | assumption | exact hS.cell | exact cell_at (by assumption) | exact hS.cellI (by omega) | exact hS.cellIP (by omega) | exact hS.cellsN | exact ((hr.rd hS).cellX (by omega) hx) | exact ((hr2.rd hS).cellX (by omega) hx2) | exact hS.cellB (by omega) | exact hS.cellBA (by omega) | exact (hb.rd hS).cellB' (by omega) | exact (hb2.rd hS).cellB' (by omega) | exact (hg.rd hS).cellI (by omega) | exact (hg2.rd hS).cellI (by omega) | exact ((hr.rd hS).cellF (by first | omega | (dsimp only; omega)) hx) | exact ((hr2.rd hS).cellF (by first | omega | (dsimp only; omega)) hx2) | exact hS.cellO 0 (by omega) | exact hS.cellO 1 (by omega) | exact hS.cellIA (by omega) | exact (hg.rd hS).cellIA (by omega) | exact (hg2.rd hS).cellIA (by omega))) ?_)) ?_))
  refine ⟨?_, hS.drops⟩
  rw [hT]
  unfold sumB
  rw [digest_sha]
end Cr
namespace Cr
open Go Go.Proofs
set_option maxRecDepth 100000
set_option maxHeartbeats 4000000
attribute [local irreducible] Calls

/-! ### clear -/
def zeros64 : List UInt8 := List.replicate 64 0
def clearM (D : DiskM) (number : Int) : Int × DiskM :=
  if ¬ (D.read 1).1 = 0 then ((D.read 1).1, D) else if ¬ smallN ((D.read 1).2.take 8) = number then (0, D) else stepF (stepW (0, D) 1 zeros64)
theorem clear_ (lp p : Nat) (o s m : Int) (j : Nat) (done : Int) (rdn : Bool) (D : DiskM) (number : Int) (W : World) (F : Nat → Prop) (hline : D.line.length < 1073741820) (hS : St W F [logAt lp p o s m j done rdn, disk p D] W) :
    Calls Tryz.prog 42 #[.pointer (some ⟨lp, 0, none⟩), .int .i64 number] W (Ret fun v w => v = .int .i64 (clearM D number).1 ∧ St W F [logAt lp p o s m j done rdn, disk p (clearM D number).2] w) := by
  have hok := (hS.rd (List.mem_cons_of_mem _ (List.mem_cons_self ..)) : Rd W (disk p D)).disk.1
  have h64 := fun (h : (D.read 1).1 = 0) => read_64 hok h
  have e : clearM D number = if ¬ (D.read 1).1 = 0 then ((D.read 1).1, D) else if ¬ smallN ((D.read 1).2.take 8) = number then (0, D) else stepF (stepW (0, D) 1 zeros64) := rfl
  refine calls_C Tryz.func42 rfl Tryz.ntmps42 rfl ?_
  repeat (first | (refine G_id ?_; first | refine G_nil ?_ | refine G_plain rfl rfl ?_) | (refine X_id ?_; first | refine X_yl (Yl_move rfl rfl) rfl rfl ?_ | refine X_yl (Yl_assign rfl rfl) rfl rfl ?_ | refine X_yl (Yl_nilCheck rfl rfl) rfl rfl ?_ | refine X_yl (Yl_fieldAddr0 rfl rfl rfl) rfl rfl ?_ | refine X_yl (Yl_load rfl rfl hS.cell) rfl rfl ?_) | (refine C_id ?_; first | refine C_seq ?_ | refine C_region ?_) | (refine E_id ?_; first | refine E_code ?_))
  refine X_callg _ rfl rfl rfl rfl rfl (read_ p D 1 _ (hS.rd (List.mem_cons_of_mem _ (List.mem_cons_self ..))) (by omega)) ?_
  rintro _ w ⟨a, ca, rfl, hca, hS'⟩
  replace hS := hS.plus hS'
  clear hS'
  generalize D.read 1 = ra at h64 hca hS e ⊢
  obtain ⟨ea, la⟩ := ra
  simp only at h64 hca hS e ⊢
  by_cases hea : ea = 0
  · subst hea
    have hla := h64 rfl
    rw [if_neg (by simp)] at e
    obtain ⟨ab, ao, rfl⟩ := (hS.rd (List.mem_cons_self ..)).base (by intro e; have := bv_length la; rw [e] at this; simp at this; omega)
    have hsm : ∀ w', Rd w' (bytes (some ⟨ab, ao, none⟩) la) → Calls Tryz.prog 63 #[.slice (some ⟨ab, ao, none⟩) 8 ca] w' (Ret fun v w'' => v = .int .i64 (smallN (la.take 8)) ∧ w' = w'') := fun w' h => by
      have := small_sub ab ao 0 8 ca la w' h (by omega) (by omega) (by omega) (by omega)
      simpa using this
    repeat (first | (refine G_id ?_; first | refine G_nil ?_ | refine G_plain rfl rfl ?_ | refine G_yes rfl rfl rfl rfl ?_) | (refine X_id ?_; first | refine X_yl (Yl_move rfl rfl) rfl rfl ?_ | refine X_yl (Yl_assign rfl rfl) rfl rfl ?_ | refine X_yl (Yl_extract rfl rfl) rfl rfl ?_ | refine X_yl (Yl_neq_f rfl rfl rfl (by omega)) rfl rfl ?_) | (refine C_id ?_; first | refine C_seq ?_ | refine C_region ?_) | (refine E_id ?_; first | refine E_code ?_))
    refine X_yl (Yl_slice (l := 0) (h := 8) rfl rfl rfl rfl (.inr ⟨_, _, rfl, by omega, by omega, by omega⟩) (.inl ⟨rfl, rfl⟩)) rfl rfl ?_
    rw [sub_zero, Nat.sub_zero, Nat.sub_zero]
    generalize smallN (la.take 8) = n at hsm e
    by_cases hn : n = number
    · subst hn
      rw [if_neg (by simp)] at e
      repeat (first | (refine G_id ?_; first | refine G_nil ?_ | refine G_plain rfl rfl ?_ | refine G_yes rfl rfl rfl rfl ?_) | (refine X_id ?_; first | (refine X_callg 63 rfl rfl rfl rfl rfl (hsm _ (hS.rd (List.mem_cons_self ..))) ?_; rintro _ _ ⟨rfl, rfl⟩) | refine X_yl (Yl_move rfl rfl) rfl rfl ?_ | refine X_yl (Yl_assign rfl rfl) rfl rfl ?_ | refine X_yl (Yl_nilCheck rfl rfl) rfl rfl ?_ | refine X_yl (Yl_fieldAddr0 rfl rfl rfl) rfl rfl ?_ | refine X_yl (Yl_pick_f rfl rfl rfl) rfl rfl ?_ | refine X_yl (Yl_neq_f rfl rfl rfl (by omega)) rfl rfl ?_ | refine X_yl (Yl_build rfl rfl rfl) rfl rfl ?_ | refine X_yl (Yl_load rfl rfl hS.cell) rfl rfl ?_ | refine X_box rfl rfl rfl rfl hS (fun _ _ hS _ => ?_)) | (refine C_id ?_; first | refine C_seq ?_ | refine C_region ?_ | refine C_skip ?_ | refine C_cond_f rfl ?_) | (refine E_id ?_; first | refine E_code ?_))
      rename_i sp _ _
      refine X_makeB (c := 64) rfl rfl rfl (by omega) (by omega) rfl rfl hS (fun zb _ hS => ?_)
      repeat (first | (refine G_id ?_; first | refine G_plain rfl rfl ?_))
      obtain ⟨_, hc, hr, hw, hbk⟩ := hS.call [false, true, false, false, true]
      refine X_callg _ rfl rfl rfl rfl rfl (swrite_ sp p (0, D) 1 _ 64 64 zeros64 _ _ hc ((hr _ (List.mem_cons_self ..)).mono fun h hh => ⟨h, row_pts h hh, fun _ _ e => e⟩) rfl (by simp only; omega)) ?_
      rintro _ w ⟨_, hS⟩
      replace hS := hbk hS
      clear hc hr hw hbk
      have hl := stepW_line (0, D) 1 zeros64
      simp only at hl
      repeat (first | (refine G_id ?_; first | refine G_nil ?_ | refine G_plain rfl rfl ?_) | (refine X_id ?_; first | refine X_yl (Yl_move rfl rfl) rfl rfl ?_) | (refine C_id ?_; first | refine C_seq ?_ | refine C_region ?_) | (refine E_id ?_; first | refine E_code ?_))
      obtain ⟨_, hc, hr, hw, hbk⟩ := hS.call [true, true, false, false, false]
      refine X_callg _ rfl rfl rfl rfl rfl (sflush_ sp p (stepW (0, D) 1 zeros64) _ _ hc (by omega)) ?_
      rintro _ w ⟨_, hS⟩
      replace hS := hbk hS
      clear hc hr hw hbk
      rw [e]
      generalize stepF (stepW (0, D) 1 zeros64) = Y at hS ⊢
      repeat (first | (refine G_id ?_; first | refine G_nil ?_ | refine G_plain rfl rfl ?_) | (refine X_id ?_; first | refine X_yl (Yl_move rfl rfl) rfl rfl ?_ | refine X_yl (Yl_assign rfl rfl) rfl rfl ?_ | refine X_yl (Yl_nilCheck rfl rfl) rfl rfl ?_ | refine X_yl (Yl_fieldAddr0 rfl rfl rfl) rfl rfl ?_ | refine X_yl (Yl_load rfl rfl hS.cell) rfl rfl ?_) | (refine C_id ?_; first | refine C_seq ?_ | refine C_region ?_ | refine C_ret ?_) | (refine E_id ?_; first | refine E_code ?_ | refine E_ret1 rfl (Rv_tmp rfl) (Ret.mk ?_)))
      refine ⟨rfl, ?_⟩
      have hS := hS.pick [4, 1]
      exact hS
    · rw [if_pos hn] at e
      repeat (first | (refine G_id ?_; first | refine G_nil ?_ | refine G_plain rfl rfl ?_ | refine G_yes rfl rfl rfl rfl ?_) | (refine X_id ?_; first | (refine X_callg 63 rfl rfl rfl rfl rfl (hsm _ (hS.rd (List.mem_cons_self ..))) ?_; rintro _ _ ⟨rfl, rfl⟩) | refine X_yl (Yl_move rfl rfl) rfl rfl ?_ | refine X_yl (Yl_assign rfl rfl) rfl rfl ?_ | refine X_yl (Yl_pick_f rfl rfl rfl) rfl rfl ?_ | refine X_yl (Yl_neq_t rfl rfl rfl (by omega)) rfl rfl ?_) | (refine C_id ?_; first | refine C_seq ?_ | refine C_region ?_ | refine C_ret ?_ | refine C_cond_t rfl ?_) | (refine E_id ?_; first | refine E_code ?_ | refine E_then_ret ?_ | refine E_ret1 rfl (Rv_tmp rfl) (Ret.mk ?_)))
      rw [e]
      exact ⟨rfl, hS.pick [1, 1]⟩
  · rw [if_pos hea] at e
    repeat (first | (refine G_id ?_; first | refine G_nil ?_ | refine G_plain rfl rfl ?_ | refine G_no rfl rfl rfl rfl rfl rfl ?_) | (refine X_id ?_; first | refine X_yl (Yl_move rfl rfl) rfl rfl ?_ | refine X_yl (Yl_assign rfl rfl) rfl rfl ?_ | refine X_yl (Yl_extract rfl rfl) rfl rfl ?_ | refine X_yl (Yl_pick_t rfl rfl rfl) rfl rfl ?_ | refine X_yl (Yl_neq_t rfl rfl rfl (by omega)) rfl rfl ?_) | (refine C_id ?_; first | refine C_seq ?_ | refine C_region ?_ | refine C_ret ?_ | refine C_cond_t rfl ?_) | (refine E_id ?_; first | refine E_code ?_ | refine E_then_ret ?_ | refine E_ret1 rfl (Rv_tmp rfl) (Ret.mk ?_)))
    rw [e]
    exact ⟨rfl, hS.pick [1, 1]⟩
end Cr
namespace Cr
open Go
set_option maxRecDepth 10000
section
variable {P : Program} {w : World} {t e : TypeId}
theorem run_equalIn_arr (d n : Nat) [h : Und P t (.array n e)] [he : Und P e (.int .u8)] [hs : Siz P e 1] [h1 : One P e] (a b : List UInt8) (ha : a.length = n) (hb : b.length = n) :
    (Op.equalIn (d + 2) t (.agg (bv a).toArray) (.agg (bv b).toArray)).run P w = .ok (decide (a = b)) w := by
  unfold Op.equalIn
  simp only [Sem.run_bind, run_underlying h.und, Result.andThen_ok, run_sizeOf (n := 1), Nat.mul_one]
  simp only [Std.Legacy.Range.forIn_eq_forIn_range']
  have hp : ∀ (l : List UInt8) (i : Nat) (hi : i < l.length), (part e (bv l).toArray i).run P w = .ok (.int .u8 (l[i].toNat : Int)) w := fun l i hi => by
    have := bv_get hi
    simp [part, h1.one, List.getElem?_toArray, this]
  have key : ∀ m s, s + m = n → (forIn (List.range' s m) (none, ()) (fun i (__s : Option Bool × Unit) => do
      let __do_lift ← part e (bv a).toArray i
      let __do_lift_1 ← part e (bv b).toArray i
      let __do_lift ← Op.equalIn (d + 1) e __do_lift __do_lift_1
      if (!__do_lift) = true then pure (ForInStep.done (some false, ())) else pure (ForInStep.yield (none, ()))) : Sem (Option Bool × Unit)).run P w = .ok (if a.drop s = b.drop s then none else some false, ()) w := by
    intro m
    induction m with
    | zero =>
      intro s hs
      rw [List.drop_of_length_le (by omega), List.drop_of_length_le (by omega)]
      simp
    | succ m ih =>
      intro s hs
      have hsa : s < a.length := by omega
      have hsb : s < b.length := by omega
      rw [List.range'_succ, List.forIn_cons]
      simp only [Sem.run_bind, hp a s hsa, hp b s hsb, Result.andThen_ok, run_equalIn_int w d e .u8 .u8 _ _ he.und]
      rw [List.drop_eq_getElem_cons hsa, List.drop_eq_getElem_cons hsb]
      by_cases hc : a[s] = b[s]
      · have e1 : ((a[s].toNat : Int) == (b[s].toNat : Int)) = true := by rw [hc]; simp
        rw [e1]
        simp only [Bool.not_true, Bool.false_eq_true, if_false, Sem.run_pure, Result.andThen_ok]
        rw [ih (s + 1) (by omega), hc]
        simp only [List.cons.injEq, true_and]
      · have e1 : ((a[s].toNat : Int) == (b[s].toNat : Int)) = false := by
          simp only [beq_eq_false_iff_ne, ne_eq]
          intro h
          exact hc (UInt8.toNat_inj.1 (by omega))
        rw [e1]
        simp only [Bool.not_false, if_true, Sem.run_pure, Result.andThen_ok]
        rw [if_neg (fun h => hc (List.cons.inj h).1)]
  have hz : [:n].size = n := by simp [Std.Legacy.Range.size]
  rw [hz, key n 0 (by omega)]
  by_cases hab : a = b <;> simp [hab]
end
section
variable {P : Program} {o : Oper} {σ : Env} {w : World} {x y : Operand} {t ty e : TypeId}
/-- Comparing arrays of this type asks no interface. -/
class NoGuard (P : Program) (t : TypeId) : Prop where
  no : P.eqGuardType P.depth t = false
theorem Yl_neqArr {n : Nat} {a b : List UInt8} (ho : o.op = .binOp .neq t x y ty) (hx : ev σ x = some (.agg (bv a).toArray)) (hy : ev σ y = some (.agg (bv b).toArray)) [h : Und P t (.array n e)] [he : Und P e (.int .u8)] [hs : Siz P e 1] [h1 : One P e] [hg : NoGuard P t] (ha : a.length = n) (hb : b.length = n) :
    Yl P o σ w (.bool (decide (¬ a = b))) := ⟨fun N ds f hf => by
  have h2 := run_eqGuard_agg (P := P) (w := w) .neq t x y (bv a).toArray (bv b).toArray hg.no
  have h3 := run_neq_struct (P := P) (w := w) t (bv a).toArray (bv b).toArray
  have h4 := run_equalIn_arr (P := P) (w := w) (t := t) (e := e) 9998 n a b ha hb
  have e1 : (!(decide (a = b))) = decide (¬ a = b) := by by_cases q : a = b <;> simp [q]
  simp only [execOp, ho, hf.eval hx, hf.eval hy, Sem.run_bind, h2, h3, h4, Result.andThen_ok, e1]
  rfl⟩
theorem Yl_eqlArr {n : Nat} {a b : List UInt8} (ho : o.op = .binOp .eql t x y ty) (hx : ev σ x = some (.agg (bv a).toArray)) (hy : ev σ y = some (.agg (bv b).toArray)) [h : Und P t (.array n e)] [he : Und P e (.int .u8)] [hs : Siz P e 1] [h1 : One P e] [hg : NoGuard P t] (ha : a.length = n) (hb : b.length = n) :
    Yl P o σ w (.bool (decide (a = b))) := ⟨fun N ds f hf => by
  have h2 := run_eqGuard_agg (P := P) (w := w) .eql t x y (bv a).toArray (bv b).toArray hg.no
  have h3 := run_eql_struct (P := P) (w := w) t (bv a).toArray (bv b).toArray
  have h4 := run_equalIn_arr (P := P) (w := w) (t := t) (e := e) 9998 n a b ha hb
  simp only [execOp, ho, hf.eval hx, hf.eval hy, Sem.run_bind, h2, h3, h4, Result.andThen_ok]
  rfl⟩
end
end Cr
namespace Cr
open Go Go.Proofs
set_option maxRecDepth 100000
set_option maxHeartbeats 8000000
attribute [local irreducible] Calls
instance : NoGuard Tryz.prog 105 := ⟨by kernel_rfl⟩

theorem entM_d (D : DiskM) (hok : D.ok) (j : Nat) (number at_ : Int) : (entM D j number at_).d.length = 32 := by
  unfold entM
  split
  · simp [Ent.none]
  · split
    · simp [Ent.none]
    · rename_i h
      have h1 : (D.read (1 + 2 * at_)).1 = 0 := Decidable.byContradiction fun e => h (.inl e)
      have := read_64 hok h1
      simp [entOf, this]
theorem entM_ok {D : DiskM} {j : Nat} {number at_ : Int} (h : (entM D j number at_).ok = true) : 0 ≤ at_ ∧ at_ < (j : Int) / 2 := by
  unfold entM at h
  split at h
  · simp [Ent.none] at h
  · rename_i h'; omega
theorem entM_b (D : DiskM) (hok : D.ok) (j : Nat) (number at_ : Int) : (entM D j number at_).b.length ≤ 64 := by
  unfold entM
  split
  · simp [Ent.none]
  · split
    · simp [Ent.none]
    · rename_i h
      have h1 : (D.read (1 + 2 * at_ + 1)).1 = 0 := Decidable.byContradiction fun e => h (.inr e)
      have := read_64 hok h1
      simp [entOf, this]
theorem framed_sum_le (number : Int) (d : List (Int × List UInt8)) (h : ∀ x ∈ d, x.2.length ≤ 64) : (framed (sumTexts number d)).length ≤ 20 + d.length * 76 := by
  have key : ∀ d : List (Int × List UInt8), (∀ x ∈ d, x.2.length ≤ 64) → (framed (d.flatMap fun v => [bigB v.1 4, v.2])).length ≤ d.length * 76 := by
    intro d
    induction d with
    | nil => intro _; simp [framed]
    | cons x d ih =>
      intro h
      have h1 := ih fun y hy => h y (List.mem_cons_of_mem _ hy)
      have h2 := h x (List.mem_cons_self ..)
      simp only [framed, List.flatMap_cons, List.cons_append, List.nil_append, List.length_append, frameB_length, bigB_length, List.length_cons] at h1 ⊢
      omega
  have h1 := key d h
  unfold framed at h1
  simp only [sumTexts, framed, List.flatMap_cons, List.cons_append, List.nil_append, List.length_append, frameB_length, bigB_length]
  omega
def entW (e : Ent) : Int × List UInt8 := (e.no, e.b)
def goodE (e0 e : Ent) : Bool := e.ok && decide (e.count = e0.count) && decide (e.d = e0.d)
def entList (D : DiskM) (j : Nat) (number : Int) (n : Nat) : List Ent := (List.range n).map fun i => entM D j number (i : Nat)
theorem entList_succ (D : DiskM) (j : Nat) (number : Int) (n : Nat) : entList D j number (n + 1) = entList D j number n ++ [entM D j number (n : Nat)] := by simp [entList, List.range_succ]
def foundL (D : DiskM) (j : Nat) (number : Int) : Option (List (Int × List UInt8)) :=
  if (entM D j number 0).ok = true ∧ 1 ≤ (entM D j number 0).count then
    if (entList D j number (entM D j number 0).count.toNat).all (goodE (entM D j number 0)) = true then some ((entList D j number (entM D j number 0).count.toNat).map entW) else none
  else none
def foundM (rd fs : List Int) (D : DiskM) (j : Nat) (number : Int) : List (Int × List UInt8) :=
  match foundL D j number with
  | none => []
  | some ws => if checkM ws = 0 ∧ sumB rd fs number ws = (entM D j number 0).d then ws else []
theorem all_entList {D : DiskM} {j : Nat} {number : Int} {e0 : Ent} {n i : Nat} (hi : i < n) (h : goodE e0 (entM D j number (i : Nat)) = false) : (entList D j number n).all (goodE e0) = false := by
  rw [List.all_eq_false]
  exact ⟨_, List.mem_map.2 ⟨i, List.mem_range.2 hi, rfl⟩, by simp [h]⟩
theorem found_ (lp p : Nat) (o s m : Int) (j : Nat) (done : Int) (rdn : Bool) (D : DiskM) (number : Int) (rd fs : List Int) (W : World) (hG : Gl W noF rd fs) (hL : Rd W (logAt lp p o s m j done rdn)) (hD : Rd W (disk p D)) (hj : j ≤ 4096) (hline : D.line.length < 1073741824) :
    Calls Tryz.prog 40 #[.pointer (some ⟨lp, 0, none⟩), .int .i64 number] W (Ret fun v w => ∃ a c ws O, v = .slice a ws.length c ∧ ws.map Wr.data = foundM rd fs D j number ∧ (a = none ↔ ws = []) ∧ (∀ v ∈ ws, v.x ∈ O) ∧
      St W noF [own 85 2 a c (ws.flatMap Wr.cells), rds O] w) := by
  have hS := St.start W
  have hLo := hL.ro
  have hDo := hD.ro
  have hok := hD.disk.1
  obtain ⟨e0, he0⟩ : ∃ e0, e0 = entM D j number 0 := ⟨_, rfl⟩
  have hd0 : e0.d.length = 32 := he0 ▸ entM_d D hok j number 0
  have hl0 : LenO (bv e0.d) 32 := ⟨by simp [hd0]⟩
  have hnil : ∀ w, St W noF [] w → foundM rd fs D j number = [] → ∃ a c ws O, (Value.slice none 0 0) = .slice a ws.length c ∧ ws.map Wr.data = foundM rd fs D j number ∧ (a = none ↔ ws = []) ∧ (∀ v ∈ ws, v.x ∈ O) ∧
      St W noF [own 85 2 a c (ws.flatMap Wr.cells), rds O] w := fun w h e => ⟨none, 0, [], [], rfl, by rw [e]; rfl, by simp, by simp, h.rdsNil.own_none _ _ _⟩
  refine calls_C Tryz.func40 rfl Tryz.ntmps40 rfl ?_
  repeat (first | (refine G_id ?_; first | refine G_nil ?_ | refine G_plain rfl rfl ?_) | (refine X_id ?_; first | refine X_yl (Yl_move rfl rfl) rfl rfl ?_ | refine X_yl (Yl_assign rfl rfl) rfl rfl ?_) | (refine C_id ?_; first | refine C_seq ?_ | refine C_scope rfl ?_ | refine C_region ?_) | (refine E_id ?_; first | refine E_code ?_))
  refine X_callg _ rfl rfl rfl rfl rfl (entry_ lp p o s m j done rdn D number 0 _ (hLo.rd hS) (hDo.rd hS) hj hline (by omega)) ?_
  rintro _ w ⟨a0, c0, rfl, hc0, hS'⟩
  replace hS := hS.plus hS'
  clear hS'
  rw [← he0] at hS hc0 ⊢
  have hfl : foundL D j number = if e0.ok = true ∧ 1 ≤ e0.count then if (entList D j number e0.count.toNat).all (goodE e0) = true then some ((entList D j number e0.count.toNat).map entW) else none else none := by unfold foundL; rw [← he0]
  obtain ⟨no0, b0, n0, d0, ok0⟩ := e0
  simp only at hd0 hl0 hfl hS hc0
  unfold Ent.val
  simp only
  cases ok0
  · repeat (first | (refine G_id ?_; first | refine G_nil ?_ | refine G_plain rfl rfl ?_ | refine G_no rfl rfl rfl rfl rfl rfl ?_) | (refine X_id ?_; first | refine X_yl (Yl_move rfl rfl) rfl rfl ?_ | refine X_yl (Yl_assign rfl rfl) rfl rfl ?_ | refine X_yl (Yl_extract rfl rfl) rfl rfl ?_ | refine X_yl (Yl_pick_t rfl rfl rfl) rfl rfl ?_ | refine X_yl (Yl_not_f rfl rfl) rfl rfl ?_ | refine X_store rfl rfl rfl rfl hS (fun _ hS _ => ?_) | refine X_alloc rfl rfl rfl hS (fun _ _ hS _ => ?_)) | (refine C_id ?_; first | refine C_seq ?_ | refine C_region ?_ | refine C_ret ?_ | refine C_cond_t rfl ?_) | (refine E_id ?_; first | refine E_code ?_ | refine E_then_ret ?_ | refine E_noGoto (fun _ h => by cases h) ?_ | refine E_ret1 rfl (Rv_tmp rfl) (Ret.mk ?_)))
    refine hnil _ hS.drops ?_
    unfold foundM
    rw [hfl, if_neg (by simp)]
  · by_cases h1 : n0 < 1
    · repeat (first | (refine G_id ?_; first | refine G_nil ?_ | refine G_plain rfl rfl ?_ | refine G_yes rfl rfl rfl rfl ?_) | (refine X_id ?_; first | refine X_yl (Yl_move rfl rfl) rfl rfl ?_ | refine X_yl (Yl_assign rfl rfl) rfl rfl ?_ | refine X_yl (Yl_extract rfl rfl) rfl rfl ?_ | refine X_yl (Yl_pick_f rfl rfl rfl) rfl rfl ?_ | refine X_yl (Yl_not_t rfl rfl) rfl rfl ?_ | refine X_yl (Yl_lss_t rfl rfl rfl (by omega)) rfl rfl ?_ | refine X_store rfl rfl rfl rfl hS (fun _ hS _ => ?_) | refine X_alloc rfl rfl rfl hS (fun _ _ hS _ => ?_)) | (refine C_id ?_; first | refine C_seq ?_ | refine C_region ?_ | refine C_ret ?_ | refine C_cond_t rfl ?_) | (refine E_id ?_; first | refine E_code ?_ | refine E_then_ret ?_ | refine E_noGoto (fun _ h => by cases h) ?_ | refine E_ret1 rfl (Rv_tmp rfl) (Ret.mk ?_)))
      refine hnil _ hS.drops ?_
      unfold foundM
      rw [hfl, if_neg (by omega)]
    · repeat (first | (refine G_id ?_; first | refine G_nil ?_ | refine G_plain rfl rfl ?_ | refine G_yes rfl rfl rfl rfl ?_) | (refine X_id ?_; first | refine X_yl (Yl_move rfl rfl) rfl rfl ?_ | refine X_yl (Yl_assign rfl rfl) rfl rfl ?_ | refine X_yl (Yl_extract rfl rfl) rfl rfl ?_ | refine X_yl (Yl_pick_f rfl rfl rfl) rfl rfl ?_ | refine X_yl (Yl_not_t rfl rfl) rfl rfl ?_ | refine X_yl (Yl_lss_f rfl rfl rfl (by omega)) rfl rfl ?_ | refine X_store rfl rfl rfl rfl hS (fun _ hS _ => ?_) | refine X_alloc rfl rfl rfl hS (fun _ _ hS _ => ?_)) | (refine C_id ?_; first | refine C_seq ?_ | refine C_label ?_ | refine C_region ?_ | refine C_block ?_ | refine C_skip ?_ | refine C_cond_f rfl ?_) | (refine E_id ?_; first | refine E_code ?_))
      rename_i b6 w6 _ _ b8 w8 _ _ w9 _ _ w10 _
      replace hS := (hS.pick [0]).rdsNil.own_none 85 2 none
      rw [if_pos ⟨rfl, by omega⟩] at hfl
      have hbad : ∀ i : Nat, i < n0.toNat → goodE ⟨no0, b0, n0, d0, true⟩ (entM D j number (i : Nat)) = false → foundM rd fs D j number = [] := fun i hi h => by
        unfold foundM
        rw [hfl, if_neg (by rw [all_entList hi h]; simp)]
      refine C_loop (α := Nat × Option Addr × Nat × List Wr × List Bs) (fun z => [(0, .pointer (some ⟨lp, 0, none⟩)), (1, .int .i64 number), (5, .slice z.2.1 z.2.2.2.1.length z.2.2.1), (7, .int .i64 n0), (8, .pointer (some ⟨b8, 0, none⟩)), (10, .int .i64 (z.1 : Nat))])
        (fun z w => (z.1 ≤ n0.toNat ∧ z.1 ≤ 2048 ∧ z.2.2.2.1.length = z.1 ∧ z.2.2.2.1.length ≤ z.2.2.1) ∧ (z.2.2.2.1.map Wr.data = (entList D j number z.1).map entW ∧ (entList D j number z.1).all (goodE ⟨no0, b0, n0, d0, true⟩) = true ∧ (z.2.1 = none ↔ z.1 = 0) ∧ (∀ v ∈ z.2.2.2.1, v.x ∈ z.2.2.2.2) ∧ (∀ v ∈ z.2.2.2.1, v.x.s.length ≤ 64)) ∧
          St W noF [own 85 2 z.2.1 z.2.2.1 (z.2.2.2.1.flatMap Wr.cells), rds z.2.2.2.2, pts b8 (.cells (bv d0).toArray 105)] w) (fun z => n0.toNat - z.1)
        (0, none, 0, [], []) ⟨rfl, rfl, rfl, rfl, rfl, rfl, trivial⟩ ⟨⟨Nat.zero_le _, Nat.zero_le _, rfl, Nat.le_refl _⟩, ⟨rfl, rfl, by simp, by simp, by simp⟩, hS⟩ ?_
      clear hS
      rintro ⟨i, a5, c5, ws, O⟩ w ⟨⟨hi, hi2, hwl, hwc⟩, ⟨hwd, hgood, hnone, hO, hw64⟩, hS⟩
      simp only at hi hi2 hwl hwc hwd hgood hnone hO hw64 hS ⊢
      by_cases hlt : i < n0.toNat
      · have hlt' : (i : Int) < n0 := by omega
        repeat (first | (refine G_id ?_; first | refine G_nil ?_ | refine G_plain rfl rfl ?_) | (refine X_id ?_; first | refine X_yl (Yl_move rfl rfl) rfl rfl ?_ | refine X_yl (Yl_lss_t rfl rfl rfl (by omega)) rfl rfl ?_) | (refine C_id ?_; first | refine C_seq ?_ | refine C_region ?_ | refine C_block ?_ | refine C_skip ?_ | refine C_cond_t rfl ?_) | (refine E_id ?_; first | refine E_code ?_))
        refine X_callg _ rfl rfl rfl rfl rfl (entry_ lp p o s m j done rdn D number (i : Nat) _ (hLo.rd hS) (hDo.rd hS) hj hline (by omega)) ?_
        rintro _ w ⟨a1, c1, rfl, hc1, hS'⟩
        replace hS := hS.plus hS'
        clear hS'
        have hok1 := fun h => (entM_ok (D := D) (j := j) (number := number) (at_ := (i : Nat)) h)
        have hsucc := entList_succ D j number i
        have hd1 := entM_d D hok j number (i : Nat)
        have hbadi := hbad i hlt
        have hb1 := entM_b D hok j number (i : Nat)
        generalize entM D j number (i : Nat) = e1 at hS hc1 hok1 hsucc hd1 hbadi hb1 ⊢
        obtain ⟨no1, b1, n1, d1, ok1⟩ := e1
        simp only at hd1 hS hc1 hok1 hb1
        have hl1 : LenO (bv d1) 32 := ⟨by simp [hd1]⟩
        unfold Ent.val
        simp only
        cases ok1
        · have hf := hbadi (by simp [goodE])
          repeat (first | (refine G_id ?_; first | refine G_nil ?_ | refine G_plain rfl rfl ?_ | refine G_no rfl rfl rfl rfl rfl rfl ?_) | (refine X_id ?_; first | refine X_yl (Yl_move rfl rfl) rfl rfl ?_ | refine X_yl (Yl_assign rfl rfl) rfl rfl ?_ | refine X_yl (Yl_extract rfl rfl) rfl rfl ?_ | refine X_yl (Yl_pick_t rfl rfl rfl) rfl rfl ?_ | refine X_yl (Yl_not_f rfl rfl) rfl rfl ?_ | refine X_store rfl rfl rfl rfl hS (fun _ hS _ => ?_) | refine X_alloc rfl rfl rfl hS (fun _ _ hS _ => ?_)) | (refine C_id ?_; first | refine C_seq ?_ | refine C_region ?_ | refine C_exit ?_ | refine C_cond_t rfl ?_) | (refine E_id ?_; first | refine E_code ?_ | refine E_then_exit ?_ | refine E_blk_same ?_ | refine E_blk_ne rfl ?_))
          refine C_ord (.s 0 (.s 1 (.s 2 (.s 3 (.h 4 (.s 5 (.s 6 (.s 7 (.s 8 (.s 9 (.s 11 (.h 10 (.s 12 (.s 13 .nil)) .no))))))) .no))))) mixed (by kernel_rfl) rfl ?_
          have hS := hS.drew
          repeat (first | (refine G_id ?_; first | refine G_nil ?_ | refine G_plain rfl rfl ?_) | (refine X_id ?_; first | refine X_yl (Yl_assign rfl rfl) rfl rfl ?_) | (refine C_id ?_; first | refine C_seq ?_ | refine C_region ?_ | refine C_ret ?_ | refine C_cond_t rfl ?_) | (refine E_id ?_; first | refine E_code ?_ | refine E_then_ret ?_ | refine E_noGoto (fun _ h => by cases h) ?_ | refine E_ret1 rfl (Rv_tmp rfl) (Ret.mk ?_)) | (refine GO_id ?_; first | refine GO_nil ?_ | refine GO_pure rfl rfl (fun _ => Yl_move rfl rfl) rfl rfl ?_ | refine GO_pure rfl rfl (fun _ => Yl_pick_t rfl rfl rfl) rfl rfl ?_ | refine GO_pure rfl rfl (fun _ => Yl_eqlNilSlice rfl rfl rfl) rfl rfl ?_ | refine GO_hard_no rfl rfl rfl rfl rfl rfl rfl ?_ | refine GO_no rfl rfl rfl rfl rfl rfl rfl ?_))
          exact hnil _ hS.drops hf
        · by_cases hn : n1 = n0
          · by_cases hd : d1 = d0
            · subst hn hd
              repeat (first | (refine G_id ?_; first | refine G_nil ?_ | refine G_plain rfl rfl ?_ | refine G_yes rfl rfl rfl rfl ?_) | (refine X_id ?_; first | refine X_yl (Yl_move rfl rfl) rfl rfl ?_ | refine X_yl (Yl_assign rfl rfl) rfl rfl ?_ | refine X_yl (Yl_extract rfl rfl) rfl rfl ?_ | refine X_yl (Yl_pick_f rfl rfl rfl) rfl rfl ?_ | refine X_yl (Yl_not_t rfl rfl) rfl rfl ?_ | refine X_yl (Yl_neq_f rfl rfl rfl (by omega)) rfl rfl ?_ | refine X_yl (Yl_loadN rfl rfl hS.cellsN) rfl rfl ?_ | refine X_store rfl rfl rfl rfl hS (fun _ hS _ => ?_) | refine X_alloc rfl rfl rfl hS (fun _ _ hS _ => ?_)) | (refine C_id ?_; first | refine C_seq ?_ | refine C_region ?_) | (refine E_id ?_; first | refine E_code ?_))
              refine X_yl (Yl_neqArr rfl rfl rfl hd1 hd0) rfl rfl ?_
              rw [decide_eq_false (not_not_intro rfl)]
              repeat (first | (refine G_id ?_; first | refine G_nil ?_ | refine G_plain rfl rfl ?_) | (refine X_id ?_; first | refine X_yl (Yl_move rfl rfl) rfl rfl ?_ | refine X_yl (Yl_pick_f rfl rfl rfl) rfl rfl ?_ | refine X_yl (Yl_loadN rfl rfl hS.cellsN) rfl rfl ?_ | refine X_buildSlice rfl rfl rfl rfl rfl rfl rfl rfl hS (fun _ _ hS _ => ?_)) | (refine C_id ?_; first | refine C_region ?_ | refine C_skip ?_ | refine C_cond_f rfl ?_) | (refine E_id ?_; first | refine E_code ?_))
              have hok2 := hok1 rfl
              refine X_append rfl rfl rfl rfl rfl hS (flatMap_len (f := Wr.cells) (n := 2) fun _ _ => rfl) hwc (hS.rd (List.mem_cons_self ..)).own_row rfl (fun u hu => by
                simp only [List.mem_cons, List.not_mem_nil, or_false] at hu
                rcases hu with rfl | rfl <;> rfl) (by omega) (by simp only [maxLen]; omega) (fun a' c' w hS hc' hnil' => ?_)
              repeat (first | (refine G_id ?_; first | refine G_nil ?_ | refine G_plain rfl rfl ?_) | (refine X_id ?_; first | refine X_yl (Yl_move rfl rfl) rfl rfl ?_ | refine X_yl (Yl_assign rfl rfl) rfl rfl ?_ | refine X_yl (Yl_add rfl rfl rfl (w64 (by omega) (by omega))) rfl rfl ?_) | (refine C_id ?_; first | refine C_region ?_) | (refine E_id ?_; first | refine E_code ?_ | refine E_blk_n ?_))
              refine E_round (z := (i, a5, c5, ws, O)) (i + 1, a', c', ws ++ [(⟨no1, ⟨a1, c1, b1⟩⟩ : Wr)], O ++ [(⟨a1, c1, b1⟩ : Bs)]) ⟨rfl, rfl, ?_, rfl, rfl, rfl, trivial⟩ ⟨⟨by simp only; omega, by simp only; omega, by simp; omega, by simp; omega⟩, ⟨?_, ?_, ?_, ?_, ?_⟩, ?_⟩ (by simp only; omega)
              · show some _ = some _
                simp
              · show (ws ++ _).map Wr.data = _
                rw [hsucc, List.map_append, List.map_append, hwd]
                rfl
              · show (entList D j number (i + 1)).all _ = true
                rw [hsucc, List.all_append, hgood]
                simp [goodE]
              · show a' = none ↔ i + 1 = 0
                rw [hnil']; simp
              · intro v hv
                simp only [List.mem_append, List.mem_singleton] at hv ⊢
                rcases hv with hv | rfl
                · exact .inl (hO v hv)
                · exact .inr rfl
              · intro v hv
                simp only [List.mem_append, List.mem_singleton] at hv
                rcases hv with hv | rfl
                · exact hw64 v hv
                · exact hb1
              · skip
                have hS := hS.pick [4, 4, 0, 3]
                replace hS := St.rdsCons (x := ⟨a1, c1, b1⟩) hS
                have hS := hS.pick [1, 0, 0]
                simpa [Wr.cells] using hS
            · have hf := hbadi (by simp [goodE, hd])
              repeat (first | (refine G_id ?_; first | refine G_nil ?_ | refine G_plain rfl rfl ?_ | refine G_yes rfl rfl rfl rfl ?_) | (refine X_id ?_; first | refine X_yl (Yl_move rfl rfl) rfl rfl ?_ | refine X_yl (Yl_assign rfl rfl) rfl rfl ?_ | refine X_yl (Yl_extract rfl rfl) rfl rfl ?_ | refine X_yl (Yl_pick_f rfl rfl rfl) rfl rfl ?_ | refine X_yl (Yl_not_t rfl rfl) rfl rfl ?_ | refine X_yl (Yl_neq_f rfl rfl rfl (by omega)) rfl rfl ?_ | refine X_yl (Yl_loadN rfl rfl hS.cellsN) rfl rfl ?_ | refine X_store rfl rfl rfl rfl hS (fun _ hS _ => ?_) | refine X_alloc rfl rfl rfl hS (fun _ _ hS _ => ?_)) | (refine C_id ?_; first | refine C_seq ?_ | refine C_region ?_) | (refine E_id ?_; first | refine E_code ?_))
              refine X_yl (Yl_neqArr rfl rfl rfl hd1 hd0) rfl rfl ?_
              rw [decide_eq_true hd]
              repeat (first | (refine G_id ?_; first | refine G_nil ?_ | refine G_plain rfl rfl ?_) | (refine X_id ?_; first | refine X_yl (Yl_assign rfl rfl) rfl rfl ?_ | refine X_yl (Yl_pick_f rfl rfl rfl) rfl rfl ?_) | (refine C_id ?_; first | refine C_seq ?_ | refine C_region ?_ | refine C_exit ?_ | refine C_cond_t rfl ?_) | (refine E_id ?_; first | refine E_code ?_ | refine E_then_exit ?_ | refine E_blk_same ?_ | refine E_blk_ne rfl ?_))
              refine C_ord (.s 0 (.s 1 (.s 2 (.s 3 (.h 4 (.s 5 (.s 6 (.s 7 (.s 8 (.s 9 (.s 11 (.h 10 (.s 12 (.s 13 .nil)) .no))))))) .no))))) mixed (by kernel_rfl) rfl ?_
              have hS := hS.drew
              repeat (first | (refine G_id ?_; first | refine G_nil ?_ | refine G_plain rfl rfl ?_) | (refine X_id ?_; first | refine X_yl (Yl_assign rfl rfl) rfl rfl ?_) | (refine C_id ?_; first | refine C_seq ?_ | refine C_region ?_ | refine C_ret ?_ | refine C_cond_t rfl ?_) | (refine E_id ?_; first | refine E_code ?_ | refine E_then_ret ?_ | refine E_noGoto (fun _ h => by cases h) ?_ | refine E_ret1 rfl (Rv_tmp rfl) (Ret.mk ?_)) | (refine GO_id ?_; first | refine GO_nil ?_ | refine GO_pure rfl rfl (fun _ => Yl_move rfl rfl) rfl rfl ?_ | refine GO_pure rfl rfl (fun _ => Yl_pick_t rfl rfl rfl) rfl rfl ?_ | refine GO_pure rfl rfl (fun _ => Yl_eqlNilSlice rfl rfl rfl) rfl rfl ?_ | refine GO_hard_no rfl rfl rfl rfl rfl rfl rfl ?_ | refine GO_no rfl rfl rfl rfl rfl rfl rfl ?_))
              exact hnil _ hS.drops hf
          · have hf := hbadi (by simp [goodE, hn])
            repeat (first | (refine G_id ?_; first | refine G_nil ?_ | refine G_plain rfl rfl ?_ | refine G_yes rfl rfl rfl rfl ?_ | refine G_no rfl rfl rfl rfl rfl rfl ?_) | (refine X_id ?_; first | refine X_yl (Yl_move rfl rfl) rfl rfl ?_ | refine X_yl (Yl_assign rfl rfl) rfl rfl ?_ | refine X_yl (Yl_extract rfl rfl) rfl rfl ?_ | refine X_yl (Yl_pick_t rfl rfl rfl) rfl rfl ?_ | refine X_yl (Yl_pick_f rfl rfl rfl) rfl rfl ?_ | refine X_yl (Yl_not_t rfl rfl) rfl rfl ?_ | refine X_yl (Yl_neq_t rfl rfl rfl (by omega)) rfl rfl ?_ | refine X_store rfl rfl rfl rfl hS (fun _ hS _ => ?_) | refine X_alloc rfl rfl rfl hS (fun _ _ hS _ => ?_)) | (refine C_id ?_; first | refine C_seq ?_ | refine C_region ?_ | refine C_exit ?_ | refine C_cond_t rfl ?_) | (refine E_id ?_; first | refine E_code ?_ | refine E_then_exit ?_ | refine E_blk_same ?_ | refine E_blk_ne rfl ?_))
            refine C_ord (.s 0 (.s 1 (.s 2 (.s 3 (.h 4 (.s 5 (.s 6 (.s 7 (.s 8 (.s 9 (.s 11 (.h 10 (.s 12 (.s 13 .nil)) .no))))))) .no))))) mixed (by kernel_rfl) rfl ?_
            have hS := hS.drew
            repeat (first | (refine G_id ?_; first | refine G_nil ?_ | refine G_plain rfl rfl ?_) | (refine X_id ?_; first | refine X_yl (Yl_assign rfl rfl) rfl rfl ?_) | (refine C_id ?_; first | refine C_seq ?_ | refine C_region ?_ | refine C_ret ?_ | refine C_cond_t rfl ?_) | (refine E_id ?_; first | refine E_code ?_ | refine E_then_ret ?_ | refine E_noGoto (fun _ h => by cases h) ?_ | refine E_ret1 rfl (Rv_tmp rfl) (Ret.mk ?_)) | (refine GO_id ?_; first | refine GO_nil ?_ | refine GO_pure rfl rfl (fun _ => Yl_move rfl rfl) rfl rfl ?_ | refine GO_pure rfl rfl (fun _ => Yl_pick_t rfl rfl rfl) rfl rfl ?_ | refine GO_pure rfl rfl (fun _ => Yl_eqlNilSlice rfl rfl rfl) rfl rfl ?_ | refine GO_hard_no rfl rfl rfl rfl rfl rfl rfl ?_ | refine GO_no rfl rfl rfl rfl rfl rfl rfl ?_))
            exact hnil _ hS.drops hf
      · obtain rfl : i = n0.toNat := by omega
        have hn0 : ((n0.toNat : Nat) : Int) = n0 := by omega
        obtain ⟨ad, rfl⟩ : ∃ ad, a5 = some ad := by
          cases a5 with
          | none => have := hnone.1 rfl; omega
          | some ad => exact ⟨ad, rfl⟩
        obtain ⟨d, hd⟩ : ∃ d, d = ws.map Wr.data := ⟨_, rfl⟩
        rw [if_pos hgood, ← hwd, ← hd] at hfl
        have hfm : foundM rd fs D j number = if checkM d = 0 ∧ sumB rd fs number d = d0 then d else [] := by
          unfold foundM
          rw [hfl, ← he0]
        have hdw : d.length = ws.length := by rw [hd]; simp
        have hfr := framed_sum_le number d (fun x hx => by
          rw [hd] at hx
          obtain ⟨v, hv, rfl⟩ := List.mem_map.1 hx
          exact hw64 v hv)
        have hWW : ∀ w rs, St W noF (own 85 2 (some ad) c5 (ws.flatMap Wr.cells) :: rds O :: rs) w → Wrs w noF (some ad) ws := fun w rs h => ⟨(h.rd (List.mem_cons_self ..)).own_row.ro, fun v hv => (h.rd (List.mem_cons_of_mem _ (List.mem_cons_self ..))).ro.rds _ (hO v hv)⟩
        repeat (first | (refine G_id ?_; first | refine G_nil ?_ | refine G_plain rfl rfl ?_) | (refine X_id ?_; first | refine X_yl (Yl_move rfl rfl) rfl rfl ?_ | refine X_yl (Yl_lss_f rfl rfl rfl (by omega)) rfl rfl ?_) | (refine C_id ?_; first | refine C_seq ?_ | refine C_region ?_ | refine C_exit ?_ | refine C_cond_f rfl ?_) | (refine E_id ?_; first | refine E_code ?_ | refine E_then_exit ?_ | refine E_blk_same ?_))
        refine C_ord (.s 0 (.s 1 (.s 2 (.s 3 (.h 4 (.s 5 (.s 6 (.s 7 (.s 8 (.s 9 (.s 11 (.h 10 (.s 12 (.s 13 .nil)) .no))))))) .no))))) mixed (by kernel_rfl) rfl ?_
        have hS := hS.drew
        repeat (first | (refine GO_id ?_; first | refine GO_pure rfl rfl (fun _ => Yl_move rfl rfl) rfl rfl ?_ | refine GO_pure rfl rfl (fun _ => Yl_eqlNilSlice rfl rfl rfl) rfl rfl ?_ | refine GO_yes rfl rfl rfl rfl (fun _ => Yl_move rfl rfl) rfl rfl ?_ | refine GO_hard_yes rfl rfl rfl rfl ?_))
        refine X_callq _ rfl rfl rfl rfl rfl hS (check_ (some ad) c5 ws _ (hWW _ _ hS) (by omega) (fun v hv => by have := hw64 v hv; omega)) ?_
        rintro _ w rfl hS
        rw [← hd]
        by_cases hck : checkM d = 0
        · repeat (first | (refine GO_id ?_; first | refine GO_pure rfl rfl (fun _ => Yl_move rfl rfl) rfl rfl ?_ | refine GO_pure rfl rfl (fun _ => Yl_pick_f rfl rfl rfl) rfl rfl ?_ | refine GO_yes rfl rfl rfl rfl (fun _ => Yl_move rfl rfl) rfl rfl ?_ | refine GO_yes rfl rfl rfl rfl (fun _ => Yl_neq_f rfl rfl rfl (by omega)) rfl rfl ?_ | refine GO_hard_yes rfl rfl rfl rfl ?_ | refine GO_yes_read (fun w' => CellsN w' _ _ _) rfl rfl rfl rfl hS.cellsN (fun _ hc => Yl_loadN rfl rfl hc) rfl rfl ?_) | (refine Keep_id ?_; first | refine And.intro (by repeat (first | exact trivial | refine And.intro (.inl (by decide +kernel)) ?_ | refine And.intro (.inr (by first | assumption | exact hS.cell | exact cell_at (by assumption) | exact hS.cellI (by omega) | exact hS.cellIP (by omega) | exact hS.cellsN | exact ((hr.rd hS).cellX (by omega) hx) | exact ((hr2.rd hS).cellX (by omega) hx2) | exact hS.cellB (by omega) | exact hS.cellBA (by omega) | exact (hb.rd hS).cellB' (by omega) | exact (hb2.rd hS).cellB' (by omega) | exact (hg.rd hS).cellI (by omega) | exact (hg2.rd hS).cellI (by omega) | exact ((hr.rd hS).cellF (by first | omega | (dsimp only; omega)) hx) | exact ((hr2.rd hS).cellF (by first | omega | (dsimp only; omega)) hx2) | exact hS.cellIA (by omega) | exact (hg.rd hS).cellIA (by omega) | exact (hg2.rd hS).cellIA (by omega))) ?_)) ?_))
          refine X_callq _ rfl rfl rfl rfl rfl hS (wsum_ number (some ad) c5 ws rd fs _ (hG.mono fun r hr => (hr.rd hS).ro) (hWW _ _ hS) (by omega) (by rw [← hd]; omega)) ?_
          rintro _ w rfl hS
          rw [← hd]
          repeat (first | (refine Keep_id ?_; first | refine And.intro (by repeat (first | exact trivial | refine And.intro (.inl (by decide +kernel)) ?_ | refine And.intro (.inr (by first | assumption | exact hS.cell | exact cell_at (by assumption) | exact hS.cellI (by omega) | exact hS.cellIP (by omega) | exact hS.cellsN | exact ((hr.rd hS).cellX (by omega) hx) | exact ((hr2.rd hS).cellX (by omega) hx2) | exact hS.cellB (by omega) | exact hS.cellBA (by omega) | exact (hb.rd hS).cellB' (by omega) | exact (hb2.rd hS).cellB' (by omega) | exact (hg.rd hS).cellI (by omega) | exact (hg2.rd hS).cellI (by omega) | exact ((hr.rd hS).cellF (by first | omega | (dsimp only; omega)) hx) | exact ((hr2.rd hS).cellF (by first | omega | (dsimp only; omega)) hx2) | exact hS.cellIA (by omega) | exact (hg.rd hS).cellIA (by omega) | exact (hg2.rd hS).cellIA (by omega))) ?_)) ?_))
          refine GO_yes rfl rfl rfl rfl (fun _ => Yl_neqArr rfl rfl rfl (sumB_length ..) hd0) rfl rfl ?_
          by_cases hsm : sumB rd fs number d = d0
          · rw [decide_eq_false (not_not_intro hsm)]
            repeat (first | (refine G_id ?_; first | refine G_nil ?_ | refine G_plain rfl rfl ?_) | (refine X_id ?_; first | refine X_yl (Yl_move rfl rfl) rfl rfl ?_ | refine X_yl (Yl_assign rfl rfl) rfl rfl ?_) | (refine C_id ?_; first | refine C_seq ?_ | refine C_region ?_ | refine C_ret ?_ | refine C_skip ?_ | refine C_cond_f rfl ?_) | (refine E_id ?_; first | refine E_code ?_ | refine E_noGoto (fun _ h => by cases h) ?_ | refine E_ret1 rfl (Rv_tmp rfl) (Ret.mk ?_)) | (refine GO_id ?_; first | refine GO_nil ?_ | refine GO_pure rfl rfl (fun _ => Yl_pick_f rfl rfl rfl) rfl rfl ?_))
            refine ⟨some ad, c5, ws, O, rfl, ?_, ?_, hO, hS.pick [0, 0]⟩
            · rw [hfm, if_pos ⟨hck, hsm⟩, hd]
            · constructor
              · intro h; cases h
              · intro h; rw [h] at hwl; simp at hwl; omega
          · rw [decide_eq_true hsm]
            repeat (first | (refine G_id ?_; first | refine G_nil ?_ | refine G_plain rfl rfl ?_) | (refine X_id ?_; first | refine X_yl (Yl_assign rfl rfl) rfl rfl ?_) | (refine C_id ?_; first | refine C_seq ?_ | refine C_region ?_ | refine C_ret ?_ | refine C_cond_t rfl ?_) | (refine E_id ?_; first | refine E_code ?_ | refine E_then_ret ?_ | refine E_noGoto (fun _ h => by cases h) ?_ | refine E_ret1 rfl (Rv_tmp rfl) (Ret.mk ?_)) | (refine GO_id ?_; first | refine GO_nil ?_ | refine GO_pure rfl rfl (fun _ => Yl_pick_f rfl rfl rfl) rfl rfl ?_))
            exact hnil _ hS.drops (by rw [hfm, if_neg (fun h => hsm h.2)])
        · repeat (first | (refine G_id ?_; first | refine G_nil ?_ | refine G_plain rfl rfl ?_) | (refine X_id ?_; first | refine X_yl (Yl_assign rfl rfl) rfl rfl ?_) | (refine C_id ?_; first | refine C_seq ?_ | refine C_region ?_ | refine C_ret ?_ | refine C_cond_t rfl ?_) | (refine E_id ?_; first | refine E_code ?_ | refine E_then_ret ?_ | refine E_noGoto (fun _ h => by cases h) ?_ | refine E_ret1 rfl (Rv_tmp rfl) (Ret.mk ?_)) | (refine GO_id ?_; first | refine GO_nil ?_ | refine GO_pure rfl rfl (fun _ => Yl_move rfl rfl) rfl rfl ?_ | refine GO_pure rfl rfl (fun _ => Yl_pick_t rfl rfl rfl) rfl rfl ?_ | refine GO_pure rfl rfl (fun _ => Yl_pick_f rfl rfl rfl) rfl rfl ?_ | refine GO_yes rfl rfl rfl rfl (fun _ => Yl_neq_t rfl rfl rfl (by omega)) rfl rfl ?_ | refine GO_hard_no rfl rfl rfl rfl rfl rfl rfl ?_ | refine GO_no rfl rfl rfl rfl rfl rfl rfl ?_) | (refine Keep_id ?_; first | refine And.intro (by repeat (first | exact trivial | refine And.intro (.inl (by decide +kernel)) ?_ | refine And.intro (.inr (by first | assumption | exact hS.cell | exact cell_at (by assumption) | exact hS.cellI (by omega) | exact hS.cellIP (by omega) | exact hS.cellsN | exact ((hr.rd hS).cellX (by omega) hx) | exact ((hr2.rd hS).cellX (by omega) hx2) | exact hS.cellB (by omega) | exact hS.cellBA (by omega) | exact (hb.rd hS).cellB' (by omega) | exact (hb2.rd hS).cellB' (by omega) | exact (hg.rd hS).cellI (by omega) | exact (hg2.rd hS).cellI (by omega) | exact ((hr.rd hS).cellF (by first | omega | (dsimp only; omega)) hx) | exact ((hr2.rd hS).cellF (by first | omega | (dsimp only; omega)) hx2) | exact hS.cellIA (by omega) | exact (hg.rd hS).cellIA (by omega) | exact (hg2.rd hS).cellIA (by omega))) ?_)) ?_))
          exact hnil _ hS.drops (by rw [hfm, if_neg (fun h => hck h.1)])
end Cr
namespace Cr
open Go Go.Proofs
set_option maxRecDepth 100000
set_option maxHeartbeats 8000000
attribute [local irreducible] Calls

def rcount (b : List UInt8) : Nat := natTo ((secB b 1).drop 12) 4
def rdig (b : List UInt8) : List UInt8 := ((secB b 1).drop 20).take 32
def rno (b : List UInt8) (i : Nat) : Nat := natTo ((secB b (1 + 2 * i)).drop 16) 4
def rgood (b : List UInt8) (n number : Nat) (i : Nat) : Prop := rno b i < n ∧ secB b (1 + 2 * i) = noteB number i (rcount b) (rno b i) (rdig b) ∧ ∀ k, k < i → rno b k ≠ rno b i
def rlist (b : List UInt8) (n : Nat) : List (Int × List UInt8) := (List.range n).map fun i => ((rno b i : Int), secB b (2 + 2 * i))
theorem rlist_succ (b : List UInt8) (n : Nat) : rlist b (n + 1) = rlist b n ++ [((rno b n : Int), secB b (2 + 2 * n))] := by simp [rlist, List.range_succ]
def rfoundOk (b : List UInt8) (j number : Nat) : Prop := 1 ≤ rcount b ∧ rcount b ≤ j / 2 ∧ (∀ i, i < rcount b → rgood b (b.length / 64 - 1 - j) number i) ∧ sumB roundL firstL number (rlist b (rcount b)) = rdig b
def rlistW (a : Option Addr) (c : Nat) (b : List UInt8) (n : Nat) : List Wr := (List.range n).map fun i => ⟨(rno b i : Int), ⟨sub a (64 * (2 + 2 * i)) 1 c, c - 64 * (2 + 2 * i), secB b (2 + 2 * i)⟩⟩
theorem rlistW_data (a : Option Addr) (c : Nat) (b : List UInt8) (n : Nat) : (rlistW a c b n).map Wr.data = rlist b n := by simp [rlistW, rlist, Wr.data]
theorem rlistW_length (a : Option Addr) (c : Nat) (b : List UInt8) (n : Nat) : (rlistW a c b n).length = n := by simp [rlistW]
theorem rlistW_succ (a : Option Addr) (c : Nat) (b : List UInt8) (n : Nat) : rlistW a c b (n + 1) = rlistW a c b n ++ [⟨(rno b n : Int), ⟨sub a (64 * (2 + 2 * n)) 1 c, c - 64 * (2 + 2 * n), secB b (2 + 2 * n)⟩⟩] := by simp [rlistW, List.range_succ]
def FoundR (W : World) (a : Option Addr) (c : Nat) (b : List UInt8) (j number : Nat) (v : Value) (w : World) : Prop :=
  (¬ rfoundOk b j number ∧ ∃ x, v = .tuple #[x, .bool false] ∧ St W noF [] w) ∨
  (rfoundOk b j number ∧ ∃ (aw : Option Addr) (cw : Nat), v = .tuple #[.slice aw (rcount b) cw, .bool true] ∧ St W noF [own 107 2 aw cw ((rlistW a c b (rcount b)).flatMap Wr.cells)] w)
theorem dropRd {w : World} {a : Option Addr} {s : List UInt8} {c : Nat} (h : Rd w (bytes a s)) (l : Nat) (hl : l ≤ s.length) (hc : s.length ≤ c) : Rd w (bytes (sub a l 1 c) (s.drop l)) := by
  have := h.subBytes (l := l) (h := s.length) (c := c) hc hl
  rwa [List.take_of_length_le (by simp)] at this
theorem natTo_lt32 (s : List UInt8) : natTo s 4 < 4294967296 := by have := natTo_lt s 4; omega
instance : NoGuard Tryz.prog 105 := ⟨by kernel_rfl⟩
theorem sectorS (a : Option Addr) (c : Nat) (b : List UInt8) (no : Nat) (W : World) (hno : 64 * no + 64 ≤ b.length) (hc : b.length ≤ c) (hcm : c ≤ 1073741824) :
    Calls Tryz.prog 27 #[.slice a b.length c, .int .i64 (no : Nat)] W (Ret fun v w => v = .slice (sub a (64 * no) 1 c) 64 (c - 64 * no) ∧ St W noF [] w) :=
  (sector_ a c b no W hno hc hcm).mono fun _ _ ⟨v, he, hv, hw⟩ => ⟨v, he, hv, hw ▸ St.start _⟩
/-- The number that stands in a sector at a place. -/
theorem rsmallAt_ (a : Option Addr) (c l : Nat) (s : List UInt8) (W : World) (hs : Rd W (bytes a s)) (h64 : s.length = 64) (hc : 64 ≤ c) (hl : l ≤ 60) :
    Calls Tryz.prog 44 #[.slice (sub a l 1 c) (64 - l) (c - l)] W (Ret fun v w => v = .int .i64 (natTo (s.drop l) 4 : Nat) ∧ St W noF [] w) := by
  have h := rsmall_ (sub a l 1 c) (c - l) (s.drop l) W (dropRd hs l (by omega) (by omega)) (by simp; omega)
  rwa [show (s.drop l).length = 64 - l by simp [h64]] at h
theorem rfound_ (a : Option Addr) (c : Nat) (b : List UInt8) (j number s : Nat) (W : World) (hb : Ro W noF (bytes a b)) (hs : b.length = 64 * s) (hs4 : s ≤ 4096) (hjs : j + 2 ≤ s) (hj : 2 ≤ j) (hc : b.length ≤ c) (hcm : c ≤ 1073741824) (hnum : number < 9223372036854775808) :
    Calls Tryz.prog 28 #[tabV, .slice a b.length c, .int .i64 (j : Nat), .int .i64 (number : Nat)] W (Ret fun v w => FoundR W a c b j number v w) := by
  have hS := St.start W
  have hl72 : LenO (ints .i64 (tabTo 310)) 72 := ⟨by rw [ints_length]; exact tabTo_length 310⟩
  have hsec : ∀ {w : World} {rs : List Res} (no : Nat), no < s → St W noF rs w → Rd w (bytes (sub a (64 * no) 1 c) (secB b no)) := fun no hno h => secB_rd (hb.rd h) (by omega) hc
  have hsl : ∀ no, no < s → (secB b no).length = 64 := fun no hno => secB_length (by omega)
  have hcb := natTo_lt32 ((secB b 1).drop 12)
  have hcount : rcount b = natTo ((secB b 1).drop 12) 4 := rfl
  obtain ⟨cnt, hcnt⟩ : ∃ cnt, cnt = rcount b := ⟨_, rfl⟩
  rw [← hcount, ← hcnt] at hcb
  refine calls_C Tryz.func28 rfl Tryz.ntmps28 rfl ?_
  repeat (first | (refine G_id ?_; first | refine G_nil ?_ | refine G_plain rfl rfl ?_) | (refine X_id ?_; first | refine X_yl (Yl_move rfl rfl) rfl rfl ?_ | refine X_yl (Yl_assign rfl rfl) rfl rfl ?_ | refine X_box rfl rfl rfl rfl hS (fun _ _ hS _ => ?_)) | (refine C_id ?_; first | refine C_seq ?_ | refine C_region ?_) | (refine E_id ?_; first | refine E_code ?_))
  rename_i b4 _ _
  refine X_callq _ rfl rfl rfl rfl rfl hS (sectorS a c b 1 _ (by omega) hc hcm) ?_
  rintro _ w rfl hS
  repeat (first | (refine G_id ?_; first | refine G_nil ?_ | refine G_plain rfl rfl ?_) | (refine X_id ?_; first | refine X_yl (Yl_move rfl rfl) rfl rfl ?_ | refine X_yl (Yl_assign rfl rfl) rfl rfl ?_) | (refine C_id ?_; first | refine C_seq ?_ | refine C_region ?_) | (refine E_id ?_; first | refine E_code ?_))
  refine X_yl (Yl_slice (l := 12) (h := 64) rfl rfl rfl rfl (.inl ⟨rfl, rfl⟩) (.inr ⟨_, _, rfl, by omega, rfl, by omega⟩)) rfl rfl ?_
  refine G_plain rfl rfl ?_
  refine X_callq _ rfl rfl rfl rfl rfl hS (rsmallAt_ (sub a (64 * 1) 1 c) (c - 64 * 1) 12 (secB b 1) _ (hsec 1 (by omega) hS) (hsl 1 (by omega)) (by omega) (by omega)) ?_
  rintro _ w rfl hS
  rw [← hcount, ← hcnt]
  have hnd : (b.length : Int) / 64 - 1 - (j : Int) = ((s - 1 - j : Nat) : Int) := by omega
  by_cases hc1 : (cnt : Int) < 1
  · repeat (first | (refine G_id ?_; first | refine G_nil ?_ | refine G_plain rfl rfl ?_ | refine G_no rfl rfl rfl rfl rfl rfl ?_) | (refine X_id ?_; first | refine X_yl (Yl_move rfl rfl) rfl rfl ?_ | refine X_yl (Yl_assign rfl rfl) rfl rfl ?_ | refine X_yl (Yl_pick_t rfl rfl rfl) rfl rfl ?_ | refine X_yl (Yl_len rfl rfl) rfl rfl ?_ | refine X_yl (Yl_lss_t rfl rfl rfl (by omega)) rfl rfl ?_ | refine X_yl (Yl_sub rfl rfl rfl (w64 (by omega) (by omega))) rfl rfl ?_ | refine X_yl (Yl_quoE rfl rfl rfl (by omega) (by omega) (by omega)) rfl rfl ?_) | (refine C_id ?_; first | refine C_seq ?_ | refine C_region ?_ | refine C_ret ?_ | refine C_cond_t rfl ?_) | (refine E_id ?_; first | refine E_code ?_ | refine E_then_ret ?_ | refine E_ret2 rfl (Rv_tmp rfl) (Rv_tmp rfl) (Ret.mk ?_)))
    exact .inl ⟨fun h => by have := h.1; omega, _, rfl, hS.drops⟩
  by_cases hc2 : (j : Int) / 2 < (cnt : Int)
  · repeat (first | (refine G_id ?_; first | refine G_nil ?_ | refine G_plain rfl rfl ?_ | refine G_yes rfl rfl rfl rfl ?_) | (refine X_id ?_; first | refine X_yl (Yl_move rfl rfl) rfl rfl ?_ | refine X_yl (Yl_assign rfl rfl) rfl rfl ?_ | refine X_yl (Yl_pick_f rfl rfl rfl) rfl rfl ?_ | refine X_yl (Yl_len rfl rfl) rfl rfl ?_ | refine X_yl (Yl_lss_f rfl rfl rfl (by omega)) rfl rfl ?_ | refine X_yl (Yl_gtr_t rfl rfl rfl (by omega)) rfl rfl ?_ | refine X_yl (Yl_sub rfl rfl rfl (w64 (by omega) (by omega))) rfl rfl ?_ | refine X_yl (Yl_quoE rfl rfl rfl (by omega) (by omega) (by omega)) rfl rfl ?_) | (refine C_id ?_; first | refine C_seq ?_ | refine C_region ?_ | refine C_ret ?_ | refine C_cond_t rfl ?_) | (refine E_id ?_; first | refine E_code ?_ | refine E_then_ret ?_ | refine E_ret2 rfl (Rv_tmp rfl) (Rv_tmp rfl) (Ret.mk ?_)))
    exact .inl ⟨fun h => by have := h.2.1; omega, _, rfl, hS.drops⟩
  repeat (first | (refine G_id ?_; first | refine G_nil ?_ | refine G_plain rfl rfl ?_ | refine G_yes rfl rfl rfl rfl ?_) | (refine X_id ?_; first | refine X_yl (Yl_move rfl rfl) rfl rfl ?_ | refine X_yl (Yl_assign rfl rfl) rfl rfl ?_ | refine X_yl (Yl_pick_f rfl rfl rfl) rfl rfl ?_ | refine X_yl (Yl_len rfl rfl) rfl rfl ?_ | refine X_yl (Yl_lss_f rfl rfl rfl (by omega)) rfl rfl ?_ | refine X_yl (Yl_gtr_f rfl rfl rfl (by omega)) rfl rfl ?_ | refine X_yl (Yl_sub rfl rfl rfl (w64 (by omega) (by omega))) rfl rfl ?_ | refine X_yl (Yl_quoE rfl rfl rfl (by omega) (by omega) (by omega)) rfl rfl ?_ | refine X_alloc rfl rfl rfl hS (fun _ _ hS _ => ?_)) | (refine C_id ?_; first | refine C_seq ?_ | refine C_region ?_ | refine C_block ?_ | refine C_skip ?_ | refine C_cond_f rfl ?_) | (refine E_id ?_; first | refine E_code ?_))
  rename_i b13 w13 _
  rw [bv_rep] at hS
  rw [hnd]
  obtain ⟨f1, hf1⟩ : ∃ f1, f1 = sub a (64 * 1) 1 c := ⟨_, rfl⟩
  obtain ⟨dg, hdg⟩ : ∃ dg, dg = rdig b := ⟨_, rfl⟩
  have hdl : dg.length = 32 := by rw [hdg]; simp [rdig, hsl 1 (by omega)]
  refine C_joinB (α := Unit) (fun _ => [(1, .slice a b.length c), (2, .int .i64 (j : Nat)), (3, .int .i64 (number : Nat)), (4, .pointer (some ⟨b4, 0, none⟩)), (11, .int .i64 (cnt : Nat)), (12, .int .i64 ((s - 1 - j : Nat) : Int)), (13, .pointer (some ⟨b13, 0, none⟩))])
    (fun _ w => St W noF [pts b13 (.cells (bv dg).toArray 105), pts b4 (.cells (ints .i64 (tabTo 310)).toArray 38)] w) ?_ ?_
  · have hf := hsec 1 (by omega) hS
    rw [← hf1] at hf ⊢
    obtain ⟨fb, fo, hfe⟩ := hf.base (by intro e; have := bv_length (secB b 1); rw [e, hsl 1 (by omega)] at this; simp at this)
    rw [hfe] at hf ⊢
    obtain ⟨F2, hS2, hro, hwo, hbk⟩ := hS.call [true]
    have hbb := hb
    clear hS hb
    have hS := hS2
    clear hS2
    have hb : Ro w13 F2 (bytes (some ⟨fb, fo, none⟩) (secB b 1)) := by
      have := hwo _ (hbb.mono (r' := bytes a b) fun h hh => ⟨h, hh, fun _ _ e => e⟩)
      have h2 := Ro.subBytes this (l := 64 * 1) (h := 64 * 1 + 64) (c := c) (by omega) (by omega)
      rw [← hf1, hfe] at h2
      exact h2
    refine C_loop (α := Nat) (fun i => [(1, .slice a b.length c), (2, .int .i64 (j : Nat)), (3, .int .i64 (number : Nat)), (4, .pointer (some ⟨b4, 0, none⟩)), (10, .slice (some ⟨fb, fo, none⟩) 64 (c - 64 * 1)), (11, .int .i64 (cnt : Nat)), (12, .int .i64 ((s - 1 - j : Nat) : Int)), (13, .pointer (some ⟨b13, 0, none⟩)), (14, .int .i64 (i : Nat))])
      (fun i w' => i ≤ 32 ∧ St w13 F2 [pts b13 (.cells (bv (dg.take i ++ List.replicate (32 - i) 0)).toArray 105)] w') (fun i => 32 - i) 0 ⟨rfl, rfl, rfl, rfl, rfl, rfl, rfl, rfl, rfl, trivial⟩ ⟨Nat.zero_le _, hS⟩ ?_
    clear hS
    rintro i w2 ⟨hi, hS⟩
    have hel : (dg.take i ++ List.replicate (32 - i) 0).length = 32 := by simp [hdl]; omega
    obtain ⟨E, hE⟩ : ∃ E, E = dg.take i ++ List.replicate (32 - i) 0 := ⟨_, rfl⟩
    rw [← hE] at hS hel
    by_cases h1 : i < 32
    · have hsl1 := hsl 1 (by omega)
      repeat (first | (refine G_id ?_; first | refine G_nil ?_ | refine G_plain rfl rfl ?_) | (refine X_id ?_; first | refine X_yl (Yl_move rfl rfl) rfl rfl ?_ | refine X_yl (Yl_assign rfl rfl) rfl rfl ?_ | refine X_yl (Yl_lss_t rfl rfl rfl (by omega)) rfl rfl ?_ | refine X_yl (Yl_indexAddr_arr rfl rfl rfl (by omega) (by omega)) rfl rfl ?_ | refine X_yl (Yl_indexAddr rfl rfl rfl (by omega) (by omega) (by first | assumption | exact ⟨_, _, rfl⟩)) rfl rfl ?_ | refine X_yl (Yl_add rfl rfl rfl (w64 (by omega) (by omega))) rfl rfl ?_ | refine X_yl (Yl_load rfl rfl ((hb.rd hS).cellB' (by omega))) rfl rfl ?_ | refine X_storeB rfl rfl rfl rfl hS (by omega) (fun _ hS => ?_)) | (refine C_id ?_; first | refine C_seq ?_ | refine C_region ?_ | refine C_block ?_ | refine C_skip ?_ | refine C_cond_t rfl ?_) | (refine E_id ?_; first | refine E_code ?_ | refine E_blk_n ?_))
      refine E_round (i + 1) ⟨rfl, rfl, rfl, rfl, rfl, rfl, rfl, rfl, rfl, trivial⟩ ⟨h1, ?_⟩ (by omega)
      rw [show (20 + (i : Int)).toNat * 1 = 20 + i by omega, show 0 + (i : Int).toNat * 1 = i by omega, hE] at hS
      have e : (dg.take i ++ List.replicate (32 - i) 0).set i ((secB b 1).getD (20 + i) 0) = dg.take (i + 1) ++ List.replicate (32 - (i + 1)) 0 := by
        have e0 : (dg.take i).length = i := by simp [hdl]; omega
        rw [List.set_append_right _ _ (by omega), e0, Nat.sub_self, show 32 - i = (32 - (i + 1)) + 1 by omega, List.replicate_succ, List.set_cons_zero]
        have e1 : (secB b 1).getD (20 + i) 0 = dg[i]'(by omega) := by
          simp only [hdg, rdig, List.getElem_take, List.getElem_drop]
          rw [List.getD_eq_getElem?_getD, List.getElem?_eq_getElem (by omega)]; rfl
        have e2 : dg.take (i + 1) = dg.take i ++ [dg[i]'(by omega)] := List.take_succ_eq_append_getElem (by omega)
        rw [e1, e2, List.append_assoc]; rfl
      rw [e] at hS
      exact hS
    · obtain rfl : i = 32 := by omega
      repeat (first | (refine G_id ?_; first | refine G_nil ?_ | refine G_plain rfl rfl ?_) | (refine X_id ?_; first | refine X_yl (Yl_move rfl rfl) rfl rfl ?_ | refine X_yl (Yl_lss_f rfl rfl rfl (by omega)) rfl rfl ?_) | (refine C_id ?_; first | refine C_seq ?_ | refine C_region ?_ | refine C_exit ?_ | refine C_cond_f rfl ?_) | (refine E_id ?_; first | refine E_code ?_ | refine E_then_exit ?_ | refine E_blk_same ?_))
      refine E_mid () ⟨rfl, rfl, rfl, rfl, rfl, rfl, rfl, trivial⟩ ?_
      rw [hE, show dg.take 32 = dg by rw [← hdl, List.take_length]] at hS
      have := hbk hS
      simpa using this
  clear hS
  rintro _ w hS
  repeat (first | (refine G_id ?_; first | refine G_nil ?_ | refine G_plain rfl rfl ?_) | (refine X_id ?_; first | refine X_yl (Yl_assign rfl rfl) rfl rfl ?_) | (refine C_id ?_; first | refine C_seq ?_ | refine C_region ?_ | refine C_block ?_) | (refine E_id ?_; first | refine E_code ?_))
  have hgd : ∀ i, i < cnt → (rgood b (s - 1 - j) number i ↔ (rno b i < s - 1 - j ∧ secB b (1 + 2 * i) = noteB number i cnt (rno b i) dg ∧ ∀ k, k < i → rno b k ≠ rno b i)) := fun i _ => by rw [rgood, ← hcnt, ← hdg]
  have hbs : b.length / 64 = s := by omega
  have hno : ¬ (∀ i, i < cnt → rgood b (s - 1 - j) number i) → ¬ rfoundOk b j number := fun h1 h2 => h1 (by have := h2.2.2.1; rw [hbs, ← hcnt] at this; exact this)
  refine C_joinB (α := Option Addr × Nat) (fun z => [(3, .int .i64 (number : Nat)), (4, .pointer (some ⟨b4, 0, none⟩)), (13, .pointer (some ⟨b13, 0, none⟩)), (15, .slice z.1 cnt z.2)])
    (fun z w => (∀ i, i < cnt → rgood b (s - 1 - j) number i) ∧ St W noF [own 107 2 z.1 z.2 ((rlistW a c b cnt).flatMap Wr.cells), pts b13 (.cells (bv dg).toArray 105), pts b4 (.cells (ints .i64 (tabTo 310)).toArray 38)] w) ?_ ?_
  · refine C_loop (α := Nat × Option Addr × Nat) (fun z => [(1, .slice a b.length c), (2, .int .i64 (j : Nat)), (3, .int .i64 (number : Nat)), (4, .pointer (some ⟨b4, 0, none⟩)), (11, .int .i64 (cnt : Nat)), (12, .int .i64 ((s - 1 - j : Nat) : Int)), (13, .pointer (some ⟨b13, 0, none⟩)), (15, .slice z.2.1 z.1 z.2.2), (16, .int .i64 (z.1 : Nat))])
      (fun z w => z.1 ≤ cnt ∧ z.1 ≤ z.2.2 ∧ (∀ i, i < z.1 → rgood b (s - 1 - j) number i) ∧ St W noF [own 107 2 z.2.1 z.2.2 ((rlistW a c b z.1).flatMap Wr.cells), pts b13 (.cells (bv dg).toArray 105), pts b4 (.cells (ints .i64 (tabTo 310)).toArray 38)] w) (fun z => cnt - z.1)
      (0, none, 0) ⟨rfl, rfl, rfl, rfl, rfl, rfl, rfl, rfl, rfl, trivial⟩ ⟨Nat.zero_le _, Nat.le_refl _, fun i h => absurd h (by simp), hS.own_none _ _ _⟩ ?_
    clear hS
    rintro ⟨i, pa, pc⟩ w ⟨hi, hic, hg, hS⟩
    simp only at hi hic hg hS ⊢
    by_cases h1 : i < cnt
    · have hl32 : LenO (bv dg) 32 := ⟨by rw [bv_length]; exact hdl⟩
      repeat (first | (refine G_id ?_; first | refine G_nil ?_ | refine G_plain rfl rfl ?_) | (refine X_id ?_; first | refine X_yl (Yl_move rfl rfl) rfl rfl ?_ | refine X_yl (Yl_lss_t rfl rfl rfl (by omega)) rfl rfl ?_ | refine X_yl (Yl_add rfl rfl rfl (w64 (by omega) (by omega))) rfl rfl ?_ | refine X_yl (Yl_mul rfl rfl rfl (w64 (by omega) (by omega))) rfl rfl ?_) | (refine C_id ?_; first | refine C_seq ?_ | refine C_region ?_ | refine C_block ?_ | refine C_skip ?_ | refine C_cond_t rfl ?_) | (refine E_id ?_; first | refine E_code ?_))
      refine X_callq _ rfl rfl rfl rfl rfl hS (sectorS a c b (1 + 2 * i) _ (by omega) hc hcm) ?_
      rintro _ w rfl hS
      repeat (first | (refine G_id ?_; first | refine G_nil ?_ | refine G_plain rfl rfl ?_) | (refine X_id ?_; first | refine X_yl (Yl_move rfl rfl) rfl rfl ?_ | refine X_yl (Yl_assign rfl rfl) rfl rfl ?_) | (refine C_id ?_; first | refine C_seq ?_ | refine C_region ?_) | (refine E_id ?_; first | refine E_code ?_))
      refine X_yl (Yl_slice (l := 16) (h := 64) rfl rfl rfl rfl (.inl ⟨rfl, rfl⟩) (.inr ⟨_, _, rfl, by omega, rfl, by omega⟩)) rfl rfl ?_
      refine G_plain rfl rfl ?_
      refine X_callq _ rfl rfl rfl rfl rfl hS (rsmallAt_ (sub a (64 * (1 + 2 * i)) 1 c) (c - 64 * (1 + 2 * i)) 16 (secB b (1 + 2 * i)) _ (hsec (1 + 2 * i) (by omega) hS) (hsl (1 + 2 * i) (by omega)) (by omega) (by omega)) ?_
      rintro _ w rfl hS
      have hni : natTo ((secB b (1 + 2 * i)).drop 16) 4 = rno b i := rfl
      have hnl : rno b i < 4294967296 := natTo_lt32 _
      rw [hni]
      obtain ⟨no, hnoe⟩ : ∃ no, no = rno b i := ⟨_, rfl⟩
      rw [← hnoe] at hnl ⊢
      by_cases h2 : ((s - 1 - j : Nat) : Int) ≤ (no : Int)
      · repeat (first | (refine G_id ?_; first | refine G_nil ?_ | refine G_plain rfl rfl ?_ | refine G_no rfl rfl rfl rfl rfl rfl ?_) | (refine X_id ?_; first | refine X_yl (Yl_move rfl rfl) rfl rfl ?_ | refine X_yl (Yl_assign rfl rfl) rfl rfl ?_ | refine X_yl (Yl_pick_t rfl rfl rfl) rfl rfl ?_ | refine X_yl (Yl_geq_t rfl rfl rfl (by omega)) rfl rfl ?_) | (refine C_id ?_; first | refine C_seq ?_ | refine C_region ?_ | refine C_ret ?_ | refine C_cond_t rfl ?_) | (refine E_id ?_; first | refine E_code ?_ | refine E_then_ret ?_ | refine E_blk_ret ?_ | refine E_ret2 rfl (Rv_tmp rfl) (Rv_tmp rfl) (Ret.mk ?_)))
        exact .inl ⟨hno fun h => by have := ((hgd i h1).1 (h i h1)).1; omega, _, rfl, hS.drops⟩
      · repeat (first | (refine G_id ?_; first | refine G_nil ?_ | refine G_plain rfl rfl ?_ | refine G_yes rfl rfl rfl rfl ?_) | (refine X_id ?_; first | refine X_yl (Yl_move rfl rfl) rfl rfl ?_ | refine X_yl (Yl_assign rfl rfl) rfl rfl ?_ | refine X_yl (Yl_geq_f rfl rfl rfl (by omega)) rfl rfl ?_ | refine X_yl (Yl_loadN rfl rfl hS.cellsN) rfl rfl ?_) | (refine C_id ?_; first | refine C_seq ?_ | refine C_region ?_) | (refine E_id ?_; first | refine E_code ?_))
        refine X_callg _ rfl rfl rfl rfl rfl (rnote_ number i cnt no dg hdl _ hnum (by omega) (by omega) (by omega)) ?_
        rintro _ w ⟨q, rfl, hS'⟩
        replace hS := hS.plus hS'
        clear hS'
        have hsame := same_ (sub a (64 * (1 + 2 * i)) 1 c) (some ⟨q, 0, none⟩) (c - 64 * (1 + 2 * i)) 64 (secB b (1 + 2 * i)) (noteB number i cnt no dg) _ (hsec (1 + 2 * i) (by omega) hS) (hS.rd (List.mem_cons_self ..)).ptsB (by rw [hsl _ (by omega)]; omega)
        rw [hsl _ (by omega), noteB_length] at hsame
        repeat (first | (refine G_id ?_; first | refine G_yes rfl rfl rfl rfl ?_))
        refine X_callq _ rfl rfl rfl rfl rfl hS hsame ?_
        clear hsame
        rintro _ w rfl hS
        by_cases h3 : secB b (1 + 2 * i) = noteB number i cnt no dg
        · rw [decide_eq_true h3]
          have hS := hS.pick [1, 1, 1]
          repeat (first | (refine G_id ?_; first | refine G_nil ?_ | refine G_plain rfl rfl ?_ | refine G_yes rfl rfl rfl rfl ?_) | (refine X_id ?_; first | refine X_yl (Yl_assign rfl rfl) rfl rfl ?_ | refine X_yl (Yl_pick_f rfl rfl rfl) rfl rfl ?_ | refine X_yl (Yl_not_t rfl rfl) rfl rfl ?_) | (refine C_id ?_; first | refine C_seq ?_ | refine C_region ?_ | refine C_block ?_ | refine C_skip ?_ | refine C_cond_f rfl ?_) | (refine E_id ?_; first | refine E_code ?_))
          refine C_joinB (α := Unit) (fun _ => [(1, .slice a b.length c), (2, .int .i64 (j : Nat)), (3, .int .i64 (number : Nat)), (4, .pointer (some ⟨b4, 0, none⟩)), (11, .int .i64 (cnt : Nat)), (12, .int .i64 ((s - 1 - j : Nat) : Int)), (13, .pointer (some ⟨b13, 0, none⟩)), (15, .slice pa i pc), (16, .int .i64 (i : Nat)), (18, .int .i64 (no : Nat))])
            (fun _ w => (∀ k, k < i → rno b k ≠ no) ∧ St W noF [own 107 2 pa pc ((rlistW a c b i).flatMap Wr.cells), pts b13 (.cells (bv dg).toArray 105), pts b4 (.cells (ints .i64 (tabTo 310)).toArray 38)] w) ?_ ?_
          · obtain ⟨F2, hS2, hro, _, hbk⟩ := hS.call []
            have hr := (hro (own 107 2 pa pc ((rlistW a c b i).flatMap Wr.cells)) (by simp)).own_row
            clear hS
            have hS := hS2
            clear hS2
            refine C_loop (α := Nat) (fun k => [(1, .slice a b.length c), (2, .int .i64 (j : Nat)), (3, .int .i64 (number : Nat)), (4, .pointer (some ⟨b4, 0, none⟩)), (11, .int .i64 (cnt : Nat)), (12, .int .i64 ((s - 1 - j : Nat) : Int)), (13, .pointer (some ⟨b13, 0, none⟩)), (15, .slice pa i pc), (16, .int .i64 (i : Nat)), (18, .int .i64 (no : Nat)), (19, .int .i64 (k : Nat))])
              (fun k w' => k ≤ i ∧ (∀ m, m < k → rno b m ≠ no) ∧ St w F2 [] w') (fun k => i - k) 0 ⟨rfl, rfl, rfl, rfl, rfl, rfl, rfl, rfl, rfl, rfl, rfl, trivial⟩ ⟨Nat.zero_le _, fun m h => absurd h (by omega), hS⟩ ?_
            clear hS
            rintro k w2 ⟨hk, hne, hS⟩
            by_cases h4 : k < i
            · have hget : (rlistW a c b i)[k]? = some ⟨(rno b k : Int), ⟨sub a (64 * (2 + 2 * k)) 1 c, c - 64 * (2 + 2 * k), secB b (2 + 2 * k)⟩⟩ := by simp [rlistW, h4]
              have hx := wr_no hget
              obtain ⟨xb, xo, hpa⟩ := (hr.rd hS).base (by intro e; rw [e] at hx; simp at hx)
              rw [hpa] at hr ⊢
              by_cases h5 : (rno b k : Int) = (no : Int)
              · repeat (first | (refine G_id ?_; first | refine G_nil ?_ | refine G_plain rfl rfl ?_) | (refine X_id ?_; first | refine X_yl (Yl_move rfl rfl) rfl rfl ?_ | refine X_yl (Yl_assign rfl rfl) rfl rfl ?_ | refine X_yl (Yl_fieldAddr rfl rfl rfl) rfl rfl ?_ | refine X_yl (Yl_len rfl rfl) rfl rfl ?_ | refine X_yl (Yl_eql_t rfl rfl rfl (by omega)) rfl rfl ?_ | refine X_yl (Yl_lss_t rfl rfl rfl (by omega)) rfl rfl ?_ | refine X_yl (Yl_indexAddr rfl rfl rfl (by omega) (by omega) (by first | assumption | exact ⟨_, _, rfl⟩)) rfl rfl ?_ | refine X_yl (Yl_load rfl rfl ((hr.rd hS).cellX (by omega) hx)) rfl rfl ?_) | (refine C_id ?_; first | refine C_seq ?_ | refine C_region ?_ | refine C_block ?_ | refine C_ret ?_ | refine C_skip ?_ | refine C_cond_t rfl ?_) | (refine E_id ?_; first | refine E_code ?_ | refine E_then_ret ?_ | refine E_blk_ret ?_ | refine E_ret2 rfl (Rv_tmp rfl) (Rv_tmp rfl) (Ret.mk ?_)))
                exact .inl ⟨hno fun h => ((hgd i h1).1 (h i h1)).2.2 k h4 (by rw [← hnoe]; omega), _, rfl, (hbk hS).drops⟩
              · repeat (first | (refine G_id ?_; first | refine G_nil ?_ | refine G_plain rfl rfl ?_) | (refine X_id ?_; first | refine X_yl (Yl_move rfl rfl) rfl rfl ?_ | refine X_yl (Yl_assign rfl rfl) rfl rfl ?_ | refine X_yl (Yl_fieldAddr rfl rfl rfl) rfl rfl ?_ | refine X_yl (Yl_len rfl rfl) rfl rfl ?_ | refine X_yl (Yl_eql_f rfl rfl rfl (by omega)) rfl rfl ?_ | refine X_yl (Yl_lss_t rfl rfl rfl (by omega)) rfl rfl ?_ | refine X_yl (Yl_indexAddr rfl rfl rfl (by omega) (by omega) (by first | assumption | exact ⟨_, _, rfl⟩)) rfl rfl ?_ | refine X_yl (Yl_add rfl rfl rfl (w64 (by omega) (by omega))) rfl rfl ?_ | refine X_yl (Yl_load rfl rfl ((hr.rd hS).cellX (by omega) hx)) rfl rfl ?_) | (refine C_id ?_; first | refine C_seq ?_ | refine C_region ?_ | refine C_block ?_ | refine C_skip ?_ | refine C_cond_t rfl ?_ | refine C_cond_f rfl ?_) | (refine E_id ?_; first | refine E_code ?_ | refine E_blk_n ?_))
                refine E_round (k + 1) ⟨rfl, rfl, rfl, rfl, rfl, rfl, rfl, rfl, rfl, rfl, rfl, trivial⟩ ⟨h4, fun m hm => ?_, hS⟩ (by omega)
                rcases Nat.lt_or_ge m k with h | h
                · exact hne m h
                · obtain rfl : m = k := by omega
                  omega
            · obtain rfl : i = k := by omega
              repeat (first | (refine G_id ?_; first | refine G_nil ?_ | refine G_plain rfl rfl ?_) | (refine X_id ?_; first | refine X_yl (Yl_move rfl rfl) rfl rfl ?_ | refine X_yl (Yl_len rfl rfl) rfl rfl ?_ | refine X_yl (Yl_lss_f rfl rfl rfl (by omega)) rfl rfl ?_) | (refine C_id ?_; first | refine C_seq ?_ | refine C_region ?_ | refine C_exit ?_ | refine C_cond_f rfl ?_) | (refine E_id ?_; first | refine E_code ?_ | refine E_then_exit ?_ | refine E_blk_same ?_))
              exact E_mid () ⟨rfl, rfl, rfl, rfl, rfl, rfl, rfl, rfl, rfl, rfl, trivial⟩ ⟨hne, hbk hS⟩
          clear hS
          rintro _ w ⟨hne, hS⟩
          repeat (first | (refine G_id ?_; first | refine G_plain rfl rfl ?_) | (refine X_id ?_; first | refine X_yl (Yl_move rfl rfl) rfl rfl ?_ | refine X_yl (Yl_add rfl rfl rfl (w64 (by omega) (by omega))) rfl rfl ?_ | refine X_yl (Yl_mul rfl rfl rfl (w64 (by omega) (by omega))) rfl rfl ?_) | (refine C_id ?_; first | refine C_region ?_))
          refine X_callq _ rfl rfl rfl rfl rfl hS (sectorS a c b (2 + 2 * i) _ (by omega) hc hcm) ?_
          rintro _ w rfl hS
          repeat (first | (refine G_id ?_; first | refine G_plain rfl rfl ?_) | (refine X_id ?_; first | refine X_yl (Yl_build rfl rfl rfl) rfl rfl ?_ | refine X_buildSlice rfl rfl rfl rfl rfl rfl rfl rfl hS (fun _ _ hS _ => ?_)))
          refine X_append rfl rfl rfl rfl rfl hS (by rw [wr_len, rlistW_length]) hic (hS.rd (List.mem_cons_self ..)).own_row rfl (fun u hu => by
            simp only [List.mem_cons, List.not_mem_nil, or_false] at hu
            rcases hu with rfl | rfl <;> rfl) (by omega) (by simp only [maxLen]; omega) (fun a1 c1 w hS hc1 _ => ?_)
          repeat (first | (refine G_id ?_; first | refine G_nil ?_ | refine G_plain rfl rfl ?_) | (refine X_id ?_; first | refine X_yl (Yl_move rfl rfl) rfl rfl ?_ | refine X_yl (Yl_assign rfl rfl) rfl rfl ?_ | refine X_yl (Yl_add rfl rfl rfl (w64 (by omega) (by omega))) rfl rfl ?_) | (refine C_id ?_; first | refine C_region ?_) | (refine E_id ?_; first | refine E_code ?_ | refine E_blk_n ?_))
          refine E_round (z := (i, pa, pc)) (i + 1, a1, c1) ⟨rfl, rfl, rfl, rfl, rfl, rfl, rfl, rfl, rfl, trivial⟩ ⟨h1, hc1, ?_, ?_⟩ (by simp only; omega)
          · intro m hm
            rcases Nat.lt_or_ge m i with h | h
            · exact hg m h
            · obtain rfl : m = i := by simp only at hm; omega
              exact (hgd m h1).2 ⟨by omega, by rw [← hnoe]; exact h3, fun k hk => by rw [← hnoe]; exact hne k hk⟩
          · simp only
            rw [rlistW_succ, List.flatMap_append, ← hnoe]
            simpa [Wr.cells, hsl (2 + 2 * i) (by omega)] using hS.pick [0, 1, 1]
        · rw [decide_eq_false h3]
          repeat (first | (refine G_id ?_; first | refine G_nil ?_ | refine G_plain rfl rfl ?_ | refine G_yes rfl rfl rfl rfl ?_) | (refine X_id ?_; first | refine X_yl (Yl_assign rfl rfl) rfl rfl ?_ | refine X_yl (Yl_pick_f rfl rfl rfl) rfl rfl ?_ | refine X_yl (Yl_not_f rfl rfl) rfl rfl ?_) | (refine C_id ?_; first | refine C_seq ?_ | refine C_region ?_ | refine C_ret ?_ | refine C_cond_t rfl ?_) | (refine E_id ?_; first | refine E_code ?_ | refine E_then_ret ?_ | refine E_blk_ret ?_ | refine E_ret2 rfl (Rv_tmp rfl) (Rv_tmp rfl) (Ret.mk ?_)))
          exact .inl ⟨hno fun h => h3 (by have := ((hgd i h1).1 (h i h1)).2.1; rw [← hnoe] at this; exact this), _, rfl, hS.drops⟩
    · obtain rfl : i = cnt := by omega
      repeat (first | (refine G_id ?_; first | refine G_nil ?_ | refine G_plain rfl rfl ?_) | (refine X_id ?_; first | refine X_yl (Yl_move rfl rfl) rfl rfl ?_ | refine X_yl (Yl_lss_f rfl rfl rfl (by omega)) rfl rfl ?_) | (refine C_id ?_; first | refine C_seq ?_ | refine C_region ?_ | refine C_exit ?_ | refine C_cond_f rfl ?_) | (refine E_id ?_; first | refine E_code ?_ | refine E_then_exit ?_ | refine E_blk_same ?_))
      exact E_mid (pa, pc) ⟨rfl, rfl, rfl, rfl, trivial⟩ ⟨hg, hS⟩
  clear hS
  rintro ⟨pa, pc⟩ w ⟨hg, hS⟩
  simp only at hS ⊢
  have hWr : ∀ {w : World} {rs : List Res}, St W noF (own 107 2 pa pc ((rlistW a c b cnt).flatMap Wr.cells) :: rs) w → Wrs w noF pa (rlistW a c b cnt) := fun {w rs} h => ⟨(h.rd (List.mem_cons_self ..)).own_row.ro, fun v hv => by
    obtain ⟨i, hi, rfl⟩ := List.mem_map.1 hv
    have hi := List.mem_range.1 hi
    exact (hsec (2 + 2 * i) (by omega) h).ro⟩
  have hwl : ∀ v ∈ rlistW a c b cnt, 0 ≤ v.no ∧ v.no < 9223372036854775808 := fun v hv => by
    obtain ⟨i, hi, rfl⟩ := List.mem_map.1 hv
    have := natTo_lt32 ((secB b (1 + 2 * i)).drop 16)
    show 0 ≤ ((rno b i : Nat) : Int) ∧ ((rno b i : Nat) : Int) < _
    unfold rno
    omega
  have hfr := framed_sum_le (number : Int) ((rlistW a c b cnt).map Wr.data) (fun x hx => by
    rw [rlistW_data] at hx
    obtain ⟨i, hi, rfl⟩ := List.mem_map.1 hx
    have hi := List.mem_range.1 hi
    have := hsl (2 + 2 * i) (by omega)
    simp only; omega)
  rw [List.length_map, rlistW_length] at hfr
  have hts : ∀ {w : World} {rs : List Res}, St W noF (own 107 2 pa pc ((rlistW a c b cnt).flatMap Wr.cells) :: rs) w → _ := fun {w rs} h => rtsum_ number pa pc (rlistW a c b cnt) w (hWr h) hnum hwl (by rw [rlistW_length]; omega) (by omega)
  simp only [rlistW_length, rlistW_data] at hts
  have hl32 : LenO (bv dg) 32 := ⟨by rw [bv_length]; exact hdl⟩
  repeat (first | (refine C_id ?_; first | refine C_seq ?_))
  refine C_ord (.s 0 (.s 1 (.s 2 (.s 3 (.s 5 (.h 4 (.s 6 (.s 7 (.s 8 .nil))) .no)))))) mixed (by kernel_rfl) rfl ?_
  have hS := hS.drew
  repeat (first | (refine GO_id ?_; first | refine GO_pure rfl rfl (fun _ => Yl_move rfl rfl) rfl rfl ?_ | refine GO_read (fun w' => CellsN w' _ _ _) rfl rfl hS.cellsN (fun _ hc => Yl_loadN rfl rfl hc) rfl rfl ?_ | refine GO_hard rfl rfl ?_))
  refine X_callq _ rfl rfl rfl rfl rfl hS (hts hS) ?_
  rintro _ w rfl hS
  repeat (first | (refine Keep_id ?_; first | refine And.intro (by repeat (first | exact trivial | refine And.intro (.inl (by decide +kernel)) ?_ | refine And.intro (.inr (by first | assumption | exact hS.cell | exact cell_at (by assumption) | exact hS.cellI (by omega) | exact hS.cellIP (by omega) | exact hS.cellsN | exact ((hr.rd hS).cellX (by omega) hx) | exact ((hr2.rd hS).cellX (by omega) hx2) | exact hS.cellB (by omega) | exact hS.cellBA (by omega) | exact (hb.rd hS).cellB' (by omega) | exact (hb2.rd hS).cellB' (by omega) | exact (hg.rd hS).cellI (by omega) | exact (hg2.rd hS).cellI (by omega) | exact ((hr.rd hS).cellF (by first | omega | (dsimp only; omega)) hx) | exact ((hr2.rd hS).cellF (by first | omega | (dsimp only; omega)) hx2) | exact hS.cellO 0 (by omega) | exact hS.cellO 1 (by omega) | exact hS.cellIA (by omega) | exact (hg.rd hS).cellIA (by omega) | exact (hg2.rd hS).cellIA (by omega))) ?_)) ?_))
  refine GO_pure rfl rfl (fun _ => Yl_eqlArr rfl rfl rfl (sumB_length _ _ _ _) hdl) rfl rfl ?_
  by_cases hq : sumB roundL firstL number (rlist b cnt) = dg
  · rw [decide_eq_true hq]
    repeat (first | (refine C_id ?_; first | refine C_ret ?_) | (refine E_id ?_; first | refine E_code ?_ | refine E_ret2 rfl (Rv_tmp rfl) (Rv_tmp rfl) (Ret.mk ?_)) | (refine GO_id ?_; first | refine GO_nil ?_ | refine GO_pure rfl rfl (fun _ => Yl_assign rfl rfl) rfl rfl ?_))
    refine .inr ⟨⟨by omega, by omega, ?_, ?_⟩, pa, pc, ?_, ?_⟩
    · rw [hbs, ← hcnt]; exact hg
    · rw [← hcnt, ← hdg]; exact hq
    · rw [← hcnt]
    · rw [← hcnt]; exact hS.pick [0]
  · rw [decide_eq_false hq]
    repeat (first | (refine C_id ?_; first | refine C_ret ?_) | (refine E_id ?_; first | refine E_code ?_ | refine E_ret2 rfl (Rv_tmp rfl) (Rv_tmp rfl) (Ret.mk ?_)) | (refine GO_id ?_; first | refine GO_nil ?_ | refine GO_pure rfl rfl (fun _ => Yl_assign rfl rfl) rfl rfl ?_))
    exact .inl ⟨fun h => hq (by have := h.2.2.2; rw [← hcnt, ← hdg] at this; exact this), _, rfl, hS.drops⟩
end Cr
