/-
  Layer 4 (wal): number, sum.
-/
import Derived.Test.YtobnnhlgdoddgaaDoorWal2
namespace Cr
open Go Go.Proofs
set_option maxRecDepth 100000
set_option maxHeartbeats 4000000
attribute [local irreducible] Calls

/-! ### number -/
def isFront (rd fs : List Int) (b : List UInt8) : Bool := decide (0 ≤ smallN (b.take 8)) && decide (smallN (b.take 8) ≤ 1152921504606846976) && decide (b = frontB rd fs (smallN (b.take 8)))
def headNum (rd fs : List Int) (b : List UInt8) : Int × Bool := if b = List.replicate 64 0 then (0, true) else (smallN (b.take 8), isFront rd fs b)
theorem number_ (a : Option Addr) (c : Nat) (b : List UInt8) (rd fs : List Int) (W : World) (hG : Gl W noF rd fs) (hb : Rd W (bytes a b)) (h64 : b.length = 64) (hc : 64 ≤ c) :
    Calls Tryd.prog 34 #[.slice a 64 c] W (Ret fun v w => v = .tuple #[.int .i64 (headNum rd fs b).1, .bool (headNum rd fs b).2] ∧ St W noF [] w) := by
  have hS := St.start W
  have hbo := hb.ro
  obtain ⟨ab, ao, rfl⟩ := hb.base (by intro e; have := bv_length b; rw [e] at this; simp at this; omega)
  have hb8 : Rd W (bytes (some ⟨ab, ao, none⟩) (b.take 8)) := by
    have := hb.subBytes (l := 0) (h := 8) (c := c) (by omega) (by omega)
    rw [sub_zero] at this
    simpa using this
  have h8 : (b.take 8).length = 8 := by simp [h64]
  have hsm := small_ (some ⟨ab, ao, none⟩) c (b.take 8) W hb8 (by omega)
  rw [h8] at hsm
  obtain ⟨n, hn⟩ : ∃ n, n = smallN (b.take 8) := ⟨_, rfl⟩
  rw [← hn] at hsm
  refine calls_C Tryd.func34 rfl Tryd.ntmps34 rfl ?_
  repeat (first | (refine G_id ?_; first | refine G_nil ?_ | refine G_plain rfl rfl ?_) | (refine X_id ?_; first | refine X_yl (Yl_move rfl rfl) rfl rfl ?_ | refine X_yl (Yl_assign rfl rfl) rfl rfl ?_) | (refine C_id ?_; first | refine C_seq ?_ | refine C_region ?_) | (refine E_id ?_; first | refine E_code ?_))
  refine X_yl (Yl_slice (l := 0) (h := 8) rfl rfl rfl rfl (.inr ⟨_, _, rfl, by omega, by omega, by omega⟩) (.inl ⟨rfl, rfl⟩)) rfl rfl ?_
  rw [sub_zero, Nat.sub_zero, Nat.sub_zero]
  repeat (first | (refine G_id ?_; first | refine G_nil ?_ | refine G_plain rfl rfl ?_) | (refine X_id ?_; first | (refine X_callg 50 rfl rfl rfl rfl rfl hsm ?_; rintro _ _ ⟨rfl, rfl⟩) | refine X_yl (Yl_move rfl rfl) rfl rfl ?_ | refine X_yl (Yl_assign rfl rfl) rfl rfl ?_ | refine X_yl (Yl_len rfl rfl) rfl rfl ?_ | refine X_makeB rfl rfl rfl (by omega) (by omega) rfl rfl hS (fun _ _ hS => ?_)) | (refine C_id ?_; first | refine C_seq ?_ | refine C_region ?_) | (refine E_id ?_; first | refine E_code ?_))
  refine X_callg _ rfl rfl rfl rfl rfl (equal_ _ _ _ _ _ _ b (List.replicate 64 0) _ (hbo.rd hS) ((hS.rd (List.mem_cons_self ..)).ptsB) h64 (by simp)) ?_
  rintro _ _ ⟨rfl, rfl⟩
  by_cases hz : b = List.replicate 64 0
  · repeat (first | (refine G_id ?_; first | refine G_nil ?_ | refine G_plain rfl rfl ?_) | (refine X_id ?_; first | refine X_yl (Yl_assign rfl rfl) rfl rfl ?_) | (refine C_id ?_; first | refine C_seq ?_ | refine C_region ?_ | refine C_ret ?_ | refine C_cond_dt rfl (by first | assumption | omega) ?_) | (refine E_id ?_; first | refine E_code ?_ | refine E_then_ret ?_ | refine E_ret2 rfl (Rv_tmp rfl) (Rv_tmp rfl) (Ret.mk ?_)))
    exact ⟨by rw [headNum, if_pos hz], hS.drops⟩
  · have e2 : headNum rd fs b = (n, isFront rd fs b) := by rw [headNum, if_neg hz, hn]
    by_cases h0 : 0 ≤ n
    · by_cases h1 : n ≤ 1152921504606846976
      · repeat (first | (refine G_id ?_; first | refine G_nil ?_ | refine G_plain rfl rfl ?_ | refine G_yes rfl rfl rfl rfl ?_) | (refine X_id ?_; first | refine X_yl (Yl_move rfl rfl) rfl rfl ?_ | refine X_yl (Yl_pick_t rfl rfl rfl) rfl rfl ?_ | refine X_yl (Yl_leq_t rfl rfl rfl (by omega)) rfl rfl ?_ | refine X_yl (Yl_geq_t rfl rfl rfl (by omega)) rfl rfl ?_) | (refine C_id ?_; first | refine C_seq ?_ | refine C_region ?_ | refine C_skip ?_ | refine C_cond_df rfl (by first | assumption | omega) ?_) | (refine E_id ?_; first | refine E_code ?_))
        refine X_callg _ rfl rfl rfl rfl rfl (front_ n rd fs _ (hG.mono fun r hr => (hr.rd hS).ro)) ?_
        rintro _ w ⟨p, k, rfl, hS'⟩
        replace hS := hS.plus hS'
        clear hS'
        repeat (first | (refine G_id ?_; first | refine G_yes rfl rfl rfl rfl ?_))
        refine X_callg _ rfl rfl rfl rfl rfl (equal_ _ _ _ _ _ _ b (frontB rd fs n) _ (hbo.rd hS) (hS.rd (List.mem_cons_self ..)) h64 (frontB_length ..)) ?_
        rintro _ _ ⟨rfl, rfl⟩
        repeat (first | (refine G_id ?_; first | refine G_nil ?_ | refine G_plain rfl rfl ?_) | (refine X_id ?_; first | refine X_yl (Yl_assign rfl rfl) rfl rfl ?_ | refine X_yl (Yl_pick_t rfl rfl rfl) rfl rfl ?_) | (refine C_id ?_; first | refine C_ret ?_) | (refine E_id ?_; first | refine E_code ?_ | refine E_ret2 rfl (Rv_tmp rfl) (Rv_tmp rfl) (Ret.mk ?_)))
        refine ⟨?_, hS.drops⟩
        rw [e2]
        simp [isFront, ← hn, h0, h1]
      · repeat (first | (refine G_id ?_; first | refine G_nil ?_ | refine G_plain rfl rfl ?_ | refine G_yes rfl rfl rfl rfl ?_ | refine G_no rfl rfl rfl rfl rfl rfl ?_) | (refine X_id ?_; first | refine X_yl (Yl_move rfl rfl) rfl rfl ?_ | refine X_yl (Yl_assign rfl rfl) rfl rfl ?_ | refine X_yl (Yl_pick_t rfl rfl rfl) rfl rfl ?_ | refine X_yl (Yl_pick_f rfl rfl rfl) rfl rfl ?_ | refine X_yl (Yl_leq_f rfl rfl rfl (by omega)) rfl rfl ?_ | refine X_yl (Yl_geq_t rfl rfl rfl (by omega)) rfl rfl ?_) | (refine C_id ?_; first | refine C_seq ?_ | refine C_region ?_ | refine C_ret ?_ | refine C_skip ?_ | refine C_cond_df rfl (by first | assumption | omega) ?_) | (refine E_id ?_; first | refine E_code ?_ | refine E_ret2 rfl (Rv_tmp rfl) (Rv_tmp rfl) (Ret.mk ?_)))
        refine ⟨?_, hS.drops⟩
        rw [e2]
        simp [isFront, ← hn, h1]
    · repeat (first | (refine G_id ?_; first | refine G_nil ?_ | refine G_plain rfl rfl ?_ | refine G_no rfl rfl rfl rfl rfl rfl ?_) | (refine X_id ?_; first | refine X_yl (Yl_move rfl rfl) rfl rfl ?_ | refine X_yl (Yl_assign rfl rfl) rfl rfl ?_ | refine X_yl (Yl_pick_f rfl rfl rfl) rfl rfl ?_ | refine X_yl (Yl_geq_f rfl rfl rfl (by omega)) rfl rfl ?_) | (refine C_id ?_; first | refine C_seq ?_ | refine C_region ?_ | refine C_ret ?_ | refine C_skip ?_ | refine C_cond_df rfl (by first | assumption | omega) ?_) | (refine E_id ?_; first | refine E_code ?_ | refine E_ret2 rfl (Rv_tmp rfl) (Rv_tmp rfl) (Ret.mk ?_)))
      refine ⟨?_, hS.drops⟩
      rw [e2]
      simp [isFront, ← hn, h0]
end Cr
