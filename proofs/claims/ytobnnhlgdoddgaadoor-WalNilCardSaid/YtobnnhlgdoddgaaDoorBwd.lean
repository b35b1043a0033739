/-
  slices.Backward: what the function that it hands back does, round by round.
-/
import Derived.Test.YtobnnhlgdoddgaaDoorFacts
import Derived.Test.YtobnnhlgdoddgaaDoorRf
namespace Cr
open Go Go.Proofs
set_option maxRecDepth 100000

theorem backward_waiting (l bx n c : Nat) (a : Option Addr) (cs : List Value) (w : World) (T : TypeId) (hn : n ≤ 4611686018427387904) (hcs : cs.length = n * 65) (Inv : Nat → World → Prop) (Stop : World → Prop)
    (hbx : ∀ k w, Inv k w → w.heap[bx]? = some (.cells #[.slice a n c] T)) (hrow : ∀ k w, Inv k w → Rd w (row a cs)) (hl : ∀ k w, Inv k w → ∃ r : Loop, r.params.size = 2 ∧ w.heap[l]? = some (.loop r) ∧ (k ≠ 0 →
      RoundIn Fence.wide 0 Tryd.prog l r.fn ((r.params.zip #[.int .i64 ((k - 1 : Nat) : Int), .agg ((cs.drop ((k - 1) * 65)).take 65).toArray]).foldl (fun tmps (t, a) => tmps.setIfInBounds t a) r.tmps) r.assign r.body w
        (Ret fun v w' => (v = .bool true ∧ Inv (k - 1) w') ∨ (v = .bool false ∧ Stop w')))) (h0 : Inv n w) :
    CallsIn Fence.wide 0 Tryd.prog 60 #[.func (.yield l) #[] #[], .pointer (some ⟨bx, 0, none⟩)] w (Ret fun _ w' => Inv 0 w' ∨ Stop w') := by
  refine callsIn_wide.2 ?_
  have hb := hbx _ _ h0
  refine calls_C Tryd.func60 rfl Tryd.ntmps60 rfl ?_
  repeat (first | (refine G_id ?_; first | refine G_nil ?_ | refine G_plain rfl rfl ?_) | (refine X_id ?_; first | refine X_yl (Yl_assign rfl rfl) rfl rfl ?_ | refine X_yl (Yl_len rfl rfl) rfl rfl ?_ | refine X_yl (Yl_sub rfl rfl rfl (w64 (by omega) (by omega))) rfl rfl ?_ | refine X_yl (Yl_load rfl rfl (cell_at (by assumption))) rfl rfl ?_) | (refine C_id ?_; first | refine C_seq ?_ | refine C_region ?_ | refine C_block ?_) | (refine E_id ?_; first | refine E_code ?_))
  refine C_loop (α := Nat) (fun k => [(0, .func (.yield l) #[] #[]), (1, .pointer (some ⟨bx, 0, none⟩)), (3, .int .i64 ((k : Int) - 1))]) (fun k w => k ≤ n ∧ Inv k w) (fun k => k) n ⟨rfl, rfl, rfl, trivial⟩ ⟨Nat.le_refl _, h0⟩ ?_
  clear hb h0
  rintro k w ⟨hk, hi⟩
  have hb := hbx _ _ hi
  by_cases h0 : k = 0
  · subst h0
    repeat (first | (refine G_id ?_; first | refine G_nil ?_ | refine G_plain rfl rfl ?_) | (refine X_id ?_; first | refine X_yl (Yl_move rfl rfl) rfl rfl ?_ | refine X_yl (Yl_geq_f rfl rfl rfl (by omega)) rfl rfl ?_) | (refine C_id ?_; first | refine C_seq ?_ | refine C_region ?_ | refine C_exit ?_ | refine C_cond_f rfl ?_) | (refine E_id ?_; first | refine E_code ?_ | refine E_then_exit ?_ | refine E_blk_same ?_ | refine E_end0 rfl (Ret.mk ?_)))
    exact .inl hi
  · obtain ⟨r, hp, hlr, hr⟩ := hl _ _ hi
    have hr := hr h0
    have hcs0 : cs ≠ [] := by intro e; rw [e] at hcs; simp at hcs; omega
    have ha := (hrow _ _ hi).base hcs0
    have hseg := (hrow _ _ hi).seg ((k - 1) * 65) 65
    have e1 : ((k : Int) - 1).toNat = k - 1 := by omega
    have e2 : ((k - 1 : Nat) : Int) = (k : Int) - 1 := by omega
    rw [e2] at hr
    repeat (first | (refine G_id ?_; first | refine G_nil ?_ | refine G_plain rfl rfl ?_) | (refine X_id ?_; first | refine X_yl (Yl_move rfl rfl) rfl rfl ?_ | refine X_yl (Yl_geq_t rfl rfl rfl (by omega)) rfl rfl ?_ | refine X_yl (Yl_indexAddr rfl rfl rfl (by omega) (by omega) (by first | assumption | exact ⟨_, _, rfl⟩)) rfl rfl ?_ | refine X_yl (Yl_load rfl rfl (cell_at (by assumption))) rfl rfl ?_) | (refine C_id ?_; first | refine C_seq ?_ | refine C_region ?_ | refine C_block ?_ | refine C_skip ?_ | refine C_cond_t rfl ?_) | (refine E_id ?_; first | refine E_code ?_))
    rw [e1]
    refine X_yl (Yl_loadAgg rfl rfl hseg (by simp; omega)) rfl rfl ?_
    refine G_yield rfl rfl rfl rfl rfl rfl hlr (by rw [hp]; rfl) hr ?_
    rintro v w' (⟨rfl, hi'⟩ | ⟨rfl, hs⟩)
    · repeat (first | (refine G_id ?_; first | refine G_nil ?_ | refine G_plain rfl rfl ?_) | (refine X_id ?_; first | refine X_yl (Yl_move rfl rfl) rfl rfl ?_ | refine X_yl (Yl_assign rfl rfl) rfl rfl ?_ | refine X_yl (Yl_not_t rfl rfl) rfl rfl ?_ | refine X_yl (Yl_sub rfl rfl rfl (w64 (by omega) (by omega))) rfl rfl ?_) | (refine C_id ?_; first | refine C_region ?_ | refine C_skip ?_ | refine C_cond_f rfl ?_) | (refine E_id ?_; first | refine E_code ?_ | refine E_blk_n ?_))
      refine E_round (k - 1) ⟨rfl, rfl, ?_, trivial⟩ ⟨by omega, hi'⟩ (by omega)
      rw [e2]; rfl
    · repeat (first | (refine G_id ?_; first | refine G_nil ?_ | refine G_plain rfl rfl ?_) | (refine X_id ?_; first | refine X_yl (Yl_not_f rfl rfl) rfl rfl ?_) | (refine C_id ?_; first | refine C_ret ?_ | refine C_cond_t rfl ?_) | (refine E_id ?_; first | refine E_code ?_ | refine E_then_ret ?_ | refine E_blk_ret ?_ | refine E_ret0 rfl (Ret.mk ?_)))
      exact .inr hs
end Cr
