/-
  Layer 4 (wal): Check.
-/
import Derived.Test.YtobnnhlgdoddgaaDoorWal4
import Derived.Test.YtobnnhlgdoddgaaDoorMp
namespace Cr
open Go Go.Proofs
set_option maxRecDepth 100000
set_option maxHeartbeats 4000000
attribute [local irreducible] Calls

def badW (x : Int × List UInt8) : Bool := decide (x.1 < 0) || decide (¬ (x.2.length : Int) = 64)
def twiceTo (l : List (Int × List UInt8)) : Nat → Bool
  | 0 => false
  | i + 1 => twiceTo l i || decide ((l.getD i (0, [])).1 ∈ (l.take i).map (·.1))
def checkM (l : List (Int × List UInt8)) : Int := if l.any badW then 1 else if twiceTo l l.length then 8 else 0
def seenTo (l : List (Int × List UInt8)) : Nat → List (Int × Value)
  | 0 => []
  | i + 1 => setM (l.getD i (0, [])).1 (.bool true) (seenTo l i)
theorem getM_setM (k k' : Int) (v : Value) : ∀ L, getM k (setM k' v L) = if k = k' then some v else getM k L
  | [] => by by_cases h : k = k' <;> simp [setM, getM, h]
  | x :: L => by
    unfold setM
    by_cases h : k' = x.1
    · subst h
      by_cases h2 : k = x.1 <;> simp [getM, h2]
    · rw [if_neg h]
      unfold getM
      rw [getM_setM k k' v L]
      by_cases h1 : k = x.1
      · have : ¬ k = k' := fun e => h (by rw [← e, h1])
        simp [h1, Ne.symm h]
      · simp [h1]
theorem getM_seen (l : List (Int × List UInt8)) (k : Int) : ∀ i, i ≤ l.length → (getM k (seenTo l i)).getD (.bool false) = .bool (decide (k ∈ (l.take i).map (·.1)))
  | 0, _ => by simp [seenTo, getM]
  | i + 1, h => by
    have ih := getM_seen l k i (by omega)
    simp only [seenTo]
    rw [getM_setM, List.take_succ_eq_append_getElem (by omega)]
    have e : l.getD i (0, []) = l[i] := by simp [List.getD_eq_getElem?_getD, show i < l.length by omega]
    have e2 : (l.take i ++ [l[i]]).map (·.1) = (l.take i).map (·.1) ++ [l[i].1] := by rw [List.map_append]; rfl
    rw [e, e2]
    simp only [List.mem_append, List.mem_singleton]
    by_cases hk : k = l[i].1
    · rw [if_pos hk, decide_eq_true (Or.inr hk)]; rfl
    · rw [if_neg hk, ih]
      congr 1
      exact decide_eq_decide.2 ⟨Or.inl, fun h => h.resolve_right hk⟩
theorem check_ (a : Option Addr) (c : Nat) (l : List Wr) (W : World) (hW : Wrs W noF a l) (hl : l.length ≤ 1048576) (hx64 : ∀ v ∈ l, v.x.s.length ≤ 140737488355328) :
    Calls Tryd.prog 24 #[.slice a l.length c] W (Ret fun v w => v = .int .i64 (checkM (l.map Wr.data)) ∧ St W noF [] w) := by
  have hS := St.start W
  obtain ⟨d, hd⟩ : ∃ d, d = l.map Wr.data := ⟨_, rfl⟩
  rw [← hd]
  have hdl : d.length = l.length := by rw [hd]; simp
  refine calls_C Tryd.func24 rfl Tryd.ntmps24 rfl ?_
  repeat (first | (refine G_id ?_; first | refine G_nil ?_ | refine G_plain rfl rfl ?_) | (refine X_id ?_; first | refine X_yl (Yl_assign rfl rfl) rfl rfl ?_) | (refine C_id ?_; first | refine C_seq ?_ | refine C_region ?_) | (refine E_id ?_; first | refine E_code ?_))
  refine X_makeMap (Value.int .i64) rfl rfl rfl hS (fun r w hS => ?_)
  repeat (first | (refine G_id ?_; first | refine G_nil ?_ | refine G_plain rfl rfl ?_) | (refine X_id ?_; first | refine X_yl (Yl_move rfl rfl) rfl rfl ?_ | refine X_yl (Yl_assign rfl rfl) rfl rfl ?_ | refine X_yl (Yl_len rfl rfl) rfl rfl ?_) | (refine C_id ?_; first | refine C_seq ?_ | refine C_region ?_ | refine C_block ?_) | (refine E_id ?_; first | refine E_code ?_))
  refine C_loop (α := Nat) (fun i => [(3, .map (some r)), (4, .bool (twiceTo d i)), (8, .slice a l.length c), (9, .int .i64 (l.length : Nat)), (10, .int .i64 (i : Nat))])
    (fun i w => i ≤ l.length ∧ (∀ x ∈ d.take i, badW x = false) ∧ St W noF [mapr (Value.int .i64) r (seenTo d i)] w) (fun i => l.length - i) 0 ⟨rfl, rfl, rfl, rfl, rfl, trivial⟩ ⟨Nat.zero_le _, by simp, hS⟩ ?_
  clear hS
  rintro i w ⟨hi, hbad, hS⟩
  by_cases hlt : i < l.length
  · have hx0 : l[i]? = some l[i] := List.getElem?_eq_getElem hlt
    generalize l[i] = v at hx0
    have hv64 := hx64 v (List.mem_of_getElem? hx0)
    have hdi : d[i]? = some v.data := by rw [hd]; simp [hx0]
    have hdg : d.getD i (0, []) = (v.no, v.x.s) := by rw [List.getD_eq_getElem?_getD, hdi]; rfl
    have hr := hW.row
    have hxs : ((l.flatMap Wr.cells).drop (i * 2)).take 2 = [.int .i64 v.no, .slice v.x.a v.x.s.length v.x.c] := wr_seg hx0
    obtain ⟨ab, ao, rfl⟩ := (hW.row.rd hS).base (by intro e; rw [e] at hxs; simp at hxs)
    have hbadr : badW v.data = true → checkM d = 1 := fun h => by
      unfold checkM
      rw [if_pos (List.any_eq_true.2 ⟨_, List.mem_of_getElem? hdi, h⟩)]
    by_cases hn : v.no < 0
    · repeat (first | (refine G_id ?_; first | refine G_nil ?_ | refine G_plain rfl rfl ?_ | refine G_no rfl rfl rfl rfl rfl rfl ?_) | (refine X_id ?_; first | refine X_yl (Yl_move rfl rfl) rfl rfl ?_ | refine X_yl (Yl_assign rfl rfl) rfl rfl ?_ | refine X_yl (Yl_fieldAddr0 rfl rfl rfl) rfl rfl ?_ | refine X_yl (Yl_pick_t rfl rfl rfl) rfl rfl ?_ | refine X_yl (Yl_lss_t rfl rfl rfl (by omega)) rfl rfl ?_ | refine X_yl (Yl_indexAddr rfl rfl rfl (by omega) (by omega) (by first | assumption | exact ⟨_, _, rfl⟩)) rfl rfl ?_ | refine X_yl (Yl_load rfl rfl hS.cell) rfl rfl ?_ | refine X_yl (Yl_loadN rfl rfl ((hr.rd hS).cellsX (by omega) hxs rfl)) rfl rfl ?_ | refine X_store rfl rfl rfl rfl hS (fun _ hS _ => ?_) | refine X_alloc rfl rfl rfl hS (fun _ _ hS _ => ?_)) | (refine C_id ?_; first | refine C_seq ?_ | refine C_region ?_ | refine C_block ?_ | refine C_ret ?_ | refine C_skip ?_ | refine C_cond_t rfl ?_) | (refine E_id ?_; first | refine E_code ?_ | refine E_then_ret ?_ | refine E_blk_ret ?_ | refine E_ret1 rfl (Rv_tmp rfl) (Ret.mk ?_)))
      exact ⟨by rw [hbadr (by simp [badW, Wr.data, hn])], hS.drops⟩
    · by_cases h64 : (v.x.s.length : Int) = 64
      · have hgood : badW v.data = false := by unfold badW Wr.data; rw [decide_eq_false hn]; simp [h64]
        obtain ⟨b, hb⟩ : ∃ b, b = twiceTo d i := ⟨_, rfl⟩
        rw [← hb]
        have ht : twiceTo d (i + 1) = (b || decide (v.no ∈ (d.take i).map (·.1))) := by rw [twiceTo, hdg, ← hb]
        have hb1 : ∀ x ∈ d.take (i + 1), badW x = false := fun x hx => by
          have hid : i < d.length := by omega
          rw [List.take_succ_eq_append_getElem hid] at hx
          have hvd : d[i] = v.data := by
            have := List.getElem?_eq_getElem hid
            rw [hdi] at this
            exact (Option.some.inj this).symm
          rw [hvd] at hx
          rcases List.mem_append.1 hx with h | h
          · exact hbad x h
          · rw [List.mem_singleton.1 h]; exact hgood
        cases b
        · repeat (first | (refine G_id ?_; first | refine G_nil ?_ | refine G_plain rfl rfl ?_ | refine G_yes rfl rfl rfl rfl ?_) | (refine X_id ?_; first | refine X_yl (Yl_move rfl rfl) rfl rfl ?_ | refine X_yl (Yl_fieldAddr0 rfl rfl rfl) rfl rfl ?_ | refine X_yl (Yl_pick_f rfl rfl rfl) rfl rfl ?_ | refine X_yl (Yl_len rfl rfl) rfl rfl ?_ | refine X_yl (Yl_neq_f rfl rfl rfl (by omega)) rfl rfl ?_ | refine X_yl (Yl_lss_t rfl rfl rfl (by omega)) rfl rfl ?_ | refine X_yl (Yl_lss_f rfl rfl rfl (by omega)) rfl rfl ?_ | refine X_yl (Yl_indexAddr rfl rfl rfl (by omega) (by omega) (by first | assumption | exact ⟨_, _, rfl⟩)) rfl rfl ?_ | refine X_yl (Yl_load rfl rfl hS.cell) rfl rfl ?_ | refine X_yl (Yl_loadN rfl rfl ((hr.rd hS).cellsX (by omega) hxs rfl)) rfl rfl ?_ | refine X_store rfl rfl rfl rfl hS (fun _ hS _ => ?_) | refine X_alloc rfl rfl rfl hS (fun _ _ hS _ => ?_)) | (refine C_id ?_; first | refine C_seq ?_ | refine C_region ?_ | refine C_block ?_ | refine C_skip ?_ | refine C_cond_t rfl ?_ | refine C_cond_f rfl ?_) | (refine E_id ?_; first | refine E_code ?_))
          refine X_yl (Yl_lookup (mk := Value.int .i64) (k := v.no) rfl rfl rfl (hS.rd (List.mem_cons_of_mem _ (List.mem_cons_self ..)))) rfl rfl ?_
          rw [getM_seen d v.no i (by omega)]
          repeat (first | (refine G_id ?_; first | refine G_nil ?_ | refine G_plain rfl rfl ?_) | (refine X_id ?_; first | refine X_yl (Yl_move rfl rfl) rfl rfl ?_ | refine X_yl (Yl_assign rfl rfl) rfl rfl ?_ | refine X_yl (Yl_fieldAddr0 rfl rfl rfl) rfl rfl ?_ | refine X_yl (Yl_pick_f rfl rfl rfl) rfl rfl ?_ | refine X_yl (Yl_load rfl rfl hS.cell) rfl rfl ?_) | (refine C_id ?_; first | refine C_region ?_) | (refine E_id ?_; first | refine E_code ?_))
          replace hS := hS.pick [1]
          refine X_mapUpdate (mk := Value.int .i64) (k := v.no) rfl rfl rfl rfl rfl hS (fun w hS => ?_)
          repeat (first | (refine G_id ?_; first | refine G_nil ?_ | refine G_plain rfl rfl ?_) | (refine X_id ?_; first | refine X_yl (Yl_move rfl rfl) rfl rfl ?_ | refine X_yl (Yl_add rfl rfl rfl (w64 (by omega) (by omega))) rfl rfl ?_) | (refine C_id ?_; first | refine C_region ?_) | (refine E_id ?_; first | refine E_code ?_ | refine E_blk_n ?_))
          refine E_round (i + 1) ⟨rfl, by rw [ht]; rfl, rfl, rfl, rfl, trivial⟩ ⟨by omega, hb1, ?_⟩ (by omega)
          simp only [seenTo, hdg]
          exact hS
        · repeat (first | (refine G_id ?_; first | refine G_nil ?_ | refine G_plain rfl rfl ?_ | refine G_yes rfl rfl rfl rfl ?_ | refine G_no rfl rfl rfl rfl rfl rfl ?_) | (refine X_id ?_; first | refine X_yl (Yl_move rfl rfl) rfl rfl ?_ | refine X_yl (Yl_assign rfl rfl) rfl rfl ?_ | refine X_yl (Yl_fieldAddr0 rfl rfl rfl) rfl rfl ?_ | refine X_yl (Yl_pick_t rfl rfl rfl) rfl rfl ?_ | refine X_yl (Yl_pick_f rfl rfl rfl) rfl rfl ?_ | refine X_yl (Yl_len rfl rfl) rfl rfl ?_ | refine X_yl (Yl_neq_f rfl rfl rfl (by omega)) rfl rfl ?_ | refine X_yl (Yl_lss_t rfl rfl rfl (by omega)) rfl rfl ?_ | refine X_yl (Yl_lss_f rfl rfl rfl (by omega)) rfl rfl ?_ | refine X_yl (Yl_indexAddr rfl rfl rfl (by omega) (by omega) (by first | assumption | exact ⟨_, _, rfl⟩)) rfl rfl ?_ | refine X_yl (Yl_load rfl rfl hS.cell) rfl rfl ?_ | refine X_yl (Yl_loadN rfl rfl ((hr.rd hS).cellsX (by omega) hxs rfl)) rfl rfl ?_ | refine X_store rfl rfl rfl rfl hS (fun _ hS _ => ?_) | refine X_alloc rfl rfl rfl hS (fun _ _ hS _ => ?_)) | (refine C_id ?_; first | refine C_seq ?_ | refine C_region ?_ | refine C_block ?_ | refine C_skip ?_ | refine C_cond_t rfl ?_ | refine C_cond_f rfl ?_) | (refine E_id ?_; first | refine E_code ?_))
          replace hS := hS.pick [1]
          refine X_mapUpdate (mk := Value.int .i64) (k := v.no) rfl rfl rfl rfl rfl hS (fun w hS => ?_)
          repeat (first | (refine G_id ?_; first | refine G_nil ?_ | refine G_plain rfl rfl ?_) | (refine X_id ?_; first | refine X_yl (Yl_move rfl rfl) rfl rfl ?_ | refine X_yl (Yl_add rfl rfl rfl (w64 (by omega) (by omega))) rfl rfl ?_) | (refine C_id ?_; first | refine C_region ?_) | (refine E_id ?_; first | refine E_code ?_ | refine E_blk_n ?_))
          refine E_round (i + 1) ⟨rfl, by rw [ht]; rfl, rfl, rfl, rfl, trivial⟩ ⟨by omega, hb1, ?_⟩ (by omega)
          simp only [seenTo, hdg]
          exact hS
      · repeat (first | (refine G_id ?_; first | refine G_nil ?_ | refine G_plain rfl rfl ?_ | refine G_yes rfl rfl rfl rfl ?_) | (refine X_id ?_; first | refine X_yl (Yl_move rfl rfl) rfl rfl ?_ | refine X_yl (Yl_assign rfl rfl) rfl rfl ?_ | refine X_yl (Yl_fieldAddr0 rfl rfl rfl) rfl rfl ?_ | refine X_yl (Yl_pick_f rfl rfl rfl) rfl rfl ?_ | refine X_yl (Yl_len rfl rfl) rfl rfl ?_ | refine X_yl (Yl_neq_t rfl rfl rfl (by omega)) rfl rfl ?_ | refine X_yl (Yl_lss_t rfl rfl rfl (by omega)) rfl rfl ?_ | refine X_yl (Yl_lss_f rfl rfl rfl (by omega)) rfl rfl ?_ | refine X_yl (Yl_indexAddr rfl rfl rfl (by omega) (by omega) (by first | assumption | exact ⟨_, _, rfl⟩)) rfl rfl ?_ | refine X_yl (Yl_load rfl rfl hS.cell) rfl rfl ?_ | refine X_yl (Yl_loadN rfl rfl ((hr.rd hS).cellsX (by omega) hxs rfl)) rfl rfl ?_ | refine X_store rfl rfl rfl rfl hS (fun _ hS _ => ?_) | refine X_alloc rfl rfl rfl hS (fun _ _ hS _ => ?_)) | (refine C_id ?_; first | refine C_seq ?_ | refine C_region ?_ | refine C_block ?_ | refine C_ret ?_ | refine C_skip ?_ | refine C_cond_t rfl ?_) | (refine E_id ?_; first | refine E_code ?_ | refine E_then_ret ?_ | refine E_blk_ret ?_ | refine E_ret1 rfl (Rv_tmp rfl) (Ret.mk ?_)))
        exact ⟨by rw [hbadr (by simp [badW, Wr.data, h64])], hS.drops⟩
  · obtain rfl : i = l.length := by omega
    have hany : d.any badW = false := by
      rw [← hdl, List.take_length] at hbad
      simpa using hbad
    cases ht : twiceTo d l.length
    · rw [show checkM d = 0 by unfold checkM; rw [if_neg (by simp [hany]), hdl, ht]; rfl]
      repeat (first | (refine G_id ?_; first | refine G_nil ?_ | refine G_plain rfl rfl ?_) | (refine X_id ?_; first | refine X_yl (Yl_move rfl rfl) rfl rfl ?_ | refine X_yl (Yl_assign rfl rfl) rfl rfl ?_ | refine X_yl (Yl_lss_f rfl rfl rfl (by omega)) rfl rfl ?_) | (refine C_id ?_; first | refine C_seq ?_ | refine C_region ?_ | refine C_ret ?_ | refine C_skip ?_ | refine C_exit ?_ | refine C_cond_f rfl ?_) | (refine E_id ?_; first | refine E_code ?_ | refine E_then_exit ?_ | refine E_blk_same ?_ | refine E_ret1 rfl (Rv_tmp rfl) (Ret.mk ?_)))
      exact ⟨rfl, hS.drops⟩
    · rw [show checkM d = 8 by unfold checkM; rw [if_neg (by simp [hany]), hdl, ht]; rfl]
      repeat (first | (refine G_id ?_; first | refine G_nil ?_ | refine G_plain rfl rfl ?_) | (refine X_id ?_; first | refine X_yl (Yl_move rfl rfl) rfl rfl ?_ | refine X_yl (Yl_assign rfl rfl) rfl rfl ?_ | refine X_yl (Yl_lss_f rfl rfl rfl (by omega)) rfl rfl ?_) | (refine C_id ?_; first | refine C_seq ?_ | refine C_region ?_ | refine C_ret ?_ | refine C_exit ?_ | refine C_cond_t rfl ?_ | refine C_cond_f rfl ?_) | (refine E_id ?_; first | refine E_code ?_ | refine E_then_ret ?_ | refine E_then_exit ?_ | refine E_blk_same ?_ | refine E_ret1 rfl (Rv_tmp rfl) (Ret.mk ?_)))
      exact ⟨rfl, hS.drops⟩
end Cr
