/-
  Layer 4 (wal): Check.
  Layer 4 (wal): a log in memory, what it tells; steps.
  Layer 4 (wal): lay.
  Layer 4 (wal): entry.
  The document's answers of layer 4: small, full, sector, Frame.
  The document's table of the digest, out of primes.
  What the document's digest computes, as its operations tell it.
-/
import Derived.Test.YtobnnhlgdoddgaaGreatDoorOpn5
import Derived.KernelRfl
import Derived.Test.YtobnnhlgdoddgaaGreatDoorOpn3
import Derived.Laws.BitsLemmas
namespace Cr
open Go Go.Proofs
set_option maxRecDepth 100000
set_option maxHeartbeats 4000000
attribute [local irreducible] Calls

def badW (x : Int × List UInt8) : Bool := decide (x.1 < 0) || decide (¬ (x.2.length : Int) = 64)
def twiceTo (l : List (Int × List UInt8)) : Nat → Bool
  | 0 => false
  | i + 1 => twiceTo l i || decide ((l.getD i (0, [])).1 ∈ (l.take i).map (·.1))
def checkM (l : List (Int × List UInt8)) : Int := if l.any badW then 1 else if twiceTo l l.length then 8 else 0
def seenTo (l : List (Int × List UInt8)) : Nat → List (Int × Value)
  | 0 => []
  | i + 1 => setM (l.getD i (0, [])).1 (.bool true) (seenTo l i)
theorem getM_setM (k k' : Int) (v : Value) : ∀ L, getM k (setM k' v L) = if k = k' then some v else getM k L
  | [] => by by_cases h : k = k' <;> simp [setM, getM, h]
  | x :: L => by
    unfold setM
    by_cases h : k' = x.1
    · subst h
      by_cases h2 : k = x.1 <;> simp [getM, h2]
    · rw [if_neg h]
      unfold getM
      rw [getM_setM k k' v L]
      by_cases h1 : k = x.1
      · have : ¬ k = k' := fun e => h (by rw [← e, h1])
        simp [h1, Ne.symm h]
      · simp [h1]
theorem getM_seen (l : List (Int × List UInt8)) (k : Int) : ∀ i, i ≤ l.length → (getM k (seenTo l i)).getD (.bool false) = .bool (decide (k ∈ (l.take i).map (·.1)))
  | 0, _ => by simp [seenTo, getM]
  | i + 1, h => by
    have ih := getM_seen l k i (by omega)
    simp only [seenTo]
    rw [getM_setM, List.take_succ_eq_append_getElem (by omega)]
    have e : l.getD i (0, []) = l[i] := by simp [List.getD_eq_getElem?_getD, show i < l.length by omega]
    have e2 : (l.take i ++ [l[i]]).map (·.1) = (l.take i).map (·.1) ++ [l[i].1] := by rw [List.map_append]; rfl
    rw [e, e2]
    simp only [List.mem_append, List.mem_singleton]
    by_cases hk : k = l[i].1
    · rw [if_pos hk, decide_eq_true (Or.inr hk)]; rfl
    · rw [if_neg hk, ih]
      congr 1
      exact decide_eq_decide.2 ⟨Or.inl, fun h => h.resolve_right hk⟩
theorem check_ (a : Option Addr) (c : Nat) (l : List Wr) (W : World) (hW : Wrs W noF a l) (hl : l.length ≤ 1048576) (hx64 : ∀ v ∈ l, v.x.s.length ≤ 140737488355328) :
    Calls Tryz.prog 49 #[.slice a l.length c] W (Ret fun v w => v = .int .i64 (checkM (l.map Wr.data)) ∧ St W noF [] w) := by
  have hS := St.start W
  obtain ⟨d, hd⟩ : ∃ d, d = l.map Wr.data := ⟨_, rfl⟩
  rw [← hd]
  have hdl : d.length = l.length := by rw [hd]; simp
  refine calls_C Tryz.func49 rfl Tryz.ntmps49 rfl ?_
  repeat (first | (refine G_id ?_; first | refine G_nil ?_ | refine G_plain rfl rfl ?_) | (refine X_id ?_; first | refine X_yl (Yl_assign rfl rfl) rfl rfl ?_) | (refine C_id ?_; first | refine C_seq ?_ | refine C_region ?_) | (refine E_id ?_; first | refine E_code ?_))
  refine X_makeMap (Value.int .i64) rfl rfl rfl hS (fun r w hS => ?_)
  repeat (first | (refine G_id ?_; first | refine G_nil ?_ | refine G_plain rfl rfl ?_) | (refine X_id ?_; first | refine X_yl (Yl_move rfl rfl) rfl rfl ?_ | refine X_yl (Yl_assign rfl rfl) rfl rfl ?_ | refine X_yl (Yl_len rfl rfl) rfl rfl ?_) | (refine C_id ?_; first | refine C_seq ?_ | refine C_region ?_ | refine C_block ?_) | (refine E_id ?_; first | refine E_code ?_))
  refine C_loop (α := Nat) (fun i => [(3, .map (some r)), (4, .bool (twiceTo d i)), (8, .slice a l.length c), (9, .int .i64 (l.length : Nat)), (10, .int .i64 (i : Nat))])
    (fun i w => i ≤ l.length ∧ (∀ x ∈ d.take i, badW x = false) ∧ St W noF [mapr (Value.int .i64) r (seenTo d i)] w) (fun i => l.length - i) 0 ⟨rfl, rfl, rfl, rfl, rfl, trivial⟩ ⟨Nat.zero_le _, by simp, hS⟩ ?_
  clear hS
  rintro i w ⟨hi, hbad, hS⟩
  by_cases hlt : i < l.length
  · have hx0 : l[i]? = some l[i] := List.getElem?_eq_getElem hlt
    generalize l[i] = v at hx0
    have hv64 := hx64 v (List.mem_of_getElem? hx0)
    have hdi : d[i]? = some v.data := by rw [hd]; simp [hx0]
    have hdg : d.getD i (0, []) = (v.no, v.x.s) := by rw [List.getD_eq_getElem?_getD, hdi]; rfl
    have hr := hW.row
    have hxs : ((l.flatMap Wr.cells).drop (i * 2)).take 2 = [.int .i64 v.no, .slice v.x.a v.x.s.length v.x.c] := wr_seg hx0
    obtain ⟨ab, ao, rfl⟩ := (hW.row.rd hS).base (by intro e; rw [e] at hxs; simp at hxs)
    have hbadr : badW v.data = true → checkM d = 1 := fun h => by
      unfold checkM
      rw [if_pos (List.any_eq_true.2 ⟨_, List.mem_of_getElem? hdi, h⟩)]
    by_cases hn : v.no < 0
    · repeat (first | (refine G_id ?_; first | refine G_nil ?_ | refine G_plain rfl rfl ?_ | refine G_no rfl rfl rfl rfl rfl rfl ?_) | (refine X_id ?_; first | refine X_yl (Yl_move rfl rfl) rfl rfl ?_ | refine X_yl (Yl_assign rfl rfl) rfl rfl ?_ | refine X_yl (Yl_fieldAddr0 rfl rfl rfl) rfl rfl ?_ | refine X_yl (Yl_pick_t rfl rfl rfl) rfl rfl ?_ | refine X_yl (Yl_lss_t rfl rfl rfl (by omega)) rfl rfl ?_ | refine X_yl (Yl_indexAddr rfl rfl rfl (by omega) (by omega) (by first | assumption | exact ⟨_, _, rfl⟩)) rfl rfl ?_ | refine X_yl (Yl_load rfl rfl hS.cell) rfl rfl ?_ | refine X_yl (Yl_loadN rfl rfl ((hr.rd hS).cellsX (by omega) hxs rfl)) rfl rfl ?_ | refine X_store rfl rfl rfl rfl hS (fun _ hS _ => ?_) | refine X_alloc rfl rfl rfl hS (fun _ _ hS _ => ?_)) | (refine C_id ?_; first | refine C_seq ?_ | refine C_region ?_ | refine C_block ?_ | refine C_ret ?_ | refine C_skip ?_ | refine C_cond_t rfl ?_) | (refine E_id ?_; first | refine E_code ?_ | refine E_then_ret ?_ | refine E_blk_ret ?_ | refine E_ret1 rfl (Rv_tmp rfl) (Ret.mk ?_)))
      exact ⟨by rw [hbadr (by simp [badW, Wr.data, hn])], hS.drops⟩
    · by_cases h64 : (v.x.s.length : Int) = 64
      · have hgood : badW v.data = false := by unfold badW Wr.data; rw [decide_eq_false hn]; simp [h64]
        obtain ⟨b, hb⟩ : ∃ b, b = twiceTo d i := ⟨_, rfl⟩
        rw [← hb]
        have ht : twiceTo d (i + 1) = (b || decide (v.no ∈ (d.take i).map (·.1))) := by rw [twiceTo, hdg, ← hb]
        have hb1 : ∀ x ∈ d.take (i + 1), badW x = false := fun x hx => by
          have hid : i < d.length := by omega
          rw [List.take_succ_eq_append_getElem hid] at hx
          have hvd : d[i] = v.data := by
            have := List.getElem?_eq_getElem hid
            rw [hdi] at this
            exact (Option.some.inj this).symm
          rw [hvd] at hx
          rcases List.mem_append.1 hx with h | h
          · exact hbad x h
          · rw [List.mem_singleton.1 h]; exact hgood
        cases b
        · repeat (first | (refine G_id ?_; first | refine G_nil ?_ | refine G_plain rfl rfl ?_ | refine G_yes rfl rfl rfl rfl ?_) | (refine X_id ?_; first | refine X_yl (Yl_move rfl rfl) rfl rfl ?_ | refine X_yl (Yl_fieldAddr0 rfl rfl rfl) rfl rfl ?_ | refine X_yl (Yl_pick_f rfl rfl rfl) rfl rfl ?_ | refine X_yl (Yl_len rfl rfl) rfl rfl ?_ | refine X_yl (Yl_neq_f rfl rfl rfl (by omega)) rfl rfl ?_ | refine X_yl (Yl_lss_t rfl rfl rfl (by omega)) rfl rfl ?_ | refine X_yl (Yl_lss_f rfl rfl rfl (by omega)) rfl rfl ?_ | refine X_yl (Yl_indexAddr rfl rfl rfl (by omega) (by omega) (by first | assumption | exact ⟨_, _, rfl⟩)) rfl rfl ?_ | refine X_yl (Yl_load rfl rfl hS.cell) rfl rfl ?_ | refine X_yl (Yl_loadN rfl rfl ((hr.rd hS).cellsX (by omega) hxs rfl)) rfl rfl ?_ | refine X_store rfl rfl rfl rfl hS (fun _ hS _ => ?_) | refine X_alloc rfl rfl rfl hS (fun _ _ hS _ => ?_)) | (refine C_id ?_; first | refine C_seq ?_ | refine C_region ?_ | refine C_block ?_ | refine C_skip ?_ | refine C_cond_t rfl ?_ | refine C_cond_f rfl ?_) | (refine E_id ?_; first | refine E_code ?_))
          refine X_yl (Yl_lookup (mk := Value.int .i64) (k := v.no) rfl rfl rfl (hS.rd (List.mem_cons_of_mem _ (List.mem_cons_self ..)))) rfl rfl ?_
          rw [getM_seen d v.no i (by omega)]
          repeat (first | (refine G_id ?_; first | refine G_nil ?_ | refine G_plain rfl rfl ?_) | (refine X_id ?_; first | refine X_yl (Yl_move rfl rfl) rfl rfl ?_ | refine X_yl (Yl_assign rfl rfl) rfl rfl ?_ | refine X_yl (Yl_fieldAddr0 rfl rfl rfl) rfl rfl ?_ | refine X_yl (Yl_pick_f rfl rfl rfl) rfl rfl ?_ | refine X_yl (Yl_load rfl rfl hS.cell) rfl rfl ?_) | (refine C_id ?_; first | refine C_region ?_) | (refine E_id ?_; first | refine E_code ?_))
          replace hS := hS.pick [1]
          refine X_mapUpdate (mk := Value.int .i64) (k := v.no) rfl rfl rfl rfl rfl hS (fun w hS => ?_)
          repeat (first | (refine G_id ?_; first | refine G_nil ?_ | refine G_plain rfl rfl ?_) | (refine X_id ?_; first | refine X_yl (Yl_move rfl rfl) rfl rfl ?_ | refine X_yl (Yl_add rfl rfl rfl (w64 (by omega) (by omega))) rfl rfl ?_) | (refine C_id ?_; first | refine C_region ?_) | (refine E_id ?_; first | refine E_code ?_ | refine E_blk_n ?_))
          refine E_round (i + 1) ⟨rfl, by rw [ht]; rfl, rfl, rfl, rfl, trivial⟩ ⟨by omega, hb1, ?_⟩ (by omega)
          simp only [seenTo, hdg]
          exact hS
        · repeat (first | (refine G_id ?_; first | refine G_nil ?_ | refine G_plain rfl rfl ?_ | refine G_yes rfl rfl rfl rfl ?_ | refine G_no rfl rfl rfl rfl rfl rfl ?_) | (refine X_id ?_; first | refine X_yl (Yl_move rfl rfl) rfl rfl ?_ | refine X_yl (Yl_assign rfl rfl) rfl rfl ?_ | refine X_yl (Yl_fieldAddr0 rfl rfl rfl) rfl rfl ?_ | refine X_yl (Yl_pick_t rfl rfl rfl) rfl rfl ?_ | refine X_yl (Yl_pick_f rfl rfl rfl) rfl rfl ?_ | refine X_yl (Yl_len rfl rfl) rfl rfl ?_ | refine X_yl (Yl_neq_f rfl rfl rfl (by omega)) rfl rfl ?_ | refine X_yl (Yl_lss_t rfl rfl rfl (by omega)) rfl rfl ?_ | refine X_yl (Yl_lss_f rfl rfl rfl (by omega)) rfl rfl ?_ | refine X_yl (Yl_indexAddr rfl rfl rfl (by omega) (by omega) (by first | assumption | exact ⟨_, _, rfl⟩)) rfl rfl ?_ | refine X_yl (Yl_load rfl rfl hS.cell) rfl rfl ?_ | refine X_yl (Yl_loadN rfl rfl ((hr.rd hS).cellsX (by omega) hxs rfl)) rfl rfl ?_ | refine X_store rfl rfl rfl rfl hS (fun _ hS _ => ?_) | refine X_alloc rfl rfl rfl hS (fun _ _ hS _ => ?_)) | (refine C_id ?_; first | refine C_seq ?_ | refine C_region ?_ | refine C_block ?_ | refine C_skip ?_ | refine C_cond_t rfl ?_ | refine C_cond_f rfl ?_) | (refine E_id ?_; first | refine E_code ?_))
          replace hS := hS.pick [1]
          refine X_mapUpdate (mk := Value.int .i64) (k := v.no) rfl rfl rfl rfl rfl hS (fun w hS => ?_)
          repeat (first | (refine G_id ?_; first | refine G_nil ?_ | refine G_plain rfl rfl ?_) | (refine X_id ?_; first | refine X_yl (Yl_move rfl rfl) rfl rfl ?_ | refine X_yl (Yl_add rfl rfl rfl (w64 (by omega) (by omega))) rfl rfl ?_) | (refine C_id ?_; first | refine C_region ?_) | (refine E_id ?_; first | refine E_code ?_ | refine E_blk_n ?_))
          refine E_round (i + 1) ⟨rfl, by rw [ht]; rfl, rfl, rfl, rfl, trivial⟩ ⟨by omega, hb1, ?_⟩ (by omega)
          simp only [seenTo, hdg]
          exact hS
      · repeat (first | (refine G_id ?_; first | refine G_nil ?_ | refine G_plain rfl rfl ?_ | refine G_yes rfl rfl rfl rfl ?_) | (refine X_id ?_; first | refine X_yl (Yl_move rfl rfl) rfl rfl ?_ | refine X_yl (Yl_assign rfl rfl) rfl rfl ?_ | refine X_yl (Yl_fieldAddr0 rfl rfl rfl) rfl rfl ?_ | refine X_yl (Yl_pick_f rfl rfl rfl) rfl rfl ?_ | refine X_yl (Yl_len rfl rfl) rfl rfl ?_ | refine X_yl (Yl_neq_t rfl rfl rfl (by omega)) rfl rfl ?_ | refine X_yl (Yl_lss_t rfl rfl rfl (by omega)) rfl rfl ?_ | refine X_yl (Yl_lss_f rfl rfl rfl (by omega)) rfl rfl ?_ | refine X_yl (Yl_indexAddr rfl rfl rfl (by omega) (by omega) (by first | assumption | exact ⟨_, _, rfl⟩)) rfl rfl ?_ | refine X_yl (Yl_load rfl rfl hS.cell) rfl rfl ?_ | refine X_yl (Yl_loadN rfl rfl ((hr.rd hS).cellsX (by omega) hxs rfl)) rfl rfl ?_ | refine X_store rfl rfl rfl rfl hS (fun _ hS _ => ?_) | refine X_alloc rfl rfl rfl hS (fun _ _ hS _ => ?_)) | (refine C_id ?_; first | refine C_seq ?_ | refine C_region ?_ | refine C_block ?_ | refine C_ret ?_ | refine C_skip ?_ | refine C_cond_t rfl ?_) | (refine E_id ?_; first | refine E_code ?_ | refine E_then_ret ?_ | refine E_blk_ret ?_ | refine E_ret1 rfl (Rv_tmp rfl) (Ret.mk ?_)))
        exact ⟨by rw [hbadr (by simp [badW, Wr.data, h64])], hS.drops⟩
  · obtain rfl : i = l.length := by omega
    have hany : d.any badW = false := by
      rw [← hdl, List.take_length] at hbad
      simpa using hbad
    cases ht : twiceTo d l.length
    · rw [show checkM d = 0 by unfold checkM; rw [if_neg (by simp [hany]), hdl, ht]; rfl]
      repeat (first | (refine G_id ?_; first | refine G_nil ?_ | refine G_plain rfl rfl ?_) | (refine X_id ?_; first | refine X_yl (Yl_move rfl rfl) rfl rfl ?_ | refine X_yl (Yl_assign rfl rfl) rfl rfl ?_ | refine X_yl (Yl_lss_f rfl rfl rfl (by omega)) rfl rfl ?_) | (refine C_id ?_; first | refine C_seq ?_ | refine C_region ?_ | refine C_ret ?_ | refine C_skip ?_ | refine C_exit ?_ | refine C_cond_f rfl ?_) | (refine E_id ?_; first | refine E_code ?_ | refine E_then_exit ?_ | refine E_blk_same ?_ | refine E_ret1 rfl (Rv_tmp rfl) (Ret.mk ?_)))
      exact ⟨rfl, hS.drops⟩
    · rw [show checkM d = 8 by unfold checkM; rw [if_neg (by simp [hany]), hdl, ht]; rfl]
      repeat (first | (refine G_id ?_; first | refine G_nil ?_ | refine G_plain rfl rfl ?_) | (refine X_id ?_; first | refine X_yl (Yl_move rfl rfl) rfl rfl ?_ | refine X_yl (Yl_assign rfl rfl) rfl rfl ?_ | refine X_yl (Yl_lss_f rfl rfl rfl (by omega)) rfl rfl ?_) | (refine C_id ?_; first | refine C_seq ?_ | refine C_region ?_ | refine C_ret ?_ | refine C_exit ?_ | refine C_cond_t rfl ?_ | refine C_cond_f rfl ?_) | (refine E_id ?_; first | refine E_code ?_ | refine E_then_ret ?_ | refine E_then_exit ?_ | refine E_blk_same ?_ | refine E_ret1 rfl (Rv_tmp rfl) (Ret.mk ?_)))
      exact ⟨rfl, hS.drops⟩
end Cr
namespace Cr
open Go Go.Proofs
set_option maxRecDepth 100000
set_option maxHeartbeats 4000000
attribute [local irreducible] Calls

/-- A log's cells: its disk, its once, its journal, the last number, whether something was redone. -/
abbrev logCells (p : Nat) (o s m : Int) (j : Nat) (done : Int) (rd : Bool) : List Value := [.pointer (some ⟨p, 0, none⟩), .int .u32 o, .int .i32 s, .int .u32 m, .int .i64 (j : Nat), .int .i64 done, .bool rd]
abbrev logAt (lp p : Nat) (o s m : Int) (j : Nat) (done : Int) (rd : Bool) : Res := pts lp (.cells (logCells p o s m j done rd).toArray 74)
theorem wsectors_nil (W : World) : Calls Tryz.prog 33 #[.pointer none] W (Ret fun v w => v = .int .i64 0 ∧ W = w) := by
  refine calls_C Tryz.func33 rfl Tryz.ntmps33 rfl ?_
  repeat (first | (refine G_id ?_; first | refine G_nil ?_ | refine G_plain rfl rfl ?_) | (refine X_id ?_; first | refine X_yl (Yl_move rfl rfl) rfl rfl ?_ | refine X_yl (Yl_assign rfl rfl) rfl rfl ?_ | refine X_yl (Yl_eqlNil_none rfl rfl rfl) rfl rfl ?_) | (refine C_id ?_; first | refine C_seq ?_ | refine C_region ?_ | refine C_ret ?_ | refine C_cond_t rfl ?_) | (refine E_id ?_; first | refine E_code ?_ | refine E_then_ret ?_ | refine E_ret1 rfl (Rv_tmp rfl) (Ret.mk ?_)))
  exact ⟨rfl, rfl⟩
theorem wmost_nil (W : World) : Calls Tryz.prog 51 #[.pointer none] W (Ret fun v w => v = .int .i64 0 ∧ W = w) := by
  refine calls_C Tryz.func51 rfl Tryz.ntmps51 rfl ?_
  repeat (first | (refine G_id ?_; first | refine G_nil ?_ | refine G_plain rfl rfl ?_) | (refine X_id ?_; first | refine X_yl (Yl_move rfl rfl) rfl rfl ?_ | refine X_yl (Yl_assign rfl rfl) rfl rfl ?_ | refine X_yl (Yl_eqlNil_none rfl rfl rfl) rfl rfl ?_) | (refine C_id ?_; first | refine C_seq ?_ | refine C_region ?_ | refine C_ret ?_ | refine C_cond_t rfl ?_) | (refine E_id ?_; first | refine E_code ?_ | refine E_then_ret ?_ | refine E_ret1 rfl (Rv_tmp rfl) (Ret.mk ?_)))
  exact ⟨rfl, rfl⟩
theorem wdone_nil (W : World) : Calls Tryz.prog 11 #[.pointer none] W (Ret fun v w => v = .int .i64 0 ∧ W = w) := by
  refine calls_C Tryz.func11 rfl Tryz.ntmps11 rfl ?_
  repeat (first | (refine G_id ?_; first | refine G_nil ?_ | refine G_plain rfl rfl ?_) | (refine X_id ?_; first | refine X_yl (Yl_move rfl rfl) rfl rfl ?_ | refine X_yl (Yl_assign rfl rfl) rfl rfl ?_ | refine X_yl (Yl_eqlNil_none rfl rfl rfl) rfl rfl ?_) | (refine C_id ?_; first | refine C_seq ?_ | refine C_region ?_ | refine C_ret ?_ | refine C_cond_t rfl ?_) | (refine E_id ?_; first | refine E_code ?_ | refine E_then_ret ?_ | refine E_ret1 rfl (Rv_tmp rfl) (Ret.mk ?_)))
  exact ⟨rfl, rfl⟩
theorem wredone_nil (W : World) : Calls Tryz.prog 12 #[.pointer none] W (Ret fun v w => v = .bool false ∧ W = w) := by
  refine calls_C Tryz.func12 rfl Tryz.ntmps12 rfl ?_
  repeat (first | (refine G_id ?_; first | refine G_nil ?_ | refine G_plain rfl rfl ?_ | refine G_no rfl rfl rfl rfl rfl rfl ?_) | (refine X_id ?_; first | refine X_yl (Yl_move rfl rfl) rfl rfl ?_ | refine X_yl (Yl_assign rfl rfl) rfl rfl ?_ | refine X_yl (Yl_pick_f rfl rfl rfl) rfl rfl ?_ | refine X_yl (Yl_neqNil_none rfl rfl rfl) rfl rfl ?_) | (refine C_id ?_; first | refine C_seq ?_ | refine C_region ?_ | refine C_ret ?_) | (refine E_id ?_; first | refine E_code ?_ | refine E_ret1 rfl (Rv_tmp rfl) (Ret.mk ?_)))
  exact ⟨rfl, rfl⟩
section
variable (lp p : Nat) (o s m : Int) (j : Nat) (done : Int) (rd : Bool) (D : DiskM) (W : World)
theorem wsectors_ (hL : Rd W (logAt lp p o s m j done rd)) (hD : Rd W (disk p D)) (hj : j ≤ 4096) :
    Calls Tryz.prog 33 #[.pointer (some ⟨lp, 0, none⟩)] W (Ret fun v w => v = .int .i64 ((D.laid.length : Int) - 1 - j) ∧ St W noF [] w) := by
  have hc := hL.pts
  have hS := St.start W
  have hm := hD.disk.1.most
  have hLo := hL.ro
  have hDo := hD.ro
  refine calls_C Tryz.func33 rfl Tryz.ntmps33 rfl ?_
  repeat (first | (refine G_id ?_; first | refine G_nil ?_ | refine G_plain rfl rfl ?_) | (refine X_id ?_; first | refine X_yl (Yl_move rfl rfl) rfl rfl ?_ | refine X_yl (Yl_assign rfl rfl) rfl rfl ?_ | refine X_yl (Yl_eqlNil_some rfl rfl rfl) rfl rfl ?_) | (refine C_id ?_; first | refine C_seq ?_ | refine C_region ?_ | refine C_skip ?_ | refine C_cond_f rfl ?_) | (refine E_id ?_; first | refine E_code ?_))
  refine C_ord (.s 0 (.s 1 (.s 2 (.s 3 (.s 6 (.s 7 (.s 8 (.s 9 (.h 4 (.s 5 (.s 10 (.s 11 .nil))) .no))))))))) mixed (by kernel_rfl) rfl ?_
  have hS := hS.drew
  have hc := (hLo.rd hS).pts
  repeat (first | (refine X_id ?_; first | (refine X_callg 22 rfl rfl rfl rfl rfl (sectors_ p D _ (hDo.rd hS)) ?_; rintro _ _ ⟨rfl, rfl⟩)) | (refine C_id ?_; first | refine C_ret ?_) | (refine E_id ?_; first | refine E_code ?_ | refine E_ret1 rfl (Rv_tmp rfl) (Ret.mk ?_)) | (refine GO_id ?_; first | refine GO_nil ?_ | refine GO_pure rfl rfl (fun _ => Yl_move rfl rfl) rfl rfl ?_ | refine GO_pure rfl rfl (fun _ => Yl_assign rfl rfl) rfl rfl ?_ | refine GO_pure rfl rfl (fun _ => Yl_nilCheck rfl rfl) rfl rfl ?_ | refine GO_pure rfl rfl (fun _ => Yl_fieldAddr0 rfl rfl rfl) rfl rfl ?_ | refine GO_pure rfl rfl (fun _ => Yl_sub rfl rfl rfl (w64 (by omega) (by omega))) rfl rfl ?_ | refine GO_read (fun w' => w'.cell? _ = some _) rfl rfl (cell_at (by assumption)) (fun _ hc => Yl_load rfl rfl hc) rfl rfl ?_ | refine GO_hard rfl rfl ?_) | (refine Keep_id ?_; first | refine And.intro (by repeat (first | exact trivial | refine And.intro (.inl (by decide +kernel)) ?_ | refine And.intro (.inr (by first | assumption | exact hS.cell | exact cell_at (by assumption) | exact hS.cellI (by omega) | exact hS.cellIP (by omega) | exact hS.cellsN | exact ((hr.rd hS).cellX (by omega) hx) | exact ((hr2.rd hS).cellX (by omega) hx2) | exact hS.cellB (by omega) | exact hS.cellBA (by omega) | exact (hb.rd hS).cellB' (by omega) | exact (hb2.rd hS).cellB' (by omega) | exact (hg.rd hS).cellI (by omega) | exact (hg2.rd hS).cellI (by omega) | exact ((hr.rd hS).cellF (by first | omega | (dsimp only; omega)) hx) | exact ((hr2.rd hS).cellF (by first | omega | (dsimp only; omega)) hx2) | exact hS.cellIA (by omega) | exact (hg.rd hS).cellIA (by omega) | exact (hg2.rd hS).cellIA (by omega))) ?_)) ?_))
  exact ⟨rfl, hS⟩
theorem wmost_ (hL : Rd W (logAt lp p o s m j done rd)) (hj : j ≤ 4096) :
    Calls Tryz.prog 51 #[.pointer (some ⟨lp, 0, none⟩)] W (Ret fun v w => v = .int .i64 ((j : Int) / 2) ∧ W = w) := by
  have hc := hL.pts
  have hS := St.start W
  refine calls_C Tryz.func51 rfl Tryz.ntmps51 rfl ?_
  repeat (first | (refine G_id ?_; first | refine G_nil ?_ | refine G_plain rfl rfl ?_) | (refine X_id ?_; first | refine X_yl (Yl_move rfl rfl) rfl rfl ?_ | refine X_yl (Yl_assign rfl rfl) rfl rfl ?_ | refine X_yl (Yl_nilCheck rfl rfl) rfl rfl ?_ | refine X_yl (Yl_fieldAddr0 rfl rfl rfl) rfl rfl ?_ | refine X_yl (Yl_quoE rfl rfl rfl (by omega) (by omega) (by omega)) rfl rfl ?_ | refine X_yl (Yl_eqlNil_some rfl rfl rfl) rfl rfl ?_ | refine X_yl (Yl_load rfl rfl (cell_at (by assumption))) rfl rfl ?_) | (refine C_id ?_; first | refine C_seq ?_ | refine C_region ?_ | refine C_ret ?_ | refine C_skip ?_ | refine C_cond_f rfl ?_) | (refine E_id ?_; first | refine E_code ?_ | refine E_ret1 rfl (Rv_tmp rfl) (Ret.mk ?_)))
  exact ⟨rfl, rfl⟩
theorem wdone_ (hL : Rd W (logAt lp p o s m j done rd)) :
    Calls Tryz.prog 11 #[.pointer (some ⟨lp, 0, none⟩)] W (Ret fun v w => v = .int .i64 done ∧ W = w) := by
  have hc := hL.pts
  have hS := St.start W
  refine calls_C Tryz.func11 rfl Tryz.ntmps11 rfl ?_
  repeat (first | (refine G_id ?_; first | refine G_nil ?_ | refine G_plain rfl rfl ?_) | (refine X_id ?_; first | refine X_yl (Yl_move rfl rfl) rfl rfl ?_ | refine X_yl (Yl_assign rfl rfl) rfl rfl ?_ | refine X_yl (Yl_nilCheck rfl rfl) rfl rfl ?_ | refine X_yl (Yl_fieldAddr0 rfl rfl rfl) rfl rfl ?_ | refine X_yl (Yl_eqlNil_some rfl rfl rfl) rfl rfl ?_ | refine X_yl (Yl_load rfl rfl (cell_at (by assumption))) rfl rfl ?_) | (refine C_id ?_; first | refine C_seq ?_ | refine C_region ?_ | refine C_ret ?_ | refine C_skip ?_ | refine C_cond_f rfl ?_) | (refine E_id ?_; first | refine E_code ?_ | refine E_ret1 rfl (Rv_tmp rfl) (Ret.mk ?_)))
  exact ⟨rfl, rfl⟩
theorem wredone_ (hL : Rd W (logAt lp p o s m j done rd)) :
    Calls Tryz.prog 12 #[.pointer (some ⟨lp, 0, none⟩)] W (Ret fun v w => v = .bool rd ∧ W = w) := by
  have hc := hL.pts
  have hS := St.start W
  refine calls_C Tryz.func12 rfl Tryz.ntmps12 rfl ?_
  repeat (first | (refine G_id ?_; first | refine G_nil ?_ | refine G_plain rfl rfl ?_ | refine G_yes rfl rfl rfl rfl ?_) | (refine X_id ?_; first | refine X_yl (Yl_move rfl rfl) rfl rfl ?_ | refine X_yl (Yl_assign rfl rfl) rfl rfl ?_ | refine X_yl (Yl_nilCheck rfl rfl) rfl rfl ?_ | refine X_yl (Yl_fieldAddr0 rfl rfl rfl) rfl rfl ?_ | refine X_yl (Yl_pick_t rfl rfl rfl) rfl rfl ?_ | refine X_yl (Yl_neqNil_some rfl rfl rfl) rfl rfl ?_ | refine X_yl (Yl_load rfl rfl (cell_at (by assumption))) rfl rfl ?_) | (refine C_id ?_; first | refine C_seq ?_ | refine C_region ?_ | refine C_ret ?_) | (refine E_id ?_; first | refine E_code ?_ | refine E_ret1 rfl (Rv_tmp rfl) (Ret.mk ?_)))
  exact ⟨rfl, rfl⟩
def hasM (n : Int) (l : List (Int × List UInt8)) : Bool := l.all fun x => decide (x.1 < n)
theorem whas_ (a : Option Addr) (c : Nat) (l : List Wr) (hL : Rd W (logAt lp p o s m j done rd)) (hD : Rd W (disk p D)) (hj : j ≤ 4096) (hW : Wrs W noF a l) (hl : l.length ≤ 1048576) :
    Calls Tryz.prog 50 #[.pointer (some ⟨lp, 0, none⟩), .slice a l.length c] W (Ret fun v w => v = .bool (hasM ((D.laid.length : Int) - 1 - j) (l.map Wr.data)) ∧ St W noF [] w) := by
  have hS := St.start W
  have hLo := hL.ro
  have hDo := hD.ro
  obtain ⟨n, hn⟩ : ∃ n, n = (D.laid.length : Int) - 1 - j := ⟨_, rfl⟩
  rw [← hn]
  refine calls_C Tryz.func50 rfl Tryz.ntmps50 rfl ?_
  repeat (first | (refine G_id ?_; first | refine G_nil ?_ | refine G_plain rfl rfl ?_) | (refine X_id ?_; first | refine X_yl (Yl_move rfl rfl) rfl rfl ?_ | refine X_yl (Yl_assign rfl rfl) rfl rfl ?_ | refine X_yl (Yl_len rfl rfl) rfl rfl ?_) | (refine C_id ?_; first | refine C_seq ?_ | refine C_region ?_ | refine C_block ?_) | (refine E_id ?_; first | refine E_code ?_))
  refine C_loop (α := Nat) (fun i => [(0, .pointer (some ⟨lp, 0, none⟩)), (7, .slice a l.length c), (8, .int .i64 (l.length : Nat)), (9, .int .i64 (i : Nat))])
    (fun i w => i ≤ l.length ∧ (∀ v ∈ l.take i, v.no < n) ∧ St W noF [] w) (fun i => l.length - i) 0 ⟨rfl, rfl, rfl, rfl, trivial⟩ ⟨Nat.zero_le _, by simp, hS⟩ ?_
  clear hS
  rintro i w ⟨hi, hok, hS⟩
  by_cases hlt : i < l.length
  · have hx0 : l[i]? = some l[i] := List.getElem?_eq_getElem hlt
    have htk := List.take_succ_eq_append_getElem hlt
    generalize l[i] = v at hx0 htk
    have hr := hW.row
    have hxs : ((l.flatMap Wr.cells).drop (i * 2)).take 2 = [.int .i64 v.no, .slice v.x.a v.x.s.length v.x.c] := wr_seg hx0
    obtain ⟨ab, ao, rfl⟩ := (hW.row.rd hS).base (by intro e; rw [e] at hxs; simp at hxs)
    by_cases hno : v.no < n
    · repeat (first | (refine G_id ?_; first | refine G_nil ?_ | refine G_plain rfl rfl ?_) | (refine X_id ?_; first | refine X_yl (Yl_lss_t rfl rfl rfl (by omega)) rfl rfl ?_ | refine X_yl (Yl_indexAddr rfl rfl rfl (by omega) (by omega) (by first | assumption | exact ⟨_, _, rfl⟩)) rfl rfl ?_ | refine X_yl (Yl_loadN rfl rfl ((hr.rd hS).cellsX (by omega) hxs rfl)) rfl rfl ?_ | refine X_store rfl rfl rfl rfl hS (fun _ hS _ => ?_) | refine X_alloc rfl rfl rfl hS (fun _ _ hS _ => ?_)) | (refine C_id ?_; first | refine C_seq ?_ | refine C_region ?_ | refine C_block ?_ | refine C_skip ?_ | refine C_cond_t rfl ?_) | (refine E_id ?_; first | refine E_code ?_))
      refine C_ord (.s 0 (.s 1 (.s 2 (.h 3 (.s 4 .nil) .no)))) mixed (by kernel_rfl) rfl ?_
      have hS := hS.drew
      repeat (first | (refine G_id ?_; first | refine G_nil ?_ | refine G_plain rfl rfl ?_) | (refine X_id ?_; first | (refine X_callq 33 rfl rfl rfl rfl rfl hS (wsectors_ lp p o s m j done rd D _ (hLo.rd hS) (hDo.rd hS) hj) ?_; rintro _ _ rfl hS) | refine X_yl (Yl_move rfl rfl) rfl rfl ?_ | refine X_yl (Yl_add rfl rfl rfl (w64 (by omega) (by omega))) rfl rfl ?_) | (refine C_id ?_; first | refine C_region ?_ | refine C_skip ?_ | refine C_cond_f rfl ?_) | (refine E_id ?_; first | refine E_code ?_ | refine E_blk_n ?_) | (refine GO_id ?_; first | refine GO_nil ?_ | refine GO_pure rfl rfl (fun _ => Yl_move rfl rfl) rfl rfl ?_ | refine GO_pure rfl rfl (fun _ => Yl_fieldAddr0 rfl rfl rfl) rfl rfl ?_ | refine GO_pure rfl rfl (fun _ => Yl_geq_f rfl rfl rfl (by omega)) rfl rfl ?_ | refine GO_read (fun w' => w'.cell? _ = some _) rfl rfl hS.cell (fun _ hc => Yl_load rfl rfl hc) rfl rfl ?_ | refine GO_hard rfl rfl ?_) | (refine Keep_id ?_; first | refine And.intro (by repeat (first | exact trivial | refine And.intro (.inl (by decide +kernel)) ?_ | refine And.intro (.inr (by first | assumption | exact hS.cell | exact cell_at (by assumption) | exact hS.cellI (by omega) | exact hS.cellIP (by omega) | exact hS.cellsN | exact ((hr.rd hS).cellX (by omega) hx) | exact ((hr2.rd hS).cellX (by omega) hx2) | exact hS.cellB (by omega) | exact hS.cellBA (by omega) | exact (hb.rd hS).cellB' (by omega) | exact (hb2.rd hS).cellB' (by omega) | exact (hg.rd hS).cellI (by omega) | exact (hg2.rd hS).cellI (by omega) | exact ((hr.rd hS).cellF (by first | omega | (dsimp only; omega)) hx) | exact ((hr2.rd hS).cellF (by first | omega | (dsimp only; omega)) hx2) | exact hS.cellIA (by omega) | exact (hg.rd hS).cellIA (by omega) | exact (hg2.rd hS).cellIA (by omega))) ?_)) ?_))
      refine E_round (i + 1) ⟨rfl, rfl, rfl, rfl, trivial⟩ ⟨by omega, ?_, hS.drops⟩ (by omega)
      rw [htk]
      intro x hx
      rcases List.mem_append.1 hx with h | h
      · exact hok x h
      · rw [List.mem_singleton.1 h]; exact hno
    · repeat (first | (refine G_id ?_; first | refine G_nil ?_ | refine G_plain rfl rfl ?_) | (refine X_id ?_; first | refine X_yl (Yl_lss_t rfl rfl rfl (by omega)) rfl rfl ?_ | refine X_yl (Yl_indexAddr rfl rfl rfl (by omega) (by omega) (by first | assumption | exact ⟨_, _, rfl⟩)) rfl rfl ?_ | refine X_yl (Yl_loadN rfl rfl ((hr.rd hS).cellsX (by omega) hxs rfl)) rfl rfl ?_ | refine X_store rfl rfl rfl rfl hS (fun _ hS _ => ?_) | refine X_alloc rfl rfl rfl hS (fun _ _ hS _ => ?_)) | (refine C_id ?_; first | refine C_seq ?_ | refine C_region ?_ | refine C_block ?_ | refine C_skip ?_ | refine C_cond_t rfl ?_) | (refine E_id ?_; first | refine E_code ?_))
      refine C_ord (.s 0 (.s 1 (.s 2 (.h 3 (.s 4 .nil) .no)))) mixed (by kernel_rfl) rfl ?_
      have hS := hS.drew
      repeat (first | (refine G_id ?_; first | refine G_nil ?_ | refine G_plain rfl rfl ?_) | (refine X_id ?_; first | (refine X_callq 33 rfl rfl rfl rfl rfl hS (wsectors_ lp p o s m j done rd D _ (hLo.rd hS) (hDo.rd hS) hj) ?_; rintro _ _ rfl hS) | refine X_yl (Yl_assign rfl rfl) rfl rfl ?_) | (refine C_id ?_; first | refine C_seq ?_ | refine C_region ?_ | refine C_ret ?_ | refine C_cond_t rfl ?_) | (refine E_id ?_; first | refine E_code ?_ | refine E_then_ret ?_ | refine E_blk_ret ?_ | refine E_ret1 rfl (Rv_tmp rfl) (Ret.mk ?_)) | (refine GO_id ?_; first | refine GO_nil ?_ | refine GO_pure rfl rfl (fun _ => Yl_move rfl rfl) rfl rfl ?_ | refine GO_pure rfl rfl (fun _ => Yl_fieldAddr0 rfl rfl rfl) rfl rfl ?_ | refine GO_pure rfl rfl (fun _ => Yl_geq_t rfl rfl rfl (by omega)) rfl rfl ?_ | refine GO_read (fun w' => w'.cell? _ = some _) rfl rfl hS.cell (fun _ hc => Yl_load rfl rfl hc) rfl rfl ?_ | refine GO_hard rfl rfl ?_) | (refine Keep_id ?_; first | refine And.intro (by repeat (first | exact trivial | refine And.intro (.inl (by decide +kernel)) ?_ | refine And.intro (.inr (by first | assumption | exact hS.cell | exact cell_at (by assumption) | exact hS.cellI (by omega) | exact hS.cellIP (by omega) | exact hS.cellsN | exact ((hr.rd hS).cellX (by omega) hx) | exact ((hr2.rd hS).cellX (by omega) hx2) | exact hS.cellB (by omega) | exact hS.cellBA (by omega) | exact (hb.rd hS).cellB' (by omega) | exact (hb2.rd hS).cellB' (by omega) | exact (hg.rd hS).cellI (by omega) | exact (hg2.rd hS).cellI (by omega) | exact ((hr.rd hS).cellF (by first | omega | (dsimp only; omega)) hx) | exact ((hr2.rd hS).cellF (by first | omega | (dsimp only; omega)) hx2) | exact hS.cellIA (by omega) | exact (hg.rd hS).cellIA (by omega) | exact (hg2.rd hS).cellIA (by omega))) ?_)) ?_))
      refine ⟨?_, hS.drops⟩
      have : hasM n (l.map Wr.data) = false := by
        unfold hasM
        rw [List.all_eq_false]
        exact ⟨v.data, List.mem_map.2 ⟨v, List.mem_of_getElem? hx0, rfl⟩, by simp [Wr.data, hno]⟩
      rw [this]
  · obtain rfl : i = l.length := by omega
    repeat (first | (refine G_id ?_; first | refine G_nil ?_ | refine G_plain rfl rfl ?_) | (refine X_id ?_; first | refine X_yl (Yl_assign rfl rfl) rfl rfl ?_ | refine X_yl (Yl_lss_f rfl rfl rfl (by omega)) rfl rfl ?_) | (refine C_id ?_; first | refine C_seq ?_ | refine C_region ?_ | refine C_ret ?_ | refine C_exit ?_ | refine C_cond_f rfl ?_) | (refine E_id ?_; first | refine E_code ?_ | refine E_then_exit ?_ | refine E_blk_same ?_ | refine E_ret1 rfl (Rv_tmp rfl) (Ret.mk ?_)))
    refine ⟨?_, hS⟩
    have : hasM n (l.map Wr.data) = true := by
      unfold hasM
      rw [List.all_eq_true]
      intro x hx
      obtain ⟨v, hv, rfl⟩ := List.mem_map.1 hx
      rw [List.take_length] at hok
      exact decide_eq_true (hok v hv)
    rw [this]
end

/-! ### steps -/
def stepW (x : Int × DiskM) (no : Int) (b : List UInt8) : Int × DiskM := if x.1 = 0 then x.2.write no b else x
def stepF (x : Int × DiskM) : Int × DiskM := if x.1 = 0 then x.2.flush else x
abbrev stepAt (sp p : Nat) (e : Int) : Res := pts sp (.cells #[.pointer (some ⟨p, 0, none⟩), .int .i64 e] 101)
theorem swrite_ (sp p : Nat) (x : Int × DiskM) (no : Int) (a : Option Addr) (n c : Nat) (b : List UInt8) (W : World) (F : Nat → Prop) (hS : St W F [stepAt sp p x.1, disk p x.2] W) (hb : Ro W F (bytes a b)) (hn : b.length = n) (hline : x.2.line.length < 1073741824) :
    Calls Tryz.prog 53 #[.pointer (some ⟨sp, 0, none⟩), .int .i64 no, .slice a n c] W (Ret fun _ w => True ∧ St W F [stepAt sp p (stepW x no b).1, disk p (stepW x no b).2] w) := by
  obtain ⟨e, D⟩ := x
  simp only at hS hline ⊢
  by_cases he : e = 0
  · subst he
    refine calls_C Tryz.func53 rfl Tryz.ntmps53 rfl ?_
    repeat (first | (refine G_id ?_; first | refine G_nil ?_ | refine G_plain rfl rfl ?_) | (refine X_id ?_; first | refine X_yl (Yl_move rfl rfl) rfl rfl ?_ | refine X_yl (Yl_nilCheck rfl rfl) rfl rfl ?_ | refine X_yl (Yl_fieldAddr0 rfl rfl rfl) rfl rfl ?_ | refine X_yl (Yl_eql_t rfl rfl rfl (by omega)) rfl rfl ?_ | refine X_yl (Yl_load rfl rfl hS.cell) rfl rfl ?_) | (refine C_id ?_; first | refine C_seq ?_ | refine C_region ?_ | refine C_cond_t rfl ?_) | (refine E_id ?_; first | refine E_code ?_))
    obtain ⟨_, hc, hr, hw, hbk⟩ := hS.call [false, true]
    refine X_callg _ rfl rfl rfl rfl rfl (write_ p D no a n c b _ _ hc (hw _ hb) hn hline) ?_
    rintro _ w ⟨rfl, hS⟩
    replace hS := hbk hS
    clear hc hr hw hbk
    repeat (first | (refine G_id ?_; first | refine G_nil ?_ | refine G_plain rfl rfl ?_) | (refine X_id ?_; first | refine X_yl (Yl_nilCheck rfl rfl) rfl rfl ?_ | refine X_yl (Yl_fieldAddr0 rfl rfl rfl) rfl rfl ?_ | refine X_store rfl rfl rfl rfl hS (fun _ hS _ => ?_)) | (refine E_id ?_; first | refine E_end0 rfl (Ret.mk ?_)))
    refine ⟨trivial, ?_⟩
    simp only [stepW, if_true]
    have hS := hS.pick [1, 0]
    exact hS
  · refine calls_C Tryz.func53 rfl Tryz.ntmps53 rfl ?_
    repeat (first | (refine G_id ?_; first | refine G_nil ?_ | refine G_plain rfl rfl ?_) | (refine X_id ?_; first | refine X_yl (Yl_move rfl rfl) rfl rfl ?_ | refine X_yl (Yl_nilCheck rfl rfl) rfl rfl ?_ | refine X_yl (Yl_fieldAddr0 rfl rfl rfl) rfl rfl ?_ | refine X_yl (Yl_eql_f rfl rfl rfl (by omega)) rfl rfl ?_ | refine X_yl (Yl_load rfl rfl hS.cell) rfl rfl ?_) | (refine C_id ?_; first | refine C_seq ?_ | refine C_region ?_ | refine C_skip ?_ | refine C_cond_f rfl ?_) | (refine E_id ?_; first | refine E_code ?_ | refine E_end0 rfl (Ret.mk ?_)))
    refine ⟨trivial, ?_⟩
    simp only [stepW, if_neg he]
    exact hS
theorem sflush_ (sp p : Nat) (x : Int × DiskM) (W : World) (F : Nat → Prop) (hS : St W F [stepAt sp p x.1, disk p x.2] W) (hline : x.2.line.length < 1073741824) :
    Calls Tryz.prog 55 #[.pointer (some ⟨sp, 0, none⟩)] W (Ret fun _ w => True ∧ St W F [stepAt sp p (stepF x).1, disk p (stepF x).2] w) := by
  obtain ⟨e, D⟩ := x
  simp only at hS hline ⊢
  by_cases he : e = 0
  · subst he
    refine calls_C Tryz.func55 rfl Tryz.ntmps55 rfl ?_
    repeat (first | (refine G_id ?_; first | refine G_nil ?_ | refine G_plain rfl rfl ?_) | (refine X_id ?_; first | refine X_yl (Yl_move rfl rfl) rfl rfl ?_ | refine X_yl (Yl_nilCheck rfl rfl) rfl rfl ?_ | refine X_yl (Yl_fieldAddr0 rfl rfl rfl) rfl rfl ?_ | refine X_yl (Yl_eql_t rfl rfl rfl (by omega)) rfl rfl ?_ | refine X_yl (Yl_load rfl rfl hS.cell) rfl rfl ?_) | (refine C_id ?_; first | refine C_seq ?_ | refine C_region ?_ | refine C_cond_t rfl ?_) | (refine E_id ?_; first | refine E_code ?_))
    obtain ⟨_, hc, hr, hw, hbk⟩ := hS.call [false, true]
    refine X_callg _ rfl rfl rfl rfl rfl (flush_ p D _ _ hc hline) ?_
    rintro _ w ⟨rfl, hS⟩
    replace hS := hbk hS
    clear hc hr hw hbk
    repeat (first | (refine G_id ?_; first | refine G_nil ?_ | refine G_plain rfl rfl ?_) | (refine X_id ?_; first | refine X_yl (Yl_nilCheck rfl rfl) rfl rfl ?_ | refine X_yl (Yl_fieldAddr0 rfl rfl rfl) rfl rfl ?_ | refine X_store rfl rfl rfl rfl hS (fun _ hS _ => ?_)) | (refine E_id ?_; first | refine E_end0 rfl (Ret.mk ?_)))
    refine ⟨trivial, ?_⟩
    simp only [stepF, if_true]
    have hS := hS.pick [1, 0]
    exact hS
  · refine calls_C Tryz.func55 rfl Tryz.ntmps55 rfl ?_
    repeat (first | (refine G_id ?_; first | refine G_nil ?_ | refine G_plain rfl rfl ?_) | (refine X_id ?_; first | refine X_yl (Yl_move rfl rfl) rfl rfl ?_ | refine X_yl (Yl_nilCheck rfl rfl) rfl rfl ?_ | refine X_yl (Yl_fieldAddr0 rfl rfl rfl) rfl rfl ?_ | refine X_yl (Yl_eql_f rfl rfl rfl (by omega)) rfl rfl ?_ | refine X_yl (Yl_load rfl rfl hS.cell) rfl rfl ?_) | (refine C_id ?_; first | refine C_seq ?_ | refine C_region ?_ | refine C_skip ?_ | refine C_cond_f rfl ?_) | (refine E_id ?_; first | refine E_code ?_ | refine E_end0 rfl (Ret.mk ?_)))
    refine ⟨trivial, ?_⟩
    simp only [stepF, if_neg he]
    exact hS
end Cr
namespace Cr
open Go Go.Proofs
set_option maxRecDepth 100000
set_option maxHeartbeats 4000000
attribute [local irreducible] Calls

theorem write_line (D : DiskM) (no : Int) (b : List UInt8) : (D.write no b).2.line.length ≤ D.line.length + 1 ∧ (D.write no b).2.laid.length = D.laid.length := by
  unfold DiskM.write
  split
  · simp
  · split
    · simp
    · split <;> simp [DiskM.used]
theorem flush_line (D : DiskM) : D.flush.2.line.length ≤ D.line.length ∧ D.flush.2.laid.length = D.laid.length := by
  unfold DiskM.flush
  split
  · simp
  · split <;> simp [DiskM.used, DiskM.flushed, layOn_length]
theorem stepW_line (x : Int × DiskM) (no : Int) (b : List UInt8) : (stepW x no b).2.line.length ≤ x.2.line.length + 1 ∧ (stepW x no b).2.laid.length = x.2.laid.length := by
  unfold stepW
  split
  · exact write_line x.2 no b
  · simp
theorem stepF_line (x : Int × DiskM) : (stepF x).2.line.length ≤ x.2.line.length ∧ (stepF x).2.laid.length = x.2.laid.length := by
  unfold stepF
  split
  · exact flush_line x.2
  · simp
/-- The data of some writes, laid behind each other. -/
def putsM (k : Int) (x : Int × DiskM) (l : List (Int × List UInt8)) : Int × DiskM := l.foldl (fun x v => stepW x (k + v.1) v.2) x
theorem putsM_snoc (k : Int) (x : Int × DiskM) {l : List (Int × List UInt8)} {i : Nat} {v : Int × List UInt8} (h : l[i]? = some v) : putsM k x (l.take (i + 1)) = stepW (putsM k x (l.take i)) (k + v.1) v.2 := by
  obtain ⟨hi, rfl⟩ := List.getElem?_eq_some_iff.1 h
  rw [List.take_succ_eq_append_getElem hi]
  unfold putsM
  rw [List.foldl_append]
  rfl
theorem putsM_line (k : Int) : ∀ (l : List (Int × List UInt8)) (x : Int × DiskM), (putsM k x l).2.line.length ≤ x.2.line.length + l.length ∧ (putsM k x l).2.laid.length = x.2.laid.length
  | [], x => by simp [putsM]
  | v :: l, x => by
    have h1 := stepW_line x (k + v.1) v.2
    have h2 := putsM_line k l (stepW x (k + v.1) v.2)
    simp only [putsM, List.foldl_cons, List.length_cons] at h2 ⊢
    exact ⟨by omega, by rw [h2.2, h1.2]⟩
def layM (rd fs : List Int) (j : Nat) (x : Int × DiskM) (number : Int) (l : List (Int × List UInt8)) : Int × DiskM := stepF (stepW (stepF (putsM (1 + j) x l)) 0 (frontB rd fs number))
theorem wlay_ (lp sp p : Nat) (o s m : Int) (j : Nat) (done : Int) (rdn : Bool) (x : Int × DiskM) (number : Int) (a : Option Addr) (c : Nat) (l : List Wr) (rd fs : List Int) (W : World) (F : Nat → Prop) (hG : Gl W F rd fs) (hW : Wrs W F a l)
    (hj : j ≤ 4096) (hl : l.length ≤ 1048576) (hno : ∀ v ∈ l, -4611686018427387904 ≤ v.no ∧ v.no ≤ 4611686018427387904) (hline : x.2.line.length + l.length + 1 < 1073741824) (hS : St W F [logAt lp p o s m j done rdn, stepAt sp p x.1, disk p x.2] W) :
    Calls Tryz.prog 41 #[.pointer (some ⟨lp, 0, none⟩), .pointer (some ⟨sp, 0, none⟩), .int .i64 number, .slice a l.length c] W (Ret fun v w => v = .int .i64 (layM rd fs j x number (l.map Wr.data)).1 ∧
      St W F [logAt lp p o s m j (if (layM rd fs j x number (l.map Wr.data)).1 = 0 then number else done) rdn, stepAt sp p (layM rd fs j x number (l.map Wr.data)).1, disk p (layM rd fs j x number (l.map Wr.data)).2] w) := by
  obtain ⟨d, hd⟩ : ∃ d, d = l.map Wr.data := ⟨_, rfl⟩
  have hdl : d.length = l.length := by rw [hd]; simp
  rw [← hd]
  refine calls_C Tryz.func41 rfl Tryz.ntmps41 rfl ?_
  repeat (first | (refine G_id ?_; first | refine G_nil ?_ | refine G_plain rfl rfl ?_) | (refine X_id ?_; first | refine X_yl (Yl_move rfl rfl) rfl rfl ?_ | refine X_yl (Yl_assign rfl rfl) rfl rfl ?_ | refine X_yl (Yl_len rfl rfl) rfl rfl ?_) | (refine C_id ?_; first | refine C_seq ?_ | refine C_region ?_ | refine C_block ?_) | (refine E_id ?_; first | refine E_code ?_))
  refine C_loop (α := Nat) (fun i => [(0, .pointer (some ⟨lp, 0, none⟩)), (1, .pointer (some ⟨sp, 0, none⟩)), (2, .int .i64 number), (11, .slice a l.length c), (12, .int .i64 (l.length : Nat)), (13, .int .i64 (i : Nat))])
    (fun i w => i ≤ l.length ∧ St W F [logAt lp p o s m j done rdn, stepAt sp p (putsM (1 + j) x (d.take i)).1, disk p (putsM (1 + j) x (d.take i)).2] w) (fun i => l.length - i) 0 ⟨rfl, rfl, rfl, rfl, rfl, rfl, trivial⟩ ⟨Nat.zero_le _, hS⟩ ?_
  clear hS
  rintro i w ⟨hi, hS⟩
  have hlt1 := putsM_line (1 + j) (d.take i) x
  rw [List.length_take] at hlt1
  by_cases hlt : i < l.length
  · have hx0 : l[i]? = some l[i] := List.getElem?_eq_getElem hlt
    generalize l[i] = v at hx0
    have hvm := List.mem_of_getElem? hx0
    have hdi : d[i]? = some (v.no, v.x.s) := by rw [hd]; simp [hx0, Wr.data]
    have hsn := putsM_snoc (1 + j) x hdi
    have hv := hno v hvm
    have hv1 := hv.1
    have hv2 := hv.2
    have hr := hW.row
    have hxs : ((l.flatMap Wr.cells).drop (i * 2)).take 2 = [.int .i64 v.no, .slice v.x.a v.x.s.length v.x.c] := wr_seg hx0
    obtain ⟨ab, ao, rfl⟩ := (hW.row.rd hS).base (by intro e; rw [e] at hxs; simp at hxs)
    obtain ⟨X, hX⟩ : ∃ X, X = putsM (1 + j) x (d.take i) := ⟨_, rfl⟩
    rw [← hX] at hS hlt1 hsn
    repeat (first | (refine G_id ?_; first | refine G_nil ?_ | refine G_plain rfl rfl ?_) | (refine X_id ?_; first | refine X_yl (Yl_lss_t rfl rfl rfl (by omega)) rfl rfl ?_ | refine X_yl (Yl_indexAddr rfl rfl rfl (by omega) (by omega) (by first | assumption | exact ⟨_, _, rfl⟩)) rfl rfl ?_ | refine X_yl (Yl_loadN rfl rfl ((hr.rd hS).cellsX (by omega) hxs rfl)) rfl rfl ?_ | refine X_store rfl rfl rfl rfl hS (fun _ hS _ => ?_) | refine X_alloc rfl rfl rfl hS (fun _ _ hS _ => ?_)) | (refine C_id ?_; first | refine C_seq ?_ | refine C_region ?_ | refine C_block ?_ | refine C_skip ?_ | refine C_cond_t rfl ?_) | (refine E_id ?_; first | refine E_code ?_))
    refine C_ord (.s 0 (.s 1 (.s 2 (.s 3 (.s 4 (.s 5 (.s 6 (.s 7 (.s 8 (.s 9 (.s 10 (.h 11 .nil .no)))))))))))) mixed (by kernel_rfl) rfl ?_
    have hS := hS.drew
    repeat (first | (refine GO_id ?_; first | refine GO_pure rfl rfl (fun _ => Yl_move rfl rfl) rfl rfl ?_ | refine GO_pure rfl rfl (fun _ => Yl_nilCheck rfl rfl) rfl rfl ?_ | refine GO_pure rfl rfl (fun _ => Yl_fieldAddr0 rfl rfl rfl) rfl rfl ?_ | refine GO_pure rfl rfl (fun _ => Yl_add rfl rfl rfl (w64 (by omega) (by omega))) rfl rfl ?_ | refine GO_read (fun w' => w'.cell? _ = some _) rfl rfl hS.cell (fun _ hc => Yl_load rfl rfl hc) rfl rfl ?_ | refine GO_hard rfl rfl ?_))
    obtain ⟨_, hc, hr, hw, hbk⟩ := hS.call [false, false, true, true]
    refine X_callg _ rfl rfl rfl rfl rfl (swrite_ sp p X _ _ _ _ v.x.s _ _ hc (hw _ (hW.all v hvm)) rfl (by omega)) ?_
    rintro _ w ⟨_, hS⟩
    replace hS := hbk hS
    clear hc hr hw hbk
    repeat (first | (refine G_id ?_; first | refine G_nil ?_ | refine G_plain rfl rfl ?_) | (refine X_id ?_; first | refine X_yl (Yl_move rfl rfl) rfl rfl ?_ | refine X_yl (Yl_add rfl rfl rfl (w64 (by omega) (by omega))) rfl rfl ?_) | (refine C_id ?_; first | refine C_region ?_) | (refine E_id ?_; first | refine E_code ?_ | refine E_blk_n ?_) | (refine GO_id ?_; first | refine GO_nil ?_) | (refine Keep_id ?_; first | refine And.intro (by repeat (first | exact trivial | refine And.intro (.inl (by decide +kernel)) ?_ | refine And.intro (.inr (by first | assumption | exact hS.cell | exact cell_at (by assumption) | exact hS.cellI (by omega) | exact hS.cellIP (by omega) | exact hS.cellsN | exact ((hr.rd hS).cellX (by omega) hx) | exact ((hr2.rd hS).cellX (by omega) hx2) | exact hS.cellB (by omega) | exact hS.cellBA (by omega) | exact (hb.rd hS).cellB' (by omega) | exact (hb2.rd hS).cellB' (by omega) | exact (hg.rd hS).cellI (by omega) | exact (hg2.rd hS).cellI (by omega) | exact ((hr.rd hS).cellF (by first | omega | (dsimp only; omega)) hx) | exact ((hr2.rd hS).cellF (by first | omega | (dsimp only; omega)) hx2) | exact hS.cellIA (by omega) | exact (hg.rd hS).cellIA (by omega) | exact (hg2.rd hS).cellIA (by omega))) ?_)) ?_))
    refine E_round (i + 1) ⟨rfl, rfl, rfl, rfl, rfl, rfl, trivial⟩ ⟨by omega, ?_⟩ (by omega)
    rw [hsn]
    have hS := hS.pick [3, 0, 0]
    exact hS
  · obtain rfl : i = l.length := by omega
    rw [List.take_of_length_le (by omega)] at hS hlt1
    obtain ⟨X, hX⟩ : ∃ X, X = putsM (1 + j) x d := ⟨_, rfl⟩
    rw [← hX] at hS hlt1
    have h2 := stepF_line X
    repeat (first | (refine G_id ?_; first | refine G_nil ?_ | refine G_plain rfl rfl ?_) | (refine X_id ?_; first | refine X_yl (Yl_move rfl rfl) rfl rfl ?_ | refine X_yl (Yl_lss_f rfl rfl rfl (by omega)) rfl rfl ?_) | (refine C_id ?_; first | refine C_seq ?_ | refine C_region ?_ | refine C_exit ?_ | refine C_cond_f rfl ?_) | (refine E_id ?_; first | refine E_code ?_ | refine E_then_exit ?_ | refine E_blk_same ?_))
    obtain ⟨_, hc, hr, hw, hbk⟩ := hS.call [false, true, true]
    refine X_callg _ rfl rfl rfl rfl rfl (sflush_ sp p X _ _ hc (by omega)) ?_
    rintro _ w ⟨_, hS⟩
    replace hS := hbk hS
    clear hc hr hw hbk
    repeat (first | (refine G_id ?_; first | refine G_nil ?_ | refine G_plain rfl rfl ?_) | (refine X_id ?_; first | refine X_yl (Yl_move rfl rfl) rfl rfl ?_) | (refine C_id ?_; first | refine C_seq ?_ | refine C_region ?_) | (refine E_id ?_; first | refine E_code ?_))
    refine X_callg _ rfl rfl rfl rfl rfl (front_ number rd fs _ (hG.mono fun r hr => (hr.rd hS).ro)) ?_
    rintro _ w ⟨r, k, rfl, hS'⟩
    replace hS := hS.plus hS'
    clear hS'
    repeat (first | (refine G_id ?_; first | refine G_plain rfl rfl ?_))
    have h3 := stepW_line (stepF X) 0 (frontB rd fs number)
    obtain ⟨_, hc, hr, hw, hbk⟩ := hS.call [false, true, true, false]
    refine X_callg _ rfl rfl rfl rfl rfl (swrite_ sp p (stepF X) 0 _ 64 k (frontB rd fs number) _ _ hc (hr _ (List.mem_cons_self ..)) (frontB_length ..) (by omega)) ?_
    rintro _ w ⟨_, hS⟩
    replace hS := hbk hS
    clear hc hr hw hbk
    repeat (first | (refine G_id ?_; first | refine G_nil ?_ | refine G_plain rfl rfl ?_) | (refine X_id ?_; first | refine X_yl (Yl_move rfl rfl) rfl rfl ?_) | (refine C_id ?_; first | refine C_seq ?_ | refine C_region ?_) | (refine E_id ?_; first | refine E_code ?_))
    obtain ⟨_, hc, hr, hw, hbk⟩ := hS.call [true, true, false, false]
    refine X_callg _ rfl rfl rfl rfl rfl (sflush_ sp p (stepW (stepF X) 0 (frontB rd fs number)) _ _ hc (by omega)) ?_
    rintro _ w ⟨_, hS⟩
    replace hS := hbk hS
    clear hc hr hw hbk
    have hlay : layM rd fs j x number d = stepF (stepW (stepF X) 0 (frontB rd fs number)) := by unfold layM; rw [← hX]
    obtain ⟨Y, hY⟩ : ∃ Y, Y = layM rd fs j x number d := ⟨_, rfl⟩
    rw [← hlay, ← hY] at hS
    rw [← hY]
    clear hlay
    obtain ⟨e, D⟩ := Y
    simp only at hS ⊢
    by_cases he : e = 0
    · subst he
      repeat (first | (refine G_id ?_; first | refine G_nil ?_ | refine G_plain rfl rfl ?_) | (refine X_id ?_; first | refine X_yl (Yl_move rfl rfl) rfl rfl ?_ | refine X_yl (Yl_assign rfl rfl) rfl rfl ?_ | refine X_yl (Yl_nilCheck rfl rfl) rfl rfl ?_ | refine X_yl (Yl_fieldAddr0 rfl rfl rfl) rfl rfl ?_ | refine X_yl (Yl_eql_t rfl rfl rfl (by omega)) rfl rfl ?_ | refine X_yl (Yl_load rfl rfl hS.cell) rfl rfl ?_ | refine X_store rfl rfl rfl rfl hS (fun _ hS _ => ?_)) | (refine C_id ?_; first | refine C_seq ?_ | refine C_region ?_ | refine C_ret ?_ | refine C_cond_t rfl ?_) | (refine E_id ?_; first | refine E_code ?_ | refine E_ret1 rfl (Rv_tmp rfl) (Ret.mk ?_)))
      refine ⟨rfl, ?_⟩
      rw [if_pos rfl]
      have hS := hS.pick [3, 0, 0]
      exact hS
    · repeat (first | (refine G_id ?_; first | refine G_nil ?_ | refine G_plain rfl rfl ?_) | (refine X_id ?_; first | refine X_yl (Yl_move rfl rfl) rfl rfl ?_ | refine X_yl (Yl_assign rfl rfl) rfl rfl ?_ | refine X_yl (Yl_nilCheck rfl rfl) rfl rfl ?_ | refine X_yl (Yl_fieldAddr0 rfl rfl rfl) rfl rfl ?_ | refine X_yl (Yl_eql_f rfl rfl rfl (by omega)) rfl rfl ?_ | refine X_yl (Yl_load rfl rfl hS.cell) rfl rfl ?_) | (refine C_id ?_; first | refine C_seq ?_ | refine C_region ?_ | refine C_ret ?_ | refine C_skip ?_ | refine C_cond_f rfl ?_) | (refine E_id ?_; first | refine E_code ?_ | refine E_ret1 rfl (Rv_tmp rfl) (Ret.mk ?_)))
      refine ⟨rfl, ?_⟩
      rw [if_neg he]
      have hS := hS.pick [3, 0, 0]
      exact hS
end Cr
namespace Cr
open Go Go.Proofs
set_option maxRecDepth 100000
set_option maxHeartbeats 4000000
attribute [local irreducible] Calls

/-- A write of the journal, as it lies. -/
structure Ent where
  no : Int
  b : List UInt8
  count : Int
  d : List UInt8
  ok : Bool
def Ent.none : Ent := ⟨0, [], 0, List.replicate 32 0, false⟩
def entOf (a b : List UInt8) (number at_ top : Int) : Ent :=
  ⟨smallN ((a.drop 16).take 4), b, smallN ((a.drop 12).take 4), (a.drop 20).take 32, decide (a = noteB number at_ (smallN ((a.drop 12).take 4)) (smallN ((a.drop 16).take 4)) ((a.drop 20).take 32)) && decide (smallN ((a.drop 16).take 4) < top)⟩
def entM (D : DiskM) (j : Nat) (number at_ : Int) : Ent :=
  if at_ < 0 ∨ (j : Int) / 2 ≤ at_ then Ent.none else
  if ¬ (D.read (1 + 2 * at_)).1 = 0 ∨ ¬ (D.read (1 + 2 * at_ + 1)).1 = 0 then Ent.none else
  entOf (D.read (1 + 2 * at_)).2 (D.read (1 + 2 * at_ + 1)).2 number at_ ((D.laid.length : Int) - 1 - j)
theorem read_64 {D : DiskM} (hok : D.ok) {no : Int} (h : (D.read no).1 = 0) : (D.read no).2.length = 64 := by
  unfold DiskM.read at h ⊢
  by_cases h1 : D.off = true
  · simp [h1] at h
  · rw [if_neg h1] at h ⊢
    by_cases h2 : inDisk D no = false
    · simp [h2] at h
    · rw [if_neg h2]
      have h2' : 0 ≤ no ∧ no < D.laid.length := by simpa [inDisk] using h2
      simp only [DiskM.find]
      split
      · rename_i x hx
        exact (hok.line64 x (by simpa using List.mem_of_find?_eq_some hx)).1
      · rw [List.getD_eq_getElem?_getD, List.getElem?_eq_getElem (show no.toNat < D.laid.length by omega)]
        exact hok.laid64 _ (List.getElem_mem _)
def Ent.val (e : Ent) (a : Option Addr) (c : Nat) : Value := .tuple #[.agg #[.int .i64 e.no, .slice a e.b.length c], .int .i64 e.count, .agg (bv e.d).toArray, .bool e.ok]
theorem small_sub (ab ao l n c : Nat) (s : List UInt8) (w : World) (hs : Rd w (bytes (some ⟨ab, ao, none⟩) s)) (h : l + n ≤ s.length) (hn : n ≤ 1048576) (hc : s.length ≤ c) (h0 : 0 < n) :
    Calls Tryz.prog 63 #[.slice (some ⟨ab, ao + l, none⟩) n (c - l)] w (Ret fun v w' => v = .int .i64 (smallN ((s.drop l).take n)) ∧ w = w') := by
  have h1 := hs.subBytes (l := l) (h := l + n) (c := c) (by omega) (by omega)
  rw [show sub (some ⟨ab, ao, none⟩) l 1 c = some ⟨ab, ao + l, none⟩ by unfold sub; rw [if_neg (by omega)]; simp [add_lit], show l + n - l = n by omega] at h1
  have hl : ((s.drop l).take n).length = n := by simp; omega
  have := small_ (some ⟨ab, ao + l, none⟩) (c - l) ((s.drop l).take n) w h1 (by omega)
  rw [hl] at this
  exact this
theorem entry_ (lp p : Nat) (o s m : Int) (j : Nat) (done : Int) (rdn : Bool) (D : DiskM) (number at_ : Int) (W : World) (hL : Rd W (logAt lp p o s m j done rdn)) (hD : Rd W (disk p D)) (hj : j ≤ 4096) (hline : D.line.length < 1073741824) (hat : at_ ≤ 1099511627776) :
    Calls Tryz.prog 66 #[.pointer (some ⟨lp, 0, none⟩), .int .i64 number, .int .i64 at_] W (Ret fun v w => ∃ a c, v = (entM D j number at_).val a c ∧ (entM D j number at_).b.length ≤ c ∧ St W noF [bytes a (entM D j number at_).b] w) := by
  have hS := St.start W
  have hc := hL.pts
  have hLo := hL.ro
  have hDo := hD.ro
  have hok := hD.disk.1
  have hl0 : LenO (bv (List.replicate 32 0)) 32 := inferInstance
  by_cases h1 : at_ < 0
  · have e : entM D j number at_ = Ent.none := by unfold entM; rw [if_pos (.inl h1)]
    refine calls_C Tryz.func66 rfl Tryz.ntmps66 rfl ?_
    repeat (first | (refine G_id ?_; first | refine G_nil ?_ | refine G_plain rfl rfl ?_ | refine G_no rfl rfl rfl rfl rfl rfl ?_) | (refine X_id ?_; first | refine X_yl (Yl_move rfl rfl) rfl rfl ?_ | refine X_yl (Yl_assign rfl rfl) rfl rfl ?_ | refine X_yl (Yl_pick_t rfl rfl rfl) rfl rfl ?_ | refine X_yl (Yl_lss_t rfl rfl rfl (by omega)) rfl rfl ?_ | refine X_alloc rfl rfl rfl hS (fun _ _ hS _ => ?_)) | (refine C_id ?_; first | refine C_seq ?_ | refine C_region ?_ | refine C_cond_t rfl ?_) | (refine E_id ?_; first | refine E_code ?_))
    rw [bv_rep] at hS
    refine C_ord (.s 0 (.s 1 (.h 2 (.s 3 (.h 4 (.s 5 .nil) .no)) .no))) mixed (by kernel_rfl) rfl ?_
    have hS := hS.drew
    repeat (first | (refine X_id ?_; first | refine X_store rfl rfl rfl rfl hS (fun _ hS _ => ?_) | refine X_storeAll rfl rfl rfl rfl hS (fun _ hS => ?_)) | (refine C_id ?_; first | refine C_ret ?_) | (refine E_id ?_; first | refine E_code ?_ | refine E_then_ret ?_ | refine E_ret4 rfl (by first | exact Rv_tmp rfl | exact Rv_cell rfl (run_load1 hS.cell) | exact Rv_cell rfl (run_loadN hS.cellsN)) (by first | exact Rv_tmp rfl | exact Rv_cell rfl (run_load1 hS.cell) | exact Rv_cell rfl (run_loadN hS.cellsN)) (by first | exact Rv_tmp rfl | exact Rv_cell rfl (run_load1 hS.cell) | exact Rv_cell rfl (run_loadN hS.cellsN)) (by first | exact Rv_tmp rfl | exact Rv_cell rfl (run_load1 hS.cell) | exact Rv_cell rfl (run_loadN hS.cellsN)) (Ret.mk ?_)) | (refine GO_id ?_; first | refine GO_nil ?_ | refine GO_pure rfl rfl (fun _ => Yl_assign rfl rfl) rfl rfl ?_ | refine GO_read (fun w' => CellsN w' _ _ _) rfl rfl hS.cellsN (fun _ hc => Yl_loadN rfl rfl hc) rfl rfl ?_ | refine GO_hard rfl rfl ?_) | (refine Keep_id ?_; first | refine And.intro (by repeat (first | exact trivial | refine And.intro (.inl (by decide +kernel)) ?_ | refine And.intro (.inr (by first | assumption | exact hS.cell | exact cell_at (by assumption) | exact hS.cellI (by omega) | exact hS.cellIP (by omega) | exact hS.cellsN | exact ((hr.rd hS).cellX (by omega) hx) | exact ((hr2.rd hS).cellX (by omega) hx2) | exact hS.cellB (by omega) | exact hS.cellBA (by omega) | exact (hb.rd hS).cellB' (by omega) | exact (hb2.rd hS).cellB' (by omega) | exact (hg.rd hS).cellI (by omega) | exact (hg2.rd hS).cellI (by omega) | exact ((hr.rd hS).cellF (by first | omega | (dsimp only; omega)) hx) | exact ((hr2.rd hS).cellF (by first | omega | (dsimp only; omega)) hx2) | exact hS.cellIA (by omega) | exact (hg.rd hS).cellIA (by omega) | exact (hg2.rd hS).cellIA (by omega))) ?_)) ?_))
    rw [e]
    exact ⟨none, 0, rfl, Nat.le_refl _, hS.drops.row_none⟩
  by_cases h2 : (j : Int) / 2 ≤ at_
  · have e : entM D j number at_ = Ent.none := by unfold entM; rw [if_pos (.inr h2)]
    refine calls_C Tryz.func66 rfl Tryz.ntmps66 rfl ?_
    repeat (first | (refine G_id ?_; first | refine G_nil ?_ | refine G_plain rfl rfl ?_ | refine G_yes rfl rfl rfl rfl ?_) | (refine X_id ?_; first | refine X_yl (Yl_move rfl rfl) rfl rfl ?_ | refine X_yl (Yl_assign rfl rfl) rfl rfl ?_ | refine X_yl (Yl_nilCheck rfl rfl) rfl rfl ?_ | refine X_yl (Yl_fieldAddr0 rfl rfl rfl) rfl rfl ?_ | refine X_yl (Yl_lss_f rfl rfl rfl (by omega)) rfl rfl ?_ | refine X_alloc rfl rfl rfl hS (fun _ _ hS _ => ?_)) | (refine C_id ?_; first | refine C_seq ?_ | refine C_region ?_) | (refine E_id ?_; first | refine E_code ?_))
    have hc := (hLo.rd hS).pts
    repeat (first | (refine G_id ?_; first | refine G_nil ?_ | refine G_plain rfl rfl ?_ | refine G_yes rfl rfl rfl rfl ?_) | (refine X_id ?_; first | refine X_yl (Yl_pick_f rfl rfl rfl) rfl rfl ?_ | refine X_yl (Yl_geq_t rfl rfl rfl (by omega)) rfl rfl ?_ | refine X_yl (Yl_quoE rfl rfl rfl (by omega) (by omega) (by omega)) rfl rfl ?_ | refine X_yl (Yl_load rfl rfl (cell_at (by assumption))) rfl rfl ?_) | (refine C_id ?_; first | refine C_seq ?_ | refine C_cond_t rfl ?_) | (refine E_id ?_; first | refine E_code ?_))
    rw [bv_rep] at hS
    refine C_ord (.s 0 (.s 1 (.h 2 (.s 3 (.h 4 (.s 5 .nil) .no)) .no))) mixed (by kernel_rfl) rfl ?_
    have hS := hS.drew
    repeat (first | (refine X_id ?_; first | refine X_store rfl rfl rfl rfl hS (fun _ hS _ => ?_) | refine X_storeAll rfl rfl rfl rfl hS (fun _ hS => ?_)) | (refine C_id ?_; first | refine C_ret ?_) | (refine E_id ?_; first | refine E_code ?_ | refine E_then_ret ?_ | refine E_ret4 rfl (by first | exact Rv_tmp rfl | exact Rv_cell rfl (run_load1 hS.cell) | exact Rv_cell rfl (run_loadN hS.cellsN)) (by first | exact Rv_tmp rfl | exact Rv_cell rfl (run_load1 hS.cell) | exact Rv_cell rfl (run_loadN hS.cellsN)) (by first | exact Rv_tmp rfl | exact Rv_cell rfl (run_load1 hS.cell) | exact Rv_cell rfl (run_loadN hS.cellsN)) (by first | exact Rv_tmp rfl | exact Rv_cell rfl (run_load1 hS.cell) | exact Rv_cell rfl (run_loadN hS.cellsN)) (Ret.mk ?_)) | (refine GO_id ?_; first | refine GO_nil ?_ | refine GO_pure rfl rfl (fun _ => Yl_assign rfl rfl) rfl rfl ?_ | refine GO_read (fun w' => CellsN w' _ _ _) rfl rfl hS.cellsN (fun _ hc => Yl_loadN rfl rfl hc) rfl rfl ?_ | refine GO_hard rfl rfl ?_) | (refine Keep_id ?_; first | refine And.intro (by repeat (first | exact trivial | refine And.intro (.inl (by decide +kernel)) ?_ | refine And.intro (.inr (by first | assumption | exact hS.cell | exact cell_at (by assumption) | exact hS.cellI (by omega) | exact hS.cellIP (by omega) | exact hS.cellsN | exact ((hr.rd hS).cellX (by omega) hx) | exact ((hr2.rd hS).cellX (by omega) hx2) | exact hS.cellB (by omega) | exact hS.cellBA (by omega) | exact (hb.rd hS).cellB' (by omega) | exact (hb2.rd hS).cellB' (by omega) | exact (hg.rd hS).cellI (by omega) | exact (hg2.rd hS).cellI (by omega) | exact ((hr.rd hS).cellF (by first | omega | (dsimp only; omega)) hx) | exact ((hr2.rd hS).cellF (by first | omega | (dsimp only; omega)) hx2) | exact hS.cellIA (by omega) | exact (hg.rd hS).cellIA (by omega) | exact (hg2.rd hS).cellIA (by omega))) ?_)) ?_))
    rw [e]
    exact ⟨none, 0, rfl, Nat.le_refl _, hS.drops.row_none⟩
  have e : entM D j number at_ = if ¬ (D.read (1 + 2 * at_)).1 = 0 ∨ ¬ (D.read (1 + 2 * at_ + 1)).1 = 0 then Ent.none else
      entOf (D.read (1 + 2 * at_)).2 (D.read (1 + 2 * at_ + 1)).2 number at_ ((D.laid.length : Int) - 1 - j) := by unfold entM; rw [if_neg (by omega)]
  have hra := fun (h : (D.read (1 + 2 * at_)).1 = 0) => read_64 hok h
  have hrb := fun (h : (D.read (1 + 2 * at_ + 1)).1 = 0) => read_64 hok h
  refine calls_C Tryz.func66 rfl Tryz.ntmps66 rfl ?_
  repeat (first | (refine G_id ?_; first | refine G_nil ?_ | refine G_plain rfl rfl ?_ | refine G_yes rfl rfl rfl rfl ?_) | (refine X_id ?_; first | refine X_yl (Yl_move rfl rfl) rfl rfl ?_ | refine X_yl (Yl_assign rfl rfl) rfl rfl ?_ | refine X_yl (Yl_nilCheck rfl rfl) rfl rfl ?_ | refine X_yl (Yl_fieldAddr0 rfl rfl rfl) rfl rfl ?_ | refine X_yl (Yl_lss_f rfl rfl rfl (by omega)) rfl rfl ?_ | refine X_alloc rfl rfl rfl hS (fun _ _ hS _ => ?_)) | (refine C_id ?_; first | refine C_seq ?_ | refine C_region ?_) | (refine E_id ?_; first | refine E_code ?_))
  have hc := (hLo.rd hS).pts
  repeat (first | (refine G_id ?_; first | refine G_nil ?_ | refine G_plain rfl rfl ?_ | refine G_yes rfl rfl rfl rfl ?_) | (refine X_id ?_; first | refine X_yl (Yl_move rfl rfl) rfl rfl ?_ | refine X_yl (Yl_nilCheck rfl rfl) rfl rfl ?_ | refine X_yl (Yl_fieldAddr0 rfl rfl rfl) rfl rfl ?_ | refine X_yl (Yl_pick_f rfl rfl rfl) rfl rfl ?_ | refine X_yl (Yl_geq_f rfl rfl rfl (by omega)) rfl rfl ?_ | refine X_yl (Yl_add rfl rfl rfl (w64 (by omega) (by omega))) rfl rfl ?_ | refine X_yl (Yl_mul rfl rfl rfl (w64 (by omega) (by omega))) rfl rfl ?_ | refine X_yl (Yl_quoE rfl rfl rfl (by omega) (by omega) (by omega)) rfl rfl ?_ | refine X_yl (Yl_load rfl rfl (cell_at (by assumption))) rfl rfl ?_) | (refine C_id ?_; first | refine C_seq ?_ | refine C_region ?_ | refine C_skip ?_ | refine C_cond_f rfl ?_) | (refine E_id ?_; first | refine E_code ?_))
  rename_i b6 _ _ _ b8 _ _
  rw [bv_rep] at hS
  refine X_callg _ rfl rfl rfl rfl rfl (read_ p D (1 + 2 * at_) _ (hDo.rd hS) hline) ?_
  rintro _ w ⟨a, ca, rfl, hca, hS'⟩
  replace hS := hS.plus hS'
  clear hS'
  have hc := (hLo.rd hS).pts
  repeat (first | (refine G_id ?_; first | refine G_nil ?_ | refine G_plain rfl rfl ?_) | (refine X_id ?_; first | refine X_yl (Yl_move rfl rfl) rfl rfl ?_ | refine X_yl (Yl_assign rfl rfl) rfl rfl ?_ | refine X_yl (Yl_nilCheck rfl rfl) rfl rfl ?_ | refine X_yl (Yl_fieldAddr0 rfl rfl rfl) rfl rfl ?_ | refine X_yl (Yl_extract rfl rfl) rfl rfl ?_ | refine X_yl (Yl_add rfl rfl rfl (w64 (by omega) (by omega))) rfl rfl ?_ | refine X_yl (Yl_mul rfl rfl rfl (w64 (by omega) (by omega))) rfl rfl ?_ | refine X_yl (Yl_load rfl rfl (cell_at (by assumption))) rfl rfl ?_) | (refine C_id ?_; first | refine C_seq ?_ | refine C_region ?_) | (refine E_id ?_; first | refine E_code ?_))
  refine X_callg _ rfl rfl rfl rfl rfl (read_ p D (1 + 2 * at_ + 1) _ (hDo.rd hS) hline) ?_
  rintro _ w ⟨b, cb, rfl, hcb, hS'⟩
  replace hS := hS.plus hS'
  clear hS'
  generalize D.read (1 + 2 * at_) = ra at hra hca hS e ⊢
  generalize D.read (1 + 2 * at_ + 1) = rb at hrb hcb hS e ⊢
  obtain ⟨ea, la⟩ := ra
  obtain ⟨eb, lb⟩ := rb
  simp only at hra hrb hca hcb hS e ⊢
  by_cases hea : ea = 0
  · by_cases heb : eb = 0
    · subst hea heb
      have hla := hra rfl
      have hlb := hrb rfl
      rw [if_neg (by simp)] at e
      rw [e]
      clear hra hrb
      obtain ⟨ab, ao, rfl⟩ := (hS.rd (List.mem_cons_of_mem _ (List.mem_cons_self ..))).base (by intro e; have := bv_length la; rw [e] at this; simp at this; omega)
      repeat (first | (refine G_id ?_; first | refine G_nil ?_ | refine G_plain rfl rfl ?_ | refine G_yes rfl rfl rfl rfl ?_) | (refine X_id ?_; first | refine X_yl (Yl_move rfl rfl) rfl rfl ?_ | refine X_yl (Yl_assign rfl rfl) rfl rfl ?_ | refine X_yl (Yl_extract rfl rfl) rfl rfl ?_ | refine X_yl (Yl_pick_f rfl rfl rfl) rfl rfl ?_ | refine X_yl (Yl_neq_f rfl rfl rfl (by omega)) rfl rfl ?_) | (refine C_id ?_; first | refine C_seq ?_ | refine C_region ?_ | refine C_skip ?_ | refine C_cond_f rfl ?_) | (refine E_id ?_; first | refine E_code ?_))
      refine C_ord (.s 0 (.s 1 (.s 3 (.s 4 (.s 6 (.h 2 (.h 5 (.s 7 (.s 8 (.h 9 .nil .no))) .no) .no)))))) mixed (by kernel_rfl) rfl ?_
      have hS := hS.drew
      repeat (first | (refine GO_id ?_; first | refine GO_pure rfl rfl (fun _ => Yl_move rfl rfl) rfl rfl ?_))
      refine GO_pure rfl rfl (fun _ => Yl_slice (l := 12) (h := 16) rfl rfl rfl rfl (.inr ⟨_, _, rfl, by omega, by omega, by omega⟩) (.inr ⟨_, _, rfl, by omega, by omega, by omega⟩)) rfl rfl ?_
      rw [show sub (some ⟨ab, ao, none⟩) 12 1 ca = some ⟨ab, ao + 12, none⟩ by unfold sub; rw [if_neg (by omega)]; simp [add_lit]]
      repeat (first | (refine GO_id ?_; first | refine GO_pure rfl rfl (fun _ => Yl_move rfl rfl) rfl rfl ?_))
      refine GO_pure rfl rfl (fun _ => Yl_slice (l := 16) (h := 20) rfl rfl rfl rfl (.inr ⟨_, _, rfl, by omega, by omega, by omega⟩) (.inr ⟨_, _, rfl, by omega, by omega, by omega⟩)) rfl rfl ?_
      rw [show sub (some ⟨ab, ao, none⟩) 16 1 ca = some ⟨ab, ao + 16, none⟩ by unfold sub; rw [if_neg (by omega)]; simp [add_lit]]
      repeat (first | (refine GO_id ?_; first | refine GO_pure rfl rfl (fun _ => Yl_move rfl rfl) rfl rfl ?_ | refine GO_hard rfl rfl ?_))
      refine X_callg _ rfl rfl rfl rfl rfl (small_sub ab ao 12 4 ca la _ (hS.rd (List.mem_cons_of_mem _ (List.mem_cons_self ..))) (by omega) (by omega) (by omega) (by omega)) ?_
      rintro _ _ ⟨rfl, rfl⟩
      repeat (first | (refine GO_id ?_; first | refine GO_hard rfl rfl ?_) | (refine Keep_id ?_; first | refine And.intro (by repeat (first | exact trivial | refine And.intro (.inl (by decide +kernel)) ?_ | refine And.intro (.inr (by first | assumption | exact hS.cell | exact cell_at (by assumption) | exact hS.cellI (by omega) | exact hS.cellIP (by omega) | exact hS.cellsN | exact ((hr.rd hS).cellX (by omega) hx) | exact ((hr2.rd hS).cellX (by omega) hx2) | exact hS.cellB (by omega) | exact hS.cellBA (by omega) | exact (hb.rd hS).cellB' (by omega) | exact (hb2.rd hS).cellB' (by omega) | exact (hg.rd hS).cellI (by omega) | exact (hg2.rd hS).cellI (by omega) | exact ((hr.rd hS).cellF (by first | omega | (dsimp only; omega)) hx) | exact ((hr2.rd hS).cellF (by first | omega | (dsimp only; omega)) hx2) | exact hS.cellIA (by omega) | exact (hg.rd hS).cellIA (by omega) | exact (hg2.rd hS).cellIA (by omega))) ?_)) ?_))
      refine X_callg _ rfl rfl rfl rfl rfl (small_sub ab ao 16 4 ca la _ (hS.rd (List.mem_cons_of_mem _ (List.mem_cons_self ..))) (by omega) (by omega) (by omega) (by omega)) ?_
      rintro _ _ ⟨rfl, rfl⟩
      repeat (first | (refine X_id ?_; first | refine X_store rfl rfl rfl rfl hS (fun _ hS _ => ?_)) | (refine C_id ?_; first | refine C_seq ?_) | (refine E_id ?_; first | refine E_code ?_) | (refine GO_id ?_; first | refine GO_nil ?_ | refine GO_pure rfl rfl (fun _ => Yl_assign rfl rfl) rfl rfl ?_ | refine GO_pure rfl rfl (fun _ => Yl_build rfl rfl rfl) rfl rfl ?_ | refine GO_hard rfl rfl ?_) | (refine Keep_id ?_; first | refine And.intro (by repeat (first | exact trivial | refine And.intro (.inl (by decide +kernel)) ?_ | refine And.intro (.inr (by first | assumption | exact hS.cell | exact cell_at (by assumption) | exact hS.cellI (by omega) | exact hS.cellIP (by omega) | exact hS.cellsN | exact ((hr.rd hS).cellX (by omega) hx) | exact ((hr2.rd hS).cellX (by omega) hx2) | exact hS.cellB (by omega) | exact hS.cellBA (by omega) | exact (hb.rd hS).cellB' (by omega) | exact (hb2.rd hS).cellB' (by omega) | exact (hg.rd hS).cellI (by omega) | exact (hg2.rd hS).cellI (by omega) | exact ((hr.rd hS).cellF (by first | omega | (dsimp only; omega)) hx) | exact ((hr2.rd hS).cellF (by first | omega | (dsimp only; omega)) hx2) | exact hS.cellIA (by omega) | exact (hg.rd hS).cellIA (by omega) | exact (hg2.rd hS).cellIA (by omega))) ?_)) ?_))
      refine C_ord (.s 0 (.s 1 (.s 2 (.h 3 .nil .no)))) mixed (by kernel_rfl) rfl ?_
      have hS := hS.drew
      repeat (first | (refine GO_id ?_; first | refine GO_pure rfl rfl (fun _ => Yl_move rfl rfl) rfl rfl ?_ | refine GO_pure rfl rfl (fun _ => Yl_slice_arr rfl rfl) rfl rfl ?_))
      refine GO_pure rfl rfl (fun _ => Yl_slice (l := 20) (h := la.length) rfl rfl rfl rfl (.inl ⟨rfl, rfl⟩) (.inr ⟨_, _, rfl, by omega, by omega, by omega⟩)) rfl rfl ?_
      rw [show sub (some ⟨ab, ao, none⟩) 20 1 ca = some ⟨ab, ao + 20, none⟩ by unfold sub; rw [if_neg (by omega)]; simp [add_lit]]
      repeat (first | (refine GO_id ?_; first | refine GO_hard rfl rfl ?_))
      have hla2 : Rd _ (bytes (some ⟨ab, ao, none⟩) la) := hS.rd (List.mem_cons_of_mem _ (List.mem_cons_self ..))
      have hla3 := hla2.subBytes (l := 20) (h := la.length) (c := ca) (by omega) (by omega)
      rw [show sub (some ⟨ab, ao, none⟩) 20 1 ca = some ⟨ab, ao + 20, none⟩ by unfold sub; rw [if_neg (by omega)]; simp [add_lit]] at hla3
      refine X_copy rfl rfl rfl rfl rfl hS hla3 (by simp) bv_one (by simp) (fun w hS => ?_)
      clear hla2 hla3
      obtain ⟨d, hde⟩ : ∃ d, d = (la.drop 20).take 32 := ⟨_, rfl⟩
      have hd32 : d.length = 32 := by rw [hde]; simp; omega
      rw [show splice (bv (List.replicate 32 0)) 0 ((bv ((la.drop 20).take (la.length - 20))).take 32) = bv d by
        rw [← bv_take, List.take_take, show min 32 (la.length - 20) = 32 by omega, ← hde]
        exact splice_all (by simp [hd32])] at hS
      have hl32 : LenO (bv d) 32 := ⟨by simp [hd32]⟩
      repeat (first | (refine C_id ?_; first | refine C_seq ?_) | (refine E_id ?_; first | refine E_code ?_) | (refine GO_id ?_; first | refine GO_nil ?_) | (refine Keep_id ?_; first | refine And.intro (by repeat (first | exact trivial | refine And.intro (.inl (by decide +kernel)) ?_ | refine And.intro (.inr (by first | assumption | exact hS.cell | exact cell_at (by assumption) | exact hS.cellI (by omega) | exact hS.cellIP (by omega) | exact hS.cellsN | exact ((hr.rd hS).cellX (by omega) hx) | exact ((hr2.rd hS).cellX (by omega) hx2) | exact hS.cellB (by omega) | exact hS.cellBA (by omega) | exact (hb.rd hS).cellB' (by omega) | exact (hb2.rd hS).cellB' (by omega) | exact (hg.rd hS).cellI (by omega) | exact (hg2.rd hS).cellI (by omega) | exact ((hr.rd hS).cellF (by first | omega | (dsimp only; omega)) hx) | exact ((hr2.rd hS).cellF (by first | omega | (dsimp only; omega)) hx2) | exact hS.cellIA (by omega) | exact (hg.rd hS).cellIA (by omega) | exact (hg2.rd hS).cellIA (by omega))) ?_)) ?_))
      obtain ⟨no, hno⟩ : ∃ no, no = smallN ((la.drop 16).take 4) := ⟨_, rfl⟩
      obtain ⟨cnt, hcnt⟩ : ∃ cnt, cnt = smallN ((la.drop 12).take 4) := ⟨_, rfl⟩
      unfold entOf
      rw [← hno, ← hcnt, ← hde]
      rw [← hno] at hS
      refine C_ord (.s 0 (.s 1 (.s 2 (.s 3 (.s 4 (.s 5 (.s 6 (.s 7 (.s 8 (.s 9 (.h 10 (.h 11 (.s 12 (.s 13 (.s 14 (.s 15 (.h 16 (.s 17 (.s 18 (.h 19 (.s 20 (.h 21 (.s 22 .nil) .no)) .no))) .no))))) .no) .no))))))))))) mixed (by kernel_rfl) rfl ?_
      have hS := hS.drew
      repeat (first | (refine GO_id ?_; first | refine GO_pure rfl rfl (fun _ => Yl_move rfl rfl) rfl rfl ?_ | refine GO_pure rfl rfl (fun _ => Yl_fieldAddr0 rfl rfl rfl) rfl rfl ?_ | refine GO_read (fun w' => w'.cell? _ = some _) rfl rfl hS.cell (fun _ hc => Yl_load rfl rfl hc) rfl rfl ?_ | refine GO_read (fun w' => CellsN w' _ _ _) rfl rfl hS.cellsN (fun _ hc => Yl_loadN rfl rfl hc) rfl rfl ?_ | refine GO_hard rfl rfl ?_))
      refine X_callg _ rfl rfl rfl rfl rfl (note_ number at_ cnt no d hd32 _) ?_
      rintro _ w ⟨q, k, rfl, hS'⟩
      replace hS := hS.plus hS'
      clear hS'
      repeat (first | (refine GO_id ?_; first | refine GO_hard rfl rfl ?_) | (refine Keep_id ?_; first | refine And.intro (by repeat (first | exact trivial | refine And.intro (.inl (by decide +kernel)) ?_ | refine And.intro (.inr (by first | assumption | exact hS.cell | exact cell_at (by assumption) | exact hS.cellI (by omega) | exact hS.cellIP (by omega) | exact hS.cellsN | exact ((hr.rd hS).cellX (by omega) hx) | exact ((hr2.rd hS).cellX (by omega) hx2) | exact hS.cellB (by omega) | exact hS.cellBA (by omega) | exact (hb.rd hS).cellB' (by omega) | exact (hb2.rd hS).cellB' (by omega) | exact (hg.rd hS).cellI (by omega) | exact (hg2.rd hS).cellI (by omega) | exact ((hr.rd hS).cellF (by first | omega | (dsimp only; omega)) hx) | exact ((hr2.rd hS).cellF (by first | omega | (dsimp only; omega)) hx2) | exact hS.cellIA (by omega) | exact (hg.rd hS).cellIA (by omega) | exact (hg2.rd hS).cellIA (by omega))) ?_)) ?_))
      refine X_callg _ rfl rfl rfl rfl rfl (equal_ _ _ _ _ _ _ la (noteB number at_ cnt no d) _ (hS.rd (List.mem_cons_of_mem _ (List.mem_cons_of_mem _ (List.mem_cons_self ..)))) (hS.rd (List.mem_cons_self ..)) rfl (noteB_length ..)) ?_
      rintro _ _ ⟨rfl, rfl⟩
      by_cases hq : la = noteB number at_ cnt no d
      · rw [decide_eq_true hq]
        repeat (first | (refine X_id ?_; first | (refine X_callq 33 rfl rfl rfl rfl rfl hS (wsectors_ lp p o s m j done rdn D _ (hLo.rd hS) (hDo.rd hS) hj) ?_; rintro _ _ rfl hS) | refine X_store rfl rfl rfl rfl hS (fun _ hS _ => ?_) | refine X_storeAll rfl rfl rfl rfl hS (fun _ hS => ?_)) | (refine C_id ?_; first | refine C_ret ?_) | (refine E_id ?_; first | refine E_code ?_ | refine E_ret4 rfl (by first | exact Rv_tmp rfl | exact Rv_cell rfl (run_load1 hS.cell) | exact Rv_cell rfl (run_loadN hS.cellsN)) (by first | exact Rv_tmp rfl | exact Rv_cell rfl (run_load1 hS.cell) | exact Rv_cell rfl (run_loadN hS.cellsN)) (by first | exact Rv_tmp rfl | exact Rv_cell rfl (run_load1 hS.cell) | exact Rv_cell rfl (run_loadN hS.cellsN)) (by first | exact Rv_tmp rfl | exact Rv_cell rfl (run_load1 hS.cell) | exact Rv_cell rfl (run_loadN hS.cellsN)) (Ret.mk ?_)) | (refine GO_id ?_; first | refine GO_nil ?_ | refine GO_pure rfl rfl (fun _ => Yl_move rfl rfl) rfl rfl ?_ | refine GO_pure rfl rfl (fun _ => Yl_assign rfl rfl) rfl rfl ?_ | refine GO_pure rfl rfl (fun _ => Yl_pick_t rfl rfl rfl) rfl rfl ?_ | refine GO_hard rfl rfl ?_ | refine GO_yes rfl rfl rfl rfl (fun _ => Yl_move rfl rfl) rfl rfl ?_ | refine GO_yes rfl rfl rfl rfl (fun _ => Yl_fieldAddr0 rfl rfl rfl) rfl rfl ?_ | refine GO_yes rfl rfl rfl rfl (fun _ => Yl_lss rfl rfl rfl) rfl rfl ?_ | refine GO_hard_yes rfl rfl rfl rfl ?_ | refine GO_yes_read (fun w' => w'.cell? _ = some _) rfl rfl rfl rfl hS.cell (fun _ hc => Yl_load rfl rfl hc) rfl rfl ?_) | (refine Keep_id ?_; first | refine And.intro (by repeat (first | exact trivial | refine And.intro (.inl (by decide +kernel)) ?_ | refine And.intro (.inr (by first | assumption | exact hS.cell | exact cell_at (by assumption) | exact hS.cellI (by omega) | exact hS.cellIP (by omega) | exact hS.cellsN | exact ((hr.rd hS).cellX (by omega) hx) | exact ((hr2.rd hS).cellX (by omega) hx2) | exact hS.cellB (by omega) | exact hS.cellBA (by omega) | exact (hb.rd hS).cellB' (by omega) | exact (hb2.rd hS).cellB' (by omega) | exact (hg.rd hS).cellI (by omega) | exact (hg2.rd hS).cellI (by omega) | exact ((hr.rd hS).cellF (by first | omega | (dsimp only; omega)) hx) | exact ((hr2.rd hS).cellF (by first | omega | (dsimp only; omega)) hx2) | exact hS.cellIA (by omega) | exact (hg.rd hS).cellIA (by omega) | exact (hg2.rd hS).cellIA (by omega))) ?_)) ?_))
        exact ⟨b, cb, rfl, hcb, hS.pick [1]⟩
      · rw [decide_eq_false hq]
        repeat (first | (refine X_id ?_; first | refine X_store rfl rfl rfl rfl hS (fun _ hS _ => ?_) | refine X_storeAll rfl rfl rfl rfl hS (fun _ hS => ?_)) | (refine C_id ?_; first | refine C_ret ?_) | (refine E_id ?_; first | refine E_code ?_ | refine E_ret4 rfl (by first | exact Rv_tmp rfl | exact Rv_cell rfl (run_load1 hS.cell) | exact Rv_cell rfl (run_loadN hS.cellsN)) (by first | exact Rv_tmp rfl | exact Rv_cell rfl (run_load1 hS.cell) | exact Rv_cell rfl (run_loadN hS.cellsN)) (by first | exact Rv_tmp rfl | exact Rv_cell rfl (run_load1 hS.cell) | exact Rv_cell rfl (run_loadN hS.cellsN)) (by first | exact Rv_tmp rfl | exact Rv_cell rfl (run_load1 hS.cell) | exact Rv_cell rfl (run_loadN hS.cellsN)) (Ret.mk ?_)) | (refine GO_id ?_; first | refine GO_nil ?_ | refine GO_pure rfl rfl (fun _ => Yl_move rfl rfl) rfl rfl ?_ | refine GO_pure rfl rfl (fun _ => Yl_assign rfl rfl) rfl rfl ?_ | refine GO_pure rfl rfl (fun _ => Yl_pick_f rfl rfl rfl) rfl rfl ?_ | refine GO_hard rfl rfl ?_ | refine GO_hard_no rfl rfl rfl rfl rfl rfl rfl ?_ | refine GO_no rfl rfl rfl rfl rfl rfl rfl ?_) | (refine Keep_id ?_; first | refine And.intro (by repeat (first | exact trivial | refine And.intro (.inl (by decide +kernel)) ?_ | refine And.intro (.inr (by first | assumption | exact hS.cell | exact cell_at (by assumption) | exact hS.cellI (by omega) | exact hS.cellIP (by omega) | exact hS.cellsN | exact ((hr.rd hS).cellX (by omega) hx) | exact ((hr2.rd hS).cellX (by omega) hx2) | exact hS.cellB (by omega) | exact hS.cellBA (by omega) | exact (hb.rd hS).cellB' (by omega) | exact (hb2.rd hS).cellB' (by omega) | exact (hg.rd hS).cellI (by omega) | exact (hg2.rd hS).cellI (by omega) | exact ((hr.rd hS).cellF (by first | omega | (dsimp only; omega)) hx) | exact ((hr2.rd hS).cellF (by first | omega | (dsimp only; omega)) hx2) | exact hS.cellIA (by omega) | exact (hg.rd hS).cellIA (by omega) | exact (hg2.rd hS).cellIA (by omega))) ?_)) ?_))
        exact ⟨b, cb, rfl, hcb, hS.pick [1]⟩
    · rw [if_pos (.inr heb)] at e
      repeat (first | (refine G_id ?_; first | refine G_nil ?_ | refine G_plain rfl rfl ?_ | refine G_yes rfl rfl rfl rfl ?_) | (refine X_id ?_; first | refine X_yl (Yl_move rfl rfl) rfl rfl ?_ | refine X_yl (Yl_assign rfl rfl) rfl rfl ?_ | refine X_yl (Yl_extract rfl rfl) rfl rfl ?_ | refine X_yl (Yl_pick_f rfl rfl rfl) rfl rfl ?_ | refine X_yl (Yl_neq_t rfl rfl rfl (by omega)) rfl rfl ?_ | refine X_yl (Yl_neq_f rfl rfl rfl (by omega)) rfl rfl ?_) | (refine C_id ?_; first | refine C_seq ?_ | refine C_region ?_ | refine C_cond_t rfl ?_) | (refine E_id ?_; first | refine E_code ?_))
      refine C_ord (.s 0 (.s 1 (.h 2 (.s 3 (.h 4 (.s 5 .nil) .no)) .no))) mixed (by kernel_rfl) rfl ?_
      have hS := hS.drew
      repeat (first | (refine X_id ?_; first | refine X_store rfl rfl rfl rfl hS (fun _ hS _ => ?_) | refine X_storeAll rfl rfl rfl rfl hS (fun _ hS => ?_)) | (refine C_id ?_; first | refine C_ret ?_) | (refine E_id ?_; first | refine E_code ?_ | refine E_then_ret ?_ | refine E_ret4 rfl (by first | exact Rv_tmp rfl | exact Rv_cell rfl (run_load1 hS.cell) | exact Rv_cell rfl (run_loadN hS.cellsN)) (by first | exact Rv_tmp rfl | exact Rv_cell rfl (run_load1 hS.cell) | exact Rv_cell rfl (run_loadN hS.cellsN)) (by first | exact Rv_tmp rfl | exact Rv_cell rfl (run_load1 hS.cell) | exact Rv_cell rfl (run_loadN hS.cellsN)) (by first | exact Rv_tmp rfl | exact Rv_cell rfl (run_load1 hS.cell) | exact Rv_cell rfl (run_loadN hS.cellsN)) (Ret.mk ?_)) | (refine GO_id ?_; first | refine GO_nil ?_ | refine GO_pure rfl rfl (fun _ => Yl_assign rfl rfl) rfl rfl ?_ | refine GO_read (fun w' => CellsN w' _ _ _) rfl rfl hS.cellsN (fun _ hc => Yl_loadN rfl rfl hc) rfl rfl ?_ | refine GO_hard rfl rfl ?_) | (refine Keep_id ?_; first | refine And.intro (by repeat (first | exact trivial | refine And.intro (.inl (by decide +kernel)) ?_ | refine And.intro (.inr (by first | assumption | exact hS.cell | exact cell_at (by assumption) | exact hS.cellI (by omega) | exact hS.cellIP (by omega) | exact hS.cellsN | exact ((hr.rd hS).cellX (by omega) hx) | exact ((hr2.rd hS).cellX (by omega) hx2) | exact hS.cellB (by omega) | exact hS.cellBA (by omega) | exact (hb.rd hS).cellB' (by omega) | exact (hb2.rd hS).cellB' (by omega) | exact (hg.rd hS).cellI (by omega) | exact (hg2.rd hS).cellI (by omega) | exact ((hr.rd hS).cellF (by first | omega | (dsimp only; omega)) hx) | exact ((hr2.rd hS).cellF (by first | omega | (dsimp only; omega)) hx2) | exact hS.cellIA (by omega) | exact (hg.rd hS).cellIA (by omega) | exact (hg2.rd hS).cellIA (by omega))) ?_)) ?_))
      rw [e]
      exact ⟨none, 0, rfl, Nat.le_refl _, hS.drops.row_none⟩
  · rw [if_pos (.inl hea)] at e
    repeat (first | (refine G_id ?_; first | refine G_nil ?_ | refine G_plain rfl rfl ?_ | refine G_no rfl rfl rfl rfl rfl rfl ?_) | (refine X_id ?_; first | refine X_yl (Yl_move rfl rfl) rfl rfl ?_ | refine X_yl (Yl_assign rfl rfl) rfl rfl ?_ | refine X_yl (Yl_extract rfl rfl) rfl rfl ?_ | refine X_yl (Yl_pick_t rfl rfl rfl) rfl rfl ?_ | refine X_yl (Yl_neq_t rfl rfl rfl (by omega)) rfl rfl ?_) | (refine C_id ?_; first | refine C_seq ?_ | refine C_region ?_ | refine C_cond_t rfl ?_) | (refine E_id ?_; first | refine E_code ?_))
    refine C_ord (.s 0 (.s 1 (.h 2 (.s 3 (.h 4 (.s 5 .nil) .no)) .no))) mixed (by kernel_rfl) rfl ?_
    have hS := hS.drew
    repeat (first | (refine X_id ?_; first | refine X_store rfl rfl rfl rfl hS (fun _ hS _ => ?_) | refine X_storeAll rfl rfl rfl rfl hS (fun _ hS => ?_)) | (refine C_id ?_; first | refine C_ret ?_) | (refine E_id ?_; first | refine E_code ?_ | refine E_then_ret ?_ | refine E_ret4 rfl (by first | exact Rv_tmp rfl | exact Rv_cell rfl (run_load1 hS.cell) | exact Rv_cell rfl (run_loadN hS.cellsN)) (by first | exact Rv_tmp rfl | exact Rv_cell rfl (run_load1 hS.cell) | exact Rv_cell rfl (run_loadN hS.cellsN)) (by first | exact Rv_tmp rfl | exact Rv_cell rfl (run_load1 hS.cell) | exact Rv_cell rfl (run_loadN hS.cellsN)) (by first | exact Rv_tmp rfl | exact Rv_cell rfl (run_load1 hS.cell) | exact Rv_cell rfl (run_loadN hS.cellsN)) (Ret.mk ?_)) | (refine GO_id ?_; first | refine GO_nil ?_ | refine GO_pure rfl rfl (fun _ => Yl_assign rfl rfl) rfl rfl ?_ | refine GO_read (fun w' => CellsN w' _ _ _) rfl rfl hS.cellsN (fun _ hc => Yl_loadN rfl rfl hc) rfl rfl ?_ | refine GO_hard rfl rfl ?_) | (refine Keep_id ?_; first | refine And.intro (by repeat (first | exact trivial | refine And.intro (.inl (by decide +kernel)) ?_ | refine And.intro (.inr (by first | assumption | exact hS.cell | exact cell_at (by assumption) | exact hS.cellI (by omega) | exact hS.cellIP (by omega) | exact hS.cellsN | exact ((hr.rd hS).cellX (by omega) hx) | exact ((hr2.rd hS).cellX (by omega) hx2) | exact hS.cellB (by omega) | exact hS.cellBA (by omega) | exact (hb.rd hS).cellB' (by omega) | exact (hb2.rd hS).cellB' (by omega) | exact (hg.rd hS).cellI (by omega) | exact (hg2.rd hS).cellI (by omega) | exact ((hr.rd hS).cellF (by first | omega | (dsimp only; omega)) hx) | exact ((hr2.rd hS).cellF (by first | omega | (dsimp only; omega)) hx2) | exact hS.cellIA (by omega) | exact (hg.rd hS).cellIA (by omega) | exact (hg2.rd hS).cellIA (by omega))) ?_)) ?_))
    rw [e]
    exact ⟨none, 0, rfl, Nat.le_refl _, hS.drops.row_none⟩
end Cr
namespace Cr
open Go Go.Proofs
set_option maxRecDepth 100000
set_option maxHeartbeats 8000000
attribute [local irreducible] Calls

def natTo (s : List UInt8) : Nat → Nat
  | 0 => 0
  | i + 1 => natTo s i * 256 + (s.getD i 0).toNat
theorem natTo_lt (s : List UInt8) : ∀ i, natTo s i < 256 ^ i
  | 0 => by simp [natTo]
  | i + 1 => by
    have h1 := natTo_lt s i
    have h2 := UInt8.toNat_lt (s.getD i 0)
    rw [natTo, Nat.pow_succ]; omega
theorem ior_shift {m y : Nat} (hm : m < 72057594037927936) (hy : y < 256) : ior .i64 (ishl .i64 (m : Int) 8) (y : Int) = IntKind.i64.wrap ((m * 256 + y : Nat) : Int) := by
  have e0 : ishl .i64 (m : Int) 8 = IntKind.i64.wrap ((m * 256 : Nat) : Int) := by
    unfold ishl
    rw [show min 8 IntKind.i64.bits = 8 from rfl]
    congr 1
  have e1 : BitVec.ofInt 64 (IntKind.i64.wrap ((m * 256 : Nat) : Int)) = BitVec.ofNat 64 (m * 256) := by
    apply BitVec.eq_of_toInt_eq
    rw [BitVec.toInt_ofInt, BitVec.toInt_ofNat']
    rw [IntKind.wrap_i64]
    simp only [Int.bmod]
    omega
  unfold ior
  rw [show IntKind.i64.bits = 64 from rfl, e0, e1, BitVec.ofInt_natCast, BitVec.toNat_or, BitVec.toNat_ofNat, BitVec.toNat_ofNat, Nat.mod_eq_of_lt (show m * 256 < 2 ^ 64 by omega), Nat.mod_eq_of_lt (show y < 2 ^ 64 by omega)]
  congr 2
  have := Nat.two_pow_add_eq_or_of_lt (i := 8) (b := y) hy m
  rw [show 2 ^ 8 * m = m * 256 by omega] at this
  exact this.symm
theorem smallTo_nat (s : List UInt8) : ∀ i, i ≤ 7 → smallTo s i = (natTo s i : Nat)
  | 0, _ => rfl
  | i + 1, hi => by
    have ih := smallTo_nat s i (by omega)
    have h1 := natTo_lt s i
    have h2 := natTo_lt s (i + 1)
    have h3 : 256 ^ i ≤ 256 ^ 6 := Nat.pow_le_pow_right (by omega) (by omega)
    have h4 : 256 ^ (i + 1) ≤ 256 ^ 7 := Nat.pow_le_pow_right (by omega) (by omega)
    have e : natTo s i * 256 + (s.getD i 0).toNat = natTo s (i + 1) := rfl
    rw [smallTo, ih, ior_shift (by omega) (UInt8.toNat_lt _), e, wrap64 (by omega)]
theorem smallN_4 {s : List UInt8} (h : s.length = 4) : smallN s = (natTo s 4 : Nat) := by unfold smallN; rw [h]; exact smallTo_nat s 4 (by omega)
theorem smallN_8 {s : List UInt8} (h : s.length = 8) : smallN s = IntKind.i64.wrap (natTo s 8 : Nat) := by
  have h1 := natTo_lt s 7
  unfold smallN
  rw [h, smallTo, smallTo_nat s 7 (Nat.le_refl _), ior_shift (by omega) (UInt8.toNat_lt _), ← natTo]
theorem rsmall_ (a : Option Addr) (c : Nat) (s : List UInt8) (W : World) (hs : Rd W (bytes a s)) (hl : 4 ≤ s.length) :
    Calls Tryz.prog 44 #[.slice a s.length c] W (Ret fun v w => v = .int .i64 (natTo s 4 : Nat) ∧ St W noF [] w) := by
  have hS := St.start W
  obtain ⟨ab, ao, rfl⟩ := hs.base (by intro e; have := bv_length s; rw [e] at this; simp at this; omega)
  have hb := hs.ro
  have h0 := UInt8.toNat_lt (s.getD ((0 : Int).toNat * 1) 0)
  have h1 := UInt8.toNat_lt (s.getD ((1 : Int).toNat * 1) 0)
  have h2 := UInt8.toNat_lt (s.getD ((2 : Int).toNat * 1) 0)
  have h3 := UInt8.toNat_lt (s.getD ((3 : Int).toNat * 1) 0)
  refine calls_C Tryz.func44 rfl Tryz.ntmps44 rfl ?_
  repeat (first | (refine G_id ?_; first | refine G_nil ?_ | refine G_plain rfl rfl ?_) | (refine X_id ?_; first | refine X_yl (Yl_assign rfl rfl) rfl rfl ?_) | (refine C_id ?_; first | refine C_seq ?_ | refine C_region ?_) | (refine E_id ?_; first | refine E_code ?_))
  refine C_ord (.s 0 (.s 1 (.s 2 (.s 3 (.s 4 (.s 5 (.s 6 (.s 7 (.s 8 (.s 9 (.s 10 (.s 11 (.s 12 (.s 13 (.s 14 (.s 15 (.s 16 (.s 17 (.s 18 (.s 19 (.s 20 (.s 21 (.s 22 .nil))))))))))))))))))))))) mixed (by kernel_rfl) rfl ?_
  have hS := hS.drew
  repeat (first | (refine C_id ?_; first | refine C_ret ?_) | (refine E_id ?_; first | refine E_code ?_ | refine E_ret1 rfl (Rv_tmp rfl) (Ret.mk ?_)) | (refine GO_id ?_; first | refine GO_nil ?_ | refine GO_pure rfl rfl (fun _ => Yl_move rfl rfl) rfl rfl ?_ | refine GO_pure rfl rfl (fun _ => Yl_assign rfl rfl) rfl rfl ?_ | refine GO_pure rfl rfl (fun _ => Yl_indexAddr rfl rfl rfl (by omega) (by omega) (by first | assumption | exact ⟨_, _, rfl⟩)) rfl rfl ?_ | refine GO_pure rfl rfl (fun _ => Yl_add rfl rfl rfl (w64 (by omega) (by omega))) rfl rfl ?_ | refine GO_pure rfl rfl (fun _ => Yl_mul rfl rfl rfl (w64 (by omega) (by omega))) rfl rfl ?_ | refine GO_pure rfl rfl (fun _ => Yl_convInt rfl rfl (w64 (by omega) (by omega))) rfl rfl ?_ | refine GO_read (fun w' => w'.cell? _ = some _) rfl rfl ((hb.rd hS).cellB' (by omega)) (fun _ hc => Yl_load rfl rfl hc) rfl rfl ?_))
  refine ⟨?_, hS⟩
  simp only [natTo, Int.toNat_zero, Int.toNat_one, show Int.toNat 2 = 2 from rfl, show Int.toNat 3 = 3 from rfl, Nat.mul_one, Value.int.injEq, true_and]
  omega
def fillTo (b : List UInt8) (i : Nat) : List UInt8 := b.take i ++ List.replicate (64 - i) 0
theorem fillTo_length {b : List UInt8} {i : Nat} (h : i ≤ b.length) (h' : i ≤ 64) : (fillTo b i).length = 64 := by simp [fillTo]; omega
theorem fillTo_set {b : List UInt8} {i : Nat} (h : i < b.length) (h' : i < 64) : (fillTo b i).set i (b.getD i 0) = fillTo b (i + 1) := by
  unfold fillTo
  rw [List.take_succ_eq_append_getElem h, show 64 - i = (64 - (i + 1)) + 1 by omega, List.replicate_succ, List.set_append_right _ _ (by simp; omega)]
  have e : i - (b.take i).length = 0 := by simp; omega
  rw [e, List.set_cons_zero, List.append_assoc]
  simp [List.getD_eq_getElem?_getD, h]
theorem fillTo_end {b : List UInt8} {i : Nat} (h : i ≤ b.length) (h' : i ≤ 64) (h2 : i = 64 ∨ i = b.length) : fillTo b i = fullB b := by
  unfold fillTo fullB
  rw [List.take_append, List.take_replicate]
  rcases h2 with rfl | rfl
  · simp; omega
  · rw [List.take_length, List.take_of_length_le h']
    congr 2; omega
theorem rfull_ (a : Option Addr) (c : Nat) (b : List UInt8) (W : World) (hb : Rd W (bytes a b)) :
    Calls Tryz.prog 70 #[.slice a b.length c] W (Ret fun v w => ∃ p, v = .slice (some ⟨p, 0, none⟩) 64 64 ∧ St W noF [pts p (.cells (bv (fullB b)).toArray 5)] w) := by
  have hS := St.start W
  refine calls_C Tryz.func70 rfl Tryz.ntmps70 rfl ?_
  repeat (first | (refine G_id ?_; first | refine G_nil ?_ | refine G_plain rfl rfl ?_) | (refine X_id ?_; first | refine X_yl (Yl_assign rfl rfl) rfl rfl ?_) | (refine C_id ?_; first | refine C_seq ?_ | refine C_region ?_) | (refine E_id ?_; first | refine E_code ?_))
  refine X_makeB (c := 64) rfl rfl rfl (by omega) (by omega) rfl rfl hS (fun p w hS => ?_)
  repeat (first | (refine G_id ?_; first | refine G_nil ?_ | refine G_plain rfl rfl ?_) | (refine X_id ?_; first | refine X_yl (Yl_assign rfl rfl) rfl rfl ?_) | (refine C_id ?_; first | refine C_seq ?_ | refine C_region ?_ | refine C_block ?_) | (refine E_id ?_; first | refine E_code ?_))
  refine C_loop (α := Nat) (fun i => [(0, .slice a b.length c), (3, .slice (some ⟨p, 0, none⟩) 64 64), (4, .int .i64 (i : Nat))])
    (fun i w => i ≤ b.length ∧ i ≤ 64 ∧ St W noF [pts p (.cells (bv (fillTo b i)).toArray 5)] w) (fun i => 64 - i) 0 ⟨rfl, rfl, rfl, trivial⟩ ⟨Nat.zero_le _, Nat.zero_le _, hS⟩ ?_
  clear hS
  rintro i w ⟨hi, hi64, hS⟩
  have hlen := fillTo_length hi hi64
  by_cases h1 : i < b.length
  · by_cases h2 : i < 64
    · obtain ⟨ab, ao, rfl⟩ := hb.base (by intro e; have := bv_length b; rw [e] at this; simp at this; omega)
      have hbo := hb.ro
      have ei : (i : Int).toNat * 1 = i := by omega
      clear hb
      have hb := hbo
      obtain ⟨L, hL⟩ : ∃ L, L = fillTo b i := ⟨_, rfl⟩
      rw [← hL] at hS hlen
      repeat (first | (refine G_id ?_; first | refine G_nil ?_ | refine G_plain rfl rfl ?_ | refine G_yes rfl rfl rfl rfl ?_) | (refine X_id ?_; first | refine X_yl (Yl_move rfl rfl) rfl rfl ?_ | refine X_yl (Yl_assign rfl rfl) rfl rfl ?_ | refine X_yl (Yl_pick_t rfl rfl rfl) rfl rfl ?_ | refine X_yl (Yl_len rfl rfl) rfl rfl ?_ | refine X_yl (Yl_lss_t rfl rfl rfl (by omega)) rfl rfl ?_ | refine X_yl (Yl_indexAddr rfl rfl rfl (by omega) (by omega) (by first | assumption | exact ⟨_, _, rfl⟩)) rfl rfl ?_ | refine X_yl (Yl_add rfl rfl rfl (w64 (by omega) (by omega))) rfl rfl ?_ | refine X_yl (Yl_load rfl rfl ((hb.rd hS).cellB' (by omega))) rfl rfl ?_ | refine X_storeBA rfl rfl rfl rfl hS (by omega) (fun _ hS => ?_)) | (refine C_id ?_; first | refine C_seq ?_ | refine C_region ?_ | refine C_block ?_ | refine C_skip ?_ | refine C_cond_t rfl ?_) | (refine E_id ?_; first | refine E_code ?_ | refine E_blk_n ?_))
      rw [show 0 + (i : Int).toNat * 1 = i by omega, ei] at hS
      refine E_round (i + 1) ⟨rfl, rfl, rfl, trivial⟩ ⟨by omega, by omega, ?_⟩ (by omega)
      rw [← fillTo_set h1 h2, ← hL]
      exact hS
    · repeat (first | (refine G_id ?_; first | refine G_nil ?_ | refine G_plain rfl rfl ?_ | refine G_yes rfl rfl rfl rfl ?_) | (refine X_id ?_; first | refine X_yl (Yl_move rfl rfl) rfl rfl ?_ | refine X_yl (Yl_assign rfl rfl) rfl rfl ?_ | refine X_yl (Yl_pick_t rfl rfl rfl) rfl rfl ?_ | refine X_yl (Yl_len rfl rfl) rfl rfl ?_ | refine X_yl (Yl_lss_t rfl rfl rfl (by omega)) rfl rfl ?_ | refine X_yl (Yl_lss_f rfl rfl rfl (by omega)) rfl rfl ?_) | (refine C_id ?_; first | refine C_seq ?_ | refine C_region ?_ | refine C_ret ?_ | refine C_exit ?_ | refine C_cond_f rfl ?_) | (refine E_id ?_; first | refine E_code ?_ | refine E_then_exit ?_ | refine E_blk_same ?_ | refine E_ret1 rfl (Rv_tmp rfl) (Ret.mk ?_)))
      exact ⟨p, rfl, by rw [← fillTo_end hi hi64 (.inl (by omega))]; exact hS⟩
  · repeat (first | (refine G_id ?_; first | refine G_nil ?_ | refine G_plain rfl rfl ?_ | refine G_no rfl rfl rfl rfl rfl rfl ?_) | (refine X_id ?_; first | refine X_yl (Yl_move rfl rfl) rfl rfl ?_ | refine X_yl (Yl_assign rfl rfl) rfl rfl ?_ | refine X_yl (Yl_pick_f rfl rfl rfl) rfl rfl ?_ | refine X_yl (Yl_len rfl rfl) rfl rfl ?_ | refine X_yl (Yl_lss_f rfl rfl rfl (by omega)) rfl rfl ?_) | (refine C_id ?_; first | refine C_seq ?_ | refine C_region ?_ | refine C_ret ?_ | refine C_exit ?_ | refine C_cond_f rfl ?_) | (refine E_id ?_; first | refine E_code ?_ | refine E_then_exit ?_ | refine E_blk_same ?_ | refine E_ret1 rfl (Rv_tmp rfl) (Ret.mk ?_)))
    exact ⟨p, rfl, by rw [← fillTo_end hi hi64 (.inr (by omega))]; exact hS⟩

theorem sector_ (a : Option Addr) (c : Nat) (b : List UInt8) (no : Nat) (W : World) (hno : 64 * no + 64 ≤ b.length) (hc : b.length ≤ c) (hcm : c ≤ 1073741824) :
    Calls Tryz.prog 27 #[.slice a b.length c, .int .i64 (no : Nat)] W (Ret fun v w => v = .slice (sub a (64 * no) 1 c) 64 (c - 64 * no) ∧ W = w) := by
  have hS := St.start W
  refine calls_C Tryz.func27 rfl Tryz.ntmps27 rfl ?_
  repeat (first | (refine G_id ?_; first | refine G_nil ?_ | refine G_plain rfl rfl ?_) | (refine X_id ?_; first | refine X_yl (Yl_move rfl rfl) rfl rfl ?_ | refine X_yl (Yl_assign rfl rfl) rfl rfl ?_ | refine X_yl (Yl_add rfl rfl rfl (w64 (by omega) (by omega))) rfl rfl ?_ | refine X_yl (Yl_mul rfl rfl rfl (w64 (by omega) (by omega))) rfl rfl ?_) | (refine C_id ?_; first | refine C_seq ?_ | refine C_region ?_) | (refine E_id ?_; first | refine E_code ?_))
  refine X_yl (Yl_slice (l := 64 * no) (h := 64 * no + 64) rfl rfl rfl rfl (.inr ⟨_, _, rfl, by omega, by omega, by omega⟩) (.inr ⟨_, _, rfl, by omega, by omega, by omega⟩)) rfl rfl ?_
  rw [show 64 * no + 64 - 64 * no = 64 by omega]
  repeat (first | (refine G_id ?_; first | refine G_nil ?_ | refine G_plain rfl rfl ?_) | (refine X_id ?_; first | refine X_yl (Yl_assign rfl rfl) rfl rfl ?_) | (refine C_id ?_; first | refine C_ret ?_) | (refine E_id ?_; first | refine E_code ?_ | refine E_ret1 rfl (Rv_tmp rfl) (Ret.mk ?_)))
  exact ⟨rfl, rfl⟩
/-- A sector of a disk's bytes. -/
def secB (b : List UInt8) (no : Nat) : List UInt8 := (b.drop (64 * no)).take 64
theorem secB_rd {w : World} {a : Option Addr} {b : List UInt8} {c no : Nat} (h : Rd w (bytes a b)) (hno : 64 * no + 64 ≤ b.length) (hc : b.length ≤ c) : Rd w (bytes (sub a (64 * no) 1 c) (secB b no)) := by
  have := h.subBytes (l := 64 * no) (h := 64 * no + 64) (c := c) (by omega) (by omega)
  rw [show 64 * no + 64 - 64 * no = 64 by omega] at this
  exact this
theorem secB_length {b : List UInt8} {no : Nat} (h : 64 * no + 64 ≤ b.length) : (secB b no).length = 64 := by simp [secB]; omega
end Cr
namespace Cr
open Go Go.Proofs
set_option maxRecDepth 100000
set_option maxHeartbeats 8000000
attribute [local irreducible] Calls

def divTo (p : Nat) : Nat → Nat
  | 0 => 0
  | q + 1 => divTo p q + (if p % (q + 1) = 0 then 1 else 0)
def nTo : Nat → Nat
  | 0 => 0
  | m + 1 => nTo m + (if divTo (2 + m) (2 + m) = 2 then 1 else 0)
def tabTo : Nat → List Int
  | 0 => List.replicate 72 0
  | m + 1 =>
    if divTo (2 + m) (2 + m) = 2 then (if nTo m < 8 then (tabTo m).set (nTo m) (rootM ((2 + m : Nat) : Int) 2) else tabTo m).set (8 + nTo m) (rootM ((2 + m : Nat) : Int) 3) else tabTo m
theorem tabTo_length : ∀ m, (tabTo m).length = 72
  | 0 => rfl
  | m + 1 => by
    unfold tabTo
    split
    · rw [List.length_set]; split
      · rw [List.length_set]; exact tabTo_length m
      · exact tabTo_length m
    · exact tabTo_length m
theorem nTo_mono : ∀ {a b : Nat}, a ≤ b → nTo a ≤ nTo b := fun {a b} h => by
  induction h with
  | refl => exact Nat.le_refl _
  | step _ ih => exact Nat.le_trans ih (by simp only [nTo]; omega)
theorem nTo_309 : nTo 309 = 63 := by kernel_rfl
theorem nTo_310 : nTo 310 = 64 := by kernel_rfl
theorem make_ (W : World) : Calls Tryz.prog 9 #[] W (Ret fun v w => v = .agg (ints .i64 (tabTo 310)).toArray ∧ St W noF [] w) := by
  have hS := St.start W
  refine calls_C Tryz.func9 rfl Tryz.ntmps9 rfl ?_
  repeat (first | (refine G_id ?_; first | refine G_nil ?_ | refine G_plain rfl rfl ?_) | (refine X_id ?_; first | refine X_yl (Yl_assign rfl rfl) rfl rfl ?_ | refine X_alloc rfl rfl rfl hS (fun _ _ hS _ => ?_)) | (refine C_id ?_; first | refine C_seq ?_ | refine C_region ?_ | refine C_block ?_) | (refine E_id ?_; first | refine E_code ?_))
  rename_i b0 _ _ _ b1 _ _
  replace hS : St W noF [pts b1 (.cells (ints .i64 (tabTo 0)).toArray 38), pts b0 (.cells (List.replicate 72 (.int .i64 0)).toArray 38)] _ := hS
  refine C_loop (α := Nat) (fun m => [(0, .pointer (some ⟨b0, 0, none⟩)), (1, .pointer (some ⟨b1, 0, none⟩)), (2, .int .i64 (nTo m : Nat)), (3, .int .u64 ((2 + m : Nat) : Int))])
    (fun m w => m ≤ 310 ∧ St W noF [pts b1 (.cells (ints .i64 (tabTo m)).toArray 38), pts b0 (.cells (List.replicate 72 (.int .i64 0)).toArray 38)] w) (fun m => 310 - m) 0 ⟨rfl, rfl, rfl, rfl, trivial⟩ ⟨Nat.zero_le _, hS⟩ ?_
  clear hS
  rintro m w ⟨hm, hS⟩
  have htl := tabTo_length m
  by_cases h1 : m < 310
  · have hn : nTo m < 64 := by have := nTo_mono (show m ≤ 309 by omega); rw [nTo_309] at this; omega
    obtain ⟨n, hne⟩ : ∃ n, n = nTo m := ⟨_, rfl⟩
    obtain ⟨T, hT⟩ : ∃ T, T = tabTo m := ⟨_, rfl⟩
    obtain ⟨p, hp⟩ : ∃ p : Nat, p = 2 + m := ⟨_, rfl⟩
    have hs1 : nTo (m + 1) = n + (if divTo p p = 2 then 1 else 0) := by rw [nTo, ← hne, ← hp]
    have hs2 : tabTo (m + 1) = if divTo p p = 2 then (if n < 8 then T.set n (rootM (p : Int) 2) else T).set (8 + n) (rootM (p : Int) 3) else T := by rw [tabTo, ← hne, ← hp, ← hT]
    have hp1 : 2 + (m + 1) = p + 1 := by omega
    rw [← hne] at hn
    rw [← hT] at hS htl
    rw [← hne, ← hp]
    repeat (first | (refine G_id ?_; first | refine G_nil ?_ | refine G_plain rfl rfl ?_) | (refine X_id ?_; first | refine X_yl (Yl_move rfl rfl) rfl rfl ?_ | refine X_yl (Yl_assign rfl rfl) rfl rfl ?_ | refine X_yl (Yl_lss_t rfl rfl rfl (by omega)) rfl rfl ?_) | (refine C_id ?_; first | refine C_seq ?_ | refine C_region ?_ | refine C_block ?_ | refine C_skip ?_ | refine C_cond_t rfl ?_) | (refine E_id ?_; first | refine E_code ?_))
    refine C_joinB (α := Unit) (fun _ => [(0, .pointer (some ⟨b0, 0, none⟩)), (1, .pointer (some ⟨b1, 0, none⟩)), (2, .int .i64 (n : Nat)), (3, .int .u64 (p : Int)), (4, .int .i64 (divTo p p : Nat))])
      (fun _ w => St W noF [pts b1 (.cells (ints .i64 T).toArray 38), pts b0 (.cells (List.replicate 72 (.int .i64 0)).toArray 38)] w) ?_ ?_
    · refine C_loop (α := Nat) (fun q => [(0, .pointer (some ⟨b0, 0, none⟩)), (1, .pointer (some ⟨b1, 0, none⟩)), (2, .int .i64 (n : Nat)), (3, .int .u64 (p : Int)), (4, .int .i64 (divTo p q : Nat)), (5, .int .u64 ((q + 1 : Nat) : Int))])
        (fun q w => q ≤ p ∧ divTo p q ≤ q ∧ St W noF [pts b1 (.cells (ints .i64 T).toArray 38), pts b0 (.cells (List.replicate 72 (.int .i64 0)).toArray 38)] w) (fun q => p - q) 0 ⟨rfl, rfl, rfl, rfl, rfl, rfl, trivial⟩ ⟨Nat.zero_le _, Nat.le_refl _, hS⟩ ?_
      clear hS
      rintro q w ⟨hq, hd, hS⟩
      have hw : IntKind.u64.wrap (((q + 1 : Nat) : Int) + 1) = ((q + 1 + 1 : Nat) : Int) := by simp only [IntKind.wrap, IntKind.bits, IntKind.signed]; simp; omega
      by_cases h2 : q < p
      · have hmod : (p : Int) % ((q + 1 : Nat) : Int) = ((p % (q + 1) : Nat) : Int) := (Int.natCast_emod _ _).symm
        obtain ⟨r, hr⟩ : ∃ r, r = p % (q + 1) := ⟨_, rfl⟩
        by_cases h3 : r = 0
        · have e : divTo p (q + 1) = divTo p q + 1 := by rw [divTo, if_pos (by rw [← hr]; exact h3)]
          have hmod0 : (p : Int) % ((q + 1 : Nat) : Int) = 0 := by rw [hmod, ← hr, h3]; rfl
          repeat (first | (refine G_id ?_; first | refine G_nil ?_ | refine G_plain rfl rfl ?_) | (refine X_id ?_; first | refine X_yl (Yl_move rfl rfl) rfl rfl ?_ | refine X_yl (Yl_assign rfl rfl) rfl rfl ?_ | refine X_yl (Yl_eql_t rfl rfl rfl (by omega)) rfl rfl ?_ | refine X_yl (Yl_leq_t rfl rfl rfl (by omega)) rfl rfl ?_ | refine X_yl (Yl_add rfl rfl rfl (w64 (by omega) (by omega))) rfl rfl ?_ | refine X_yl (Yl_add rfl rfl rfl rfl) rfl rfl ?_ | refine X_yl (Yl_remE rfl rfl rfl (by omega) (by omega)) rfl rfl ?_) | (refine C_id ?_; first | refine C_seq ?_ | refine C_region ?_ | refine C_block ?_ | refine C_skip ?_ | refine C_cond_t rfl ?_) | (refine E_id ?_; first | refine E_code ?_ | refine E_blk_n ?_))
          refine E_round (q + 1) ⟨rfl, rfl, rfl, rfl, by rw [e]; rfl, by show some _ = some _; rw [← hw], trivial⟩ ⟨h2, by omega, hS⟩ (by omega)
        · have e : divTo p (q + 1) = divTo p q := by rw [divTo, if_neg (by rw [← hr]; exact h3)]; rfl
          have hmod0 : ¬ (p : Int) % ((q + 1 : Nat) : Int) = 0 := by rw [hmod, ← hr]; omega
          repeat (first | (refine G_id ?_; first | refine G_nil ?_ | refine G_plain rfl rfl ?_) | (refine X_id ?_; first | refine X_yl (Yl_move rfl rfl) rfl rfl ?_ | refine X_yl (Yl_assign rfl rfl) rfl rfl ?_ | refine X_yl (Yl_eql_f rfl rfl rfl (by omega)) rfl rfl ?_ | refine X_yl (Yl_leq_t rfl rfl rfl (by omega)) rfl rfl ?_ | refine X_yl (Yl_add rfl rfl rfl rfl) rfl rfl ?_ | refine X_yl (Yl_remE rfl rfl rfl (by omega) (by omega)) rfl rfl ?_) | (refine C_id ?_; first | refine C_seq ?_ | refine C_region ?_ | refine C_block ?_ | refine C_skip ?_ | refine C_cond_t rfl ?_ | refine C_cond_f rfl ?_) | (refine E_id ?_; first | refine E_code ?_ | refine E_blk_n ?_))
          refine E_round (q + 1) ⟨rfl, rfl, rfl, rfl, by rw [e]; rfl, by show some _ = some _; rw [← hw], trivial⟩ ⟨h2, by omega, hS⟩ (by omega)
      · obtain rfl : q = p := by omega
        repeat (first | (refine G_id ?_; first | refine G_nil ?_ | refine G_plain rfl rfl ?_) | (refine X_id ?_; first | refine X_yl (Yl_move rfl rfl) rfl rfl ?_ | refine X_yl (Yl_leq_f rfl rfl rfl (by omega)) rfl rfl ?_) | (refine C_id ?_; first | refine C_seq ?_ | refine C_region ?_ | refine C_exit ?_ | refine C_cond_f rfl ?_) | (refine E_id ?_; first | refine E_code ?_ | refine E_then_exit ?_ | refine E_blk_same ?_))
        exact E_mid () ⟨rfl, rfl, rfl, rfl, rfl, trivial⟩ hS
    · clear hS
      rintro _ w hS
      have hw : IntKind.u64.wrap ((p : Int) + 1) = ((2 + (m + 1) : Nat) : Int) := by simp only [IntKind.wrap, IntKind.bits, IntKind.signed]; simp; omega
      obtain ⟨dv, hdv⟩ : ∃ dv, dv = divTo p p := ⟨_, rfl⟩
      rw [← hdv] at hs1 hs2 ⊢
      by_cases h3 : dv = 2
      · rw [if_pos h3] at hs1 hs2
        by_cases h4 : n < 8
        · rw [if_pos h4] at hs2
          repeat (first | (refine G_id ?_; first | refine G_nil ?_ | refine G_plain rfl rfl ?_) | (refine X_id ?_; first | refine X_yl (Yl_move rfl rfl) rfl rfl ?_ | refine X_yl (Yl_neq_f rfl rfl rfl (by omega)) rfl rfl ?_ | refine X_yl (Yl_lss_t rfl rfl rfl (by omega)) rfl rfl ?_) | (refine C_id ?_; first | refine C_seq ?_ | refine C_region ?_ | refine C_skip ?_ | refine C_cond_t rfl ?_ | refine C_cond_f rfl ?_) | (refine E_id ?_; first | refine E_code ?_))
          refine X_callq _ rfl rfl rfl rfl rfl hS (root_ (p : Int) 2 _ (by omega) (by omega)) ?_
          rintro _ w rfl hS
          repeat (first | (refine G_id ?_; first | refine G_nil ?_ | refine G_plain rfl rfl ?_) | (refine X_id ?_; first | refine X_yl (Yl_move rfl rfl) rfl rfl ?_ | refine X_yl (Yl_fieldAddr0 rfl rfl rfl) rfl rfl ?_ | refine X_yl (Yl_indexAddr_arr rfl rfl rfl (by omega) (by omega)) rfl rfl ?_ | refine X_storeI rfl rfl rfl rfl hS (by omega) (fun _ hS => ?_)) | (refine C_id ?_; first | refine C_seq ?_ | refine C_region ?_) | (refine E_id ?_; first | refine E_code ?_))
          rw [show (0 : Nat) + (n : Int).toNat * 1 = n by omega] at hS
          obtain ⟨T2, hT2⟩ : ∃ T2, T2 = T.set n (rootM (p : Int) 2) := ⟨_, rfl⟩
          have htl : T2.length = 72 := by rw [hT2]; simpa using htl
          rw [← hT2] at hS hs2
          refine X_callq _ rfl rfl rfl rfl rfl hS (root_ (p : Int) 3 _ (by omega) (by omega)) ?_
          rintro _ w rfl hS
          repeat (first | (refine G_id ?_; first | refine G_nil ?_ | refine G_plain rfl rfl ?_) | (refine X_id ?_; first | refine X_yl (Yl_move rfl rfl) rfl rfl ?_ | refine X_yl (Yl_assign rfl rfl) rfl rfl ?_ | refine X_yl (Yl_fieldAddr0 rfl rfl rfl) rfl rfl ?_ | refine X_yl (Yl_indexAddr_arr rfl rfl rfl (by omega) (by omega)) rfl rfl ?_ | refine X_yl (Yl_add rfl rfl rfl (w64 (by omega) (by omega))) rfl rfl ?_ | refine X_yl (Yl_add rfl rfl rfl rfl) rfl rfl ?_ | refine X_storeI rfl rfl rfl rfl hS (by omega) (fun _ hS => ?_)) | (refine C_id ?_; first | refine C_region ?_) | (refine E_id ?_; first | refine E_code ?_ | refine E_blk_n ?_))
          rw [show (0 : Nat) + 8 + (n : Int).toNat * 1 = 8 + n by omega] at hS
          exact E_round (m + 1) ⟨rfl, rfl, by rw [hs1]; rfl, by show some _ = some _; rw [← hw], trivial⟩ ⟨h1, by rw [hs2]; exact hS⟩ (by omega)
        · rw [if_neg h4] at hs2
          repeat (first | (refine G_id ?_; first | refine G_nil ?_ | refine G_plain rfl rfl ?_) | (refine X_id ?_; first | refine X_yl (Yl_move rfl rfl) rfl rfl ?_ | refine X_yl (Yl_neq_f rfl rfl rfl (by omega)) rfl rfl ?_ | refine X_yl (Yl_lss_f rfl rfl rfl (by omega)) rfl rfl ?_) | (refine C_id ?_; first | refine C_seq ?_ | refine C_region ?_ | refine C_skip ?_ | refine C_cond_f rfl ?_) | (refine E_id ?_; first | refine E_code ?_))
          refine X_callq _ rfl rfl rfl rfl rfl hS (root_ (p : Int) 3 _ (by omega) (by omega)) ?_
          rintro _ w rfl hS
          repeat (first | (refine G_id ?_; first | refine G_nil ?_ | refine G_plain rfl rfl ?_) | (refine X_id ?_; first | refine X_yl (Yl_move rfl rfl) rfl rfl ?_ | refine X_yl (Yl_assign rfl rfl) rfl rfl ?_ | refine X_yl (Yl_fieldAddr0 rfl rfl rfl) rfl rfl ?_ | refine X_yl (Yl_indexAddr_arr rfl rfl rfl (by omega) (by omega)) rfl rfl ?_ | refine X_yl (Yl_add rfl rfl rfl (w64 (by omega) (by omega))) rfl rfl ?_ | refine X_yl (Yl_add rfl rfl rfl rfl) rfl rfl ?_ | refine X_storeI rfl rfl rfl rfl hS (by omega) (fun _ hS => ?_)) | (refine C_id ?_; first | refine C_region ?_) | (refine E_id ?_; first | refine E_code ?_ | refine E_blk_n ?_))
          rw [show (0 : Nat) + 8 + (n : Int).toNat * 1 = 8 + n by omega] at hS
          exact E_round (m + 1) ⟨rfl, rfl, by rw [hs1]; rfl, by show some _ = some _; rw [← hw], trivial⟩ ⟨h1, by rw [hs2]; exact hS⟩ (by omega)
      · rw [if_neg h3] at hs1 hs2
        repeat (first | (refine G_id ?_; first | refine G_nil ?_ | refine G_plain rfl rfl ?_) | (refine X_id ?_; first | refine X_yl (Yl_move rfl rfl) rfl rfl ?_ | refine X_yl (Yl_assign rfl rfl) rfl rfl ?_ | refine X_yl (Yl_neq_t rfl rfl rfl (by omega)) rfl rfl ?_ | refine X_yl (Yl_add rfl rfl rfl rfl) rfl rfl ?_) | (refine C_id ?_; first | refine C_seq ?_ | refine C_region ?_ | refine C_exit ?_ | refine C_cond_t rfl ?_) | (refine E_id ?_; first | refine E_code ?_ | refine E_then_exit ?_ | refine E_blk_same ?_))
        exact E_round (m + 1) ⟨rfl, rfl, by rw [hs1]; rfl, by show some _ = some _; rw [← hw], trivial⟩ ⟨h1, by rw [hs2]; exact hS⟩ (by omega)
  · obtain rfl : m = 310 := by omega
    have h64 := nTo_310
    have hl72 : LenO (ints .i64 (tabTo 310)) 72 := ⟨by rw [ints_length]; exact tabTo_length 310⟩
    repeat (first | (refine G_id ?_; first | refine G_nil ?_ | refine G_plain rfl rfl ?_) | (refine X_id ?_; first | refine X_yl (Yl_move rfl rfl) rfl rfl ?_ | refine X_yl (Yl_lss_f rfl rfl rfl (by omega)) rfl rfl ?_ | refine X_yl (Yl_loadN rfl rfl hS.cellsN) rfl rfl ?_ | refine X_store rfl rfl rfl rfl hS (fun _ hS _ => ?_)) | (refine C_id ?_; first | refine C_seq ?_ | refine C_region ?_ | refine C_ret ?_ | refine C_exit ?_ | refine C_cond_f rfl ?_) | (refine E_id ?_; first | refine E_code ?_ | refine E_then_exit ?_ | refine E_blk_same ?_ | refine E_ret1 rfl (by first | exact Rv_tmp rfl | exact Rv_cell rfl (run_load1 hS.cell) | exact Rv_cell rfl (run_loadN hS.cellsN)) (Ret.mk ?_)))
    exact ⟨rfl, hS.drops⟩
end Cr
namespace Cr
open Go
def turnI (x : Int) (n : Nat) : Int := IntKind.i64.wrap (ishr .i64 x n + ishl .i64 (x.tmod (ishl .i64 1 n)) (32 - n))
theorem ishl_one : ∀ n, n ≤ 32 → ishl .i64 1 n = 2 ^ n := by
  intro n hn
  unfold ishl
  have e : (2 : Int) ^ n = ((2 ^ n : Nat) : Int) := by push_cast; rfl
  have : 2 ^ n ≤ 2 ^ 32 := Nat.pow_le_pow_right (by omega) hn
  rw [show min n IntKind.i64.bits = n from Nat.min_eq_left (Nat.le_trans hn (by decide)), Int.one_mul, e]
  generalize 2 ^ n = m at this ⊢
  rw [IntKind.wrap_i64]; omega
abbrev iw (x : Int) : Int := IntKind.i64.wrap x
def w16 (b : List UInt8) (i : Nat) : Int :=
  iw (iw (iw (ishl .i64 (iw (b.getD (4 * i) 0).toNat) 24 + ishl .i64 (iw (b.getD (4 * i + 1) 0).toNat) 16) + ishl .i64 (iw (b.getD (4 * i + 2) 0).toNat) 8) + iw (b.getD (4 * i + 3) 0).toNat)
def sigI (x : Int) (p q r : Nat) : Int := ixor .i64 (ixor .i64 (turnI x p) (turnI x q)) (ishr .i64 x r)
def laterI (L : List Int) (i : Nat) : Int := (iw (iw (iw (L.getD (i - 16) 0 + sigI (L.getD (i - 15) 0) 7 18 3) + L.getD (i - 7) 0) + sigI (L.getD (i - 2) 0) 17 19 10)).tmod 4294967296
def wordsTo (b : List UInt8) : Nat → List Int
  | 0 => List.replicate 64 0
  | i + 1 => (wordsTo b i).set i (if i < 16 then w16 b i else laterI (wordsTo b i) i)
theorem wordsTo_length (b : List UInt8) : ∀ i, (wordsTo b i).length = 64
  | 0 => by simp [wordsTo]
  | i + 1 => by simp [wordsTo, wordsTo_length b i]
structure E8 where
  a : Int
  b : Int
  c : Int
  d : Int
  e : Int
  f : Int
  g : Int
  h : Int
def sig3I (x : Int) (p q r : Nat) : Int := ixor .i64 (ixor .i64 (turnI x p) (turnI x q)) (turnI x r)
def stepX (T X : List Int) (i : Nat) (s : E8) : Int := iw (iw (iw (iw (s.h + sig3I s.e 6 11 25) + iw (iand .i64 s.e s.f + iand .i64 (iw (4294967295 - s.e)) s.g)) + T.getD (8 + i) 0) + X.getD i 0)
def stepY (s : E8) : Int := iw (sig3I s.a 2 13 22 + ior .i64 (ior .i64 (iand .i64 s.a s.b) (iand .i64 s.a s.c)) (iand .i64 s.b s.c))
def turnStep (T X : List Int) (i : Nat) (s : E8) : E8 := ⟨(iw (stepX T X i s + stepY s)).tmod 4294967296, s.a, s.b, s.c, (iw (s.d + stepX T X i s)).tmod 4294967296, s.e, s.f, s.g⟩
def E8.list (s : E8) : List Int := [s.a, s.b, s.c, s.d, s.e, s.f, s.g, s.h]
def sumI (L H : List Int) : Nat → List Int
  | 0 => L
  | i + 1 => (sumI L H i).set i ((iw ((sumI L H i).getD i 0 + H.getD i 0)).tmod 4294967296)
theorem sumI_length (L H : List Int) : ∀ i, (sumI L H i).length = L.length
  | 0 => rfl
  | i + 1 => by simp [sumI, sumI_length L H i]
def turnTo (T X H : List Int) : Nat → E8
  | 0 => ⟨H.getD 0 0, H.getD 1 0, H.getD 2 0, H.getD 3 0, H.getD 4 0, H.getD 5 0, H.getD 6 0, H.getD 7 0⟩
  | i + 1 => turnStep T X i (turnTo T X H i)
def turnM (T H : List Int) (b : List UInt8) : List Int := sumI (turnTo T (wordsTo b 64) H 64).list H 8
end Cr
