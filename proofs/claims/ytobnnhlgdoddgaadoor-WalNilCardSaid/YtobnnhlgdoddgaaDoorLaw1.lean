/-
  The law's helpers: Same, known.
-/
import Derived.Test.YtobnnhlgdoddgaaDoorWal14
import Derived.KernelRfl
namespace Cr
open Go Go.Proofs
set_option maxRecDepth 100000
set_option maxHeartbeats 8000000
attribute [local irreducible] Calls

def kb : List UInt8 := (List.replicate 64 0).set 5 7
theorem known_open (rd fs : List Int) : openM rd fs (newDisk 6) 2 = ⟨0, newDisk 6, 0, false⟩ := by kernel_rfl
theorem known_c1 (rd fs : List Int) : commitM rd fs (newDisk 6) 2 0 [(0, kb), (1, kb)] = (6, newDisk 6, 0) := by kernel_rfl
theorem known_c2 (rd fs : List Int) : (commitM rd fs (newDisk 6) 2 0 [(2, kb)]).1 = 0 ∧ (commitM rd fs (newDisk 6) 2 0 [(2, kb)]).2.2 = 1 ∧ wreadM (commitM rd fs (newDisk 6) 2 0 [(2, kb)]).2.1 2 2 = (0, kb) ∧
    (commitM rd fs (newDisk 6) 2 0 [(2, kb)]).2.1.laid.length = 6 ∧ (commitM rd fs (newDisk 6) 2 0 [(2, kb)]).2.1.line.length = 0 := ⟨by kernel_rfl, by kernel_rfl, by kernel_rfl, by kernel_rfl, by kernel_rfl⟩

theorem same_ (a b : Option Addr) (c c' : Nat) (s t : List UInt8) (W : World) (ha : Rd W (bytes a s)) (hb : Rd W (bytes b t)) (hs : s.length ≤ 1099511627776) :
    Calls Tryd.prog 12 #[.slice a s.length c, .slice b t.length c'] W (Ret fun v w => v = .bool (decide (s = t)) ∧ St W noF [] w) := by
  have hS := St.start W
  by_cases hl : s.length = t.length
  · refine calls_C Tryd.func12 rfl Tryd.ntmps12 rfl ?_
    repeat (first | (refine G_id ?_; first | refine G_nil ?_ | refine G_plain rfl rfl ?_) | (refine X_id ?_; first | refine X_yl (Yl_move rfl rfl) rfl rfl ?_ | refine X_yl (Yl_assign rfl rfl) rfl rfl ?_ | refine X_yl (Yl_len rfl rfl) rfl rfl ?_ | refine X_yl (Yl_neq_f rfl rfl rfl (by omega)) rfl rfl ?_) | (refine C_id ?_; first | refine C_seq ?_ | refine C_region ?_ | refine C_block ?_ | refine C_skip ?_ | refine C_cond_f rfl ?_) | (refine E_id ?_; first | refine E_code ?_))
    refine C_loop (α := Nat) (fun i => [(0, .slice a s.length c), (1, .slice b t.length c'), (5, .int .i64 (i : Nat))])
      (fun i w => i ≤ s.length ∧ s.take i = t.take i ∧ St W noF [] w) (fun i => s.length - i) 0 ⟨rfl, rfl, rfl, trivial⟩ ⟨Nat.zero_le _, rfl, hS⟩ ?_
    clear hS
    rintro i w ⟨hi, htk, hS⟩
    by_cases hlt : i < s.length
    · obtain ⟨ab, ao, rfl⟩ := ha.base (by intro e; have := bv_length s; rw [e] at this; simp at this; omega)
      obtain ⟨bb, bo, rfl⟩ := hb.base (by intro e; have := bv_length t; rw [e] at this; simp at this; omega)
      have h1 := ha.ro
      have h2 := hb.ro
      clear ha hb
      have hb := h1
      have hb2 := h2
      have hlt2 : i < t.length := by omega
      have ei : (i : Int).toNat * 1 = i := by omega
      by_cases he : s.getD i 0 = t.getD i 0
      · have hq : ((s.getD ((i : Int).toNat * 1) 0).toNat : Int) = ((t.getD ((i : Int).toNat * 1) 0).toNat : Int) := by rw [ei, he]
        repeat (first | (refine G_id ?_; first | refine G_nil ?_ | refine G_plain rfl rfl ?_) | (refine X_id ?_; first | refine X_yl (Yl_move rfl rfl) rfl rfl ?_ | refine X_yl (Yl_len rfl rfl) rfl rfl ?_ | refine X_yl (Yl_lss_t rfl rfl rfl (by omega)) rfl rfl ?_) | (refine C_id ?_; first | refine C_seq ?_ | refine C_region ?_ | refine C_block ?_ | refine C_skip ?_ | refine C_cond_t rfl ?_) | (refine E_id ?_; first | refine E_code ?_))
        refine C_ord [(0, true), (1, true), (2, true), (3, true), (4, true), (5, true), (6, true), (7, true), (8, true)] mixed (by kernel_rfl) rfl ?_
        have hS := hS.drew
        repeat (first | (refine G_id ?_; first | refine G_nil ?_ | refine G_plain rfl rfl ?_) | (refine X_id ?_; first | refine X_yl (Yl_move rfl rfl) rfl rfl ?_ | refine X_yl (Yl_assign rfl rfl) rfl rfl ?_ | refine X_yl (Yl_add rfl rfl rfl (w64 (by omega) (by omega))) rfl rfl ?_) | (refine C_id ?_; first | refine C_region ?_ | refine C_skip ?_ | refine C_cond_f rfl ?_) | (refine E_id ?_; first | refine E_code ?_ | refine E_blk_n ?_) | (refine GO_id ?_; first | refine GO_nil ?_ | refine GO_pure rfl rfl (fun _ => Yl_move rfl rfl) rfl rfl ?_ | refine GO_pure rfl rfl (fun _ => Yl_neq_f rfl rfl rfl (by omega)) rfl rfl ?_ | refine GO_pure rfl rfl (fun _ => Yl_indexAddr rfl rfl rfl (by omega) (by omega) (by first | assumption | exact ⟨_, _, rfl⟩)) rfl rfl ?_ | refine GO_read (fun w' => w'.cell? _ = some _) rfl rfl ((hb.rd hS).cellB' (by omega)) (fun _ hc => Yl_load rfl rfl hc) rfl rfl ?_ | refine GO_read (fun w' => w'.cell? _ = some _) rfl rfl ((hb2.rd hS).cellB' (by omega)) (fun _ hc => Yl_load rfl rfl hc) rfl rfl ?_))
        refine E_round (i + 1) ⟨rfl, rfl, rfl, trivial⟩ ⟨by omega, ?_, hS⟩ (by omega)
        rw [List.take_succ_eq_append_getElem hlt, List.take_succ_eq_append_getElem hlt2, htk]
        rw [List.getD_eq_getElem?_getD, List.getD_eq_getElem?_getD, List.getElem?_eq_getElem hlt, List.getElem?_eq_getElem hlt2] at he
        simp only [Option.getD_some] at he
        rw [he]
      · have hq : ¬ ((s.getD ((i : Int).toNat * 1) 0).toNat : Int) = ((t.getD ((i : Int).toNat * 1) 0).toNat : Int) := by
          rw [ei]; intro h; exact he (UInt8.toNat_inj.1 (by omega))
        repeat (first | (refine G_id ?_; first | refine G_nil ?_ | refine G_plain rfl rfl ?_) | (refine X_id ?_; first | refine X_yl (Yl_move rfl rfl) rfl rfl ?_ | refine X_yl (Yl_len rfl rfl) rfl rfl ?_ | refine X_yl (Yl_lss_t rfl rfl rfl (by omega)) rfl rfl ?_) | (refine C_id ?_; first | refine C_seq ?_ | refine C_region ?_ | refine C_block ?_ | refine C_skip ?_ | refine C_cond_t rfl ?_) | (refine E_id ?_; first | refine E_code ?_))
        refine C_ord [(0, true), (1, true), (2, true), (3, true), (4, true), (5, true), (6, true), (7, true), (8, true)] mixed (by kernel_rfl) rfl ?_
        have hS := hS.drew
        repeat (first | (refine G_id ?_; first | refine G_nil ?_ | refine G_plain rfl rfl ?_) | (refine X_id ?_; first | refine X_yl (Yl_assign rfl rfl) rfl rfl ?_) | (refine C_id ?_; first | refine C_seq ?_ | refine C_region ?_ | refine C_ret ?_ | refine C_cond_t rfl ?_) | (refine E_id ?_; first | refine E_code ?_ | refine E_then_ret ?_ | refine E_blk_ret ?_ | refine E_ret1 rfl (Rv_tmp rfl) (Ret.mk ?_)) | (refine GO_id ?_; first | refine GO_nil ?_ | refine GO_pure rfl rfl (fun _ => Yl_move rfl rfl) rfl rfl ?_ | refine GO_pure rfl rfl (fun _ => Yl_neq_t rfl rfl rfl (by omega)) rfl rfl ?_ | refine GO_pure rfl rfl (fun _ => Yl_indexAddr rfl rfl rfl (by omega) (by omega) (by first | assumption | exact ⟨_, _, rfl⟩)) rfl rfl ?_ | refine GO_read (fun w' => w'.cell? _ = some _) rfl rfl ((hb.rd hS).cellB' (by omega)) (fun _ hc => Yl_load rfl rfl hc) rfl rfl ?_ | refine GO_read (fun w' => w'.cell? _ = some _) rfl rfl ((hb2.rd hS).cellB' (by omega)) (fun _ hc => Yl_load rfl rfl hc) rfl rfl ?_))
        refine ⟨?_, hS⟩
        rw [decide_eq_false (fun h => he (by rw [h]))]
    · obtain rfl : i = s.length := by omega
      repeat (first | (refine G_id ?_; first | refine G_nil ?_ | refine G_plain rfl rfl ?_) | (refine X_id ?_; first | refine X_yl (Yl_move rfl rfl) rfl rfl ?_ | refine X_yl (Yl_assign rfl rfl) rfl rfl ?_ | refine X_yl (Yl_len rfl rfl) rfl rfl ?_ | refine X_yl (Yl_lss_f rfl rfl rfl (by omega)) rfl rfl ?_) | (refine C_id ?_; first | refine C_seq ?_ | refine C_region ?_ | refine C_ret ?_ | refine C_exit ?_ | refine C_cond_f rfl ?_) | (refine E_id ?_; first | refine E_code ?_ | refine E_then_exit ?_ | refine E_blk_same ?_ | refine E_ret1 rfl (Rv_tmp rfl) (Ret.mk ?_)))
      refine ⟨?_, hS⟩
      rw [List.take_length, hl, List.take_length] at htk
      simp [htk]
  · refine calls_C Tryd.func12 rfl Tryd.ntmps12 rfl ?_
    repeat (first | (refine G_id ?_; first | refine G_nil ?_ | refine G_plain rfl rfl ?_) | (refine X_id ?_; first | refine X_yl (Yl_move rfl rfl) rfl rfl ?_ | refine X_yl (Yl_assign rfl rfl) rfl rfl ?_ | refine X_yl (Yl_len rfl rfl) rfl rfl ?_ | refine X_yl (Yl_neq_t rfl rfl rfl (by omega)) rfl rfl ?_) | (refine C_id ?_; first | refine C_seq ?_ | refine C_region ?_ | refine C_ret ?_ | refine C_cond_t rfl ?_) | (refine E_id ?_; first | refine E_code ?_ | refine E_then_ret ?_ | refine E_ret1 rfl (Rv_tmp rfl) (Ret.mk ?_)))
    exact ⟨by rw [decide_eq_false (fun h => hl (by rw [h]))], hS⟩
theorem known_ (rd fs : List Int) (W : World) (hG : Gl W noF rd fs) : Calls Tryd.prog 9 #[] W (Ret fun v w => v = .bool true ∧ St W noF [] w) := by
  have hS := St.start W
  refine calls_C Tryd.func9 rfl Tryd.ntmps9 rfl ?_
  repeat (first | (refine G_id ?_; first | refine G_nil ?_ | refine G_plain rfl rfl ?_) | (refine X_id ?_; first | refine X_yl (Yl_assign rfl rfl) rfl rfl ?_) | (refine C_id ?_; first | refine C_seq ?_ | refine C_region ?_) | (refine E_id ?_; first | refine E_code ?_))
  refine X_callg _ rfl rfl rfl rfl rfl (new_ 6 _ (by omega) (by omega)) ?_
  rintro _ w ⟨p, rfl, hS'⟩
  replace hS := hS.plus hS'
  clear hS'
  repeat (first | (refine G_id ?_; first | refine G_nil ?_ | refine G_plain rfl rfl ?_) | (refine X_id ?_; first | refine X_yl (Yl_move rfl rfl) rfl rfl ?_ | refine X_yl (Yl_assign rfl rfl) rfl rfl ?_ | refine X_yl (Yl_extract rfl rfl) rfl rfl ?_) | (refine C_id ?_; first | refine C_seq ?_ | refine C_region ?_) | (refine E_id ?_; first | refine E_code ?_))
  have hopen := open_ p (newDisk 6) 2 rd fs
  rw [known_open] at hopen
  obtain ⟨_, hc, hr, hw, hbk⟩ := hS.call [true]
  refine X_callg _ rfl rfl rfl rfl rfl (hopen _ _ (hG.mono hw) (by simp [newDisk]) hc) ?_
  rintro _ w (⟨h, _⟩ | ⟨_, lp, rfl, hS⟩)
  · exact absurd rfl h
  replace hS := hbk hS
  clear hc hr hw hbk hopen
  replace hS : St W noF [logAt lp p 1 0 0 2 0 false, disk p (newDisk 6)] w := hS
  repeat (first | (refine G_id ?_; first | refine G_nil ?_ | refine G_plain rfl rfl ?_ | refine G_yes rfl rfl rfl rfl ?_) | (refine X_id ?_; first | refine X_yl (Yl_move rfl rfl) rfl rfl ?_ | refine X_yl (Yl_assign rfl rfl) rfl rfl ?_ | refine X_yl (Yl_extract rfl rfl) rfl rfl ?_ | refine X_yl (Yl_pick_f rfl rfl rfl) rfl rfl ?_ | refine X_yl (Yl_neq_f rfl rfl rfl (by omega)) rfl rfl ?_ | refine X_yl (Yl_eqlNil_some rfl rfl rfl) rfl rfl ?_) | (refine C_id ?_; first | refine C_seq ?_ | refine C_region ?_ | refine C_skip ?_ | refine C_cond_f rfl ?_) | (refine E_id ?_; first | refine E_code ?_))
  refine X_makeB (c := 64) rfl rfl rfl (by omega) (by omega) rfl rfl hS (fun kp _ hS => ?_)
  repeat (first | (refine G_id ?_; first | refine G_nil ?_ | refine G_plain rfl rfl ?_) | (refine X_id ?_; first | refine X_yl (Yl_move rfl rfl) rfl rfl ?_ | refine X_yl (Yl_assign rfl rfl) rfl rfl ?_ | refine X_yl (Yl_indexAddr rfl rfl rfl (by omega) (by omega) (by first | assumption | exact ⟨_, _, rfl⟩)) rfl rfl ?_) | (refine C_id ?_; first | refine C_seq ?_ | refine C_region ?_) | (refine E_id ?_; first | refine E_code ?_))
  refine X_setG (b := kp) (off := 5) (l' := bv kb) rfl rfl rfl rfl hS (by simp) rfl (fun _ hS => ?_)
  repeat (first | (refine G_id ?_; first | refine G_nil ?_ | refine G_plain rfl rfl ?_) | (refine X_id ?_; first | refine X_yl (Yl_move rfl rfl) rfl rfl ?_ | refine X_yl (Yl_build rfl rfl rfl) rfl rfl ?_ | refine X_buildSlice rfl rfl rfl rfl rfl rfl rfl rfl hS (fun _ _ hS _ => ?_)) | (refine C_id ?_; first | refine C_seq ?_ | refine C_region ?_) | (refine E_id ?_; first | refine E_code ?_))
  rename_i nb w1 _
  have hS := hS.pick [2, 2, 0, 0]
  have hWr : ∀ F, (∀ r ∈ [own 48 2 (some ⟨nb, 0, none⟩) 2 [.int .i64 0, .slice (some ⟨kp, 0, none⟩) 64 64, .int .i64 1, .slice (some ⟨kp, 0, none⟩) 64 64], pts kp (.cells (bv kb).toArray 5)], Ro w1 F r) → Wrs w1 F (some ⟨nb, 0, none⟩) [⟨0, ⟨some ⟨kp, 0, none⟩, 64, kb⟩⟩, ⟨1, ⟨some ⟨kp, 0, none⟩, 64, kb⟩⟩] := fun F hr => by
    refine ⟨(hr _ (List.mem_cons_self ..)).own_row, fun v hv => ?_⟩
    have h1 : Ro w1 F (bytes (some ⟨kp, 0, none⟩) kb) := (hr _ (List.mem_cons_of_mem _ (List.mem_cons_self ..))).mono fun g hg => ⟨g, row_pts g hg, fun _ _ e => e⟩
    simp only [List.mem_cons, List.not_mem_nil, or_false] at hv
    rcases hv with rfl | rfl <;> exact h1
  obtain ⟨_, hc, hr, hw, hbk⟩ := hS.call [true, true, false, false]
  refine X_callg _ rfl rfl rfl rfl rfl (commit_ lp p 1 0 0 2 0 false (newDisk 6) _ 2 _ rd fs _ _ (hG.mono hw) (hWr _ hr) (by omega) (by omega) (by simp) (fun v hv => by
    simp only [List.mem_cons, List.not_mem_nil, or_false] at hv
    rcases hv with rfl | rfl <;> simp [kb]) (by simp [newDisk]) hc) ?_
  rintro _ w ⟨rfl, hS⟩
  replace hS := hbk hS
  clear hc hr hw hbk hWr
  have e1 : commitM rd fs (newDisk 6) 2 0 (List.map Wr.data [⟨0, ⟨some ⟨kp, 0, none⟩, 64, kb⟩⟩, ⟨1, ⟨some ⟨kp, 0, none⟩, 64, kb⟩⟩]) = (6, newDisk 6, 0) := known_c1 rd fs
  rw [e1] at hS
  rw [show (commitM rd fs (newDisk 6) 2 0 (List.map Wr.data [⟨0, ⟨some ⟨kp, 0, none⟩, 64, kb⟩⟩, ⟨1, ⟨some ⟨kp, 0, none⟩, 64, kb⟩⟩])).1 = 6 by rw [e1]]
  replace hS : St W noF [logAt lp p 1 0 0 2 0 false, disk p (newDisk 6), pts kp (.cells (bv kb).toArray 5)] w := hS.pick [0, 0, 1]
  clear e1
  repeat (first | (refine G_id ?_; first | refine G_nil ?_ | refine G_plain rfl rfl ?_) | (refine X_id ?_; first | refine X_yl (Yl_move rfl rfl) rfl rfl ?_ | refine X_yl (Yl_assign rfl rfl) rfl rfl ?_ | refine X_yl (Yl_build rfl rfl rfl) rfl rfl ?_ | refine X_buildSlice rfl rfl rfl rfl rfl rfl rfl rfl hS (fun _ _ hS _ => ?_)) | (refine C_id ?_; first | refine C_seq ?_ | refine C_region ?_) | (refine E_id ?_; first | refine E_code ?_))
  rename_i nb w1 _
  have hS := hS.pick [1, 1, 0, 0]
  have hWr : ∀ F, (∀ r ∈ [own 48 2 (some ⟨nb, 0, none⟩) 1 [.int .i64 2, .slice (some ⟨kp, 0, none⟩) 64 64], pts kp (.cells (bv kb).toArray 5)], Ro w1 F r) → Wrs w1 F (some ⟨nb, 0, none⟩) [⟨2, ⟨some ⟨kp, 0, none⟩, 64, kb⟩⟩] := fun F hr => by
    refine ⟨(hr _ (List.mem_cons_self ..)).own_row, fun v hv => ?_⟩
    have h1 : Ro w1 F (bytes (some ⟨kp, 0, none⟩) kb) := (hr _ (List.mem_cons_of_mem _ (List.mem_cons_self ..))).mono fun g hg => ⟨g, row_pts g hg, fun _ _ e => e⟩
    simp only [List.mem_cons, List.not_mem_nil, or_false] at hv
    subst hv
    exact h1
  obtain ⟨_, hc, hr, hw, hbk⟩ := hS.call [true, true, false, false]
  refine X_callg _ rfl rfl rfl rfl rfl (commit_ lp p 1 0 0 2 0 false (newDisk 6) _ 1 _ rd fs _ _ (hG.mono hw) (hWr _ hr) (by omega) (by omega) (by simp) (fun v hv => by
    simp only [List.mem_cons, List.not_mem_nil, or_false] at hv
    subst hv; simp [kb]) (by simp [newDisk]) hc) ?_
  rintro _ w ⟨rfl, hS⟩
  replace hS := hbk hS
  clear hc hr hw hbk hWr
  obtain ⟨k1, k2, k3, k4, k5⟩ := known_c2 rd fs
  rw [show List.map Wr.data [⟨2, ⟨some ⟨kp, 0, none⟩, 64, kb⟩⟩] = [(2, kb)] from rfl] at hS ⊢
  generalize commitM rd fs (newDisk 6) 2 0 [(2, kb)] = R at k1 k2 k3 k4 k5 hS ⊢
  obtain ⟨e2, D2, n2⟩ := R
  simp only at k1 k2 k3 k4 k5 hS ⊢
  subst k1 k2
  replace hS := hS.pick [0, 0, 1]
  repeat (first | (refine G_id ?_; first | refine G_nil ?_ | refine G_plain rfl rfl ?_) | (refine X_id ?_; first | refine X_yl (Yl_move rfl rfl) rfl rfl ?_ | refine X_yl (Yl_assign rfl rfl) rfl rfl ?_) | (refine C_id ?_; first | refine C_seq ?_ | refine C_region ?_) | (refine E_id ?_; first | refine E_code ?_))
  refine X_callg _ rfl rfl rfl rfl rfl (wread_ lp p 1 0 0 2 1 false D2 2 _ (hS.rd (List.mem_cons_self ..)) (hS.rd (List.mem_cons_of_mem _ (List.mem_cons_self ..))) (by omega) (by omega)) ?_
  rw [k3]
  rintro _ w ⟨ra, rc, rfl, _, hS'⟩
  replace hS := hS.plus hS'
  clear hS'
  have hsame := same_ ra (some ⟨kp, 0, none⟩) rc 64 kb kb
  rw [decide_eq_true rfl] at hsame
  repeat (first | (refine G_id ?_; first | refine G_nil ?_ | refine G_plain rfl rfl ?_ | refine G_yes rfl rfl rfl rfl ?_) | (refine X_id ?_; first | (refine X_callq 14 rfl rfl rfl rfl rfl hS (wsectors_ lp p 1 0 0 2 1 false D2 _ (hS.rd (List.mem_cons_of_mem _ (List.mem_cons_self ..))) (hS.rd (List.mem_cons_of_mem _ (List.mem_cons_of_mem _ (List.mem_cons_self ..)))) (by omega)) ?_; rintro _ _ rfl hS) | (refine X_callq 12 rfl rfl rfl rfl rfl hS (hsame _ (hS.rd (List.mem_cons_self ..)) ((hS.rd (List.mem_cons_of_mem _ (List.mem_cons_of_mem _ (List.mem_cons_of_mem _ (List.mem_cons_self ..))))).ptsB) (by simp [kb])) ?_; rintro _ _ rfl hS) | (refine X_callg 16 rfl rfl rfl rfl rfl (wdone_ lp p 1 0 0 2 1 false _ (hS.rd (List.mem_cons_of_mem _ (List.mem_cons_self ..)))) ?_; rintro _ _ ⟨rfl, rfl⟩) | refine X_yl (Yl_move rfl rfl) rfl rfl ?_ | refine X_yl (Yl_assign rfl rfl) rfl rfl ?_ | refine X_yl (Yl_extract rfl rfl) rfl rfl ?_ | refine X_yl (Yl_pick_t rfl rfl rfl) rfl rfl ?_ | refine X_yl (Yl_eql_t rfl rfl rfl (by omega)) rfl rfl ?_) | (refine C_id ?_; first | refine C_seq ?_ | refine C_region ?_ | refine C_ret ?_) | (refine E_id ?_; first | refine E_code ?_ | refine E_ret1 rfl (Rv_tmp rfl) (Ret.mk ?_)))
  exact ⟨rfl, hS.drops⟩
theorem walNil_ (no : Int) (rd fs : List Int) (W : World) (hG : Gl W noF rd fs) : Calls Tryd.prog 4 #[.int .i64 no] W (Ret fun v w => v = .bool true ∧ St W noF [] w) := by
  have hS := St.start W
  refine calls_C Tryd.func4 rfl Tryd.ntmps4 rfl ?_
  repeat (first | (refine G_id ?_; first | refine G_nil ?_ | refine G_plain rfl rfl ?_ | refine G_yes rfl rfl rfl rfl ?_) | (refine X_id ?_; first | (refine X_callq 9 rfl rfl rfl rfl rfl hS (known_ rd fs _ hG) ?_; rintro _ _ rfl hS) | (refine X_callg 11 rfl rfl rfl rfl rfl (wread_nil _ _) ?_; rintro _ _ ⟨rfl, rfl⟩) | (refine X_callg 7 rfl rfl rfl rfl rfl (open_nil _ _) ?_; rintro _ _ ⟨rfl, rfl⟩) | (refine X_callg 10 rfl rfl rfl rfl rfl (commit_nil _ _) ?_; rintro _ _ ⟨rfl, rfl⟩) | (refine X_callg 14 rfl rfl rfl rfl rfl (wsectors_nil _) ?_; rintro _ _ ⟨rfl, rfl⟩) | (refine X_callg 15 rfl rfl rfl rfl rfl (wmost_nil _) ?_; rintro _ _ ⟨rfl, rfl⟩) | (refine X_callg 16 rfl rfl rfl rfl rfl (wdone_nil _) ?_; rintro _ _ ⟨rfl, rfl⟩) | (refine X_callg 17 rfl rfl rfl rfl rfl (wredone_nil _) ?_; rintro _ _ ⟨rfl, rfl⟩) | refine X_yl (Yl_move rfl rfl) rfl rfl ?_ | refine X_yl (Yl_assign rfl rfl) rfl rfl ?_ | refine X_yl (Yl_extract rfl rfl) rfl rfl ?_ | refine X_yl (Yl_pick_t rfl rfl rfl) rfl rfl ?_ | refine X_yl (Yl_not_f rfl rfl) rfl rfl ?_ | refine X_yl (Yl_eql_t rfl rfl rfl (by omega)) rfl rfl ?_) | (refine C_id ?_; first | refine C_seq ?_ | refine C_region ?_ | refine C_ret ?_) | (refine E_id ?_; first | refine E_code ?_ | refine E_ret1 rfl (Rv_tmp rfl) (Ret.mk ?_)))
  exact ⟨rfl, hS⟩
end Cr
