/-
  The laws' helper known of layer 7: the chapter's examples.
-/
import Derived.Test.YtfcnoebnnglfkaaGreatDoorInd13
namespace Cr
open Go Go.Proofs
set_option maxRecDepth 100000
set_option maxHeartbeats 16000000
attribute [local irreducible] Calls

/-- A new disk with a log, as one resource. -/
theorem St.newLog {W : World} {F : Nat → Prop} {rs : List Res} {w : World} {lp p j k : Nat} (hj : j ≤ 1024) (hS : St W F (logAt lp p 1 0 0 j 0 false :: disk p (newDisk (1 + j + k)) :: rs) w) : St W F (qlog lp p j 0 (List.replicate k zero64) :: rs) w :=
  hS.shutQlog ⟨⟨rfl, rfl, by simp [newDisk]⟩, rfl, Int.le_refl _, Int.le_refl _, hj, fun i hi => by
    rw [List.length_replicate] at hi
    simp only [newDisk, List.getD_eq_getElem?_getD, List.getElem?_replicate]
    rw [if_pos (by omega), if_pos hi]⟩
theorem zeros_get {k i : Nat} (h : i < k) : (List.replicate k zero64).getD i [] = zero64 := by
  rw [List.getD_eq_getElem?_getD, List.getElem?_replicate, if_pos h]; rfl
theorem nil_open (rd fs : List Int) : openM rd fs (newDisk 40) 20 = ⟨0, newDisk 40, 0, false⟩ := by kernel_rfl
def knd : Nd := ⟨⟨0, 0, 0, 0⟩, List.replicate 512 0⟩
def ktb : Tb := [none, none, some knd, none]
theorem known_app : applyT (List.replicate 4 none) 14 (20 / 2) [⟨2, knd, false⟩] = (0, ktb) := by kernel_rfl
theorem known_room : roomT (List.replicate 4 none) 14 = 14 ∧ roomT ktb 14 = 6 := ⟨by kernel_rfl, by kernel_rfl⟩
theorem known7_ (rd fs : List Int) (W : World) (hG : Gl W noF rd fs) : Calls Tryz.prog 21 #[] W (Ret fun v w => v = .bool true ∧ St W noF [] w) := by
  have hS := St.start W
  refine calls_C Tryz.func21 rfl Tryz.ntmps21 rfl ?_
  repeat (first | (refine G_id ?_; first | refine G_nil ?_ | refine G_plain rfl rfl ?_) | (refine X_id ?_; first | refine X_yl (Yl_assign rfl rfl) rfl rfl ?_) | (refine C_id ?_; first | refine C_seq ?_ | refine C_region ?_) | (refine E_id ?_; first | refine E_code ?_))
  refine X_callg _ rfl rfl rfl rfl rfl (new_ 40 _ (by omega) (by omega)) ?_
  rintro _ w ⟨p, rfl, hS'⟩
  replace hS := hS.plus hS'
  clear hS'
  repeat (first | (refine G_id ?_; first | refine G_nil ?_ | refine G_plain rfl rfl ?_) | (refine X_id ?_; first | refine X_yl (Yl_move rfl rfl) rfl rfl ?_ | refine X_yl (Yl_assign rfl rfl) rfl rfl ?_ | refine X_yl (Yl_extract rfl rfl) rfl rfl ?_) | (refine C_id ?_; first | refine C_seq ?_ | refine C_region ?_) | (refine E_id ?_; first | refine E_code ?_))
  have hopen := open_ p (newDisk 40) 20 rd fs
  rw [nil_open] at hopen
  obtain ⟨_, hc, hr, hw, hbk⟩ := hS.call [true]
  refine X_callg _ rfl rfl rfl rfl rfl (hopen _ _ (hG.mono hw) (by simp [newDisk]) hc) ?_
  rintro _ w (⟨h, _⟩ | ⟨_, lp, rfl, hS⟩)
  · exact absurd rfl h
  replace hS := hbk hS
  clear hc hr hw hbk hopen
  replace hS : St W noF [qlog lp p 20 0 (List.replicate 19 zero64)] w := St.newLog (k := 19) (by omega) hS
  repeat (first | (refine G_id ?_; first | refine G_nil ?_ | refine G_plain rfl rfl ?_) | (refine X_id ?_; first | refine X_yl (Yl_move rfl rfl) rfl rfl ?_ | refine X_yl (Yl_assign rfl rfl) rfl rfl ?_ | refine X_yl (Yl_extract rfl rfl) rfl rfl ?_) | (refine C_id ?_; first | refine C_seq ?_ | refine C_region ?_) | (refine E_id ?_; first | refine E_code ?_))
  obtain ⟨_, hc, hr, hw, hbk⟩ := hS.call [true]
  refine X_callg _ rfl rfl rfl rfl rfl (format_ lp p 20 0 4 14 _ rd fs _ _ (hG.mono hw) (by simp) (by omega) (by omega) (by omega) (by omega) (by simp [last]) (zeros_get (by omega)) (fun i hi => zeros_get (by omega)) hc) ?_
  rintro _ w ⟨tp, rfl, hS⟩
  replace hS := hbk hS
  clear hc hr hw hbk
  repeat (first | (refine G_id ?_; first | refine G_nil ?_ | refine G_plain rfl rfl ?_ | refine G_yes rfl rfl rfl rfl ?_) | (refine X_id ?_; first | refine X_yl (Yl_move rfl rfl) rfl rfl ?_ | refine X_yl (Yl_assign rfl rfl) rfl rfl ?_ | refine X_yl (Yl_extract rfl rfl) rfl rfl ?_ | refine X_yl (Yl_pick_f rfl rfl rfl) rfl rfl ?_ | refine X_yl (Yl_neq_f rfl rfl rfl (by omega)) rfl rfl ?_ | refine X_yl (Yl_eqlNil_some rfl rfl rfl) rfl rfl ?_) | (refine C_id ?_; first | refine C_seq ?_ | refine C_region ?_ | refine C_skip ?_ | refine C_cond_f rfl ?_) | (refine E_id ?_; first | refine E_code ?_))
  obtain ⟨r, A, dat, hI⟩ := (hS.rd (List.mem_cons_self ..)).itab
  refine X_callq _ rfl rfl rfl rfl rfl hS (room_ _ hI) ?_
  rw [known_room.1]
  rintro _ w rfl hS
  clear hI
  repeat (first | (refine G_id ?_; first | refine G_nil ?_ | refine G_plain rfl rfl ?_) | (refine X_id ?_; first | refine X_yl (Yl_move rfl rfl) rfl rfl ?_ | refine X_yl (Yl_assign rfl rfl) rfl rfl ?_) | (refine C_id ?_; first | refine C_seq ?_ | refine C_region ?_) | (refine E_id ?_; first | refine E_code ?_))
  refine X_makeB (c := 512) rfl rfl rfl (by omega) (by omega) rfl rfl hS (fun kp _ hS => ?_)
  repeat (first | (refine G_id ?_; first | refine G_plain rfl rfl ?_) | (refine X_id ?_; first | refine X_yl (Yl_build rfl rfl rfl) rfl rfl ?_ | refine X_buildSlice rfl rfl rfl rfl rfl rfl rfl rfl hS (fun _ _ hS _ => ?_)))
  rename_i bl w1 _
  have hch : ∀ F, (∀ r ∈ [own 44 7 (some ⟨bl, 0, none⟩) 1 [.int .i64 2, .int .i64 0, .int .i64 0, .int .i64 0, .int .i64 0, .slice (some ⟨kp, 0, none⟩) 512 512, .bool false], pts kp (.cells (bv (List.replicate 512 0)).toArray 5)], Ro w1 F r) → Chgs w1 F (some ⟨bl, 0, none⟩) [⟨⟨2, knd, false⟩, some ⟨kp, 0, none⟩, 512⟩] := fun F hr => by
    refine ⟨(hr _ (List.mem_cons_self ..)).own_row, fun v hv => ?_⟩
    rw [List.mem_singleton] at hv
    rw [hv]
    exact (hr _ (List.mem_cons_of_mem _ (List.mem_cons_self ..))).mono fun g hg => ⟨g, row_pts g hg, fun _ _ e => e⟩
  have hS := hS.pick [2, 0, 0]
  obtain ⟨_, hc, hr, hw, hbk⟩ := hS.call [true, false, false]
  refine X_callg _ rfl rfl rfl rfl rfl (apply_ (some ⟨bl, 0, none⟩) 1 [⟨⟨2, knd, false⟩, some ⟨kp, 0, none⟩, 512⟩] _ _ (hG.mono hw) (hch _ hr) (by simp) (by simp) (by simp [last]) hc) ?_
  rw [show List.map ChgA.c [⟨⟨2, knd, false⟩, some ⟨kp, 0, none⟩, 512⟩] = [⟨2, knd, false⟩] from rfl, known_app]
  rintro _ w ⟨rfl, hS⟩
  replace hS := hbk hS
  clear hc hr hw hbk hch
  replace hS : St W noF [itab rd fs tp lp p 20 2 4 14 ktb] w := hS.pick [0]
  repeat (first | (refine G_id ?_; first | refine G_nil ?_ | refine G_plain rfl rfl ?_) | (refine X_id ?_; first | refine X_yl (Yl_move rfl rfl) rfl rfl ?_ | refine X_yl (Yl_assign rfl rfl) rfl rfl ?_) | (refine C_id ?_; first | refine C_seq ?_ | refine C_region ?_) | (refine E_id ?_; first | refine E_code ?_))
  obtain ⟨r, A, dat, hI⟩ := (hS.rd (List.mem_cons_self ..)).itab
  refine X_callg _ rfl rfl rfl rfl rfl (get_some 2 knd rfl _ hI) ?_
  rintro _ w ⟨ga, gc, rfl, _, hS'⟩
  replace hS := hS.plus hS'
  clear hS' hI
  repeat (first | (refine G_id ?_; first | refine G_nil ?_ | refine G_plain rfl rfl ?_ | refine G_yes rfl rfl rfl rfl ?_) | (refine X_id ?_; first | (refine X_callg 89 rfl rfl rfl rfl rfl (iblocks_ 64 _ (by omega)) ?_; rintro _ _ ⟨rfl, rfl⟩) | (refine X_callg 89 rfl rfl rfl rfl rfl (iblocks_ 65 _ (by omega)) ?_; rintro _ _ ⟨rfl, rfl⟩) | refine X_yl (Yl_move rfl rfl) rfl rfl ?_ | refine X_yl (Yl_assign rfl rfl) rfl rfl ?_ | refine X_yl (Yl_fieldAddr0 rfl rfl rfl) rfl rfl ?_ | refine X_yl (Yl_extract rfl rfl) rfl rfl ?_ | refine X_yl (Yl_pick_t rfl rfl rfl) rfl rfl ?_ | refine X_yl (Yl_len rfl rfl) rfl rfl ?_ | refine X_yl (Yl_eql_t rfl rfl rfl (by omega)) rfl rfl ?_ | refine X_yl (Yl_eql rfl rfl rfl) rfl rfl ?_ | refine X_yl (Yl_load rfl rfl hS.cell) rfl rfl ?_ | refine X_store rfl rfl rfl rfl hS (fun _ hS _ => ?_) | refine X_alloc rfl rfl rfl hS (fun _ _ hS _ => ?_)) | (refine C_id ?_; first | refine C_seq ?_ | refine C_region ?_) | (refine E_id ?_; first | refine E_code ?_))
  obtain ⟨r, A, dat, hI⟩ := (hS.rd (r := itab rd fs tp lp p 20 2 4 14 ktb) (by simp)).itab
  refine X_callq _ rfl rfl rfl rfl rfl hS (room_ _ hI) ?_
  rw [known_room.2]
  rintro _ w rfl hS
  repeat (first | (refine G_id ?_; first | refine G_nil ?_ | refine G_plain rfl rfl ?_ | refine G_yes rfl rfl rfl rfl ?_) | (refine X_id ?_; first | refine X_yl (Yl_assign rfl rfl) rfl rfl ?_ | refine X_yl (Yl_pick_t rfl rfl rfl) rfl rfl ?_ | refine X_yl (Yl_eql_t rfl rfl rfl (by omega)) rfl rfl ?_ | refine X_yl (Yl_sub rfl rfl rfl (w64 (by omega) (by omega))) rfl rfl ?_) | (refine C_id ?_; first | refine C_ret ?_) | (refine E_id ?_; first | refine E_code ?_ | refine E_ret1 rfl (Rv_tmp rfl) (Ret.mk ?_)))
  exact ⟨rfl, hS.drops⟩
end Cr
