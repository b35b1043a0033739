/-
  The law TableNil: what it computes.
-/
import Derived.Test.YtooeiknmpndcgaaGreatDoorTnl18
namespace Cr
open Go Go.Proofs
set_option maxRecDepth 100000
set_option maxHeartbeats 16000000
attribute [local irreducible] Calls

abbrev cvZ : List Value := [.int .i64 0, .int .i64 0, .slice none 0 0, .slice none 0 0]
theorem of9_nil (k : Value) (W : World) : Calls Tryz.prog 5 #[.pointer none, k] W (Ret fun v w => v = .tuple #[.pointer none, .int .i64 16] ∧ W = w) := by
 refine calls_C Tryz.func5 rfl Tryz.ntmps5 rfl ?_
 repeat (first | (refine G_id ?_; first | refine G_nil ?_ | refine G_plain rfl rfl ?_) | (refine X_id ?_; first | refine X_yl (Yl_move rfl rfl) rfl rfl ?_ | refine X_yl (Yl_assign rfl rfl) rfl rfl ?_ | refine X_yl (Yl_eqlNil_none rfl rfl rfl) rfl rfl ?_) | (refine C_id ?_; first | refine C_seq ?_ | refine C_region ?_ | refine C_block ?_ | refine C_ret ?_ | refine C_cond_t rfl ?_) | (refine E_id ?_; first | refine E_code ?_ | refine E_then_ret ?_ | refine E_blk_ret ?_ | refine E_ret2 rfl (Rv_tmp rfl) (Rv_tmp rfl) (Ret.mk ?_)))
 exact ⟨rfl, rfl⟩
theorem get9_nil (k : Value) (W : World) : Calls Tryz.prog 6 #[.pointer none, k] W (Ret fun v w => v = .tuple #[.agg cvZ.toArray, .int .i64 16] ∧ St W noF [] w) := by
 have hS := St.start W
 refine calls_C Tryz.func6 rfl Tryz.ntmps6 rfl ?_
 repeat (first | (refine G_id ?_; first | refine G_nil ?_ | refine G_plain rfl rfl ?_) | (refine X_id ?_; first | refine X_yl (Yl_move rfl rfl) rfl rfl ?_ | refine X_yl (Yl_assign rfl rfl) rfl rfl ?_ | refine X_yl (Yl_build rfl rfl rfl) rfl rfl ?_ | refine X_yl (Yl_eqlNil_none rfl rfl rfl) rfl rfl ?_ | refine X_store rfl rfl rfl rfl hS (fun _ hS _ => ?_) | refine X_alloc rfl rfl rfl hS (fun _ _ hS _ => ?_)) | (refine C_id ?_; first | refine C_seq ?_ | refine C_region ?_ | refine C_block ?_ | refine C_ret ?_ | refine C_cond_t rfl ?_) | (refine E_id ?_; first | refine E_code ?_ | refine E_then_ret ?_ | refine E_blk_ret ?_ | refine E_ret2 rfl (by first | exact Rv_tmp rfl | exact Rv_cell rfl (run_load1 hS.cell) | exact Rv_cell rfl (run_loadN hS.cellsN)) (by first | exact Rv_tmp rfl | exact Rv_cell rfl (run_load1 hS.cell) | exact Rv_cell rfl (run_loadN hS.cellsN)) (Ret.mk ?_)))
 exact ⟨rfl, hS.drops⟩
theorem drop9_nil (k : Value) (W : World) : Calls Tryz.prog 7 #[.pointer none, k] W (Ret fun v w => v = .tuple #[.int .i64 0, .int .i64 16] ∧ W = w) := by
 refine calls_C Tryz.func7 rfl Tryz.ntmps7 rfl ?_
 repeat (first | (refine G_id ?_; first | refine G_nil ?_ | refine G_plain rfl rfl ?_) | (refine X_id ?_; first | refine X_yl (Yl_move rfl rfl) rfl rfl ?_ | refine X_yl (Yl_assign rfl rfl) rfl rfl ?_ | refine X_yl (Yl_eqlNil_none rfl rfl rfl) rfl rfl ?_) | (refine C_id ?_; first | refine C_seq ?_ | refine C_region ?_ | refine C_ret ?_ | refine C_cond_t rfl ?_) | (refine E_id ?_; first | refine E_code ?_ | refine E_then_ret ?_ | refine E_ret2 rfl (Rv_tmp rfl) (Rv_tmp rfl) (Ret.mk ?_)))
 exact ⟨rfl, rfl⟩
theorem keys9_nil (W : World) : Calls Tryz.prog 8 #[.pointer none] W (Ret fun v w => v = .tuple #[.slice none 0 0, .int .i64 16] ∧ W = w) := by
 refine calls_C Tryz.func8 rfl Tryz.ntmps8 rfl ?_
 repeat (first | (refine G_id ?_; first | refine G_nil ?_ | refine G_plain rfl rfl ?_) | (refine X_id ?_; first | refine X_yl (Yl_move rfl rfl) rfl rfl ?_ | refine X_yl (Yl_assign rfl rfl) rfl rfl ?_ | refine X_yl (Yl_eqlNil_none rfl rfl rfl) rfl rfl ?_) | (refine C_id ?_; first | refine C_seq ?_ | refine C_region ?_ | refine C_ret ?_ | refine C_cond_t rfl ?_) | (refine E_id ?_; first | refine E_code ?_ | refine E_then_ret ?_ | refine E_ret2 rfl (Rv_tmp rfl) (Rv_tmp rfl) (Ret.mk ?_)))
 exact ⟨rfl, rfl⟩
theorem tables9_nil (W : World) : Calls Tryz.prog 9 #[.pointer none] W (Ret fun v w => v = .tuple #[.slice none 0 0, .int .i64 16] ∧ W = w) := by
 refine calls_C Tryz.func9 rfl Tryz.ntmps9 rfl ?_
 repeat (first | (refine G_id ?_; first | refine G_nil ?_ | refine G_plain rfl rfl ?_) | (refine X_id ?_; first | refine X_yl (Yl_move rfl rfl) rfl rfl ?_ | refine X_yl (Yl_assign rfl rfl) rfl rfl ?_ | refine X_yl (Yl_eqlNil_none rfl rfl rfl) rfl rfl ?_) | (refine C_id ?_; first | refine C_seq ?_ | refine C_region ?_ | refine C_ret ?_ | refine C_cond_t rfl ?_) | (refine E_id ?_; first | refine E_code ?_ | refine E_then_ret ?_ | refine E_ret2 rfl (Rv_tmp rfl) (Rv_tmp rfl) (Ret.mk ?_)))
 exact ⟨rfl, rfl⟩
abbrev cvI (n : Int) : List Value := [.int .i64 0, .int .i64 n, .slice none 0 0, .slice none 0 0]
theorem put9_nil (k : Value) (n : Int) (W : World) : Calls Tryz.prog 11 #[.pointer none, k, .agg (cvI n).toArray] W (Ret fun v w => v = .int .i64 16 ∧ St W noF [] w) := by
 have hS := St.start W
 refine calls_C Tryz.func11 rfl Tryz.ntmps11 rfl ?_
 repeat (first | (refine G_id ?_; first | refine G_nil ?_ | refine G_plain rfl rfl ?_) | (refine X_id ?_; first | refine X_yl (Yl_assign rfl rfl) rfl rfl ?_ | refine X_yl (Yl_eqlNil_none rfl rfl rfl) rfl rfl ?_ | refine X_yl (Yl_load rfl rfl hS.cell) rfl rfl ?_ | refine X_box rfl rfl rfl rfl hS (fun _ _ hS _ => ?_)) | (refine C_id ?_; first | refine C_seq ?_ | refine C_region ?_ | refine C_block ?_ | refine C_ret ?_ | refine C_cond_t rfl ?_) | (refine E_id ?_; first | refine E_code ?_ | refine E_then_ret ?_ | refine E_blk_ret ?_ | refine E_ret1 rfl (Rv_tmp rfl) (Ret.mk ?_)))
 exact ⟨rfl, hS.drops⟩
theorem int9_ (n : Int) (W : World) : Calls Tryz.prog 12 #[.int .i64 n] W (Ret fun v w => v = .agg (cvI n).toArray ∧ St W noF [] w) := by
 have hS := St.start W
 refine calls_C Tryz.func12 rfl Tryz.ntmps12 rfl ?_
 repeat (first | (refine G_id ?_; first | refine G_nil ?_ | refine G_plain rfl rfl ?_) | (refine X_id ?_; first | refine X_yl (Yl_move rfl rfl) rfl rfl ?_ | refine X_yl (Yl_build rfl rfl rfl) rfl rfl ?_ | refine X_store rfl rfl rfl rfl hS (fun _ hS _ => ?_) | refine X_alloc rfl rfl rfl hS (fun _ _ hS _ => ?_)) | (refine C_id ?_; first | refine C_seq ?_ | refine C_region ?_ | refine C_ret ?_) | (refine E_id ?_; first | refine E_code ?_ | refine E_ret1 rfl (by first | exact Rv_tmp rfl | exact Rv_cell rfl (run_load1 hS.cell) | exact Rv_cell rfl (run_loadN hS.cellsN)) (Ret.mk ?_)))
 exact ⟨rfl, hS.drops⟩
theorem has9_nil (k : Value) (W : World) : Calls Tryz.prog 13 #[.pointer none, k] W (Ret fun v w => v = .bool false ∧ St W noF [] w) := by
 have hS := St.start W
 refine calls_C Tryz.func13 rfl Tryz.ntmps13 rfl ?_
 repeat (first | (refine G_id ?_; first | refine G_nil ?_ | refine G_plain rfl rfl ?_) | (refine X_id ?_; first | (refine X_callq 6 rfl rfl rfl rfl rfl hS (get9_nil _ _) ?_; rintro _ _ rfl hS) | refine X_yl (Yl_move rfl rfl) rfl rfl ?_ | refine X_yl (Yl_assign rfl rfl) rfl rfl ?_ | refine X_yl (Yl_extract rfl rfl) rfl rfl ?_ | refine X_yl (Yl_eql_f rfl rfl rfl (by omega)) rfl rfl ?_ | refine X_store rfl rfl rfl rfl hS (fun _ hS _ => ?_) | refine X_alloc rfl rfl rfl hS (fun _ _ hS _ => ?_)) | (refine C_id ?_; first | refine C_seq ?_ | refine C_region ?_ | refine C_ret ?_) | (refine E_id ?_; first | refine E_code ?_ | refine E_ret1 rfl (Rv_tmp rfl) (Ret.mk ?_)))
 exact ⟨rfl, hS.drops⟩
theorem each9_nil (f : Value) (W : World) : Calls Tryz.prog 14 #[.pointer none, f] W (Ret fun v w => v = .int .i64 16 ∧ St W noF [] w) := by
 have hS := St.start W
 refine calls_C Tryz.func14 rfl Tryz.ntmps14 rfl ?_
 repeat (first | (refine G_id ?_; first | refine G_nil ?_ | refine G_plain rfl rfl ?_) | (refine X_id ?_; first | (refine X_callg 8 rfl rfl rfl rfl rfl (keys9_nil _) ?_; rintro _ _ ⟨rfl, rfl⟩) | refine X_yl (Yl_move rfl rfl) rfl rfl ?_ | refine X_yl (Yl_assign rfl rfl) rfl rfl ?_ | refine X_yl (Yl_extract rfl rfl) rfl rfl ?_ | refine X_yl (Yl_neq_t rfl rfl rfl (by omega)) rfl rfl ?_) | (refine C_id ?_; first | refine C_seq ?_ | refine C_region ?_ | refine C_ret ?_ | refine C_cond_t rfl ?_) | (refine E_id ?_; first | refine E_code ?_ | refine E_then_ret ?_ | refine E_ret1 rfl (Rv_tmp rfl) (Ret.mk ?_)))
 exact ⟨rfl, hS.drops⟩
theorem known9_ (rd fs : List Int) (W : World) (hG : Gl W noF rd fs) : Calls Tryz.prog 10 #[] W (Ret fun v w => v = .bool true ∧ St W noF [] w) := Cl.calls_of_run Cl.run09 W hG
theorem tableNil_ (k : ByteArray) (rd fs : List Int) (W : World) (hG : Gl W noF rd fs) : Calls Tryz.prog 3 #[.string k] W (Ret fun v w => v = .bool true ∧ St W noF [] w) := by
 have hS := St.start W
 refine calls_C Tryz.func3 rfl Tryz.ntmps3 rfl ?_
 repeat (first | (refine G_id ?_; first | refine G_nil ?_ | refine G_plain rfl rfl ?_ | refine G_yes rfl rfl rfl rfl ?_) | (refine X_id ?_; first | (refine X_callq 6 rfl rfl rfl rfl rfl hS (get9_nil _ _) ?_; rintro _ _ rfl hS) | (refine X_callq 10 rfl rfl rfl rfl rfl hS (known9_ rd fs _ (hG.mono fun r hr => (hr.rd hS).ro)) ?_; rintro _ _ rfl hS) | (refine X_callq 12 rfl rfl rfl rfl rfl hS (int9_ _ _) ?_; rintro _ _ rfl hS) | (refine X_callq 11 rfl rfl rfl rfl rfl hS (put9_nil _ _ _) ?_; rintro _ _ rfl hS) | (refine X_callq 13 rfl rfl rfl rfl rfl hS (has9_nil _ _) ?_; rintro _ _ rfl hS) | (refine X_callq 14 rfl rfl rfl rfl rfl hS (each9_nil _ _) ?_; rintro _ _ rfl hS) | (refine X_callg 5 rfl rfl rfl rfl rfl (of9_nil _ _) ?_; rintro _ _ ⟨rfl, rfl⟩) | (refine X_callg 7 rfl rfl rfl rfl rfl (drop9_nil _ _) ?_; rintro _ _ ⟨rfl, rfl⟩) | (refine X_callg 8 rfl rfl rfl rfl rfl (keys9_nil _) ?_; rintro _ _ ⟨rfl, rfl⟩) | (refine X_callg 9 rfl rfl rfl rfl rfl (tables9_nil _) ?_; rintro _ _ ⟨rfl, rfl⟩) | refine X_yl (Yl_move rfl rfl) rfl rfl ?_ | refine X_yl (Yl_assign rfl rfl) rfl rfl ?_ | refine X_yl (Yl_extract rfl rfl) rfl rfl ?_ | refine X_yl (Yl_pick_t rfl rfl rfl) rfl rfl ?_ | refine X_yl (Yl_not_f rfl rfl) rfl rfl ?_ | refine X_yl (Yl_eql_t rfl rfl rfl (by omega)) rfl rfl ?_ | refine X_store rfl rfl rfl rfl hS (fun _ hS _ => ?_) | refine X_alloc rfl rfl rfl hS (fun _ _ hS _ => ?_) | refine X_buildSlice rfl rfl rfl rfl rfl rfl rfl rfl hS (fun _ _ hS _ => ?_)) | (refine C_id ?_; first | refine C_seq ?_ | refine C_region ?_ | refine C_ret ?_) | (refine E_id ?_; first | refine E_code ?_ | refine E_ret1 rfl (Rv_tmp rfl) (Ret.mk ?_)))
 exact ⟨rfl, hS.drops⟩
end Cr
