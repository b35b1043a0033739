/-
  Layer 4 (wal): Once.Do at Open; Open.
-/
import Derived.Test.YtobnnhlgdoddgaaDoorSync
namespace Cr
open Go Go.Proofs
set_option maxRecDepth 100000
set_option maxHeartbeats 8000000
attribute [local irreducible] Calls

abbrev ptrAt (b lp : Nat) : Res := pts b (.cells #[.pointer (some ⟨lp, 0, none⟩)] 26)
abbrev errAt (b : Nat) (e : Int) : Res := pts b (.cells #[.int .i64 e] 29)
theorem b32_ (W : World) : Calls Tryd.prog 64 #[.bool true] W (Ret fun v w => v = .int .u32 1 ∧ W = w) := by
  refine calls_C Tryd.func64 rfl Tryd.ntmps64 rfl ?_
  repeat (first | (refine G_id ?_; first | refine G_nil ?_ | refine G_plain rfl rfl ?_) | (refine X_id ?_; first | refine X_yl (Yl_move rfl rfl) rfl rfl ?_ | refine X_yl (Yl_assign rfl rfl) rfl rfl ?_) | (refine C_id ?_; first | refine C_seq ?_ | refine C_region ?_ | refine C_ret ?_ | refine C_cond_t rfl ?_) | (refine E_id ?_; first | refine E_code ?_ | refine E_then_ret ?_ | refine E_ret1 rfl (Rv_tmp rfl) (Ret.mk ?_)))
  exact ⟨rfl, rfl⟩
theorem open1_ (lp p b6 b7 : Nat) (o s m : Int) (j : Nat) (done : Int) (rdn : Bool) (D : DiskM) (e0 : Int) (rd fs : List Int) (W : World) (F : Nat → Prop) (hG : Gl W F rd fs) (hj : j ≤ 4096) (hline : D.line.length < 1073700000)
    (hS : St W F [logAt lp p o s m j done rdn, disk p D, ptrAt b6 lp, errAt b7 e0] W) :
    Calls Tryd.prog 22 #[.pointer (some ⟨b6, 0, none⟩), .pointer (some ⟨b7, 0, none⟩)] W (Ret fun _ w => True ∧
      St W F [logAt lp p o s m j (redoM rd fs D j done rdn).done (redoM rd fs D j done rdn).redone, disk p (redoM rd fs D j done rdn).D, ptrAt b6 lp, errAt b7 (redoM rd fs D j done rdn).e] w) := by
  refine calls_C Tryd.func22 rfl Tryd.ntmps22 rfl ?_
  repeat (first | (refine G_id ?_; first | refine G_plain rfl rfl ?_) | (refine X_id ?_; first | refine X_yl (Yl_load rfl rfl hS.cell) rfl rfl ?_) | (refine C_id ?_; first | refine C_region ?_))
  obtain ⟨_, hc, hr, hw, hbk⟩ := hS.call [true, true, false, false]
  refine X_callg _ rfl rfl rfl rfl rfl (redo_ lp p o s m j done rdn D rd fs _ _ (hG.mono hw) hj hline hc) ?_
  rintro _ w ⟨rfl, hS⟩
  replace hS := hbk hS
  clear hc hr hw hbk
  generalize redoM rd fs D j done rdn = R at hS ⊢
  repeat (first | (refine G_id ?_; first | refine G_nil ?_ | refine G_plain rfl rfl ?_) | (refine X_id ?_; first | refine X_store rfl rfl rfl rfl hS (fun _ hS _ => ?_)) | (refine E_id ?_; first | refine E_end0 rfl (Ret.mk ?_)))
  exact ⟨trivial, hS⟩
theorem doSlow_ (lp p b6 b7 : Nat) (m : Int) (j : Nat) (done : Int) (rdn : Bool) (D : DiskM) (e0 : Int) (rd fs : List Int) (W : World) (F : Nat → Prop) (hG : Gl W F rd fs) (hj : j ≤ 4096) (hline : D.line.length < 1073700000)
    (hS : St W F [logAt lp p 0 0 m j done rdn, disk p D, ptrAt b6 lp, errAt b7 e0] W) :
    Calls Tryd.prog 33 #[.pointer (some ⟨lp, 1, none⟩), .func (.func 22) #[] #[.pointer (some ⟨b6, 0, none⟩), .pointer (some ⟨b7, 0, none⟩)]] W (Ret fun _ w => True ∧
      St W F [logAt lp p 1 0 m j (redoM rd fs D j done rdn).done (redoM rd fs D j done rdn).redone, disk p (redoM rd fs D j done rdn).D, ptrAt b6 lp, errAt b7 (redoM rd fs D j done rdn).e] w) := by
  have hlock : ∀ W F, St W F [logAt lp p 0 0 m j done rdn] W → Calls Tryd.prog 47 #[.pointer (some ⟨lp, 2, none⟩)] W (Ret fun _ w => True ∧ St W F [logAt lp p 0 1 m j done rdn] w) := fun W F hS => by
    refine calls_C Tryd.func47 rfl Tryd.ntmps47 rfl ?_
    repeat (first | (refine G_id ?_; first | refine G_plain rfl rfl ?_) | (refine X_id ?_; first | refine X_yl (Yl_move rfl rfl) rfl rfl ?_ | refine X_yl (Yl_nilCheck rfl rfl) rfl rfl ?_ | refine X_yl (Yl_fieldAddr rfl rfl rfl) rfl rfl ?_) | (refine C_id ?_; first | refine C_region ?_))
    refine X_callg _ rfl rfl rfl rfl rfl (ilock_ lp 2 _ _ _ _ _ hS) ?_
    rintro _ w ⟨_, hS⟩
    repeat (first | (refine G_id ?_; first | refine G_nil ?_) | (refine E_id ?_; first | refine E_end0 rfl (Ret.mk ?_)))
    exact ⟨trivial, hS⟩
  refine calls_C Tryd.func33 rfl Tryd.ntmps33 rfl ?_
  repeat (first | (refine G_id ?_; first | refine G_plain rfl rfl ?_) | (refine X_id ?_; first | refine X_yl (Yl_move rfl rfl) rfl rfl ?_ | refine X_yl (Yl_nilCheck rfl rfl) rfl rfl ?_ | refine X_yl (Yl_fieldAddr rfl rfl rfl) rfl rfl ?_) | (refine C_id ?_; first | refine C_seq ?_ | refine C_region ?_))
  obtain ⟨_, hc, hr, hw, hbk⟩ := hS.call [true, false, false, false]
  refine X_callg _ rfl rfl rfl rfl rfl (hlock _ _ hc) ?_
  rintro _ w ⟨_, hS⟩
  replace hS := hbk hS
  clear hc hr hw hbk
  repeat (first | (refine G_id ?_; first | refine G_nil ?_ | refine G_defer rfl rfl rfl rfl rfl ?_ | refine G_plain rfl rfl ?_) | (refine X_id ?_; first | refine X_yl (Yl_move rfl rfl) rfl rfl ?_ | refine X_yl (Yl_nilCheck rfl rfl) rfl rfl ?_ | refine X_yl (Yl_fieldAddr rfl rfl rfl) rfl rfl ?_) | (refine C_id ?_; first | refine C_seq ?_ | refine C_region ?_) | (refine E_id ?_; first | refine E_code ?_ | refine E_code2 rfl ?_))
  refine X_callg _ rfl rfl rfl rfl rfl (bload_ lp 1 _ _ 0 _ (hS.rd (List.mem_cons_self ..))) ?_
  rintro _ _ ⟨rfl, rfl⟩
  rw [decide_eq_false (show ¬ ¬ (0 : Int) = 0 by simp)]
  repeat (first | (refine G_id ?_; first | refine G_nil ?_ | refine G_defer rfl rfl rfl rfl rfl ?_ | refine G_plain rfl rfl ?_) | (refine X_id ?_; first | refine X_yl (Yl_move rfl rfl) rfl rfl ?_ | refine X_yl (Yl_nilCheck rfl rfl) rfl rfl ?_ | refine X_yl (Yl_fieldAddr rfl rfl rfl) rfl rfl ?_ | refine X_yl (Yl_not_f rfl rfl) rfl rfl ?_) | (refine C_id ?_; first | refine C_seq ?_ | refine C_region ?_ | refine C_cond_t rfl ?_) | (refine E_id ?_; first | refine E_code ?_ | refine E_code2 rfl ?_))
  obtain ⟨_, hc, hr, hw, hbk⟩ := hS.call [true, true, true, true]
  refine X_call (first := []) (captured := [.pointer (some ⟨b6, 0, none⟩), .pointer (some ⟨b7, 0, none⟩)]) rfl rfl rfl rfl rfl (open1_ lp p b6 b7 0 1 m j done rdn D e0 rd fs _ _ (hG.mono hw) hj hline hc) ?_
  rintro _ w ⟨_, hS⟩
  replace hS := hbk hS
  clear hc hr hw hbk
  generalize redoM rd fs D j done rdn = R at hS ⊢
  repeat (first | (refine G_id ?_; first | refine G_nil ?_))
  refine E_defer (args := [.pointer (some ⟨lp, 1, none⟩), .bool true]) (captured := []) rfl rfl rfl rfl (.inr rfl) ?_
  repeat (first | fail)
  refine C_ord [(0, true), (1, true), (2, true), (3, true), (4, false), (5, false)] mixed (by kernel_rfl) rfl ?_
  have hS := hS.drew
  repeat (first | (refine X_id ?_; first | (refine X_callg 64 rfl rfl rfl rfl rfl (b32_ _) ?_; rintro _ _ ⟨rfl, rfl⟩) | refine X_estore rfl rfl rfl rfl rfl hS (fun _ hS => ?_)) | (refine E_id ?_; first | refine E_end0d rfl (Ret.mk ?_)) | (refine GO_id ?_; first | refine GO_nil ?_ | refine GO_pure rfl rfl (fun _ => Yl_move rfl rfl) rfl rfl ?_ | refine GO_pure rfl rfl (fun _ => Yl_nilCheck rfl rfl) rfl rfl ?_ | refine GO_pure rfl rfl (fun _ => Yl_fieldAddr rfl rfl rfl) rfl rfl ?_ | refine GO_hard rfl rfl ?_) | (refine Keep_id ?_; first | refine And.intro (by repeat (first | exact trivial | refine And.intro (.inl (by decide +kernel)) ?_ | refine And.intro (.inr (by first | assumption | exact hS.cell | exact cell_at (by assumption) | exact hS.cellI (by omega) | exact hS.cellIP (by omega) | exact hS.cellsN | exact ((hr.rd hS).cellX (by omega) hx) | exact ((hr2.rd hS).cellX (by omega) hx2) | exact hS.cellB (by omega) | exact hS.cellBA (by omega) | exact (hb.rd hS).cellB' (by omega) | exact (hb2.rd hS).cellB' (by omega) | exact (hg.rd hS).cellI (by omega) | exact (hg2.rd hS).cellI (by omega) | exact ((hr.rd hS).cellF (by first | omega | (dsimp only; omega)) hx) | exact ((hr2.rd hS).cellF (by first | omega | (dsimp only; omega)) hx2))) ?_)) ?_))
  refine E_defer (args := [.pointer (some ⟨lp, 2, none⟩)]) (captured := []) rfl rfl rfl rfl (.inr rfl) ?_
  repeat (first | (refine G_id ?_; first | refine G_plain rfl rfl ?_) | (refine X_id ?_; first | refine X_yl (Yl_move rfl rfl) rfl rfl ?_ | refine X_yl (Yl_nilCheck rfl rfl) rfl rfl ?_ | refine X_yl (Yl_fieldAddr rfl rfl rfl) rfl rfl ?_) | (refine C_id ?_; first | refine C_region ?_))
  obtain ⟨_, hc, hr, hw, hbk⟩ := hS.call [true, false, false, false]
  refine X_callg _ rfl rfl rfl rfl rfl (iunlock_ lp 2 _ _ _ _ _ hc) ?_
  rintro _ w ⟨_, hS⟩
  replace hS := hbk hS
  clear hc hr hw hbk
  repeat (first | (refine G_id ?_; first | refine G_nil ?_) | (refine E_id ?_; first | refine E_end0 rfl (Ret.mk ?_) | refine E_end0d rfl (Ret.mk ?_)))
  exact ⟨trivial, hS⟩
theorem do_ (lp p b6 b7 : Nat) (m : Int) (j : Nat) (done : Int) (rdn : Bool) (D : DiskM) (e0 : Int) (rd fs : List Int) (W : World) (F : Nat → Prop) (hG : Gl W F rd fs) (hj : j ≤ 4096) (hline : D.line.length < 1073700000)
    (hS : St W F [logAt lp p 0 0 m j done rdn, disk p D, ptrAt b6 lp, errAt b7 e0] W) :
    Calls Tryd.prog 21 #[.pointer (some ⟨lp, 1, none⟩), .func (.func 22) #[] #[.pointer (some ⟨b6, 0, none⟩), .pointer (some ⟨b7, 0, none⟩)]] W (Ret fun _ w => True ∧
      St W F [logAt lp p 1 0 m j (redoM rd fs D j done rdn).done (redoM rd fs D j done rdn).redone, disk p (redoM rd fs D j done rdn).D, ptrAt b6 lp, errAt b7 (redoM rd fs D j done rdn).e] w) := by
  refine calls_C Tryd.func21 rfl Tryd.ntmps21 rfl ?_
  repeat (first | (refine G_id ?_; first | refine G_plain rfl rfl ?_) | (refine X_id ?_; first | refine X_yl (Yl_move rfl rfl) rfl rfl ?_ | refine X_yl (Yl_nilCheck rfl rfl) rfl rfl ?_ | refine X_yl (Yl_fieldAddr rfl rfl rfl) rfl rfl ?_) | (refine C_id ?_; first | refine C_seq ?_ | refine C_region ?_))
  refine X_callg _ rfl rfl rfl rfl rfl (bload_ lp 1 _ _ 0 _ (hS.rd (List.mem_cons_self ..))) ?_
  rintro _ _ ⟨rfl, rfl⟩
  rw [decide_eq_false (show ¬ ¬ (0 : Int) = 0 by simp)]
  repeat (first | (refine G_id ?_; first | refine G_nil ?_ | refine G_plain rfl rfl ?_) | (refine X_id ?_; first | refine X_yl (Yl_move rfl rfl) rfl rfl ?_ | refine X_yl (Yl_not_f rfl rfl) rfl rfl ?_) | (refine C_id ?_; first | refine C_region ?_ | refine C_cond_t rfl ?_) | (refine E_id ?_; first | refine E_code ?_))
  obtain ⟨_, hc, hr, hw, hbk⟩ := hS.call [true, true, true, true]
  refine X_callg _ rfl rfl rfl rfl rfl (doSlow_ lp p b6 b7 m j done rdn D e0 rd fs _ _ (hG.mono hw) hj hline hc) ?_
  rintro _ w ⟨_, hS⟩
  replace hS := hbk hS
  clear hc hr hw hbk
  repeat (first | (refine G_id ?_; first | refine G_nil ?_) | (refine E_id ?_; first | refine E_end0 rfl (Ret.mk ?_)))
  exact ⟨trivial, hS⟩

/-! ### Open -/
structure OpenM where
  e : Int
  D : DiskM
  done : Int
  redone : Bool
def openM (rd fs : List Int) (D : DiskM) (j : Int) : RedoM :=
  if D.off = true then ⟨9, D, 0, false⟩ else if j < 2 ∨ 1024 < j ∨ ¬ j % 2 = 0 ∨ (D.laid.length : Int) < j + 2 then ⟨1, D, 0, false⟩ else redoM rd fs D j.toNat 0 false
theorem open_nil (j : Int) (W : World) : Calls Tryd.prog 7 #[.pointer none, .int .i64 j] W (Ret fun v w => v = .tuple #[.pointer none, .int .i64 9] ∧ W = w) := by
  refine calls_C Tryd.func7 rfl Tryd.ntmps7 rfl ?_
  repeat (first | (refine G_id ?_; first | refine G_nil ?_ | refine G_plain rfl rfl ?_) | (refine X_id ?_; first | (refine X_callg 19 rfl rfl rfl rfl rfl (on_nil _) ?_; rintro _ _ ⟨rfl, rfl⟩) | refine X_yl (Yl_move rfl rfl) rfl rfl ?_ | refine X_yl (Yl_assign rfl rfl) rfl rfl ?_ | refine X_yl (Yl_not_f rfl rfl) rfl rfl ?_) | (refine C_id ?_; first | refine C_seq ?_ | refine C_region ?_ | refine C_block ?_ | refine C_ret ?_ | refine C_cond_t rfl ?_) | (refine E_id ?_; first | refine E_code ?_ | refine E_then_ret ?_ | refine E_blk_ret ?_ | refine E_ret2 rfl (Rv_tmp rfl) (Rv_tmp rfl) (Ret.mk ?_)))
  exact ⟨rfl, rfl⟩
end Cr
