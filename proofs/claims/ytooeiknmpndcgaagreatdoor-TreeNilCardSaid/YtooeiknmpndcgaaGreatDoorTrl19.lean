/-
  The law TreeNil: the first twelve names, cut.
  The argument of TreeNil, opened: a slice of texts; the world of its witness.
  The law TreeNil: what it computes.
  The law TreeNil.
-/
import Derived.Test.YtooeiknmpndcgaaGreatDoorTrl18
import Derived.Test.YtooeiknmpndcgaaGreatDoorTrl16
import Derived.Test.YtooeiknmpndcgaaGreatDoorTrl4
import Derived.Test.YtooeiknmpndcgaaGreatDoorTrl5
import GoSem.PinnedTables
namespace Cr
open Go Go.Proofs
set_option maxRecDepth 100000
set_option maxHeartbeats 16000000
attribute [local irreducible] Calls

abbrev strsV (l : List (List UInt8)) : List Value := l.map fun s => Value.string (str s)
theorem few5_ (a : Option Addr) (c : Nat) (l : List (List UInt8)) (W : World) (hr : Ro W noF (row a (strsV l))) (_ : l.length ≤ c) :
  Calls Tryz.prog 15 #[.slice a l.length c] W (Ret fun v w => ∃ a' n' c', v = .slice a' n' c' ∧ St W noF [] w) := by
 have hS := St.start W
 refine calls_C Tryz.func15 rfl Tryz.ntmps15 rfl ?_
 repeat (first | (refine G_id ?_; first | refine G_nil ?_ | refine G_plain rfl rfl ?_) | (refine X_id ?_; first | refine X_yl (Yl_assign rfl rfl) rfl rfl ?_) | (refine C_id ?_; first | refine C_seq ?_ | refine C_region ?_ | refine C_block ?_) | (refine E_id ?_; first | refine E_code ?_))
 have hS := hS.own_none 9 1 none
 refine C_joinB (α := Option Addr × Nat × Nat) (fun z => [(3, .slice z.1 z.2.1 z.2.2)]) (fun z w => St W noF [] w) ?_ ?_
 ·refine C_loop (α := Nat × Option Addr × Nat × List (List UInt8)) (fun z => [(0, .slice a l.length c), (3, .slice z.2.1 z.1 z.2.2.1), (4, .int .i64 (z.1 : Nat))])
   (fun z w => z.1 ≤ l.length ∧ z.1 ≤ 12 ∧ z.2.2.2.length = z.1 ∧ z.1 ≤ z.2.2.1 ∧ St W noF [own 9 1 z.2.1 z.2.2.1 (strsV z.2.2.2)] w) (fun z => l.length - z.1) (0, none, 0, []) ⟨rfl, rfl, rfl, trivial⟩ ⟨Nat.zero_le _, by simp, rfl, Nat.le_refl _, hS⟩ ?_
  clear hS
  rintro ⟨i, a2, c2, L⟩ w ⟨hi, h12, hL, hc2, hS⟩
  simp only at hi h12 hL hc2 hS ⊢
  by_cases hlt : i < l.length
  ·by_cases hlt2 : i < 12
   ·have hx0 : l[i]? = some l[i] := List.getElem?_eq_getElem hlt
    generalize l[i] = x at hx0
    have hx : (strsV l)[i]? = some (.string (str x)) := by simp [strsV, hx0]
    obtain ⟨xb, xo, rfl⟩ := (hr.rd hS).base (by intro e; rw [e] at hx; simp at hx)
    repeat (first | (refine G_id ?_; first | refine G_nil ?_ | refine G_plain rfl rfl ?_ | refine G_yes rfl rfl rfl rfl ?_) | (refine X_id ?_; first | refine X_yl (Yl_move rfl rfl) rfl rfl ?_ | refine X_yl (Yl_pick_t rfl rfl rfl) rfl rfl ?_ | refine X_yl (Yl_len rfl rfl) rfl rfl ?_ | refine X_yl (Yl_lss_t rfl rfl rfl (by omega)) rfl rfl ?_) | (refine C_id ?_; first | refine C_seq ?_ | refine C_region ?_ | refine C_block ?_ | refine C_skip ?_ | refine C_cond_t rfl ?_) | (refine E_id ?_; first | refine E_code ?_))
    refine C_ord (.s 0 (.s 1 (.s 2 (.s 3 (.s 4 (.s 5 (.s 6 (.s 7 (.s 8 (.s 9 (.s 10 (.s 11 (.h 12 (.h 13 (.s 14 .nil) .no) .no))))))))))))) mixed (by kernel_rfl) rfl ?_
    have hS := hS.drew
    repeat (first | (refine GO_id ?_; first | refine GO_pure rfl rfl (fun _ => Yl_move rfl rfl) rfl rfl ?_ | refine GO_pure rfl rfl (fun _ => Yl_len_str rfl rfl) rfl rfl ?_ | refine GO_pure rfl rfl (fun _ => Yl_indexAddr rfl rfl rfl (by omega) (by omega) (by first | assumption | exact ⟨_, _, rfl⟩)) rfl rfl ?_ | refine GO_read (fun w' => w'.cell? _ = some _) rfl rfl ((hr.rd hS).cellX (by omega) hx) (fun _ hc => Yl_load rfl rfl hc) rfl rfl ?_))
    refine GO_pure rfl rfl (fun _ => Yl_minI rfl rfl rfl) rfl rfl ?_
    obtain ⟨hN, hhN⟩ : ∃ hN : Nat, hN = min x.length 40 := ⟨_, rfl⟩
    have hmin : min ((x.length : Nat) : Int) 40 = (hN : Nat) := by omega
    rw [str_size, hmin]
    refine GO_pure rfl rfl (fun _ => Yl_sliceStr (l := 0) (h := hN) rfl rfl rfl rfl (.inr ⟨_, _, rfl, by omega, by omega, by omega⟩) (.inl ⟨rfl, rfl⟩)) rfl rfl ?_
    repeat (first | (refine X_id ?_; first | refine X_buildSlice rfl rfl rfl rfl rfl rfl rfl rfl hS (fun _ _ hS _ => ?_)) | (refine GO_id ?_; first | refine GO_hard rfl rfl ?_) | (refine Keep_id ?_; first | refine And.intro (by repeat (first | exact trivial | refine And.intro (.inl (by decide +kernel)) ?_ | refine And.intro (.inr (by first | assumption | exact hS.cell | exact cell_at (by assumption) | exact hS.cellI (by omega) | exact hS.cellIP (by omega) | exact hS.cellsN | exact ((hr.rd hS).cellX (by omega) hx) | exact ((hr2.rd hS).cellX (by omega) hx2) | exact hS.cellB (by omega) | exact hS.cellBA (by omega) | exact (hb.rd hS).cellB' (by omega) | exact (hb2.rd hS).cellB' (by omega) | exact (hg.rd hS).cellI (by omega) | exact (hg2.rd hS).cellI (by omega) | exact ((hr.rd hS).cellF (by first | omega | (dsimp only; omega)) hx) | exact ((hr2.rd hS).cellF (by first | omega | (dsimp only; omega)) hx2) | exact hS.cellO 0 (by omega) | exact hS.cellO 1 (by omega) | exact hS.cellIA (by omega) | exact (hg.rd hS).cellIA (by omega) | exact (hg2.rd hS).cellIA (by omega) | exact cell_at (hc.rd hS).pts | exact hb.rd hS | exact (hr.rd hS).cellsF7 (by first | omega | (dsimp only; omega)) hst4 rfl | exact (hr2.rd hS).cellsF7 (by first | omega | (dsimp only; omega)) hst4 rfl | exact hS.cellO 4 (by omega) | exact hS.cellO 5 (by omega) | exact hS.cellO 6 (by omega) | exact hS.cellO 7 (by omega) | exact hS.cellO 8 (by omega) | exact hS.cellO 9 (by omega) | exact hS.cellO 10 (by omega) | exact hS.cellO 11 (by omega) | exact hS.cellO 12 (by omega) | exact hS.cellO 13 (by omega) | exact hS.cellO 2 (by omega) | exact hS.cellO 3 (by omega))) ?_)) ?_))
    have hnw := (hS.rd (List.mem_cons_self ..)).own_row
    refine X_append rfl rfl rfl rfl rfl hS (by simp [strsV, hL]) hc2 hnw rfl (by simp [Value.oneCell']) (by omega) (by simp only [maxLen]; omega) (fun b' q' w hS hq' _ => ?_)
    repeat (first | (refine G_id ?_; first | refine G_nil ?_ | refine G_plain rfl rfl ?_) | (refine X_id ?_; first | refine X_yl (Yl_move rfl rfl) rfl rfl ?_ | refine X_yl (Yl_assign rfl rfl) rfl rfl ?_ | refine X_yl (Yl_add rfl rfl rfl (w64 (by omega) (by omega))) rfl rfl ?_) | (refine C_id ?_; first | refine C_region ?_) | (refine E_id ?_; first | refine E_code ?_ | refine E_blk_n ?_) | (refine GO_id ?_; first | refine GO_nil ?_ | refine GO_pure rfl rfl (fun _ => Yl_assign rfl rfl) rfl rfl ?_) | (refine Keep_id ?_; first | refine And.intro (by repeat (first | exact trivial | refine And.intro (.inl (by decide +kernel)) ?_ | refine And.intro (.inr (by first | assumption | exact hS.cell | exact cell_at (by assumption) | exact hS.cellI (by omega) | exact hS.cellIP (by omega) | exact hS.cellsN | exact ((hr.rd hS).cellX (by omega) hx) | exact ((hr2.rd hS).cellX (by omega) hx2) | exact hS.cellB (by omega) | exact hS.cellBA (by omega) | exact (hb.rd hS).cellB' (by omega) | exact (hb2.rd hS).cellB' (by omega) | exact (hg.rd hS).cellI (by omega) | exact (hg2.rd hS).cellI (by omega) | exact ((hr.rd hS).cellF (by first | omega | (dsimp only; omega)) hx) | exact ((hr2.rd hS).cellF (by first | omega | (dsimp only; omega)) hx2) | exact hS.cellO 0 (by omega) | exact hS.cellO 1 (by omega) | exact hS.cellIA (by omega) | exact (hg.rd hS).cellIA (by omega) | exact (hg2.rd hS).cellIA (by omega) | exact cell_at (hc.rd hS).pts | exact hb.rd hS | exact (hr.rd hS).cellsF7 (by first | omega | (dsimp only; omega)) hst4 rfl | exact (hr2.rd hS).cellsF7 (by first | omega | (dsimp only; omega)) hst4 rfl | exact hS.cellO 4 (by omega) | exact hS.cellO 5 (by omega) | exact hS.cellO 6 (by omega) | exact hS.cellO 7 (by omega) | exact hS.cellO 8 (by omega) | exact hS.cellO 9 (by omega) | exact hS.cellO 10 (by omega) | exact hS.cellO 11 (by omega) | exact hS.cellO 12 (by omega) | exact hS.cellO 13 (by omega) | exact hS.cellO 2 (by omega) | exact hS.cellO 3 (by omega))) ?_)) ?_))
    refine E_round (z := (i, a2, c2, L)) (i + 1, b', q', L ++ [List.take (hN - 0) (List.drop 0 x)]) ⟨rfl, rfl, rfl, trivial⟩ ⟨by simp only; omega, by simp only; omega, by simp [hL], by simpa using hq', ?_⟩ (by simp only; omega)
    have hS := hS.pick [0]
    simpa [strsV] using hS
   ·repeat (first | (refine G_id ?_; first | refine G_nil ?_ | refine G_plain rfl rfl ?_ | refine G_yes rfl rfl rfl rfl ?_) | (refine X_id ?_; first | refine X_yl (Yl_move rfl rfl) rfl rfl ?_ | refine X_yl (Yl_pick_t rfl rfl rfl) rfl rfl ?_ | refine X_yl (Yl_len rfl rfl) rfl rfl ?_ | refine X_yl (Yl_lss_t rfl rfl rfl (by omega)) rfl rfl ?_ | refine X_yl (Yl_lss_f rfl rfl rfl (by omega)) rfl rfl ?_) | (refine C_id ?_; first | refine C_seq ?_ | refine C_region ?_ | refine C_exit ?_ | refine C_cond_f rfl ?_) | (refine E_id ?_; first | refine E_code ?_ | refine E_then_exit ?_ | refine E_blk_same ?_))
    exact E_mid (a2, i, c2) ⟨rfl, trivial⟩ hS.drops
  ·repeat (first | (refine G_id ?_; first | refine G_nil ?_ | refine G_plain rfl rfl ?_ | refine G_no rfl rfl rfl rfl rfl rfl ?_) | (refine X_id ?_; first | refine X_yl (Yl_move rfl rfl) rfl rfl ?_ | refine X_yl (Yl_pick_f rfl rfl rfl) rfl rfl ?_ | refine X_yl (Yl_len rfl rfl) rfl rfl ?_ | refine X_yl (Yl_lss_f rfl rfl rfl (by omega)) rfl rfl ?_) | (refine C_id ?_; first | refine C_seq ?_ | refine C_region ?_ | refine C_exit ?_ | refine C_cond_f rfl ?_) | (refine E_id ?_; first | refine E_code ?_ | refine E_then_exit ?_ | refine E_blk_same ?_))
   exact E_mid (a2, i, c2) ⟨rfl, trivial⟩ hS.drops
 ·clear hS
  rintro ⟨a2, n2, c2⟩ w hS
  repeat (first | (refine G_id ?_; first | refine G_nil ?_ | refine G_plain rfl rfl ?_) | (refine X_id ?_; first | refine X_yl (Yl_move rfl rfl) rfl rfl ?_ | refine X_yl (Yl_assign rfl rfl) rfl rfl ?_) | (refine C_id ?_; first | refine C_seq ?_ | refine C_region ?_ | refine C_ret ?_) | (refine E_id ?_; first | refine E_code ?_ | refine E_ret1 rfl (Rv_tmp rfl) (Ret.mk ?_)))
  exact ⟨_, _, _, rfl, hS⟩
end Cr
namespace Cr
open Go Go.Proofs Go.ChangeShapes Go.WideShapes Go.Deep
set_option maxRecDepth 100000
section
variable {H : Type} {enc : TypeId × Value → H} {w : World} {base : Nat} {sp : Nat → Bool} {held : Bool}
theorem cellsT_string : Tryz.prog.cellsOf 9 = 1 := by kernel_rfl
theorem flatMap_strs : ∀ l : List (List UInt8), l.flatMap (fun s => [Value.string (str s)]) = strsV l
 | [] => rfl
 | s :: l => by rw [List.flatMap_cons, flatMap_strs l]; rfl
theorem open_strs {fuel : Nat} {cs : List Value} {x : DataW H × List MemPlace} (h : DataW.trod enc Tryz.prog w base sp held fuel 34 cs = some x) :
  ∃ (a : Option Addr) (l : List (List UInt8)) (c : Nat), cs = [.slice a l.length c] ∧ l.length ≤ c ∧ Ro w noF (row a (strsV l)) := by
 obtain ⟨a, l, c, e, hl, _, hr, _⟩ := open_sliceG (fun s : List UInt8 => [Value.string (str s)]) (fun _ => True) 1 Tryz.underlying34 cellsT_string (by omega) (fun fuel cs y hh => by
  obtain ⟨s, hs, _⟩ := DataW.trod_string Tryz.underlying9 hh
  obtain ⟨l, rfl⟩ := str_of s
  exact ⟨l, hs, trivial⟩) h
 refine ⟨a, l, c, e, hl, ?_⟩
 rw [flatMap_strs] at hr
 exact hr.ro
end
end Cr
namespace Go.Proofs.YtooeiknmpndcgaaGreatDoor
open Go.ChangeShapes Go.WideShapes Go.ChangeAt Go.RowKit
set_option maxRecDepth 100000
def acceptL : List Value := [128, 191, 160, 191, 128, 159, 144, 191, 128, 143, 0, 0, 0, 0, 0, 0, 0, 0, 0, 0, 0, 0, 0, 0, 0, 0, 0, 0, 0, 0, 0, 0].map fun n => Value.int .u8 n
noncomputable def lawWorldU (os : Os) : World :=
 let w0 := lawWorldT os
 { w0 with heap := (w0.heap.modify 3 (tabOf (Go.Pinned.utf8FirstZ.map fun n => Value.int .u8 (n : Nat)))).modify 4 (tabOf acceptL) }
end Go.Proofs.YtooeiknmpndcgaaGreatDoor
namespace Cr
open Go Go.Proofs
set_option maxRecDepth 100000
set_option maxHeartbeats 16000000
attribute [local irreducible] Calls

abbrev ndZ : List Value := [.int .i64 0, .int .i64 0, .int .i64 0, .int .i64 0, .slice none 0 0]
abbrev stZ : List Value := [.int .i64 0, .int .i64 0, .int .i64 0, .int .i64 0]
abbrev plZ : List Value := [.int .i64 0, .int .i64 0, .int .i64 0, .int .i64 0, .int .i64 0, .slice none 0 0]
theorem known8_ (rd fs : List Int) (W : World) (hG : Gl W noF rd fs) : Calls Tryz.prog 20 #[] W (Ret fun v w => v = .bool true ∧ St W noF [] w) := Cl.calls_of_runX Cl.run08 W hG
theorem open8_nil (W : World) : Calls Tryz.prog 16 #[.pointer none] W (Ret fun v w => v = .tuple #[.pointer none, .int .i64 16] ∧ St W noF [] w) := by
 have hS := St.start W
 refine calls_C Tryz.func16 rfl Tryz.ntmps16 rfl ?_
 repeat (first | (refine G_id ?_; first | refine G_nil ?_ | refine G_plain rfl rfl ?_ | refine G_no rfl rfl rfl rfl rfl rfl ?_) | (refine X_id ?_; first | (refine X_callq 41 rfl rfl rfl rfl rfl hS (get_nil 0 _) ?_; rintro _ _ rfl hS) | refine X_yl (Yl_move rfl rfl) rfl rfl ?_ | refine X_yl (Yl_assign rfl rfl) rfl rfl ?_ | refine X_yl (Yl_extract rfl rfl) rfl rfl ?_ | refine X_yl (Yl_pick_f rfl rfl rfl) rfl rfl ?_ | refine X_yl (Yl_eql_f rfl rfl rfl (by omega)) rfl rfl ?_ | refine X_yl (Yl_neq_t rfl rfl rfl (by omega)) rfl rfl ?_ | refine X_store rfl rfl rfl rfl hS (fun _ hS _ => ?_) | refine X_alloc rfl rfl rfl hS (fun _ _ hS _ => ?_)) | (refine C_id ?_; first | refine C_seq ?_ | refine C_region ?_ | refine C_block ?_ | refine C_ret ?_ | refine C_skip ?_ | refine C_cond_t rfl ?_ | refine C_cond_f rfl ?_) | (refine E_id ?_; first | refine E_code ?_ | refine E_then_ret ?_ | refine E_blk_n ?_ | refine E_ret2 rfl (Rv_tmp rfl) (Rv_tmp rfl) (Ret.mk ?_)))
 exact ⟨rfl, hS.drops⟩
theorem goes8_nil (x : Value) (W : World) : Calls Tryz.prog 45 #[.pointer none, x] W (Ret fun v w => v = .tuple #[.agg plZ.toArray, .int .i64 16] ∧ St W noF [] w) := by
 have hS := St.start W
 refine calls_C Tryz.func45 rfl Tryz.ntmps45 rfl ?_
 repeat (first | (refine G_id ?_; first | refine G_nil ?_ | refine G_plain rfl rfl ?_) | (refine X_id ?_; first | refine X_yl (Yl_move rfl rfl) rfl rfl ?_ | refine X_yl (Yl_assign rfl rfl) rfl rfl ?_ | refine X_yl (Yl_build rfl rfl rfl) rfl rfl ?_ | refine X_yl (Yl_eqlNil_none rfl rfl rfl) rfl rfl ?_ | refine X_store rfl rfl rfl rfl hS (fun _ hS _ => ?_) | refine X_alloc rfl rfl rfl hS (fun _ _ hS _ => ?_)) | (refine C_id ?_; first | refine C_seq ?_ | refine C_region ?_ | refine C_ret ?_ | refine C_cond_t rfl ?_) | (refine E_id ?_; first | refine E_code ?_ | refine E_then_ret ?_ | refine E_ret2 rfl (by first | exact Rv_tmp rfl | exact Rv_cell rfl (run_load1 hS.cell) | exact Rv_cell rfl (run_loadN hS.cellsN)) (by first | exact Rv_tmp rfl | exact Rv_cell rfl (run_load1 hS.cell) | exact Rv_cell rfl (run_loadN hS.cellsN)) (Ret.mk ?_)))
 exact ⟨rfl, hS.drops⟩
theorem last8_nil (x : Value) (W : World) : Calls Tryz.prog 59 #[.pointer none, x] W (Ret fun v w => v = .tuple #[.agg plZ.toArray, .slice none 0 0, .string ⟨#[]⟩, .int .i64 16] ∧ St W noF [] w) := by
 have hS := St.start W
 refine calls_C Tryz.func59 rfl Tryz.ntmps59 rfl ?_
 repeat (first | (refine G_id ?_; first | refine G_nil ?_ | refine G_plain rfl rfl ?_) | (refine X_id ?_; first | refine X_yl (Yl_move rfl rfl) rfl rfl ?_ | refine X_yl (Yl_assign rfl rfl) rfl rfl ?_ | refine X_yl (Yl_build rfl rfl rfl) rfl rfl ?_ | refine X_yl (Yl_eqlNil_none rfl rfl rfl) rfl rfl ?_ | refine X_store rfl rfl rfl rfl hS (fun _ hS _ => ?_) | refine X_alloc rfl rfl rfl hS (fun _ _ hS _ => ?_)) | (refine C_id ?_; first | refine C_seq ?_ | refine C_region ?_ | refine C_ret ?_ | refine C_cond_t rfl ?_) | (refine E_id ?_; first | refine E_code ?_ | refine E_then_ret ?_ | refine E_ret4 rfl (by first | exact Rv_tmp rfl | exact Rv_cell rfl (run_load1 hS.cell) | exact Rv_cell rfl (run_loadN hS.cellsN)) (by first | exact Rv_tmp rfl | exact Rv_cell rfl (run_load1 hS.cell) | exact Rv_cell rfl (run_loadN hS.cellsN)) (by first | exact Rv_tmp rfl | exact Rv_cell rfl (run_load1 hS.cell) | exact Rv_cell rfl (run_loadN hS.cellsN)) (by first | exact Rv_tmp rfl | exact Rv_cell rfl (run_load1 hS.cell) | exact Rv_cell rfl (run_loadN hS.cellsN)) (Ret.mk ?_)))
 exact ⟨rfl, hS.drops⟩
theorem get8_nil (x : Value) (W : World) : Calls Tryz.prog 17 #[.pointer none, x] W (Ret fun v w => v = .tuple #[.agg ndZ.toArray, .int .i64 16] ∧ St W noF [] w) := by
 have hS := St.start W
 refine calls_C Tryz.func17 rfl Tryz.ntmps17 rfl ?_
 repeat (first | (refine G_id ?_; first | refine G_nil ?_ | refine G_plain rfl rfl ?_) | (refine X_id ?_; first | (refine X_callq 45 rfl rfl rfl rfl rfl hS (goes8_nil _ _) ?_; rintro _ _ rfl hS) | refine X_yl (Yl_move rfl rfl) rfl rfl ?_ | refine X_yl (Yl_assign rfl rfl) rfl rfl ?_ | refine X_yl (Yl_extract rfl rfl) rfl rfl ?_ | refine X_yl (Yl_neq_t rfl rfl rfl (by omega)) rfl rfl ?_ | refine X_yl (Yl_build rfl rfl rfl) rfl rfl ?_ | refine X_store rfl rfl rfl rfl hS (fun _ hS _ => ?_) | refine X_alloc rfl rfl rfl hS (fun _ _ hS _ => ?_)) | (refine C_id ?_; first | refine C_seq ?_ | refine C_region ?_ | refine C_ret ?_ | refine C_cond_t rfl ?_) | (refine E_id ?_; first | refine E_code ?_ | refine E_then_ret ?_ | refine E_ret2 rfl (by first | exact Rv_tmp rfl | exact Rv_cell rfl (run_load1 hS.cell) | exact Rv_cell rfl (run_loadN hS.cellsN)) (by first | exact Rv_tmp rfl | exact Rv_cell rfl (run_load1 hS.cell) | exact Rv_cell rfl (run_loadN hS.cellsN)) (Ret.mk ?_)))
 exact ⟨rfl, hS.drops⟩
theorem follow8_nil (x : Value) (W : World) : Calls Tryz.prog 18 #[.pointer none, x] W (Ret fun v w => v = .tuple #[.slice none 0 0, .agg ndZ.toArray, .int .i64 16] ∧ St W noF [] w) := by
 have hS := St.start W
 refine calls_C Tryz.func18 rfl Tryz.ntmps18 rfl ?_
 repeat (first | (refine G_id ?_; first | refine G_nil ?_ | refine G_plain rfl rfl ?_) | (refine X_id ?_; first | refine X_yl (Yl_move rfl rfl) rfl rfl ?_ | refine X_yl (Yl_assign rfl rfl) rfl rfl ?_ | refine X_yl (Yl_build rfl rfl rfl) rfl rfl ?_ | refine X_yl (Yl_eqlNil_none rfl rfl rfl) rfl rfl ?_ | refine X_store rfl rfl rfl rfl hS (fun _ hS _ => ?_) | refine X_alloc rfl rfl rfl hS (fun _ _ hS _ => ?_)) | (refine C_id ?_; first | refine C_seq ?_ | refine C_scope rfl ?_ | refine C_region ?_ | refine C_block ?_ | refine C_ret ?_ | refine C_cond_t rfl ?_) | (refine E_id ?_; first | refine E_code ?_ | refine E_then_ret ?_ | refine E_noGoto (fun _ h => by cases h) ?_ | refine E_blk_ret ?_ | refine E_ret3 rfl (by first | exact Rv_tmp rfl | exact Rv_cell rfl (run_load1 hS.cell) | exact Rv_cell rfl (run_loadN hS.cellsN)) (by first | exact Rv_tmp rfl | exact Rv_cell rfl (run_load1 hS.cell) | exact Rv_cell rfl (run_loadN hS.cellsN)) (by first | exact Rv_tmp rfl | exact Rv_cell rfl (run_load1 hS.cell) | exact Rv_cell rfl (run_loadN hS.cellsN)) (Ret.mk ?_)))
 exact ⟨rfl, hS.drops⟩
theorem list8_nil (x : Value) (W : World) : Calls Tryz.prog 19 #[.pointer none, x] W (Ret fun v w => v = .tuple #[.slice none 0 0, .int .i64 16] ∧ St W noF [] w) := by
 have hS := St.start W
 refine calls_C Tryz.func19 rfl Tryz.ntmps19 rfl ?_
 repeat (first | (refine G_id ?_; first | refine G_nil ?_ | refine G_plain rfl rfl ?_) | (refine X_id ?_; first | (refine X_callq 45 rfl rfl rfl rfl rfl hS (goes8_nil _ _) ?_; rintro _ _ rfl hS) | refine X_yl (Yl_move rfl rfl) rfl rfl ?_ | refine X_yl (Yl_assign rfl rfl) rfl rfl ?_ | refine X_yl (Yl_extract rfl rfl) rfl rfl ?_ | refine X_yl (Yl_neq_t rfl rfl rfl (by omega)) rfl rfl ?_ | refine X_store rfl rfl rfl rfl hS (fun _ hS _ => ?_) | refine X_alloc rfl rfl rfl hS (fun _ _ hS _ => ?_)) | (refine C_id ?_; first | refine C_seq ?_ | refine C_region ?_ | refine C_ret ?_ | refine C_cond_t rfl ?_) | (refine E_id ?_; first | refine E_code ?_ | refine E_then_ret ?_ | refine E_ret2 rfl (Rv_tmp rfl) (Rv_tmp rfl) (Ret.mk ?_)))
 exact ⟨rfl, hS.drops⟩
theorem begin8_nil (W : World) : Calls Tryz.prog 21 #[.pointer none] W (Ret fun v w => v = .pointer none ∧ W = w) := by
 refine calls_C Tryz.func21 rfl Tryz.ntmps21 rfl ?_
 repeat (first | (refine G_id ?_; first | refine G_nil ?_ | refine G_plain rfl rfl ?_) | (refine X_id ?_; first | refine X_yl (Yl_move rfl rfl) rfl rfl ?_ | refine X_yl (Yl_assign rfl rfl) rfl rfl ?_ | refine X_yl (Yl_eqlNil_none rfl rfl rfl) rfl rfl ?_) | (refine C_id ?_; first | refine C_seq ?_ | refine C_region ?_ | refine C_ret ?_ | refine C_cond_t rfl ?_) | (refine E_id ?_; first | refine E_code ?_ | refine E_then_ret ?_ | refine E_ret1 rfl (Rv_tmp rfl) (Ret.mk ?_)))
 exact ⟨rfl, rfl⟩
theorem walk8_nil (W : World) : Calls Tryz.prog 22 #[.pointer none] W (Ret fun v w => v = .slice none 0 0 ∧ St W noF [] w) := by
 have hS := St.start W
 refine calls_C Tryz.func22 rfl Tryz.ntmps22 rfl ?_
 repeat (first | (refine G_id ?_; first | refine G_nil ?_ | refine G_plain rfl rfl ?_) | (refine X_id ?_; first | (refine X_callg 21 rfl rfl rfl rfl rfl (begin8_nil _) ?_; rintro _ _ ⟨rfl, rfl⟩) | refine X_yl (Yl_move rfl rfl) rfl rfl ?_ | refine X_yl (Yl_assign rfl rfl) rfl rfl ?_ | refine X_yl (Yl_eqlNil_none rfl rfl rfl) rfl rfl ?_ | refine X_yl (Yl_load rfl rfl hS.cell) rfl rfl ?_ | refine X_store rfl rfl rfl rfl hS (fun _ hS _ => ?_) | refine X_alloc rfl rfl rfl hS (fun _ _ hS _ => ?_)) | (refine C_id ?_; first | refine C_seq ?_ | refine C_region ?_ | refine C_ret ?_ | refine C_cond_t rfl ?_) | (refine E_id ?_; first | refine E_code ?_ | refine E_then_ret ?_ | refine E_ret1 rfl (Rv_tmp rfl) (Ret.mk ?_)))
 exact ⟨rfl, hS.drops⟩
theorem make8_nil (x : Value) (W : World) : Calls Tryz.prog 23 #[.pointer none, .agg ndZ.toArray, x] W (Ret fun v w => v = .int .i64 16 ∧ St W noF [] w) := by
 have hS := St.start W
 refine calls_C Tryz.func23 rfl Tryz.ntmps23 rfl ?_
 repeat (first | (refine G_id ?_; first | refine G_nil ?_ | refine G_plain rfl rfl ?_) | (refine X_id ?_; first | refine X_yl (Yl_move rfl rfl) rfl rfl ?_ | refine X_yl (Yl_assign rfl rfl) rfl rfl ?_ | refine X_yl (Yl_eqlNil_none rfl rfl rfl) rfl rfl ?_ | refine X_box rfl rfl rfl rfl hS (fun _ _ hS _ => ?_)) | (refine C_id ?_; first | refine C_seq ?_ | refine C_region ?_ | refine C_ret ?_ | refine C_cond_t rfl ?_) | (refine E_id ?_; first | refine E_code ?_ | refine E_then_ret ?_ | refine E_ret1 rfl (Rv_tmp rfl) (Ret.mk ?_)))
 exact ⟨rfl, hS.drops⟩
theorem put8_nil (x y : Value) (W : World) : Calls Tryz.prog 24 #[.pointer none, y, x] W (Ret fun v w => v = .int .i64 16 ∧ St W noF [] w) := by
 have hS := St.start W
 refine calls_C Tryz.func24 rfl Tryz.ntmps24 rfl ?_
 repeat (first | (refine G_id ?_; first | refine G_nil ?_ | refine G_plain rfl rfl ?_) | (refine X_id ?_; first | (refine X_callq 45 rfl rfl rfl rfl rfl hS (goes8_nil _ _) ?_; rintro _ _ rfl hS) | refine X_yl (Yl_move rfl rfl) rfl rfl ?_ | refine X_yl (Yl_assign rfl rfl) rfl rfl ?_ | refine X_yl (Yl_extract rfl rfl) rfl rfl ?_ | refine X_yl (Yl_neq_t rfl rfl rfl (by omega)) rfl rfl ?_ | refine X_store rfl rfl rfl rfl hS (fun _ hS _ => ?_) | refine X_alloc rfl rfl rfl hS (fun _ _ hS _ => ?_)) | (refine C_id ?_; first | refine C_seq ?_ | refine C_region ?_ | refine C_block ?_ | refine C_ret ?_ | refine C_cond_t rfl ?_) | (refine E_id ?_; first | refine E_code ?_ | refine E_then_ret ?_ | refine E_blk_ret ?_ | refine E_ret1 rfl (Rv_tmp rfl) (Ret.mk ?_)))
 exact ⟨rfl, hS.drops⟩
theorem set8_nil (x : Value) (W : World) : Calls Tryz.prog 25 #[.pointer none, .agg stZ.toArray, x] W (Ret fun v w => v = .int .i64 16 ∧ St W noF [] w) := by
 have hS := St.start W
 refine calls_C Tryz.func25 rfl Tryz.ntmps25 rfl ?_
 repeat (first | (refine G_id ?_; first | refine G_nil ?_ | refine G_plain rfl rfl ?_) | (refine X_id ?_; first | refine X_yl (Yl_move rfl rfl) rfl rfl ?_ | refine X_yl (Yl_assign rfl rfl) rfl rfl ?_ | refine X_yl (Yl_eqlNil_none rfl rfl rfl) rfl rfl ?_ | refine X_box rfl rfl rfl rfl hS (fun _ _ hS _ => ?_)) | (refine C_id ?_; first | refine C_seq ?_ | refine C_region ?_ | refine C_ret ?_ | refine C_cond_t rfl ?_) | (refine E_id ?_; first | refine E_code ?_ | refine E_then_ret ?_ | refine E_ret1 rfl (Rv_tmp rfl) (Ret.mk ?_)))
 exact ⟨rfl, hS.drops⟩
theorem remove8_nil (x : Value) (W : World) : Calls Tryz.prog 26 #[.pointer none, x] W (Ret fun v w => v = .int .i64 16 ∧ St W noF [] w) := by
 have hS := St.start W
 refine calls_C Tryz.func26 rfl Tryz.ntmps26 rfl ?_
 repeat (first | (refine G_id ?_; first | refine G_nil ?_ | refine G_plain rfl rfl ?_) | (refine X_id ?_; first | (refine X_callq 59 rfl rfl rfl rfl rfl hS (last8_nil _ _) ?_; rintro _ _ rfl hS) | refine X_yl (Yl_move rfl rfl) rfl rfl ?_ | refine X_yl (Yl_assign rfl rfl) rfl rfl ?_ | refine X_yl (Yl_extract rfl rfl) rfl rfl ?_ | refine X_yl (Yl_neq_t rfl rfl rfl (by omega)) rfl rfl ?_ | refine X_store rfl rfl rfl rfl hS (fun _ hS _ => ?_) | refine X_alloc rfl rfl rfl hS (fun _ _ hS _ => ?_)) | (refine C_id ?_; first | refine C_seq ?_ | refine C_region ?_ | refine C_ret ?_ | refine C_cond_t rfl ?_) | (refine E_id ?_; first | refine E_code ?_ | refine E_then_ret ?_ | refine E_ret1 rfl (Rv_tmp rfl) (Ret.mk ?_)))
 exact ⟨rfl, hS.drops⟩
theorem rename8_nil (x y : Value) (W : World) : Calls Tryz.prog 27 #[.pointer none, x, y] W (Ret fun v w => v = .int .i64 16 ∧ St W noF [] w) := by
 have hS := St.start W
 refine calls_C Tryz.func27 rfl Tryz.ntmps27 rfl ?_
 repeat (first | (refine G_id ?_; first | refine G_nil ?_ | refine G_plain rfl rfl ?_) | (refine X_id ?_; first | refine X_yl (Yl_move rfl rfl) rfl rfl ?_ | refine X_yl (Yl_assign rfl rfl) rfl rfl ?_ | refine X_yl (Yl_eqlNil_none rfl rfl rfl) rfl rfl ?_) | (refine C_id ?_; first | refine C_seq ?_ | refine C_region ?_ | refine C_ret ?_ | refine C_cond_t rfl ?_) | (refine E_id ?_; first | refine E_code ?_ | refine E_then_ret ?_ | refine E_ret1 rfl (Rv_tmp rfl) (Ret.mk ?_)))
 exact ⟨rfl, hS.drops⟩
theorem stale8_nil (W : World) : Calls Tryz.prog 72 #[.pointer none] W (Ret fun v w => v = .bool true ∧ St W noF [] w) := by
 have hS := St.start W
 refine calls_C Tryz.func72 rfl Tryz.ntmps72 rfl ?_
 repeat (first | (refine G_id ?_; first | refine G_nil ?_ | refine G_plain rfl rfl ?_) | (refine X_id ?_; first | refine X_yl (Yl_assign rfl rfl) rfl rfl ?_) | (refine C_id ?_; first | refine C_seq ?_ | refine C_region ?_) | (refine E_id ?_; first | refine E_code ?_))
 refine C_ord (.s 0 (.s 1 (.s 2 (.s 3 (.s 4 (.s 5 (.s 6 (.s 7 (.s 8 (.s 9 (.s 10 (.s 11 (.s 12 (.s 13 (.s 14 (.s 15 (.s 16 (.s 17 (.s 18 (.s 19 (.s 20 (.s 21 (.s 22 .nil))))))))))))))))))))))) mixed (by kernel_rfl) rfl ?_
 have hS := hS.drew
 repeat (first | (refine C_id ?_; first | refine C_ret ?_) | (refine E_id ?_; first | refine E_code ?_ | refine E_ret1 rfl (Rv_tmp rfl) (Ret.mk ?_)) | (refine GO_id ?_; first | refine GO_nil ?_ | refine GO_pure rfl rfl (fun _ => Yl_move rfl rfl) rfl rfl ?_ | refine GO_pure rfl rfl (fun _ => Yl_assign rfl rfl) rfl rfl ?_ | refine GO_pure rfl rfl (fun _ => Yl_pick_t rfl rfl rfl) rfl rfl ?_ | refine GO_pure rfl rfl (fun _ => Yl_eqlNil_none rfl rfl rfl) rfl rfl ?_ | refine GO_no rfl rfl rfl rfl rfl rfl rfl ?_))
 exact ⟨rfl, hS.drops⟩
theorem commit8_nil (W : World) : Calls Tryz.prog 28 #[.pointer none] W (Ret fun v w => v = .int .i64 16 ∧ St W noF [] w) := by
 have hS := St.start W
 refine calls_C Tryz.func28 rfl Tryz.ntmps28 rfl ?_
 repeat (first | (refine G_id ?_; first | refine G_nil ?_ | refine G_plain rfl rfl ?_) | (refine X_id ?_; first | (refine X_callq 72 rfl rfl rfl rfl rfl hS (stale8_nil _) ?_; rintro _ _ rfl hS) | refine X_yl (Yl_move rfl rfl) rfl rfl ?_ | refine X_yl (Yl_assign rfl rfl) rfl rfl ?_) | (refine C_id ?_; first | refine C_seq ?_ | refine C_region ?_ | refine C_ret ?_ | refine C_cond_t rfl ?_) | (refine E_id ?_; first | refine E_code ?_ | refine E_then_ret ?_ | refine E_ret1 rfl (Rv_tmp rfl) (Ret.mk ?_)))
 exact ⟨rfl, hS.drops⟩
theorem count8_nil (W : World) : Calls Tryz.prog 29 #[.pointer none] W (Ret fun v w => v = .int .i64 0 ∧ St W noF [] w) := by
 have hS := St.start W
 refine calls_C Tryz.func29 rfl Tryz.ntmps29 rfl ?_
 repeat (first | (refine G_id ?_; first | refine G_nil ?_ | refine G_plain rfl rfl ?_) | (refine X_id ?_; first | (refine X_callq 72 rfl rfl rfl rfl rfl hS (stale8_nil _) ?_; rintro _ _ rfl hS) | refine X_yl (Yl_move rfl rfl) rfl rfl ?_ | refine X_yl (Yl_assign rfl rfl) rfl rfl ?_) | (refine C_id ?_; first | refine C_seq ?_ | refine C_region ?_ | refine C_ret ?_ | refine C_cond_t rfl ?_) | (refine E_id ?_; first | refine E_code ?_ | refine E_then_ret ?_ | refine E_ret1 rfl (Rv_tmp rfl) (Ret.mk ?_)))
 exact ⟨rfl, hS.drops⟩
end Cr
namespace Cr
open Go Go.Proofs
set_option maxRecDepth 100000
set_option maxHeartbeats 16000000
attribute [local irreducible] Calls

theorem treeNil_ (a : Option Addr) (c : Nat) (l : List (List UInt8)) (rd fs : List Int) (W : World) (hG : Gl W noF rd fs) (hr : Ro W noF (row a (strsV l))) (hlc : l.length ≤ c) :
  Calls Tryz.prog 4 #[.slice a l.length c] W (Ret fun v w => v = .bool true ∧ St W noF [] w) := by
 have hS := St.start W
 refine calls_C Tryz.func4 rfl Tryz.ntmps4 rfl ?_
 repeat (first | (refine G_id ?_; first | refine G_nil ?_ | refine G_plain rfl rfl ?_) | (refine X_id ?_; first | refine X_yl (Yl_move rfl rfl) rfl rfl ?_ | refine X_yl (Yl_assign rfl rfl) rfl rfl ?_) | (refine C_id ?_; first | refine C_seq ?_ | refine C_region ?_) | (refine E_id ?_; first | refine E_code ?_))
 refine X_callg _ rfl rfl rfl rfl rfl (few5_ a c l _ (hr.rd hS).ro hlc) ?_
 rintro _ w ⟨a1, n1, c1, rfl, hS'⟩
 replace hS := hS.plus hS'
 clear hS'
 repeat (first | (refine G_id ?_; first | refine G_nil ?_ | refine G_plain rfl rfl ?_ | refine G_yes rfl rfl rfl rfl ?_) | (refine X_id ?_; first | (refine X_callq 16 rfl rfl rfl rfl rfl hS (open8_nil _) ?_; rintro _ _ rfl hS) | (refine X_callq 17 rfl rfl rfl rfl rfl hS (get8_nil _ _) ?_; rintro _ _ rfl hS) | (refine X_callq 18 rfl rfl rfl rfl rfl hS (follow8_nil _ _) ?_; rintro _ _ rfl hS) | (refine X_callq 19 rfl rfl rfl rfl rfl hS (list8_nil _ _) ?_; rintro _ _ rfl hS) | (refine X_callq 20 rfl rfl rfl rfl rfl hS (known8_ rd fs _ (hG.mono fun r hr => (hr.rd hS).ro)) ?_; rintro _ _ rfl hS) | (refine X_callq 22 rfl rfl rfl rfl rfl hS (walk8_nil _) ?_; rintro _ _ rfl hS) | (refine X_callq 23 rfl rfl rfl rfl rfl hS (make8_nil _ _) ?_; rintro _ _ rfl hS) | (refine X_callq 24 rfl rfl rfl rfl rfl hS (put8_nil _ _ _) ?_; rintro _ _ rfl hS) | (refine X_callq 25 rfl rfl rfl rfl rfl hS (set8_nil _ _) ?_; rintro _ _ rfl hS) | (refine X_callq 26 rfl rfl rfl rfl rfl hS (remove8_nil _ _) ?_; rintro _ _ rfl hS) | (refine X_callq 27 rfl rfl rfl rfl rfl hS (rename8_nil _ _ _) ?_; rintro _ _ rfl hS) | (refine X_callq 28 rfl rfl rfl rfl rfl hS (commit8_nil _) ?_; rintro _ _ rfl hS) | (refine X_callq 29 rfl rfl rfl rfl rfl hS (count8_nil _) ?_; rintro _ _ rfl hS) | (refine X_callg 21 rfl rfl rfl rfl rfl (begin8_nil _) ?_; rintro _ _ ⟨rfl, rfl⟩) | refine X_yl (Yl_move rfl rfl) rfl rfl ?_ | refine X_yl (Yl_assign rfl rfl) rfl rfl ?_ | refine X_yl (Yl_extract rfl rfl) rfl rfl ?_ | refine X_yl (Yl_pick_t rfl rfl rfl) rfl rfl ?_ | refine X_yl (Yl_len rfl rfl) rfl rfl ?_ | refine X_yl (Yl_eql_t rfl rfl rfl (by omega)) rfl rfl ?_ | refine X_yl (Yl_build rfl rfl rfl) rfl rfl ?_ | refine X_yl (Yl_eqlNil_none rfl rfl rfl) rfl rfl ?_ | refine X_store rfl rfl rfl rfl hS (fun _ hS _ => ?_) | refine X_alloc rfl rfl rfl hS (fun _ _ hS _ => ?_)) | (refine C_id ?_; first | refine C_seq ?_ | refine C_region ?_ | refine C_ret ?_) | (refine E_id ?_; first | refine E_code ?_ | refine E_ret1 rfl (Rv_tmp rfl) (Ret.mk ?_)))
 exact ⟨rfl, hS.drops⟩
end Cr
