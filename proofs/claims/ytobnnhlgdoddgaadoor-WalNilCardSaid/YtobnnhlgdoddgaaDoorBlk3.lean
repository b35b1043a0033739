/-
  Layer 1 (block): Write, Flush.
-/
import Derived.Test.YtobnnhlgdoddgaaDoorBlk2
namespace Cr
open Go Go.Proofs
set_option maxRecDepth 100000
set_option maxHeartbeats 4000000

theorem add64_ (b off : Nat) (x y : Int) (l l' : List Value) (T : TypeId) (W : World) (F : Nat → Prop) [hn : Nth l off (.int .i64 x)] [hs : Spl l off [.int .i64 (IntKind.i64.wrap (x + y))] l'] (hS : St W F [pts b (.cells l.toArray T)] W) :
    Calls Tryd.prog 56 #[.pointer (some ⟨b, off, none⟩), .int .i64 y] W (Ret fun v w => v = .int .i64 (IntKind.i64.wrap (x + y)) ∧ St W F [pts b (.cells l'.toArray T)] w) := by
  refine calls_C Tryd.func56 rfl Tryd.ntmps56 rfl ?_
  repeat (first | (refine G_id ?_; first | refine G_nil ?_ | refine G_plain rfl rfl ?_) | (refine X_id ?_; first | refine X_yl (Yl_move rfl rfl) rfl rfl ?_ | refine X_yl (Yl_assign rfl rfl) rfl rfl ?_ | refine X_yl (Yl_nilCheck rfl rfl) rfl rfl ?_ | refine X_yl (Yl_fieldAddr rfl rfl rfl) rfl rfl ?_ | refine X_eadd rfl rfl rfl rfl rfl rfl hS (fun _ hS => ?_)) | (refine C_id ?_; first | refine C_seq ?_ | refine C_region ?_ | refine C_ret ?_) | (refine E_id ?_; first | refine E_code ?_ | refine E_ret1 rfl (Rv_tmp rfl) (Ret.mk ?_)))
  exact ⟨rfl, hS⟩

def DiskM.used (D : DiskM) : DiskM := { D with off := useOff D.off D.armed D.left, left := useLeft D.off D.armed D.left }
def DiskM.write (D : DiskM) (no : Int) (b : List UInt8) : Int × DiskM :=
  if D.off then (9, D) else if inDisk D no = false ∨ b.length ≠ 64 then (1, D) else if useB D.off D.armed D.left = false then (9, D.used)
  else (0, { D.used with line := D.line ++ [(no, b)], writes := IntKind.i64.wrap (D.writes + 1) })
theorem DiskM.write_use {D : DiskM} {no : Int} {b : List UInt8} (h : D.off = false) (hin : inDisk D no = true) (hb : b.length = 64) (hu : useB D.off D.armed D.left = false) : D.write no b = (9, D.used) := by
  unfold DiskM.write
  rw [if_neg (by simp [h]), if_neg (by simp [hin, hb]), if_pos hu]
theorem DiskM.write_yes {D : DiskM} {no : Int} {b : List UInt8} (h : D.off = false) (hin : inDisk D no = true) (hb : b.length = 64) (hu : useB D.off D.armed D.left = true) : D.write no b = (0, { D.used with line := D.line ++ [(no, b)], writes := IntKind.i64.wrap (D.writes + 1) }) := by
  unfold DiskM.write
  rw [if_neg (by simp [h]), if_neg (by simp [hin, hb]), if_neg (by simp [hu])]
theorem DiskM.used_ok {D : DiskM} (h : D.ok) : D.used.ok := by
  obtain ⟨h1, h2, h3, h4, h5, h6⟩ := h
  refine ⟨h1, h2, h3, h4, ?_, ?_⟩ <;> simp only [DiskM.used, useLeft] <;> split <;> omega
theorem DiskM.line_ok {D : DiskM} (h : D.ok) {no : Int} {b : List UInt8} {wr : Int} (hn : inDisk D no = true) (hb : b.length = 64) : ({ D with line := D.line ++ [(no, b)], writes := wr } : DiskM).ok := by
  obtain ⟨h1, h2, h3, h4, h5, h6⟩ := h
  refine ⟨h1, fun x hx => ?_, h3, h4, h5, h6⟩
  simp only [List.mem_append, List.mem_singleton] at hx
  rcases hx with hx | rfl
  · exact h2 x hx
  · have : 0 ≤ no ∧ no < D.laid.length := by simpa [inDisk] using hn
    exact ⟨hb, this.1, this.2⟩
/-- A disk opened: its own block, its sectors, its line. -/
theorem St.openDisk {W : World} {F : Nat → Prop} {p : Nat} {D : DiskM} {rs : List Res} {w : World} (hS : St W F (disk p D :: rs) w) : D.ok ∧ ∃ al cl ai ci, D.laid.length ≤ cl ∧ D.line.length ≤ ci ∧
    St W F (pts p (.cells #[.bool D.off, .bool D.armed, .int .i64 D.left, .slice al D.laid.length cl, .slice ai D.line.length ci, .int .i64 D.writes, .int .i64 D.flushes] 59) ::
      own 99 64 al cl (laidCells D.laid) :: own 101 65 ai ci (lineCells D.line) :: rs) w := by
  obtain ⟨h, ⟨h1, h2, ⟨hok, al, cl, ai, ci, c1, c2, hs⟩, hr, hd, hu⟩, s⟩ := hS
  exact ⟨hok, al, cl, ai, ci, c1, c2, h, Sep.append_mk (rs := [_, _, _]) hs hr hd hu, s⟩
theorem St.shutDisk {W : World} {F : Nat → Prop} {p : Nat} {D : DiskM} {rs : List Res} {w : World} {al ai : Option Addr} {cl ci : Nat} (hok : D.ok) (c1 : D.laid.length ≤ cl) (c2 : D.line.length ≤ ci)
    (hS : St W F (pts p (.cells #[.bool D.off, .bool D.armed, .int .i64 D.left, .slice al D.laid.length cl, .slice ai D.line.length ci, .int .i64 D.writes, .int .i64 D.flushes] 59) ::
      own 99 64 al cl (laidCells D.laid) :: own 101 65 ai ci (lineCells D.line) :: rs) w) : St W F (disk p D :: rs) w :=
  St.shutR (rs' := [_, _, _]) (rs := rs) hS fun _ hh => ⟨hok, al, cl, ai, ci, c1, c2, hh⟩
theorem lineCells_append (l m : List (Int × List UInt8)) : lineCells (l ++ m) = lineCells l ++ lineCells m := by simp [lineCells]
theorem lineCells_length {l : List (Int × List UInt8)} (h : ∀ x ∈ l, x.2.length = 64) : (lineCells l).length = l.length * 65 := by
  induction l with
  | nil => rfl
  | cons x l ih =>
    have := ih fun y hy => h y (List.mem_cons_of_mem _ hy)
    have h0 := h x (List.mem_cons_self ..)
    simp only [lineCells, List.flatMap_cons, List.length_append, List.length_cons, bv_length, h0] at this ⊢
    omega
theorem laidCells_length {l : List (List UInt8)} (h : ∀ x ∈ l, x.length = 64) : (laidCells l).length = l.length * 64 := by
  induction l with
  | nil => rfl
  | cons x l ih =>
    have := ih fun y hy => h y (List.mem_cons_of_mem _ hy)
    have h0 := h x (List.mem_cons_self ..)
    simp only [laidCells, List.flatMap_cons, List.length_append, List.length_cons, bv_length, h0] at this ⊢
    omega

theorem one_int {k : IntKind} {n : Int} {l : List Value} (h : ∀ u ∈ l, u.oneCell' = true) : ∀ u ∈ Value.int k n :: l, u.oneCell' = true := fun u hu => by
  rcases List.mem_cons.mp hu with rfl | hu
  · rfl
  · exact h u hu
theorem write_ (p : Nat) (D : DiskM) (no : Int) (a : Option Addr) (n c : Nat) (b : List UInt8) (W : World) (F : Nat → Prop) (hS : St W F [disk p D] W) (hb : Ro W F (bytes a b)) (hn : b.length = n) (hline : D.line.length < 1073741824) :
    Calls Tryd.prog 39 #[.pointer (some ⟨p, 0, none⟩), .int .i64 no, .slice a n c] W (Ret fun v w => v = .int .i64 (D.write no b).1 ∧ St W F [disk p (D.write no b).2] w) := by
  have hd := hS.rd (List.mem_cons_self ..)
  cases hoff : D.off
  · have hon := on_ p D W hd
    rw [hoff] at hon
    cases hin : inDisk D no
    · have hhas := has_ p D no W hd
      rw [hin] at hhas
      refine calls_C Tryd.func39 rfl Tryd.ntmps39 rfl ?_
      repeat (first | (refine G_id ?_; first | refine G_nil ?_ | refine G_plain rfl rfl ?_ | refine G_no rfl rfl rfl rfl rfl rfl ?_) | (refine X_id ?_; first | (refine X_callg 19 rfl rfl rfl rfl rfl hon ?_; rintro _ _ ⟨rfl, rfl⟩) | (refine X_callg 43 rfl rfl rfl rfl rfl hhas ?_; rintro _ _ ⟨rfl, rfl⟩) | refine X_yl (Yl_move rfl rfl) rfl rfl ?_ | refine X_yl (Yl_assign rfl rfl) rfl rfl ?_ | refine X_yl (Yl_pick_t rfl rfl rfl) rfl rfl ?_ | refine X_yl (Yl_not_t rfl rfl) rfl rfl ?_ | refine X_yl (Yl_not_f rfl rfl) rfl rfl ?_) | (refine C_id ?_; first | refine C_seq ?_ | refine C_region ?_ | refine C_block ?_ | refine C_ret ?_ | refine C_cond_t rfl ?_ | refine C_cond_f rfl ?_) | (refine E_id ?_; first | refine E_code ?_ | refine E_then_ret ?_ | refine E_blk_ret ?_ | refine E_ret1 rfl (Rv_tmp rfl) (Ret.mk ?_)))
      refine ⟨by simp [DiskM.write, hoff, hin], by simpa [DiskM.write, hoff, hin] using hS⟩
    · have hhas := has_ p D no W hd
      rw [hin] at hhas
      by_cases hb64 : b.length = 64
      · have hn64 : n = 64 := by omega
        subst hn64
        obtain ⟨hok, al, cl, ai, ci, c1, c2, hS⟩ := hS.openDisk
        have hbr := hb.start
        obtain ⟨bb, bo, rfl⟩ := hbr.base (fun e => by rw [← bv_length, e] at hb64; cases hb64)
        have hcells := hbr.cellsAt rfl
        have hlc : LenIs (bv b) 64 := ⟨by simp [hb64]⟩
        cases huse : useB D.off D.armed D.left
        · refine calls_C Tryd.func39 rfl Tryd.ntmps39 rfl ?_
          repeat (first | (refine G_id ?_; first | refine G_nil ?_ | refine G_plain rfl rfl ?_ | refine G_yes rfl rfl rfl rfl ?_) | (refine X_id ?_; first | (refine X_callg 19 rfl rfl rfl rfl rfl hon ?_; rintro _ _ ⟨rfl, rfl⟩) | (refine X_callg 43 rfl rfl rfl rfl rfl hhas ?_; rintro _ _ ⟨rfl, rfl⟩) | refine X_yl (Yl_move rfl rfl) rfl rfl ?_ | refine X_yl (Yl_assign rfl rfl) rfl rfl ?_ | refine X_yl (Yl_nilCheck rfl rfl) rfl rfl ?_ | refine X_yl (Yl_fieldAddr0 rfl rfl rfl) rfl rfl ?_ | refine X_yl (Yl_pick_f rfl rfl rfl) rfl rfl ?_ | refine X_yl (Yl_not_t rfl rfl) rfl rfl ?_ | refine X_yl (Yl_len rfl rfl) rfl rfl ?_ | refine X_yl (Yl_neq_f rfl rfl rfl (by omega)) rfl rfl ?_) | (refine C_id ?_; first | refine C_seq ?_ | refine C_region ?_ | refine C_block ?_ | refine C_cond_f rfl ?_) | (refine E_id ?_; first | refine E_code ?_))
          obtain ⟨_, hc, hr, hw, hbk⟩ := hS.call [true, false, false]
          refine X_callg _ rfl rfl rfl rfl rfl (use_ p D.off D.armed D.left _ _ _ _ hok.left0 hok.left1 hc) ?_
          rintro _ w ⟨rfl, hS⟩
          replace hS := hbk hS
          clear hc hr hw hbk
          rw [huse]
          repeat (first | (refine G_id ?_; first | refine G_nil ?_ | refine G_plain rfl rfl ?_) | (refine X_id ?_; first | refine X_yl (Yl_assign rfl rfl) rfl rfl ?_ | refine X_yl (Yl_not_f rfl rfl) rfl rfl ?_) | (refine C_id ?_; first | refine C_seq ?_ | refine C_region ?_ | refine C_ret ?_ | refine C_cond_t rfl ?_) | (refine E_id ?_; first | refine E_code ?_ | refine E_then_ret ?_ | refine E_blk_ret ?_ | refine E_ret1 rfl (Rv_tmp rfl) (Ret.mk ?_)))
          rw [DiskM.write_use hoff hin hb64 huse]
          exact ⟨rfl, St.shutDisk (DiskM.used_ok hok) c1 c2 hS⟩
        · refine calls_C Tryd.func39 rfl Tryd.ntmps39 rfl ?_
          repeat (first | (refine G_id ?_; first | refine G_nil ?_ | refine G_plain rfl rfl ?_ | refine G_yes rfl rfl rfl rfl ?_) | (refine X_id ?_; first | (refine X_callg 19 rfl rfl rfl rfl rfl hon ?_; rintro _ _ ⟨rfl, rfl⟩) | (refine X_callg 43 rfl rfl rfl rfl rfl hhas ?_; rintro _ _ ⟨rfl, rfl⟩) | refine X_yl (Yl_move rfl rfl) rfl rfl ?_ | refine X_yl (Yl_assign rfl rfl) rfl rfl ?_ | refine X_yl (Yl_nilCheck rfl rfl) rfl rfl ?_ | refine X_yl (Yl_fieldAddr0 rfl rfl rfl) rfl rfl ?_ | refine X_yl (Yl_pick_f rfl rfl rfl) rfl rfl ?_ | refine X_yl (Yl_not_t rfl rfl) rfl rfl ?_ | refine X_yl (Yl_len rfl rfl) rfl rfl ?_ | refine X_yl (Yl_neq_f rfl rfl rfl (by omega)) rfl rfl ?_) | (refine C_id ?_; first | refine C_seq ?_ | refine C_region ?_ | refine C_block ?_ | refine C_cond_f rfl ?_) | (refine E_id ?_; first | refine E_code ?_))
          obtain ⟨_, hc, hr, hw, hbk⟩ := hS.call [true, false, false]
          refine X_callg _ rfl rfl rfl rfl rfl (use_ p D.off D.armed D.left _ _ _ _ hok.left0 hok.left1 hc) ?_
          rintro _ w ⟨rfl, hS⟩
          replace hS := hbk hS
          clear hc hr hw hbk
          rw [huse]
          repeat (first | (refine G_id ?_; first | refine G_nil ?_ | refine G_plain rfl rfl ?_) | (refine X_id ?_; first | refine X_yl (Yl_assign rfl rfl) rfl rfl ?_ | refine X_yl (Yl_not_t rfl rfl) rfl rfl ?_) | (refine C_id ?_; first | refine C_seq ?_ | refine C_skip ?_ | refine C_cond_f rfl ?_) | (refine E_id ?_; first | refine E_code ?_ | refine E_blk_n ?_))
          have hcells : CellsAt w.drew ⟨bb, bo, none⟩ (bv b) := (hb.rd hS).cellsAt rfl
          refine C_ord [(0, true), (1, true), (2, true), (3, true), (4, true), (5, true), (6, true), (7, true), (8, true), (9, true), (10, false), (11, false), (12, true), (13, true), (14, false)] mixed (by kernel_rfl) rfl ?_
          have hS := hS.drew
          repeat (first | (refine X_id ?_; first | refine X_buildSlice rfl rfl rfl rfl rfl rfl rfl rfl hS (fun _ _ hS _ => ?_)) | (refine GO_id ?_; first | refine GO_pure rfl rfl (fun _ => Yl_move rfl rfl) rfl rfl ?_ | refine GO_pure rfl rfl (fun _ => Yl_nilCheck rfl rfl) rfl rfl ?_ | refine GO_pure rfl rfl (fun _ => Yl_fieldAddr0 rfl rfl rfl) rfl rfl ?_ | refine GO_pure rfl rfl (fun _ => Yl_build rfl rfl rfl) rfl rfl ?_ | refine GO_pure rfl rfl (fun _ => Yl_arrayAt rfl rfl (by omega)) rfl rfl ?_ | refine GO_read (fun w' => w'.cell? _ = some _) rfl rfl hS.cell (fun _ hc => Yl_load rfl rfl hc) rfl rfl ?_ | refine GO_read (fun w' => CellsAt w' _ _) rfl rfl (by assumption) (fun _ hc => Yl_loadAgg rfl rfl hc (by simp; omega)) rfl rfl ?_ | refine GO_hard rfl rfl ?_) | (refine Keep_id ?_; first | refine And.intro (by repeat (first | exact trivial | refine And.intro (.inl (by decide +kernel)) ?_ | refine And.intro (.inr (by first | assumption | exact hS.cell | exact cell_at (by assumption) | exact hS.cellI (by omega) | exact hS.cellIP (by omega) | exact hS.cellsN | exact ((hr.rd hS).cellX (by omega) hx) | exact ((hr2.rd hS).cellX (by omega) hx2) | exact hS.cellB (by omega) | exact hS.cellBA (by omega) | exact (hb.rd hS).cellB' (by omega) | exact (hb2.rd hS).cellB' (by omega) | exact (hg.rd hS).cellI (by omega) | exact (hg2.rd hS).cellI (by omega) | exact ((hr.rd hS).cellF (by first | omega | (dsimp only; omega)) hx) | exact ((hr2.rd hS).cellF (by first | omega | (dsimp only; omega)) hx2))) ?_)) ?_))
          refine X_append rfl rfl rfl rfl rfl hS (lineCells_length fun x hx => (hok.line64 x hx).1) c2 (hS.rd (List.mem_cons_self ..)).own_row (by simp [hb64]) (one_int bv_one) (by omega) (by simp only [maxLen]; omega) (fun a' c' w hS hc hnil => ?_)
          repeat (first | (refine G_id ?_; first | refine G_plain rfl rfl ?_) | (refine X_id ?_; first | refine X_yl (Yl_move rfl rfl) rfl rfl ?_ | refine X_yl (Yl_nilCheck rfl rfl) rfl rfl ?_ | refine X_yl (Yl_fieldAddr0 rfl rfl rfl) rfl rfl ?_ | refine X_store rfl rfl rfl rfl hS (fun _ hS _ => ?_)) | (refine C_id ?_; first | refine C_seq ?_ | refine C_region ?_) | (refine E_id ?_; first | refine E_code ?_) | (refine GO_id ?_; first | refine GO_nil ?_ | refine GO_pure rfl rfl (fun _ => Yl_nilCheck rfl rfl) rfl rfl ?_ | refine GO_pure rfl rfl (fun _ => Yl_fieldAddr0 rfl rfl rfl) rfl rfl ?_ | refine GO_hard rfl rfl ?_) | (refine Keep_id ?_; first | refine And.intro (by repeat (first | exact trivial | refine And.intro (.inl (by decide +kernel)) ?_ | refine And.intro (.inr (by first | assumption | exact hS.cell | exact cell_at (by assumption) | exact hS.cellI (by omega) | exact hS.cellIP (by omega) | exact hS.cellsN | exact ((hr.rd hS).cellX (by omega) hx) | exact ((hr2.rd hS).cellX (by omega) hx2) | exact hS.cellB (by omega) | exact hS.cellBA (by omega) | exact (hb.rd hS).cellB' (by omega) | exact (hb2.rd hS).cellB' (by omega) | exact (hg.rd hS).cellI (by omega) | exact (hg2.rd hS).cellI (by omega) | exact ((hr.rd hS).cellF (by first | omega | (dsimp only; omega)) hx) | exact ((hr2.rd hS).cellF (by first | omega | (dsimp only; omega)) hx2))) ?_)) ?_))
          obtain ⟨_, hc, hr, hw, hbk⟩ := hS.call [false, false, true, false]
          refine X_callg _ rfl rfl rfl rfl rfl (add64_ p 5 D.writes 1 _ _ _ _ _ hc) ?_
          rintro _ w ⟨rfl, hS⟩
          replace hS := hbk hS
          clear hc hr hw hbk
          repeat (first | (refine G_id ?_; first | refine G_nil ?_ | refine G_plain rfl rfl ?_) | (refine X_id ?_; first | refine X_yl (Yl_assign rfl rfl) rfl rfl ?_) | (refine C_id ?_; first | refine C_seq ?_ | refine C_region ?_ | refine C_ret ?_) | (refine E_id ?_; first | refine E_code ?_ | refine E_ret1 rfl (Rv_tmp rfl) (Ret.mk ?_)))
          rw [DiskM.write_yes hoff hin hb64 huse]
          have hok' := DiskM.line_ok (wr := IntKind.i64.wrap (D.writes + 1)) (DiskM.used_ok hok) (no := no) (b := b) hin hb64
          refine ⟨rfl, St.shutDisk (al := al) (ai := a') hok' c1 (show (D.line ++ [(no, b)]).length ≤ c' by simpa using hc) ?_⟩
          have hS := hS.pick [0, 2, 0]
          show St W F [pts p (.cells #[_, _, _, _, .slice a' ((D.line ++ [(no, b)]).length : Nat) c', _, _] 59), _, own _ _ _ _ (lineCells (D.line ++ [(no, b)]))] w
          rw [lineCells_append, List.length_append]
          simpa [lineCells, DiskM.used] using hS
      · refine calls_C Tryd.func39 rfl Tryd.ntmps39 rfl ?_
        repeat (first | (refine G_id ?_; first | refine G_nil ?_ | refine G_plain rfl rfl ?_ | refine G_yes rfl rfl rfl rfl ?_) | (refine X_id ?_; first | (refine X_callg 19 rfl rfl rfl rfl rfl hon ?_; rintro _ _ ⟨rfl, rfl⟩) | (refine X_callg 43 rfl rfl rfl rfl rfl hhas ?_; rintro _ _ ⟨rfl, rfl⟩) | refine X_yl (Yl_move rfl rfl) rfl rfl ?_ | refine X_yl (Yl_assign rfl rfl) rfl rfl ?_ | refine X_yl (Yl_pick_f rfl rfl rfl) rfl rfl ?_ | refine X_yl (Yl_not_t rfl rfl) rfl rfl ?_ | refine X_yl (Yl_len rfl rfl) rfl rfl ?_ | refine X_yl (Yl_neq_t rfl rfl rfl (by omega)) rfl rfl ?_) | (refine C_id ?_; first | refine C_seq ?_ | refine C_region ?_ | refine C_block ?_ | refine C_ret ?_ | refine C_cond_t rfl ?_ | refine C_cond_f rfl ?_) | (refine E_id ?_; first | refine E_code ?_ | refine E_then_ret ?_ | refine E_blk_ret ?_ | refine E_ret1 rfl (Rv_tmp rfl) (Ret.mk ?_)))
        refine ⟨by simp [DiskM.write, hoff, hin, hb64], by simpa [DiskM.write, hoff, hin, hb64] using hS⟩
  · have hon := on_ p D W hd
    rw [hoff] at hon
    refine calls_C Tryd.func39 rfl Tryd.ntmps39 rfl ?_
    repeat (first | (refine G_id ?_; first | refine G_nil ?_ | refine G_plain rfl rfl ?_) | (refine X_id ?_; first | (refine X_callg 19 rfl rfl rfl rfl rfl hon ?_; rintro _ _ ⟨rfl, rfl⟩) | refine X_yl (Yl_move rfl rfl) rfl rfl ?_ | refine X_yl (Yl_assign rfl rfl) rfl rfl ?_ | refine X_yl (Yl_not_f rfl rfl) rfl rfl ?_) | (refine C_id ?_; first | refine C_seq ?_ | refine C_region ?_ | refine C_block ?_ | refine C_ret ?_ | refine C_cond_t rfl ?_) | (refine E_id ?_; first | refine E_code ?_ | refine E_then_ret ?_ | refine E_blk_ret ?_ | refine E_ret1 rfl (Rv_tmp rfl) (Ret.mk ?_)))
    exact ⟨by simp [DiskM.write, hoff], by simpa [DiskM.write, hoff] using hS⟩
end Cr
