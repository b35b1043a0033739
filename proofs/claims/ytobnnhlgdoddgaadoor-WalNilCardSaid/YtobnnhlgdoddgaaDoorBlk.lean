/-
  Layer 1 (block): what each function of package block does to a disk in memory.
-/
import Derived.Test.YtobnnhlgdoddgaaDoorFacts
namespace Cr
open Go Go.Proofs
set_option maxRecDepth 100000

/-- A disk as data. -/
structure DiskM where
  off : Bool
  armed : Bool
  left : Int
  laid : List (List UInt8)
  line : List (Int × List UInt8)
  writes : Int
  flushes : Int
structure DiskM.ok (D : DiskM) : Prop where
  laid64 : ∀ s ∈ D.laid, s.length = 64
  line64 : ∀ x ∈ D.line, x.2.length = 64 ∧ 0 ≤ x.1 ∧ x.1 < D.laid.length
  some_ : 1 ≤ D.laid.length
  most : D.laid.length ≤ 4096
  left0 : 0 ≤ D.left
  left1 : D.left ≤ 9223372036854775807
def laidCells (l : List (List UInt8)) : List Value := l.flatMap bv
def lineCells (l : List (Int × List UInt8)) : List Value := l.flatMap fun x => .int .i64 x.1 :: bv x.2
/-- A disk in memory, at block p. -/
def disk (p : Nat) (D : DiskM) : Res := fun h => D.ok ∧ ∃ al cl ai ci, D.laid.length ≤ cl ∧ D.line.length ≤ ci ∧
  Sep [pts p (.cells #[.bool D.off, .bool D.armed, .int .i64 D.left, .slice al D.laid.length cl, .slice ai D.line.length ci, .int .i64 D.writes, .int .i64 D.flushes] 59),
    own 99 64 al cl (laidCells D.laid), own 101 65 ai ci (lineCells D.line)] h

theorem Sep.single {r : Res} {rs : List Res} {h : Frag} (H : Sep (r :: rs) h) : ∃ h1 h2, r h1 ∧ Sep rs h2 ∧ (∀ k, h1 k = none ∨ h2 k = none) ∧ (∀ k, h k = (h1 k).or (h2 k)) := H
theorem St.openR {W : World} {F : Nat → Prop} {r : Res} {rs rs' : List Res} {w : World} (hS : St W F (r :: rs) w) (hr : ∀ h, r h → Sep rs' h) : St W F (rs' ++ rs) w :=
  hS.imp fun h hh => by
    obtain ⟨h1, h2, a, b, c, d⟩ := hh
    exact Sep.append_mk (hr _ a) b c d
theorem St.shutR {W : World} {F : Nat → Prop} {r : Res} {rs rs' : List Res} {w : World} (hS : St W F (rs' ++ rs) w) (hr : ∀ h, Sep rs' h → r h) : St W F (r :: rs) w :=
  hS.imp fun h hh => by
    obtain ⟨h1, h2, a, b, c, d⟩ := Sep.append hh
    exact ⟨h1, h2, hr _ a, b, c, d⟩
/-- What is pure in a resource. -/
theorem St.pureR {W : World} {F : Nat → Prop} {r : Res} {rs : List Res} {w : World} {A : Prop} (hS : St W F (r :: rs) w) (hr : ∀ h, r h → A) : A := by
  obtain ⟨h, ⟨h1, _, a, _⟩, _⟩ := hS
  exact hr _ a

/-! ### On, Sectors, has, use -/
theorem on_nil (W : World) : Calls Tryd.prog 19 #[.pointer none] W (Ret fun v w => v = .bool false ∧ W = w) := by
  refine calls_C Tryd.func19 rfl Tryd.ntmps19 rfl ?_
  repeat (first | (refine G_id ?_; first | refine G_nil ?_ | refine G_plain rfl rfl ?_ | refine G_no rfl rfl rfl rfl rfl rfl ?_) | (refine X_id ?_; first | refine X_yl (Yl_move rfl rfl) rfl rfl ?_ | refine X_yl (Yl_assign rfl rfl) rfl rfl ?_ | refine X_yl (Yl_pick_f rfl rfl rfl) rfl rfl ?_ | refine X_yl (Yl_neqNil_none rfl rfl rfl) rfl rfl ?_) | (refine C_id ?_; first | refine C_seq ?_ | refine C_region ?_ | refine C_ret ?_) | (refine E_id ?_; first | refine E_code ?_ | refine E_ret1 rfl (Rv_tmp rfl) (Ret.mk ?_)))
  exact ⟨rfl, rfl⟩
theorem Rd.disk {w : World} {p : Nat} {D : DiskM} (h : Rd w (disk p D)) : D.ok ∧ ∃ al cl ai ci, D.laid.length ≤ cl ∧ D.line.length ≤ ci ∧
    w.heap[p]? = some (.cells #[.bool D.off, .bool D.armed, .int .i64 D.left, .slice al D.laid.length cl, .slice ai D.line.length ci, .int .i64 D.writes, .int .i64 D.flushes] 59) ∧
    Rd w (row al (laidCells D.laid)) ∧ Rd w (row ai (lineCells D.line)) := by
  obtain ⟨f, ⟨hok, al, cl, ai, ci, h1, h2, hs⟩, ha⟩ := h
  have hr := Rd.sep ⟨f, hs, ha⟩
  exact ⟨hok, al, cl, ai, ci, h1, h2, (hr _ (by simp)).pts, (hr _ (List.mem_cons_of_mem _ (List.mem_cons_self ..))).own_row, (hr _ (List.mem_cons_of_mem _ (List.mem_cons_of_mem _ (List.mem_cons_self ..)))).own_row⟩
theorem on_ (p : Nat) (D : DiskM) (W : World) (hd : Rd W (disk p D)) :
    Calls Tryd.prog 19 #[.pointer (some ⟨p, 0, none⟩)] W (Ret fun v w => v = .bool (!D.off) ∧ W = w) := by
  obtain ⟨_, al, cl, ai, ci, _, _, hc, _, _⟩ := hd.disk
  have hS := St.start W
  refine calls_C Tryd.func19 rfl Tryd.ntmps19 rfl ?_
  repeat (first | (refine G_id ?_; first | refine G_nil ?_ | refine G_plain rfl rfl ?_ | refine G_yes rfl rfl rfl rfl ?_) | (refine X_id ?_; first | refine X_yl (Yl_move rfl rfl) rfl rfl ?_ | refine X_yl (Yl_assign rfl rfl) rfl rfl ?_ | refine X_yl (Yl_nilCheck rfl rfl) rfl rfl ?_ | refine X_yl (Yl_fieldAddr0 rfl rfl rfl) rfl rfl ?_ | refine X_yl (Yl_pick_t rfl rfl rfl) rfl rfl ?_ | refine X_yl (Yl_not_b rfl rfl) rfl rfl ?_ | refine X_yl (Yl_neqNil_some rfl rfl rfl) rfl rfl ?_ | refine X_yl (Yl_load rfl rfl (cell_at (by assumption))) rfl rfl ?_) | (refine C_id ?_; first | refine C_seq ?_ | refine C_region ?_ | refine C_ret ?_) | (refine E_id ?_; first | refine E_code ?_ | refine E_ret1 rfl (Rv_tmp rfl) (Ret.mk ?_)))
  exact ⟨rfl, rfl⟩
theorem sectors_nil (W : World) : Calls Tryd.prog 20 #[.pointer none] W (Ret fun v w => v = .int .i64 0 ∧ W = w) := by
  refine calls_C Tryd.func20 rfl Tryd.ntmps20 rfl ?_
  repeat (first | (refine G_id ?_; first | refine G_nil ?_ | refine G_plain rfl rfl ?_) | (refine X_id ?_; first | refine X_yl (Yl_move rfl rfl) rfl rfl ?_ | refine X_yl (Yl_assign rfl rfl) rfl rfl ?_ | refine X_yl (Yl_eqlNil_none rfl rfl rfl) rfl rfl ?_) | (refine C_id ?_; first | refine C_seq ?_ | refine C_region ?_ | refine C_ret ?_ | refine C_cond_t rfl ?_) | (refine E_id ?_; first | refine E_code ?_ | refine E_then_ret ?_ | refine E_ret1 rfl (Rv_tmp rfl) (Ret.mk ?_)))
  exact ⟨rfl, rfl⟩
theorem sectors_ (p : Nat) (D : DiskM) (W : World) (hd : Rd W (disk p D)) :
    Calls Tryd.prog 20 #[.pointer (some ⟨p, 0, none⟩)] W (Ret fun v w => v = .int .i64 (D.laid.length : Nat) ∧ W = w) := by
  obtain ⟨_, al, cl, ai, ci, _, _, hc, _, _⟩ := hd.disk
  have hS := St.start W
  refine calls_C Tryd.func20 rfl Tryd.ntmps20 rfl ?_
  repeat (first | (refine G_id ?_; first | refine G_nil ?_ | refine G_plain rfl rfl ?_) | (refine X_id ?_; first | refine X_yl (Yl_move rfl rfl) rfl rfl ?_ | refine X_yl (Yl_assign rfl rfl) rfl rfl ?_ | refine X_yl (Yl_nilCheck rfl rfl) rfl rfl ?_ | refine X_yl (Yl_fieldAddr0 rfl rfl rfl) rfl rfl ?_ | refine X_yl (Yl_len rfl rfl) rfl rfl ?_ | refine X_yl (Yl_eqlNil_some rfl rfl rfl) rfl rfl ?_ | refine X_yl (Yl_load rfl rfl (cell_at (by assumption))) rfl rfl ?_) | (refine C_id ?_; first | refine C_seq ?_ | refine C_region ?_ | refine C_ret ?_ | refine C_skip ?_ | refine C_cond_f rfl ?_) | (refine E_id ?_; first | refine E_code ?_ | refine E_ret1 rfl (Rv_tmp rfl) (Ret.mk ?_)))
  exact ⟨rfl, rfl⟩
def inDisk (D : DiskM) (no : Int) : Bool := decide (0 ≤ no ∧ no < D.laid.length)
theorem has_ (p : Nat) (D : DiskM) (no : Int) (W : World) (hd : Rd W (disk p D)) :
    Calls Tryd.prog 43 #[.pointer (some ⟨p, 0, none⟩), .int .i64 no] W (Ret fun v w => v = .bool (inDisk D no) ∧ W = w) := by
  by_cases h : 0 ≤ no
  · refine calls_C Tryd.func43 rfl Tryd.ntmps43 rfl ?_
    repeat (first | (refine G_id ?_; first | refine G_nil ?_ | refine G_plain rfl rfl ?_ | refine G_yes rfl rfl rfl rfl ?_) | (refine X_id ?_; first | refine X_yl (Yl_move rfl rfl) rfl rfl ?_ | refine X_yl (Yl_assign rfl rfl) rfl rfl ?_ | refine X_yl (Yl_geq_t rfl rfl rfl (by omega)) rfl rfl ?_) | (refine C_id ?_; first | refine C_seq ?_ | refine C_region ?_) | (refine E_id ?_; first | refine E_code ?_))
    refine X_callg _ rfl rfl rfl rfl rfl (sectors_ p D W hd) ?_
    rintro _ _ ⟨rfl, rfl⟩
    repeat (first | (refine G_id ?_; first | refine G_nil ?_ | refine G_plain rfl rfl ?_ | refine G_yes rfl rfl rfl rfl ?_) | (refine X_id ?_; first | refine X_yl (Yl_assign rfl rfl) rfl rfl ?_ | refine X_yl (Yl_pick_t rfl rfl rfl) rfl rfl ?_ | refine X_yl (Yl_lss rfl rfl rfl) rfl rfl ?_) | (refine C_id ?_; first | refine C_ret ?_) | (refine E_id ?_; first | refine E_code ?_ | refine E_ret1 rfl (Rv_tmp rfl) (Ret.mk ?_)))
    exact ⟨by simp [inDisk, h], rfl⟩
  · refine calls_C Tryd.func43 rfl Tryd.ntmps43 rfl ?_
    repeat (first | (refine G_id ?_; first | refine G_nil ?_ | refine G_plain rfl rfl ?_ | refine G_no rfl rfl rfl rfl rfl rfl ?_) | (refine X_id ?_; first | refine X_yl (Yl_move rfl rfl) rfl rfl ?_ | refine X_yl (Yl_assign rfl rfl) rfl rfl ?_ | refine X_yl (Yl_pick_f rfl rfl rfl) rfl rfl ?_ | refine X_yl (Yl_geq_f rfl rfl rfl (by omega)) rfl rfl ?_) | (refine C_id ?_; first | refine C_seq ?_ | refine C_region ?_ | refine C_ret ?_) | (refine E_id ?_; first | refine E_code ?_ | refine E_ret1 rfl (Rv_tmp rfl) (Ret.mk ?_)))
    exact ⟨by simp [inDisk, h], rfl⟩

/-! ### power -/
def useB (off armed : Bool) (left : Int) : Bool := !off && (!armed || decide (¬ left = 0))
def useOff (off armed : Bool) (left : Int) : Bool := off || (armed && decide (left = 0))
def useLeft (off armed : Bool) (left : Int) : Int := if off = false ∧ armed = true ∧ ¬ left = 0 then left - 1 else left
theorem use_ (p : Nat) (off armed : Bool) (left : Int) (r : List Value) (T : TypeId) (W : World) (F : Nat → Prop) (h0 : 0 ≤ left) (h1 : left ≤ 9223372036854775807)
    (hS : St W F [pts p (.cells (.bool off :: .bool armed :: .int .i64 left :: r).toArray T)] W) :
    Calls Tryd.prog 55 #[.pointer (some ⟨p, 0, none⟩)] W (Ret fun v w => v = .bool (useB off armed left) ∧
      St W F [pts p (.cells (.bool (useOff off armed left) :: .bool armed :: .int .i64 (useLeft off armed left) :: r).toArray T)] w) := by
  cases off
  · cases armed
    · refine calls_C Tryd.func55 rfl Tryd.ntmps55 rfl ?_
      repeat (first | (refine G_id ?_; first | refine G_nil ?_ | refine G_plain rfl rfl ?_) | (refine X_id ?_; first | refine X_yl (Yl_move rfl rfl) rfl rfl ?_ | refine X_yl (Yl_assign rfl rfl) rfl rfl ?_ | refine X_yl (Yl_nilCheck rfl rfl) rfl rfl ?_ | refine X_yl (Yl_fieldAddr0 rfl rfl rfl) rfl rfl ?_ | refine X_yl (Yl_not_f rfl rfl) rfl rfl ?_ | refine X_yl (Yl_load rfl rfl hS.cell) rfl rfl ?_) | (refine C_id ?_; first | refine C_seq ?_ | refine C_region ?_ | refine C_block ?_ | refine C_ret ?_ | refine C_cond_t rfl ?_ | refine C_cond_f rfl ?_) | (refine E_id ?_; first | refine E_code ?_ | refine E_then_ret ?_ | refine E_blk_ret ?_ | refine E_ret1 rfl (Rv_tmp rfl) (Ret.mk ?_)))
      exact ⟨rfl, hS⟩
    · by_cases h : left = 0
      · subst h
        refine calls_C Tryd.func55 rfl Tryd.ntmps55 rfl ?_
        repeat (first | (refine G_id ?_; first | refine G_nil ?_ | refine G_plain rfl rfl ?_) | (refine X_id ?_; first | refine X_yl (Yl_move rfl rfl) rfl rfl ?_ | refine X_yl (Yl_assign rfl rfl) rfl rfl ?_ | refine X_yl (Yl_nilCheck rfl rfl) rfl rfl ?_ | refine X_yl (Yl_fieldAddr0 rfl rfl rfl) rfl rfl ?_ | refine X_yl (Yl_not_t rfl rfl) rfl rfl ?_ | refine X_yl (Yl_eql_t rfl rfl rfl (by omega)) rfl rfl ?_ | refine X_yl (Yl_load rfl rfl hS.cell) rfl rfl ?_ | refine X_store rfl rfl rfl rfl hS (fun _ hS _ => ?_)) | (refine C_id ?_; first | refine C_seq ?_ | refine C_region ?_ | refine C_block ?_ | refine C_ret ?_ | refine C_cond_t rfl ?_ | refine C_cond_f rfl ?_) | (refine E_id ?_; first | refine E_code ?_ | refine E_then_ret ?_ | refine E_blk_ret ?_ | refine E_ret1 rfl (Rv_tmp rfl) (Ret.mk ?_)))
        exact ⟨rfl, hS⟩
      · refine calls_C Tryd.func55 rfl Tryd.ntmps55 rfl ?_
        repeat (first | (refine G_id ?_; first | refine G_nil ?_ | refine G_plain rfl rfl ?_) | (refine X_id ?_; first | refine X_yl (Yl_move rfl rfl) rfl rfl ?_ | refine X_yl (Yl_assign rfl rfl) rfl rfl ?_ | refine X_yl (Yl_nilCheck rfl rfl) rfl rfl ?_ | refine X_yl (Yl_fieldAddr0 rfl rfl rfl) rfl rfl ?_ | refine X_yl (Yl_not_t rfl rfl) rfl rfl ?_ | refine X_yl (Yl_eql_f rfl rfl rfl (by omega)) rfl rfl ?_ | refine X_yl (Yl_sub rfl rfl rfl (w64 (by omega) (by omega))) rfl rfl ?_ | refine X_yl (Yl_load rfl rfl hS.cell) rfl rfl ?_ | refine X_store rfl rfl rfl rfl hS (fun _ hS _ => ?_)) | (refine C_id ?_; first | refine C_seq ?_ | refine C_region ?_ | refine C_block ?_ | refine C_ret ?_ | refine C_skip ?_ | refine C_cond_f rfl ?_) | (refine E_id ?_; first | refine E_code ?_ | refine E_blk_n ?_ | refine E_ret1 rfl (Rv_tmp rfl) (Ret.mk ?_)))
        exact ⟨by simp [useB, h], by simpa [useOff, useLeft, h] using hS⟩
  · refine calls_C Tryd.func55 rfl Tryd.ntmps55 rfl ?_
    repeat (first | (refine G_id ?_; first | refine G_nil ?_ | refine G_plain rfl rfl ?_) | (refine X_id ?_; first | refine X_yl (Yl_move rfl rfl) rfl rfl ?_ | refine X_yl (Yl_assign rfl rfl) rfl rfl ?_ | refine X_yl (Yl_nilCheck rfl rfl) rfl rfl ?_ | refine X_yl (Yl_fieldAddr0 rfl rfl rfl) rfl rfl ?_ | refine X_yl (Yl_load rfl rfl hS.cell) rfl rfl ?_) | (refine C_id ?_; first | refine C_seq ?_ | refine C_region ?_ | refine C_block ?_ | refine C_ret ?_ | refine C_cond_t rfl ?_) | (refine E_id ?_; first | refine E_code ?_ | refine E_then_ret ?_ | refine E_blk_ret ?_ | refine E_ret1 rfl (Rv_tmp rfl) (Ret.mk ?_)))
    exact ⟨rfl, hS⟩
end Cr
