/-
  Layer 1 (block): what each function of package block does to a disk in memory.
  Layer 1 (block): New, Write, Flush.
  Layer 1 (block): Write, Flush.
  slices.Backward: what the function that it hands back does, round by round.
  Layer 1 (block): lay, Flush, Read.
  A law's arguments, opened: bytes, lists of writes. What is read of them, by the reading that the row gives.
  A law's argument, opened: a slice of structs, whatever their fields; an array of bytes.
  Two more rules of the walk: a join behind a test (the rest is walked once), and an assertion in the middle.
  Lists of cells in parts; bytes in a block; quotients. Over any program.
  Calls that make memory. Over any program.
  Conversions between bytes and strings, strings' comparison, copy, append of zeros. Over any program.
-/
import Derived.Test.YtpdhcfkjakbmfaaGreatDoorPly3
import Derived.Deep.SlicePairs
import Derived.Carry
import Derived.OpenShut
import Derived.Test.YtpdhcfkjakbmfaaGreatDoorPly2
import Derived.Laws.BytesString
import Derived.Laws.Strings
import Derived.Laws.CopyRow
namespace Cr
open Go Go.Proofs
set_option maxRecDepth 100000

/-- A disk as data. -/
structure DiskM where
  off : Bool
  armed : Bool
  left : Int
  laid : List (List UInt8)
  line : List (Int × List UInt8)
  writes : Int
  flushes : Int
structure DiskM.ok (D : DiskM) : Prop where
  laid64 : ∀ s ∈ D.laid, s.length = 64
  line64 : ∀ x ∈ D.line, x.2.length = 64 ∧ 0 ≤ x.1 ∧ x.1 < D.laid.length
  some_ : 1 ≤ D.laid.length
  most : D.laid.length ≤ 4096
  left0 : 0 ≤ D.left
  left1 : D.left ≤ 9223372036854775807
def laidCells (l : List (List UInt8)) : List Value := l.flatMap bv
def lineCells (l : List (Int × List UInt8)) : List Value := l.flatMap fun x => .int .i64 x.1 :: bv x.2
/-- A disk in memory, at block p. -/
def disk (p : Nat) (D : DiskM) : Res := fun h => D.ok ∧ ∃ al cl ai ci, D.laid.length ≤ cl ∧ D.line.length ≤ ci ∧
  Sep [pts p (.cells #[.bool D.off, .bool D.armed, .int .i64 D.left, .slice al D.laid.length cl, .slice ai D.line.length ci, .int .i64 D.writes, .int .i64 D.flushes] 109),
    own 168 64 al cl (laidCells D.laid), own 170 65 ai ci (lineCells D.line)] h

theorem Sep.single {r : Res} {rs : List Res} {h : Frag} (H : Sep (r :: rs) h) : ∃ h1 h2, r h1 ∧ Sep rs h2 ∧ (∀ k, h1 k = none ∨ h2 k = none) ∧ (∀ k, h k = (h1 k).or (h2 k)) := H
theorem St.openR {W : World} {F : Nat → Prop} {r : Res} {rs rs' : List Res} {w : World} (hS : St W F (r :: rs) w) (hr : ∀ h, r h → Sep rs' h) : St W F (rs' ++ rs) w :=
  hS.imp fun h hh => by
    obtain ⟨h1, h2, a, b, c, d⟩ := hh
    exact Sep.append_mk (hr _ a) b c d
theorem St.shutR {W : World} {F : Nat → Prop} {r : Res} {rs rs' : List Res} {w : World} (hS : St W F (rs' ++ rs) w) (hr : ∀ h, Sep rs' h → r h) : St W F (r :: rs) w :=
  hS.imp fun h hh => by
    obtain ⟨h1, h2, a, b, c, d⟩ := Sep.append hh
    exact ⟨h1, h2, hr _ a, b, c, d⟩
/-- What is pure in a resource. -/
theorem St.pureR {W : World} {F : Nat → Prop} {r : Res} {rs : List Res} {w : World} {A : Prop} (hS : St W F (r :: rs) w) (hr : ∀ h, r h → A) : A := by
  obtain ⟨h, ⟨h1, _, a, _⟩, _⟩ := hS
  exact hr _ a

/-! ### On, Sectors, has, use -/
theorem on_nil (W : World) : Calls Tryz.prog 43 #[.pointer none] W (Ret fun v w => v = .bool false ∧ W = w) := by
  refine calls_C Tryz.func43 rfl Tryz.ntmps43 rfl ?_
  repeat (first | (refine G_id ?_; first | refine G_nil ?_ | refine G_plain rfl rfl ?_ | refine G_no rfl rfl rfl rfl rfl rfl ?_) | (refine X_id ?_; first | refine X_yl (Yl_move rfl rfl) rfl rfl ?_ | refine X_yl (Yl_assign rfl rfl) rfl rfl ?_ | refine X_yl (Yl_pick_f rfl rfl rfl) rfl rfl ?_ | refine X_yl (Yl_neqNil_none rfl rfl rfl) rfl rfl ?_) | (refine C_id ?_; first | refine C_seq ?_ | refine C_region ?_ | refine C_ret ?_) | (refine E_id ?_; first | refine E_code ?_ | refine E_ret1 rfl (Rv_tmp rfl) (Ret.mk ?_)))
  exact ⟨rfl, rfl⟩
theorem Rd.disk {w : World} {p : Nat} {D : DiskM} (h : Rd w (disk p D)) : D.ok ∧ ∃ al cl ai ci, D.laid.length ≤ cl ∧ D.line.length ≤ ci ∧
    w.heap[p]? = some (.cells #[.bool D.off, .bool D.armed, .int .i64 D.left, .slice al D.laid.length cl, .slice ai D.line.length ci, .int .i64 D.writes, .int .i64 D.flushes] 109) ∧
    Rd w (row al (laidCells D.laid)) ∧ Rd w (row ai (lineCells D.line)) := by
  obtain ⟨f, ⟨hok, al, cl, ai, ci, h1, h2, hs⟩, ha⟩ := h
  have hr := Rd.sep ⟨f, hs, ha⟩
  exact ⟨hok, al, cl, ai, ci, h1, h2, (hr _ (by simp)).pts, (hr _ (List.mem_cons_of_mem _ (List.mem_cons_self ..))).own_row, (hr _ (List.mem_cons_of_mem _ (List.mem_cons_of_mem _ (List.mem_cons_self ..)))).own_row⟩
theorem on_ (p : Nat) (D : DiskM) (W : World) (hd : Rd W (disk p D)) :
    Calls Tryz.prog 43 #[.pointer (some ⟨p, 0, none⟩)] W (Ret fun v w => v = .bool (!D.off) ∧ W = w) := by
  obtain ⟨_, al, cl, ai, ci, _, _, hc, _, _⟩ := hd.disk
  have hS := St.start W
  refine calls_C Tryz.func43 rfl Tryz.ntmps43 rfl ?_
  repeat (first | (refine G_id ?_; first | refine G_nil ?_ | refine G_plain rfl rfl ?_ | refine G_yes rfl rfl rfl rfl ?_) | (refine X_id ?_; first | refine X_yl (Yl_move rfl rfl) rfl rfl ?_ | refine X_yl (Yl_assign rfl rfl) rfl rfl ?_ | refine X_yl (Yl_nilCheck rfl rfl) rfl rfl ?_ | refine X_yl (Yl_fieldAddr0 rfl rfl rfl) rfl rfl ?_ | refine X_yl (Yl_pick_t rfl rfl rfl) rfl rfl ?_ | refine X_yl (Yl_not_b rfl rfl) rfl rfl ?_ | refine X_yl (Yl_neqNil_some rfl rfl rfl) rfl rfl ?_ | refine X_yl (Yl_load rfl rfl (cell_at (by assumption))) rfl rfl ?_) | (refine C_id ?_; first | refine C_seq ?_ | refine C_region ?_ | refine C_ret ?_) | (refine E_id ?_; first | refine E_code ?_ | refine E_ret1 rfl (Rv_tmp rfl) (Ret.mk ?_)))
  exact ⟨rfl, rfl⟩
theorem sectors_nil (W : World) : Calls Tryz.prog 44 #[.pointer none] W (Ret fun v w => v = .int .i64 0 ∧ W = w) := by
  refine calls_C Tryz.func44 rfl Tryz.ntmps44 rfl ?_
  repeat (first | (refine G_id ?_; first | refine G_nil ?_ | refine G_plain rfl rfl ?_) | (refine X_id ?_; first | refine X_yl (Yl_move rfl rfl) rfl rfl ?_ | refine X_yl (Yl_assign rfl rfl) rfl rfl ?_ | refine X_yl (Yl_eqlNil_none rfl rfl rfl) rfl rfl ?_) | (refine C_id ?_; first | refine C_seq ?_ | refine C_region ?_ | refine C_ret ?_ | refine C_cond_t rfl ?_) | (refine E_id ?_; first | refine E_code ?_ | refine E_then_ret ?_ | refine E_ret1 rfl (Rv_tmp rfl) (Ret.mk ?_)))
  exact ⟨rfl, rfl⟩
theorem sectors_ (p : Nat) (D : DiskM) (W : World) (hd : Rd W (disk p D)) :
    Calls Tryz.prog 44 #[.pointer (some ⟨p, 0, none⟩)] W (Ret fun v w => v = .int .i64 (D.laid.length : Nat) ∧ W = w) := by
  obtain ⟨_, al, cl, ai, ci, _, _, hc, _, _⟩ := hd.disk
  have hS := St.start W
  refine calls_C Tryz.func44 rfl Tryz.ntmps44 rfl ?_
  repeat (first | (refine G_id ?_; first | refine G_nil ?_ | refine G_plain rfl rfl ?_) | (refine X_id ?_; first | refine X_yl (Yl_move rfl rfl) rfl rfl ?_ | refine X_yl (Yl_assign rfl rfl) rfl rfl ?_ | refine X_yl (Yl_nilCheck rfl rfl) rfl rfl ?_ | refine X_yl (Yl_fieldAddr0 rfl rfl rfl) rfl rfl ?_ | refine X_yl (Yl_len rfl rfl) rfl rfl ?_ | refine X_yl (Yl_eqlNil_some rfl rfl rfl) rfl rfl ?_ | refine X_yl (Yl_load rfl rfl (cell_at (by assumption))) rfl rfl ?_) | (refine C_id ?_; first | refine C_seq ?_ | refine C_region ?_ | refine C_ret ?_ | refine C_skip ?_ | refine C_cond_f rfl ?_) | (refine E_id ?_; first | refine E_code ?_ | refine E_ret1 rfl (Rv_tmp rfl) (Ret.mk ?_)))
  exact ⟨rfl, rfl⟩
def inDisk (D : DiskM) (no : Int) : Bool := decide (0 ≤ no ∧ no < D.laid.length)
theorem has_ (p : Nat) (D : DiskM) (no : Int) (W : World) (hd : Rd W (disk p D)) :
    Calls Tryz.prog 91 #[.pointer (some ⟨p, 0, none⟩), .int .i64 no] W (Ret fun v w => v = .bool (inDisk D no) ∧ W = w) := by
  by_cases h : 0 ≤ no
  · refine calls_C Tryz.func91 rfl Tryz.ntmps91 rfl ?_
    repeat (first | (refine G_id ?_; first | refine G_nil ?_ | refine G_plain rfl rfl ?_ | refine G_yes rfl rfl rfl rfl ?_) | (refine X_id ?_; first | refine X_yl (Yl_move rfl rfl) rfl rfl ?_ | refine X_yl (Yl_assign rfl rfl) rfl rfl ?_ | refine X_yl (Yl_geq_t rfl rfl rfl (by omega)) rfl rfl ?_) | (refine C_id ?_; first | refine C_seq ?_ | refine C_region ?_) | (refine E_id ?_; first | refine E_code ?_))
    refine X_callg _ rfl rfl rfl rfl rfl (sectors_ p D W hd) ?_
    rintro _ _ ⟨rfl, rfl⟩
    repeat (first | (refine G_id ?_; first | refine G_nil ?_ | refine G_plain rfl rfl ?_ | refine G_yes rfl rfl rfl rfl ?_) | (refine X_id ?_; first | refine X_yl (Yl_assign rfl rfl) rfl rfl ?_ | refine X_yl (Yl_pick_t rfl rfl rfl) rfl rfl ?_ | refine X_yl (Yl_lss rfl rfl rfl) rfl rfl ?_) | (refine C_id ?_; first | refine C_ret ?_) | (refine E_id ?_; first | refine E_code ?_ | refine E_ret1 rfl (Rv_tmp rfl) (Ret.mk ?_)))
    exact ⟨by simp [inDisk, h], rfl⟩
  · refine calls_C Tryz.func91 rfl Tryz.ntmps91 rfl ?_
    repeat (first | (refine G_id ?_; first | refine G_nil ?_ | refine G_plain rfl rfl ?_ | refine G_no rfl rfl rfl rfl rfl rfl ?_) | (refine X_id ?_; first | refine X_yl (Yl_move rfl rfl) rfl rfl ?_ | refine X_yl (Yl_assign rfl rfl) rfl rfl ?_ | refine X_yl (Yl_pick_f rfl rfl rfl) rfl rfl ?_ | refine X_yl (Yl_geq_f rfl rfl rfl (by omega)) rfl rfl ?_) | (refine C_id ?_; first | refine C_seq ?_ | refine C_region ?_ | refine C_ret ?_) | (refine E_id ?_; first | refine E_code ?_ | refine E_ret1 rfl (Rv_tmp rfl) (Ret.mk ?_)))
    exact ⟨by simp [inDisk, h], rfl⟩

/-! ### power -/
def useB (off armed : Bool) (left : Int) : Bool := !off && (!armed || decide (¬ left = 0))
def useOff (off armed : Bool) (left : Int) : Bool := off || (armed && decide (left = 0))
def useLeft (off armed : Bool) (left : Int) : Int := if off = false ∧ armed = true ∧ ¬ left = 0 then left - 1 else left
theorem use_ (p : Nat) (off armed : Bool) (left : Int) (r : List Value) (T : TypeId) (W : World) (F : Nat → Prop) (h0 : 0 ≤ left) (h1 : left ≤ 9223372036854775807)
    (hS : St W F [pts p (.cells (.bool off :: .bool armed :: .int .i64 left :: r).toArray T)] W) :
    Calls Tryz.prog 102 #[.pointer (some ⟨p, 0, none⟩)] W (Ret fun v w => v = .bool (useB off armed left) ∧
      St W F [pts p (.cells (.bool (useOff off armed left) :: .bool armed :: .int .i64 (useLeft off armed left) :: r).toArray T)] w) := by
  cases off
  · cases armed
    · refine calls_C Tryz.func102 rfl Tryz.ntmps102 rfl ?_
      repeat (first | (refine G_id ?_; first | refine G_nil ?_ | refine G_plain rfl rfl ?_) | (refine X_id ?_; first | refine X_yl (Yl_move rfl rfl) rfl rfl ?_ | refine X_yl (Yl_assign rfl rfl) rfl rfl ?_ | refine X_yl (Yl_nilCheck rfl rfl) rfl rfl ?_ | refine X_yl (Yl_fieldAddr0 rfl rfl rfl) rfl rfl ?_ | refine X_yl (Yl_not_f rfl rfl) rfl rfl ?_ | refine X_yl (Yl_load rfl rfl hS.cell) rfl rfl ?_) | (refine C_id ?_; first | refine C_seq ?_ | refine C_region ?_ | refine C_block ?_ | refine C_ret ?_ | refine C_cond_t rfl ?_ | refine C_cond_f rfl ?_) | (refine E_id ?_; first | refine E_code ?_ | refine E_then_ret ?_ | refine E_blk_ret ?_ | refine E_ret1 rfl (Rv_tmp rfl) (Ret.mk ?_)))
      exact ⟨rfl, hS⟩
    · by_cases h : left = 0
      · subst h
        refine calls_C Tryz.func102 rfl Tryz.ntmps102 rfl ?_
        repeat (first | (refine G_id ?_; first | refine G_nil ?_ | refine G_plain rfl rfl ?_) | (refine X_id ?_; first | refine X_yl (Yl_move rfl rfl) rfl rfl ?_ | refine X_yl (Yl_assign rfl rfl) rfl rfl ?_ | refine X_yl (Yl_nilCheck rfl rfl) rfl rfl ?_ | refine X_yl (Yl_fieldAddr0 rfl rfl rfl) rfl rfl ?_ | refine X_yl (Yl_not_t rfl rfl) rfl rfl ?_ | refine X_yl (Yl_eql_t rfl rfl rfl (by omega)) rfl rfl ?_ | refine X_yl (Yl_load rfl rfl hS.cell) rfl rfl ?_ | refine X_store rfl rfl rfl rfl hS (fun _ hS _ => ?_)) | (refine C_id ?_; first | refine C_seq ?_ | refine C_region ?_ | refine C_block ?_ | refine C_ret ?_ | refine C_cond_t rfl ?_ | refine C_cond_f rfl ?_) | (refine E_id ?_; first | refine E_code ?_ | refine E_then_ret ?_ | refine E_blk_ret ?_ | refine E_ret1 rfl (Rv_tmp rfl) (Ret.mk ?_)))
        exact ⟨rfl, hS⟩
      · refine calls_C Tryz.func102 rfl Tryz.ntmps102 rfl ?_
        repeat (first | (refine G_id ?_; first | refine G_nil ?_ | refine G_plain rfl rfl ?_) | (refine X_id ?_; first | refine X_yl (Yl_move rfl rfl) rfl rfl ?_ | refine X_yl (Yl_assign rfl rfl) rfl rfl ?_ | refine X_yl (Yl_nilCheck rfl rfl) rfl rfl ?_ | refine X_yl (Yl_fieldAddr0 rfl rfl rfl) rfl rfl ?_ | refine X_yl (Yl_not_t rfl rfl) rfl rfl ?_ | refine X_yl (Yl_eql_f rfl rfl rfl (by omega)) rfl rfl ?_ | refine X_yl (Yl_sub rfl rfl rfl (w64 (by omega) (by omega))) rfl rfl ?_ | refine X_yl (Yl_load rfl rfl hS.cell) rfl rfl ?_ | refine X_store rfl rfl rfl rfl hS (fun _ hS _ => ?_)) | (refine C_id ?_; first | refine C_seq ?_ | refine C_region ?_ | refine C_block ?_ | refine C_ret ?_ | refine C_skip ?_ | refine C_cond_f rfl ?_) | (refine E_id ?_; first | refine E_code ?_ | refine E_blk_n ?_ | refine E_ret1 rfl (Rv_tmp rfl) (Ret.mk ?_)))
        exact ⟨by simp [useB, h], by simpa [useOff, useLeft, h] using hS⟩
  · refine calls_C Tryz.func102 rfl Tryz.ntmps102 rfl ?_
    repeat (first | (refine G_id ?_; first | refine G_nil ?_ | refine G_plain rfl rfl ?_) | (refine X_id ?_; first | refine X_yl (Yl_move rfl rfl) rfl rfl ?_ | refine X_yl (Yl_assign rfl rfl) rfl rfl ?_ | refine X_yl (Yl_nilCheck rfl rfl) rfl rfl ?_ | refine X_yl (Yl_fieldAddr0 rfl rfl rfl) rfl rfl ?_ | refine X_yl (Yl_load rfl rfl hS.cell) rfl rfl ?_) | (refine C_id ?_; first | refine C_seq ?_ | refine C_region ?_ | refine C_block ?_ | refine C_ret ?_ | refine C_cond_t rfl ?_) | (refine E_id ?_; first | refine E_code ?_ | refine E_then_ret ?_ | refine E_blk_ret ?_ | refine E_ret1 rfl (Rv_tmp rfl) (Ret.mk ?_)))
    exact ⟨rfl, hS⟩
end Cr
namespace Cr
open Go Go.Proofs
set_option maxRecDepth 100000

/-! ### New -/
def zero64 : List UInt8 := List.replicate 64 0
def newDisk (n : Nat) : DiskM := { off := false, armed := false, left := 0, laid := List.replicate n zero64, line := [], writes := 0, flushes := 0 }
theorem newDisk_ok {n : Nat} (h : 1 ≤ n) (h' : n ≤ 4096) : (newDisk n).ok := by
  refine ⟨fun s hs => ?_, fun x hx => by simp [newDisk] at hx, by simpa [newDisk] using h, by simpa [newDisk] using h', by simp [newDisk], by simp [newDisk]⟩
  simp [newDisk] at hs; rw [hs.2]; simp [zero64]
theorem laidCells_replicate (n : Nat) : laidCells (List.replicate n zero64) = List.replicate (n * 64) (.int .u8 0) := by
  induction n with
  | zero => rfl
  | succ n ih =>
    have e : bv zero64 = List.replicate 64 (.int .u8 0) := by simp [bv, zero64]
    have : laidCells (List.replicate (n + 1) zero64) = bv zero64 ++ laidCells (List.replicate n zero64) := by simp [laidCells, List.replicate_succ]
    rw [this, ih, e, List.replicate_append_replicate]
    congr 1; omega
theorem madeCells_zeros (m n : Nat) : madeCells (List.replicate m (Value.int .u8 0)).toArray n = (List.replicate n (if m = 0 then default else Value.int .u8 0)).toArray := by
  apply Array.ext
  · simp [madeCells]
  · intro i h1 h2
    simp only [madeCells, Array.getElem_map, Array.getElem_range, List.size_toArray, List.length_replicate]
    by_cases hm : m = 0
    · subst hm; simp
    · have : i % m < m := Nat.mod_lt _ (by omega)
      simp [hm, this]
theorem new_bad (n : Int) (W : World) (h : n < 1 ∨ 4096 < n) : Calls Tryz.prog 13 #[.int .i64 n] W (Ret fun v w => v = .tuple #[.pointer none, .int .i64 1] ∧ W = w) := by
  by_cases h1 : n < 1
  · refine calls_C Tryz.func13 rfl Tryz.ntmps13 rfl ?_
    repeat (first | (refine G_id ?_; first | refine G_nil ?_ | refine G_plain rfl rfl ?_ | refine G_no rfl rfl rfl rfl rfl rfl ?_) | (refine X_id ?_; first | refine X_yl (Yl_move rfl rfl) rfl rfl ?_ | refine X_yl (Yl_assign rfl rfl) rfl rfl ?_ | refine X_yl (Yl_pick_t rfl rfl rfl) rfl rfl ?_ | refine X_yl (Yl_lss_t rfl rfl rfl (by omega)) rfl rfl ?_) | (refine C_id ?_; first | refine C_seq ?_ | refine C_region ?_ | refine C_ret ?_ | refine C_cond_t rfl ?_) | (refine E_id ?_; first | refine E_code ?_ | refine E_then_ret ?_ | refine E_ret2 rfl (Rv_tmp rfl) (Rv_tmp rfl) (Ret.mk ?_)))
    exact ⟨rfl, rfl⟩
  · have h2 : 4096 < n := by omega
    refine calls_C Tryz.func13 rfl Tryz.ntmps13 rfl ?_
    repeat (first | (refine G_id ?_; first | refine G_nil ?_ | refine G_plain rfl rfl ?_ | refine G_yes rfl rfl rfl rfl ?_) | (refine X_id ?_; first | refine X_yl (Yl_move rfl rfl) rfl rfl ?_ | refine X_yl (Yl_assign rfl rfl) rfl rfl ?_ | refine X_yl (Yl_pick_f rfl rfl rfl) rfl rfl ?_ | refine X_yl (Yl_lss_f rfl rfl rfl (by omega)) rfl rfl ?_ | refine X_yl (Yl_gtr_t rfl rfl rfl (by omega)) rfl rfl ?_) | (refine C_id ?_; first | refine C_seq ?_ | refine C_region ?_ | refine C_ret ?_ | refine C_cond_t rfl ?_) | (refine E_id ?_; first | refine E_code ?_ | refine E_then_ret ?_ | refine E_ret2 rfl (Rv_tmp rfl) (Rv_tmp rfl) (Ret.mk ?_)))
    exact ⟨rfl, rfl⟩
theorem new_ (n : Nat) (W : World) (h1 : 1 ≤ n) (h2 : n ≤ 4096) : Calls Tryz.prog 13 #[.int .i64 (n : Int)] W (Ret fun v w => ∃ p, v = .tuple #[.pointer (some ⟨p, 0, none⟩), .int .i64 0] ∧ St W noF [disk p (newDisk n)] w) := by
  have hS := St.start W
  refine calls_C Tryz.func13 rfl Tryz.ntmps13 rfl ?_
  repeat (first | (refine G_id ?_; first | refine G_nil ?_ | refine G_plain rfl rfl ?_ | refine G_yes rfl rfl rfl rfl ?_) | (refine X_id ?_; first | refine X_yl (Yl_move rfl rfl) rfl rfl ?_ | refine X_yl (Yl_assign rfl rfl) rfl rfl ?_ | refine X_yl (Yl_pick_f rfl rfl rfl) rfl rfl ?_ | refine X_yl (Yl_lss_f rfl rfl rfl (by omega)) rfl rfl ?_ | refine X_yl (Yl_gtr_f rfl rfl rfl (by omega)) rfl rfl ?_) | (refine C_id ?_; first | refine C_seq ?_ | refine C_region ?_ | refine C_skip ?_ | refine C_cond_f rfl ?_) | (refine E_id ?_; first | refine E_code ?_))
  refine X_make rfl rfl rfl (by omega) (by omega) (by omega) (by omega) rfl rfl hS (fun al w hS _ => ?_)
  repeat (first | (refine G_id ?_; first | refine G_nil ?_ | refine G_plain rfl rfl ?_) | (refine X_id ?_; first | refine X_yl (Yl_assign rfl rfl) rfl rfl ?_ | refine X_yl (Yl_build rfl rfl rfl) rfl rfl ?_ | refine X_box rfl rfl rfl rfl hS (fun _ _ hS _ => ?_)) | (refine C_id ?_; first | refine C_ret ?_) | (refine E_id ?_; first | refine E_code ?_ | refine E_ret2 rfl (Rv_tmp rfl) (Rv_tmp rfl) (Ret.mk ?_)))
  refine ⟨_, rfl, ?_⟩
  have e : madeCells (Value.agg (List.replicate 64 (Value.int .u8 0)).toArray).cells ((n : Int).toNat * 64) = (laidCells (newDisk n).laid).toArray := by
    show madeCells (List.replicate 64 (Value.int .u8 0)).toArray _ = _
    rw [madeCells_zeros, newDisk, laidCells_replicate]; simp
  rw [e] at hS
  have hl : (laidCells (newDisk n).laid).length = n * 64 := by rw [newDisk, laidCells_replicate]; simp
  have hS := ((hS.second (own_of_pts (c := n) (cs := laidCells (newDisk n).laid) hl (by simp only [maxLen]; omega) (by simp))).own_none 170 65 none).sel [false, true, true]
  refine St.shutR (rs' := [_, _, _]) (rs := []) hS fun h hh => ⟨newDisk_ok h1 h2, some ⟨al, 0, none⟩, n, none, 0, by simp [newDisk], by simp [newDisk], ?_⟩
  have el : (newDisk n).laid.length = n := by simp [newDisk]
  rw [el]
  exact hh

/-! ### slices.Clone at bytes -/
theorem clone_ (a : Option Addr) (n c : Nat) (s : List UInt8) (W : World) (hs : Rd W (bytes a s)) (hn : s.length = n) (hlim : n ≤ 1073741824) :
    Calls Tryz.prog 93 #[.slice a n c] W (Ret fun v w => ∃ a' c', v = .slice a' n c' ∧ (a' = none ↔ a = none) ∧ n ≤ c' ∧ St W noF [own 5 1 a' c' (bv s)] w) := by
  have hS := St.start W
  cases a with
  | none =>
    have h0 : bv s = [] := hs.none_nil
    obtain rfl : n = 0 := by rw [← hn, ← bv_length s, h0]; rfl
    refine calls_C Tryz.func93 rfl Tryz.ntmps93 rfl ?_
    repeat (first | (refine G_id ?_; first | refine G_nil ?_ | refine G_plain rfl rfl ?_) | (refine X_id ?_; first | refine X_yl (Yl_move rfl rfl) rfl rfl ?_ | refine X_yl (Yl_assign rfl rfl) rfl rfl ?_ | refine X_yl (Yl_eqlNilSlice rfl rfl rfl) rfl rfl ?_) | (refine C_id ?_; first | refine C_seq ?_ | refine C_region ?_ | refine C_ret ?_ | refine C_cond_t rfl ?_) | (refine E_id ?_; first | refine E_code ?_ | refine E_then_ret ?_ | refine E_ret1 rfl (Rv_tmp rfl) (Ret.mk ?_)))
    refine ⟨none, 0, rfl, by simp, by omega, ?_⟩
    rw [h0]
    exact hS.own_none _ _ _
  | some ad =>
    refine calls_C Tryz.func93 rfl Tryz.ntmps93 rfl ?_
    repeat (first | (refine G_id ?_; first | refine G_nil ?_ | refine G_plain rfl rfl ?_) | (refine X_id ?_; first | refine X_yl (Yl_move rfl rfl) rfl rfl ?_ | refine X_yl (Yl_assign rfl rfl) rfl rfl ?_ | refine X_yl (Yl_eqlNilSlice rfl rfl rfl) rfl rfl ?_ | refine X_buildSlice rfl rfl rfl rfl rfl rfl rfl rfl hS (fun _ _ hS _ => ?_)) | (refine C_id ?_; first | refine C_seq ?_ | refine C_region ?_ | refine C_skip ?_ | refine C_cond_f rfl ?_) | (refine E_id ?_; first | refine E_code ?_))
    rename_i b w hb
    have hs := hs.below hb
    repeat (first | fail)
    refine X_append rfl rfl rfl rfl rfl hS rfl (by omega) hs (by simp [hn]) bv_one (by omega) (by simp only [maxLen]; omega) (fun a' c' w hS hc hnil => ?_)
    repeat (first | (refine G_id ?_; first | refine G_nil ?_ | refine G_plain rfl rfl ?_) | (refine X_id ?_; first | refine X_yl (Yl_assign rfl rfl) rfl rfl ?_) | (refine C_id ?_; first | refine C_ret ?_) | (refine E_id ?_; first | refine E_code ?_ | refine E_ret1 rfl (Rv_tmp rfl) (Ret.mk ?_)))
    refine ⟨a', c', by rw [Nat.zero_add], by rw [hnil]; simp, by omega, hS⟩
end Cr
namespace Cr
open Go Go.Proofs
set_option maxRecDepth 100000
set_option maxHeartbeats 4000000

theorem add64_ (b off : Nat) (x y : Int) (l l' : List Value) (T : TypeId) (W : World) (F : Nat → Prop) [hn : Nth l off (.int .i64 x)] [hs : Spl l off [.int .i64 (IntKind.i64.wrap (x + y))] l'] (hS : St W F [pts b (.cells l.toArray T)] W) :
    Calls Tryz.prog 103 #[.pointer (some ⟨b, off, none⟩), .int .i64 y] W (Ret fun v w => v = .int .i64 (IntKind.i64.wrap (x + y)) ∧ St W F [pts b (.cells l'.toArray T)] w) := by
  refine calls_C Tryz.func103 rfl Tryz.ntmps103 rfl ?_
  repeat (first | (refine G_id ?_; first | refine G_nil ?_ | refine G_plain rfl rfl ?_) | (refine X_id ?_; first | refine X_yl (Yl_move rfl rfl) rfl rfl ?_ | refine X_yl (Yl_assign rfl rfl) rfl rfl ?_ | refine X_yl (Yl_nilCheck rfl rfl) rfl rfl ?_ | refine X_yl (Yl_fieldAddr rfl rfl rfl) rfl rfl ?_ | refine X_eadd rfl rfl rfl rfl rfl rfl hS (fun _ hS => ?_)) | (refine C_id ?_; first | refine C_seq ?_ | refine C_region ?_ | refine C_ret ?_) | (refine E_id ?_; first | refine E_code ?_ | refine E_ret1 rfl (Rv_tmp rfl) (Ret.mk ?_)))
  exact ⟨rfl, hS⟩

def DiskM.used (D : DiskM) : DiskM := { D with off := useOff D.off D.armed D.left, left := useLeft D.off D.armed D.left }
def DiskM.write (D : DiskM) (no : Int) (b : List UInt8) : Int × DiskM :=
  if D.off then (9, D) else if inDisk D no = false ∨ b.length ≠ 64 then (1, D) else if useB D.off D.armed D.left = false then (9, D.used)
  else (0, { D.used with line := D.line ++ [(no, b)], writes := IntKind.i64.wrap (D.writes + 1) })
theorem DiskM.write_use {D : DiskM} {no : Int} {b : List UInt8} (h : D.off = false) (hin : inDisk D no = true) (hb : b.length = 64) (hu : useB D.off D.armed D.left = false) : D.write no b = (9, D.used) := by
  unfold DiskM.write
  rw [if_neg (by simp [h]), if_neg (by simp [hin, hb]), if_pos hu]
theorem DiskM.write_yes {D : DiskM} {no : Int} {b : List UInt8} (h : D.off = false) (hin : inDisk D no = true) (hb : b.length = 64) (hu : useB D.off D.armed D.left = true) : D.write no b = (0, { D.used with line := D.line ++ [(no, b)], writes := IntKind.i64.wrap (D.writes + 1) }) := by
  unfold DiskM.write
  rw [if_neg (by simp [h]), if_neg (by simp [hin, hb]), if_neg (by simp [hu])]
theorem DiskM.used_ok {D : DiskM} (h : D.ok) : D.used.ok := by
  obtain ⟨h1, h2, h3, h4, h5, h6⟩ := h
  refine ⟨h1, h2, h3, h4, ?_, ?_⟩ <;> simp only [DiskM.used, useLeft] <;> split <;> omega
theorem DiskM.line_ok {D : DiskM} (h : D.ok) {no : Int} {b : List UInt8} {wr : Int} (hn : inDisk D no = true) (hb : b.length = 64) : ({ D with line := D.line ++ [(no, b)], writes := wr } : DiskM).ok := by
  obtain ⟨h1, h2, h3, h4, h5, h6⟩ := h
  refine ⟨h1, fun x hx => ?_, h3, h4, h5, h6⟩
  simp only [List.mem_append, List.mem_singleton] at hx
  rcases hx with hx | rfl
  · exact h2 x hx
  · have : 0 ≤ no ∧ no < D.laid.length := by simpa [inDisk] using hn
    exact ⟨hb, this.1, this.2⟩
/-- A disk opened: its own block, its sectors, its line. -/
theorem St.openDisk {W : World} {F : Nat → Prop} {p : Nat} {D : DiskM} {rs : List Res} {w : World} (hS : St W F (disk p D :: rs) w) : D.ok ∧ ∃ al cl ai ci, D.laid.length ≤ cl ∧ D.line.length ≤ ci ∧
    St W F (pts p (.cells #[.bool D.off, .bool D.armed, .int .i64 D.left, .slice al D.laid.length cl, .slice ai D.line.length ci, .int .i64 D.writes, .int .i64 D.flushes] 109) ::
      own 168 64 al cl (laidCells D.laid) :: own 170 65 ai ci (lineCells D.line) :: rs) w := by
  obtain ⟨h, ⟨h1, h2, ⟨hok, al, cl, ai, ci, c1, c2, hs⟩, hr, hd, hu⟩, s⟩ := hS
  exact ⟨hok, al, cl, ai, ci, c1, c2, h, Sep.append_mk (rs := [_, _, _]) hs hr hd hu, s⟩
theorem St.shutDisk {W : World} {F : Nat → Prop} {p : Nat} {D : DiskM} {rs : List Res} {w : World} {al ai : Option Addr} {cl ci : Nat} (hok : D.ok) (c1 : D.laid.length ≤ cl) (c2 : D.line.length ≤ ci)
    (hS : St W F (pts p (.cells #[.bool D.off, .bool D.armed, .int .i64 D.left, .slice al D.laid.length cl, .slice ai D.line.length ci, .int .i64 D.writes, .int .i64 D.flushes] 109) ::
      own 168 64 al cl (laidCells D.laid) :: own 170 65 ai ci (lineCells D.line) :: rs) w) : St W F (disk p D :: rs) w :=
  St.shutR (rs' := [_, _, _]) (rs := rs) hS fun _ hh => ⟨hok, al, cl, ai, ci, c1, c2, hh⟩
theorem lineCells_append (l m : List (Int × List UInt8)) : lineCells (l ++ m) = lineCells l ++ lineCells m := by simp [lineCells]
theorem lineCells_length {l : List (Int × List UInt8)} (h : ∀ x ∈ l, x.2.length = 64) : (lineCells l).length = l.length * 65 := by
  induction l with
  | nil => rfl
  | cons x l ih =>
    have := ih fun y hy => h y (List.mem_cons_of_mem _ hy)
    have h0 := h x (List.mem_cons_self ..)
    simp only [lineCells, List.flatMap_cons, List.length_append, List.length_cons, bv_length, h0] at this ⊢
    omega
theorem laidCells_length {l : List (List UInt8)} (h : ∀ x ∈ l, x.length = 64) : (laidCells l).length = l.length * 64 := by
  induction l with
  | nil => rfl
  | cons x l ih =>
    have := ih fun y hy => h y (List.mem_cons_of_mem _ hy)
    have h0 := h x (List.mem_cons_self ..)
    simp only [laidCells, List.flatMap_cons, List.length_append, List.length_cons, bv_length, h0] at this ⊢
    omega

theorem one_int {k : IntKind} {n : Int} {l : List Value} (h : ∀ u ∈ l, u.oneCell' = true) : ∀ u ∈ Value.int k n :: l, u.oneCell' = true := fun u hu => by
  rcases List.mem_cons.mp hu with rfl | hu
  · rfl
  · exact h u hu
theorem write_ (p : Nat) (D : DiskM) (no : Int) (a : Option Addr) (n c : Nat) (b : List UInt8) (W : World) (F : Nat → Prop) (hS : St W F [disk p D] W) (hb : Ro W F (bytes a b)) (hn : b.length = n) (hline : D.line.length < 1073741824) :
    Calls Tryz.prog 83 #[.pointer (some ⟨p, 0, none⟩), .int .i64 no, .slice a n c] W (Ret fun v w => v = .int .i64 (D.write no b).1 ∧ St W F [disk p (D.write no b).2] w) := by
  have hd := hS.rd (List.mem_cons_self ..)
  cases hoff : D.off
  · have hon := on_ p D W hd
    rw [hoff] at hon
    cases hin : inDisk D no
    · have hhas := has_ p D no W hd
      rw [hin] at hhas
      refine calls_C Tryz.func83 rfl Tryz.ntmps83 rfl ?_
      repeat (first | (refine G_id ?_; first | refine G_nil ?_ | refine G_plain rfl rfl ?_ | refine G_no rfl rfl rfl rfl rfl rfl ?_) | (refine X_id ?_; first | (refine X_callg 43 rfl rfl rfl rfl rfl hon ?_; rintro _ _ ⟨rfl, rfl⟩) | (refine X_callg 91 rfl rfl rfl rfl rfl hhas ?_; rintro _ _ ⟨rfl, rfl⟩) | refine X_yl (Yl_move rfl rfl) rfl rfl ?_ | refine X_yl (Yl_assign rfl rfl) rfl rfl ?_ | refine X_yl (Yl_pick_t rfl rfl rfl) rfl rfl ?_ | refine X_yl (Yl_not_t rfl rfl) rfl rfl ?_ | refine X_yl (Yl_not_f rfl rfl) rfl rfl ?_) | (refine C_id ?_; first | refine C_seq ?_ | refine C_region ?_ | refine C_block ?_ | refine C_ret ?_ | refine C_cond_t rfl ?_ | refine C_cond_f rfl ?_) | (refine E_id ?_; first | refine E_code ?_ | refine E_then_ret ?_ | refine E_blk_ret ?_ | refine E_ret1 rfl (Rv_tmp rfl) (Ret.mk ?_)))
      refine ⟨by simp [DiskM.write, hoff, hin], by simpa [DiskM.write, hoff, hin] using hS⟩
    · have hhas := has_ p D no W hd
      rw [hin] at hhas
      by_cases hb64 : b.length = 64
      · have hn64 : n = 64 := by omega
        subst hn64
        obtain ⟨hok, al, cl, ai, ci, c1, c2, hS⟩ := hS.openDisk
        have hbr := hb.start
        obtain ⟨bb, bo, rfl⟩ := hbr.base (fun e => by rw [← bv_length, e] at hb64; cases hb64)
        have hcells := hbr.cellsAt rfl
        have hlc : LenIs (bv b) 64 := ⟨by simp [hb64]⟩
        cases huse : useB D.off D.armed D.left
        · refine calls_C Tryz.func83 rfl Tryz.ntmps83 rfl ?_
          repeat (first | (refine G_id ?_; first | refine G_nil ?_ | refine G_plain rfl rfl ?_ | refine G_yes rfl rfl rfl rfl ?_) | (refine X_id ?_; first | (refine X_callg 43 rfl rfl rfl rfl rfl hon ?_; rintro _ _ ⟨rfl, rfl⟩) | (refine X_callg 91 rfl rfl rfl rfl rfl hhas ?_; rintro _ _ ⟨rfl, rfl⟩) | refine X_yl (Yl_move rfl rfl) rfl rfl ?_ | refine X_yl (Yl_assign rfl rfl) rfl rfl ?_ | refine X_yl (Yl_nilCheck rfl rfl) rfl rfl ?_ | refine X_yl (Yl_fieldAddr0 rfl rfl rfl) rfl rfl ?_ | refine X_yl (Yl_pick_f rfl rfl rfl) rfl rfl ?_ | refine X_yl (Yl_not_t rfl rfl) rfl rfl ?_ | refine X_yl (Yl_len rfl rfl) rfl rfl ?_ | refine X_yl (Yl_neq_f rfl rfl rfl (by omega)) rfl rfl ?_) | (refine C_id ?_; first | refine C_seq ?_ | refine C_region ?_ | refine C_block ?_ | refine C_cond_f rfl ?_) | (refine E_id ?_; first | refine E_code ?_))
          obtain ⟨_, hc, hr, hw, hbk⟩ := hS.call [true, false, false]
          refine X_callg _ rfl rfl rfl rfl rfl (use_ p D.off D.armed D.left _ _ _ _ hok.left0 hok.left1 hc) ?_
          rintro _ w ⟨rfl, hS⟩
          replace hS := hbk hS
          clear hc hr hw hbk
          rw [huse]
          repeat (first | (refine G_id ?_; first | refine G_nil ?_ | refine G_plain rfl rfl ?_) | (refine X_id ?_; first | refine X_yl (Yl_assign rfl rfl) rfl rfl ?_ | refine X_yl (Yl_not_f rfl rfl) rfl rfl ?_) | (refine C_id ?_; first | refine C_seq ?_ | refine C_region ?_ | refine C_ret ?_ | refine C_cond_t rfl ?_) | (refine E_id ?_; first | refine E_code ?_ | refine E_then_ret ?_ | refine E_blk_ret ?_ | refine E_ret1 rfl (Rv_tmp rfl) (Ret.mk ?_)))
          rw [DiskM.write_use hoff hin hb64 huse]
          exact ⟨rfl, St.shutDisk (DiskM.used_ok hok) c1 c2 hS⟩
        · refine calls_C Tryz.func83 rfl Tryz.ntmps83 rfl ?_
          repeat (first | (refine G_id ?_; first | refine G_nil ?_ | refine G_plain rfl rfl ?_ | refine G_yes rfl rfl rfl rfl ?_) | (refine X_id ?_; first | (refine X_callg 43 rfl rfl rfl rfl rfl hon ?_; rintro _ _ ⟨rfl, rfl⟩) | (refine X_callg 91 rfl rfl rfl rfl rfl hhas ?_; rintro _ _ ⟨rfl, rfl⟩) | refine X_yl (Yl_move rfl rfl) rfl rfl ?_ | refine X_yl (Yl_assign rfl rfl) rfl rfl ?_ | refine X_yl (Yl_nilCheck rfl rfl) rfl rfl ?_ | refine X_yl (Yl_fieldAddr0 rfl rfl rfl) rfl rfl ?_ | refine X_yl (Yl_pick_f rfl rfl rfl) rfl rfl ?_ | refine X_yl (Yl_not_t rfl rfl) rfl rfl ?_ | refine X_yl (Yl_len rfl rfl) rfl rfl ?_ | refine X_yl (Yl_neq_f rfl rfl rfl (by omega)) rfl rfl ?_) | (refine C_id ?_; first | refine C_seq ?_ | refine C_region ?_ | refine C_block ?_ | refine C_cond_f rfl ?_) | (refine E_id ?_; first | refine E_code ?_))
          obtain ⟨_, hc, hr, hw, hbk⟩ := hS.call [true, false, false]
          refine X_callg _ rfl rfl rfl rfl rfl (use_ p D.off D.armed D.left _ _ _ _ hok.left0 hok.left1 hc) ?_
          rintro _ w ⟨rfl, hS⟩
          replace hS := hbk hS
          clear hc hr hw hbk
          rw [huse]
          repeat (first | (refine G_id ?_; first | refine G_nil ?_ | refine G_plain rfl rfl ?_) | (refine X_id ?_; first | refine X_yl (Yl_assign rfl rfl) rfl rfl ?_ | refine X_yl (Yl_not_t rfl rfl) rfl rfl ?_) | (refine C_id ?_; first | refine C_seq ?_ | refine C_skip ?_ | refine C_cond_f rfl ?_) | (refine E_id ?_; first | refine E_code ?_ | refine E_blk_n ?_))
          have hcells : CellsAt w.drew ⟨bb, bo, none⟩ (bv b) := (hb.rd hS).cellsAt rfl
          refine C_ord (.s 0 (.s 1 (.s 2 (.s 3 (.s 4 (.s 5 (.s 6 (.s 7 (.s 8 (.s 9 (.h 10 (.h 11 (.s 12 (.s 13 (.h 14 .nil .no))) .no) .no))))))))))) mixed (by kernel_rfl) rfl ?_
          have hS := hS.drew
          repeat (first | (refine X_id ?_; first | refine X_buildSlice rfl rfl rfl rfl rfl rfl rfl rfl hS (fun _ _ hS _ => ?_)) | (refine GO_id ?_; first | refine GO_pure rfl rfl (fun _ => Yl_move rfl rfl) rfl rfl ?_ | refine GO_pure rfl rfl (fun _ => Yl_nilCheck rfl rfl) rfl rfl ?_ | refine GO_pure rfl rfl (fun _ => Yl_fieldAddr0 rfl rfl rfl) rfl rfl ?_ | refine GO_pure rfl rfl (fun _ => Yl_build rfl rfl rfl) rfl rfl ?_ | refine GO_pure rfl rfl (fun _ => Yl_arrayAt rfl rfl (by omega)) rfl rfl ?_ | refine GO_read (fun w' => w'.cell? _ = some _) rfl rfl hS.cell (fun _ hc => Yl_load rfl rfl hc) rfl rfl ?_ | refine GO_read (fun w' => CellsAt w' _ _) rfl rfl (by assumption) (fun _ hc => Yl_loadAgg rfl rfl hc (by simp; omega)) rfl rfl ?_ | refine GO_hard rfl rfl ?_) | (refine Keep_id ?_; first | refine And.intro (by repeat (first | exact trivial | refine And.intro (.inl (by decide +kernel)) ?_ | refine And.intro (.inr (by first | assumption | exact hS.cell | exact cell_at (by assumption) | exact hS.cellI (by omega) | exact hS.cellIP (by omega) | exact hS.cellsN | exact ((hr.rd hS).cellX (by omega) hx) | exact ((hr2.rd hS).cellX (by omega) hx2) | exact hS.cellB (by omega) | exact hS.cellBA (by omega) | exact (hb.rd hS).cellB' (by omega) | exact (hb2.rd hS).cellB' (by omega) | exact (hg.rd hS).cellI (by omega) | exact (hg2.rd hS).cellI (by omega) | exact ((hr.rd hS).cellF (by first | omega | (dsimp only; omega)) hx) | exact ((hr2.rd hS).cellF (by first | omega | (dsimp only; omega)) hx2) | exact hS.cellO 0 (by omega) | exact hS.cellO 1 (by omega) | exact hS.cellIA (by omega) | exact (hg.rd hS).cellIA (by omega) | exact (hg2.rd hS).cellIA (by omega) | exact cell_at (hc.rd hS).pts | exact hb.rd hS | exact (hr.rd hS).cellsF7 (by first | omega | (dsimp only; omega)) hst4 rfl | exact (hr2.rd hS).cellsF7 (by first | omega | (dsimp only; omega)) hst4 rfl | exact hS.cellO 4 (by omega) | exact hS.cellO 5 (by omega) | exact hS.cellO 6 (by omega) | exact hS.cellO 7 (by omega) | exact hS.cellO 8 (by omega) | exact hS.cellO 9 (by omega) | exact hS.cellO 10 (by omega) | exact hS.cellO 11 (by omega) | exact hS.cellO 12 (by omega) | exact hS.cellO 13 (by omega) | exact hS.cellO 2 (by omega) | exact hS.cellO 3 (by omega))) ?_)) ?_))
          refine X_append rfl rfl rfl rfl rfl hS (lineCells_length fun x hx => (hok.line64 x hx).1) c2 (hS.rd (List.mem_cons_self ..)).own_row (by simp [hb64]) (one_int bv_one) (by omega) (by simp only [maxLen]; omega) (fun a' c' w hS hc hnil => ?_)
          repeat (first | (refine G_id ?_; first | refine G_plain rfl rfl ?_) | (refine X_id ?_; first | refine X_yl (Yl_move rfl rfl) rfl rfl ?_ | refine X_yl (Yl_nilCheck rfl rfl) rfl rfl ?_ | refine X_yl (Yl_fieldAddr0 rfl rfl rfl) rfl rfl ?_ | refine X_store rfl rfl rfl rfl hS (fun _ hS _ => ?_)) | (refine C_id ?_; first | refine C_seq ?_ | refine C_region ?_) | (refine E_id ?_; first | refine E_code ?_) | (refine GO_id ?_; first | refine GO_nil ?_ | refine GO_pure rfl rfl (fun _ => Yl_nilCheck rfl rfl) rfl rfl ?_ | refine GO_pure rfl rfl (fun _ => Yl_fieldAddr0 rfl rfl rfl) rfl rfl ?_ | refine GO_hard rfl rfl ?_) | (refine Keep_id ?_; first | refine And.intro (by repeat (first | exact trivial | refine And.intro (.inl (by decide +kernel)) ?_ | refine And.intro (.inr (by first | assumption | exact hS.cell | exact cell_at (by assumption) | exact hS.cellI (by omega) | exact hS.cellIP (by omega) | exact hS.cellsN | exact ((hr.rd hS).cellX (by omega) hx) | exact ((hr2.rd hS).cellX (by omega) hx2) | exact hS.cellB (by omega) | exact hS.cellBA (by omega) | exact (hb.rd hS).cellB' (by omega) | exact (hb2.rd hS).cellB' (by omega) | exact (hg.rd hS).cellI (by omega) | exact (hg2.rd hS).cellI (by omega) | exact ((hr.rd hS).cellF (by first | omega | (dsimp only; omega)) hx) | exact ((hr2.rd hS).cellF (by first | omega | (dsimp only; omega)) hx2) | exact hS.cellO 0 (by omega) | exact hS.cellO 1 (by omega) | exact hS.cellIA (by omega) | exact (hg.rd hS).cellIA (by omega) | exact (hg2.rd hS).cellIA (by omega) | exact cell_at (hc.rd hS).pts | exact hb.rd hS | exact (hr.rd hS).cellsF7 (by first | omega | (dsimp only; omega)) hst4 rfl | exact (hr2.rd hS).cellsF7 (by first | omega | (dsimp only; omega)) hst4 rfl | exact hS.cellO 4 (by omega) | exact hS.cellO 5 (by omega) | exact hS.cellO 6 (by omega) | exact hS.cellO 7 (by omega) | exact hS.cellO 8 (by omega) | exact hS.cellO 9 (by omega) | exact hS.cellO 10 (by omega) | exact hS.cellO 11 (by omega) | exact hS.cellO 12 (by omega) | exact hS.cellO 13 (by omega) | exact hS.cellO 2 (by omega) | exact hS.cellO 3 (by omega))) ?_)) ?_))
          obtain ⟨_, hc, hr, hw, hbk⟩ := hS.call [false, false, true, false]
          refine X_callg _ rfl rfl rfl rfl rfl (add64_ p 5 D.writes 1 _ _ _ _ _ hc) ?_
          rintro _ w ⟨rfl, hS⟩
          replace hS := hbk hS
          clear hc hr hw hbk
          repeat (first | (refine G_id ?_; first | refine G_nil ?_ | refine G_plain rfl rfl ?_) | (refine X_id ?_; first | refine X_yl (Yl_assign rfl rfl) rfl rfl ?_) | (refine C_id ?_; first | refine C_seq ?_ | refine C_region ?_ | refine C_ret ?_) | (refine E_id ?_; first | refine E_code ?_ | refine E_ret1 rfl (Rv_tmp rfl) (Ret.mk ?_)))
          rw [DiskM.write_yes hoff hin hb64 huse]
          have hok' := DiskM.line_ok (wr := IntKind.i64.wrap (D.writes + 1)) (DiskM.used_ok hok) (no := no) (b := b) hin hb64
          refine ⟨rfl, St.shutDisk (al := al) (ai := a') hok' c1 (show (D.line ++ [(no, b)]).length ≤ c' by simpa using hc) ?_⟩
          have hS := hS.pick [0, 2, 0]
          show St W F [pts p (.cells #[_, _, _, _, .slice a' ((D.line ++ [(no, b)]).length : Nat) c', _, _] 109), _, own _ _ _ _ (lineCells (D.line ++ [(no, b)]))] w
          rw [lineCells_append, List.length_append]
          simpa [lineCells, DiskM.used] using hS
      · refine calls_C Tryz.func83 rfl Tryz.ntmps83 rfl ?_
        repeat (first | (refine G_id ?_; first | refine G_nil ?_ | refine G_plain rfl rfl ?_ | refine G_yes rfl rfl rfl rfl ?_) | (refine X_id ?_; first | (refine X_callg 43 rfl rfl rfl rfl rfl hon ?_; rintro _ _ ⟨rfl, rfl⟩) | (refine X_callg 91 rfl rfl rfl rfl rfl hhas ?_; rintro _ _ ⟨rfl, rfl⟩) | refine X_yl (Yl_move rfl rfl) rfl rfl ?_ | refine X_yl (Yl_assign rfl rfl) rfl rfl ?_ | refine X_yl (Yl_pick_f rfl rfl rfl) rfl rfl ?_ | refine X_yl (Yl_not_t rfl rfl) rfl rfl ?_ | refine X_yl (Yl_len rfl rfl) rfl rfl ?_ | refine X_yl (Yl_neq_t rfl rfl rfl (by omega)) rfl rfl ?_) | (refine C_id ?_; first | refine C_seq ?_ | refine C_region ?_ | refine C_block ?_ | refine C_ret ?_ | refine C_cond_t rfl ?_ | refine C_cond_f rfl ?_) | (refine E_id ?_; first | refine E_code ?_ | refine E_then_ret ?_ | refine E_blk_ret ?_ | refine E_ret1 rfl (Rv_tmp rfl) (Ret.mk ?_)))
        refine ⟨by simp [DiskM.write, hoff, hin, hb64], by simpa [DiskM.write, hoff, hin, hb64] using hS⟩
  · have hon := on_ p D W hd
    rw [hoff] at hon
    refine calls_C Tryz.func83 rfl Tryz.ntmps83 rfl ?_
    repeat (first | (refine G_id ?_; first | refine G_nil ?_ | refine G_plain rfl rfl ?_) | (refine X_id ?_; first | (refine X_callg 43 rfl rfl rfl rfl rfl hon ?_; rintro _ _ ⟨rfl, rfl⟩) | refine X_yl (Yl_move rfl rfl) rfl rfl ?_ | refine X_yl (Yl_assign rfl rfl) rfl rfl ?_ | refine X_yl (Yl_not_f rfl rfl) rfl rfl ?_) | (refine C_id ?_; first | refine C_seq ?_ | refine C_region ?_ | refine C_block ?_ | refine C_ret ?_ | refine C_cond_t rfl ?_) | (refine E_id ?_; first | refine E_code ?_ | refine E_then_ret ?_ | refine E_blk_ret ?_ | refine E_ret1 rfl (Rv_tmp rfl) (Ret.mk ?_)))
    exact ⟨by simp [DiskM.write, hoff], by simpa [DiskM.write, hoff] using hS⟩
end Cr
namespace Cr
open Go Go.Proofs
set_option maxRecDepth 100000

theorem backward_waiting (l bx n c : Nat) (a : Option Addr) (cs : List Value) (w : World) (T : TypeId) (hn : n ≤ 4611686018427387904) (hcs : cs.length = n * 65) (Inv : Nat → World → Prop) (Stop : World → Prop)
    (hbx : ∀ k w, Inv k w → w.heap[bx]? = some (.cells #[.slice a n c] T)) (hrow : ∀ k w, Inv k w → Rd w (row a cs)) (hl : ∀ k w, Inv k w → ∃ r : Loop, r.params.size = 2 ∧ w.heap[l]? = some (.loop r) ∧ (k ≠ 0 →
      RoundIn Fence.wide 0 Tryz.prog l r.fn ((r.params.zip #[.int .i64 ((k - 1 : Nat) : Int), .agg ((cs.drop ((k - 1) * 65)).take 65).toArray]).foldl (fun tmps (t, a) => tmps.setIfInBounds t a) r.tmps) r.assign r.body w
        (Ret fun v w' => (v = .bool true ∧ Inv (k - 1) w') ∨ (v = .bool false ∧ Stop w')))) (h0 : Inv n w) :
    CallsIn Fence.wide 0 Tryz.prog 110 #[.func (.yield l) #[] #[], .pointer (some ⟨bx, 0, none⟩)] w (Ret fun _ w' => Inv 0 w' ∨ Stop w') := by
  refine callsIn_wide.2 ?_
  have hb := hbx _ _ h0
  refine calls_C Tryz.func110 rfl Tryz.ntmps110 rfl ?_
  repeat (first | (refine G_id ?_; first | refine G_nil ?_ | refine G_plain rfl rfl ?_) | (refine X_id ?_; first | refine X_yl (Yl_assign rfl rfl) rfl rfl ?_ | refine X_yl (Yl_len rfl rfl) rfl rfl ?_ | refine X_yl (Yl_sub rfl rfl rfl (w64 (by omega) (by omega))) rfl rfl ?_ | refine X_yl (Yl_load rfl rfl (cell_at (by assumption))) rfl rfl ?_) | (refine C_id ?_; first | refine C_seq ?_ | refine C_region ?_ | refine C_block ?_) | (refine E_id ?_; first | refine E_code ?_))
  refine C_loop (α := Nat) (fun k => [(0, .func (.yield l) #[] #[]), (1, .pointer (some ⟨bx, 0, none⟩)), (3, .int .i64 ((k : Int) - 1))]) (fun k w => k ≤ n ∧ Inv k w) (fun k => k) n ⟨rfl, rfl, rfl, trivial⟩ ⟨Nat.le_refl _, h0⟩ ?_
  clear hb h0
  rintro k w ⟨hk, hi⟩
  have hb := hbx _ _ hi
  by_cases h0 : k = 0
  · subst h0
    repeat (first | (refine G_id ?_; first | refine G_nil ?_ | refine G_plain rfl rfl ?_) | (refine X_id ?_; first | refine X_yl (Yl_move rfl rfl) rfl rfl ?_ | refine X_yl (Yl_geq_f rfl rfl rfl (by omega)) rfl rfl ?_) | (refine C_id ?_; first | refine C_seq ?_ | refine C_region ?_ | refine C_exit ?_ | refine C_cond_f rfl ?_) | (refine E_id ?_; first | refine E_code ?_ | refine E_then_exit ?_ | refine E_blk_same ?_ | refine E_end0 rfl (Ret.mk ?_)))
    exact .inl hi
  · obtain ⟨r, hp, hlr, hr⟩ := hl _ _ hi
    have hr := hr h0
    have hcs0 : cs ≠ [] := by intro e; rw [e] at hcs; simp at hcs; omega
    have ha := (hrow _ _ hi).base hcs0
    have hseg := (hrow _ _ hi).seg ((k - 1) * 65) 65
    have e1 : ((k : Int) - 1).toNat = k - 1 := by omega
    have e2 : ((k - 1 : Nat) : Int) = (k : Int) - 1 := by omega
    rw [e2] at hr
    repeat (first | (refine G_id ?_; first | refine G_nil ?_ | refine G_plain rfl rfl ?_) | (refine X_id ?_; first | refine X_yl (Yl_move rfl rfl) rfl rfl ?_ | refine X_yl (Yl_geq_t rfl rfl rfl (by omega)) rfl rfl ?_ | refine X_yl (Yl_indexAddr rfl rfl rfl (by omega) (by omega) (by first | assumption | exact ⟨_, _, rfl⟩)) rfl rfl ?_ | refine X_yl (Yl_load rfl rfl (cell_at (by assumption))) rfl rfl ?_) | (refine C_id ?_; first | refine C_seq ?_ | refine C_region ?_ | refine C_block ?_ | refine C_skip ?_ | refine C_cond_t rfl ?_) | (refine E_id ?_; first | refine E_code ?_))
    rw [e1]
    refine X_yl (Yl_loadAgg rfl rfl hseg (by simp; omega)) rfl rfl ?_
    refine G_yield rfl rfl rfl rfl rfl rfl hlr (by rw [hp]; rfl) hr ?_
    rintro v w' (⟨rfl, hi'⟩ | ⟨rfl, hs⟩)
    · repeat (first | (refine G_id ?_; first | refine G_nil ?_ | refine G_plain rfl rfl ?_) | (refine X_id ?_; first | refine X_yl (Yl_move rfl rfl) rfl rfl ?_ | refine X_yl (Yl_assign rfl rfl) rfl rfl ?_ | refine X_yl (Yl_not_t rfl rfl) rfl rfl ?_ | refine X_yl (Yl_sub rfl rfl rfl (w64 (by omega) (by omega))) rfl rfl ?_) | (refine C_id ?_; first | refine C_region ?_ | refine C_skip ?_ | refine C_cond_f rfl ?_) | (refine E_id ?_; first | refine E_code ?_ | refine E_blk_n ?_))
      refine E_round (k - 1) ⟨rfl, rfl, ?_, trivial⟩ ⟨by omega, hi'⟩ (by omega)
      rw [e2]; rfl
    · repeat (first | (refine G_id ?_; first | refine G_nil ?_ | refine G_plain rfl rfl ?_) | (refine X_id ?_; first | refine X_yl (Yl_not_f rfl rfl) rfl rfl ?_) | (refine C_id ?_; first | refine C_ret ?_ | refine C_cond_t rfl ?_) | (refine E_id ?_; first | refine E_code ?_ | refine E_then_ret ?_ | refine E_blk_ret ?_ | refine E_ret0 rfl (Ret.mk ?_)))
      exact .inr hs
end Cr
namespace Cr
open Go Go.Proofs
set_option maxRecDepth 100000
set_option maxHeartbeats 4000000

theorem flatMap_len {α β : Type} {f : α → List β} {n : Nat} {l : List α} (h : ∀ x ∈ l, (f x).length = n) : (l.flatMap f).length = l.length * n := by
  induction l with
  | nil => simp
  | cons x l ih =>
    have := ih fun y hy => h y (List.mem_cons_of_mem _ hy)
    have h0 := h x (List.mem_cons_self ..)
    simp only [List.flatMap_cons, List.length_append, List.length_cons, h0, this, Nat.succ_mul]
    omega
theorem flatMap_seg {α β : Type} {f : α → List β} {n : Nat} {l : List α} (h : ∀ x ∈ l, (f x).length = n) {k : Nat} {x : α} (hx : l[k]? = some x) : ((l.flatMap f).drop (k * n)).take n = f x := by
  induction l generalizing k with
  | nil => simp at hx
  | cons y l ih =>
    have h0 := h y (List.mem_cons_self ..)
    cases k with
    | zero =>
      have e : y = x := by simpa using hx
      subst e
      simp [List.flatMap_cons, ← h0]
    | succ k =>
      have hx' : l[k]? = some x := by simpa using hx
      have := ih (fun z hz => h z (List.mem_cons_of_mem _ hz)) hx'
      rw [List.flatMap_cons, List.drop_append, h0, show (k + 1) * n - n = k * n by rw [Nat.succ_mul]; omega, List.drop_of_length_le (by rw [h0, Nat.succ_mul]; omega)]
      simpa using this
theorem splice_here (l m vs : List Value) (n : Nat) (hn : l.length = n) (r : List Value) (hr : r.length = vs.length) : splice (l ++ (r ++ m)) n vs = l ++ (vs ++ m) := by
  subst hn
  simp [splice, ← hr]
theorem flatMap_set {α : Type} {f : α → List Value} {n : Nat} {l : List α} (h : ∀ x ∈ l, (f x).length = n) {k : Nat} {y : α} (hy : (f y).length = n) (hk : k < l.length) : splice (l.flatMap f) (k * n) (f y) = (l.set k y).flatMap f := by
  induction l generalizing k with
  | nil => simp at hk
  | cons x l ih =>
    have h0 := h x (List.mem_cons_self ..)
    cases k with
    | zero =>
      simp only [List.flatMap_cons, List.set_cons_zero, Nat.zero_mul, splice]
      simp [hy, ← h0]
    | succ k =>
      have := ih (fun z hz => h z (List.mem_cons_of_mem _ hz)) (k := k) (by simpa using hk)
      simp only [List.flatMap_cons, List.set_cons_succ]
      rw [← this]
      unfold splice
      rw [List.take_append, List.drop_append, h0, show (k + 1) * n - n = k * n by rw [Nat.succ_mul]; omega, List.take_of_length_le (by rw [h0, Nat.succ_mul]; omega), List.drop_of_length_le (by rw [h0, Nat.succ_mul]; omega),
        show (k + 1) * n + (f y).length - n = k * n + (f y).length by rw [Nat.succ_mul]; omega]
      simp

def layOn (l : List (List UInt8)) (xs : List (Int × List UInt8)) : List (List UInt8) := xs.foldl (fun l x => l.set x.1.toNat x.2) l
theorem layOn_length (xs : List (Int × List UInt8)) : ∀ l, (layOn l xs).length = l.length := by
  induction xs with
  | nil => intro l; rfl
  | cons x xs ih => intro l; simp [layOn, List.foldl_cons] at ih ⊢; rw [ih]; simp
theorem layOn_64 (xs : List (Int × List UInt8)) (hx : ∀ x ∈ xs, x.2.length = 64) : ∀ l, (∀ s ∈ l, s.length = 64) → ∀ s ∈ layOn l xs, s.length = 64 := by
  induction xs with
  | nil => intro l h; exact h
  | cons x xs ih =>
    intro l h
    refine ih (fun y hy => hx y (List.mem_cons_of_mem _ hy)) _ fun s hs => ?_
    rcases List.mem_or_eq_of_mem_set hs with h' | rfl
    · exact h s h'
    · exact hx x (List.mem_cons_self ..)
theorem layOn_take {l : List (List UInt8)} {xs : List (Int × List UInt8)} {k : Nat} {x : Int × List UInt8} (hx : xs[k]? = some x) : layOn l (xs.take (k + 1)) = (layOn l (xs.take k)).set x.1.toNat x.2 := by
  have : xs.take (k + 1) = xs.take k ++ [x] := by
    rw [List.take_add_one, hx]; rfl
  rw [this, layOn, List.foldl_append]; rfl

theorem always_ (x : Value) (W : World) : Calls Tryz.prog 106 #[x] W (Ret fun v w => v = .bool true ∧ W = w) := by
  refine calls_C Tryz.func106 rfl Tryz.ntmps106 rfl ?_
  repeat (first | (refine G_id ?_; first | refine G_nil ?_ | refine G_plain rfl rfl ?_) | (refine X_id ?_; first | refine X_yl (Yl_assign rfl rfl) rfl rfl ?_) | (refine C_id ?_; first | refine C_seq ?_ | refine C_region ?_ | refine C_ret ?_) | (refine E_id ?_; first | refine E_code ?_ | refine E_ret1 rfl (Rv_tmp rfl) (Ret.mk ?_)))
  exact ⟨rfl, rfl⟩
def DiskM.flushed (D : DiskM) : DiskM := { D with laid := layOn D.laid D.line, line := [] }
theorem DiskM.flushed_ok {D : DiskM} (h : D.ok) : D.flushed.ok := by
  obtain ⟨h1, h2, h3, h4, h5, h6⟩ := h
  refine ⟨layOn_64 _ (fun x hx => (h2 x hx).1) _ h1, fun x hx => (by cases hx), ?_, ?_, h5, h6⟩ <;> simpa [DiskM.flushed, layOn_length] using (by assumption)
theorem lay_ (p : Nat) (D : DiskM) (W : World) (F : Nat → Prop) (hS : St W F [disk p D] W) (hline : D.line.length < 1073741824) :
    Calls Tryz.prog 105 #[.pointer (some ⟨p, 0, none⟩), .func (.func 106) #[] #[]] W (Ret fun _ w => True ∧ St W F [disk p D.flushed] w) := by
  obtain ⟨hok, al, cl, ai, ci, c1, c2, hS⟩ := hS.openDisk
  refine calls_C Tryz.func105 rfl Tryz.ntmps105 rfl ?_
  repeat (first | (refine G_id ?_; first | refine G_nil ?_ | refine G_plain rfl rfl ?_) | (refine X_id ?_; first | refine X_yl (Yl_move rfl rfl) rfl rfl ?_ | refine X_yl (Yl_assign rfl rfl) rfl rfl ?_ | refine X_yl (Yl_nilCheck rfl rfl) rfl rfl ?_ | refine X_yl (Yl_fieldAddr0 rfl rfl rfl) rfl rfl ?_ | refine X_yl (Yl_len rfl rfl) rfl rfl ?_ | refine X_yl (Yl_load rfl rfl hS.cell) rfl rfl ?_) | (refine C_id ?_; first | refine C_seq ?_ | refine C_label ?_ | refine C_scope rfl ?_ | refine C_region ?_ | refine C_block ?_) | (refine E_id ?_; first | refine E_code ?_))
  refine C_loop (α := Nat) (fun k => [(0, .pointer (some ⟨p, 0, none⟩)), (1, .func (.func 106) #[] #[]), (5, .int .i64 (k : Nat)), (11, .slice ai D.line.length ci), (12, .int .i64 (D.line.length : Nat)), (13, .int .i64 (k : Nat))])
    (fun k w => k ≤ D.line.length ∧ St W F [pts p (.cells #[.bool D.off, .bool D.armed, .int .i64 D.left, .slice al D.laid.length cl, .slice ai D.line.length ci, .int .i64 D.writes, .int .i64 D.flushes] 109),
      own 168 64 al cl (laidCells (layOn D.laid (D.line.take k))), own 170 65 ai ci (lineCells D.line)] w) (fun k => D.line.length - k) 0 ⟨rfl, rfl, rfl, rfl, rfl, rfl, trivial⟩ ⟨Nat.zero_le _, hS⟩ ?_
  clear hS
  rintro k w ⟨hk, hS⟩
  by_cases hlt : k < D.line.length
  · obtain ⟨x, hx⟩ : ∃ x, D.line[k]? = some x := ⟨_, List.getElem?_eq_getElem hlt⟩
    have hxm := List.mem_of_getElem? hx
    have hln : ∀ x ∈ D.line, (Value.int .i64 x.1 :: bv x.2).length = 65 := fun x hx => by simp [(hok.line64 x hx).1]
    have hseg : CellsAt w (adr ai (k * 65)) (.int .i64 x.1 :: bv x.2) := by
      have := (hS.rd (List.mem_cons_of_mem _ (List.mem_cons_of_mem _ (List.mem_cons_self ..)))).own_row.seg (k * 65) 65
      rwa [show ((lineCells D.line).drop (k * 65)).take 65 = _ from flatMap_seg hln hx] at this
    obtain ⟨ab, ao, hae⟩ := (hS.rd (List.mem_cons_of_mem _ (List.mem_cons_of_mem _ (List.mem_cons_self ..)))).own_row.base (by intro e; have h := lineCells_length fun x hx => (hok.line64 x hx).1; rw [e] at h; simp at h; omega)
    subst hae
    have hx64 := (hok.line64 x hxm).1
    have hx0 := (hok.line64 x hxm).2.1
    have hx1 := (hok.line64 x hxm).2.2
    have hl64 := layOn_64 (D.line.take k) (fun y hy => (hok.line64 y (List.mem_of_mem_take hy)).1) _ hok.laid64
    have hlay := laidCells_length hl64
    rw [layOn_length] at hlay
    obtain ⟨lb, lo, rfl⟩ := (hS.rd (List.mem_cons_of_mem _ (List.mem_cons_self ..))).own_row.base (by intro e; rw [e] at hlay; simp at hlay; omega)
    have hlen : LenIs (bv x.2) 64 := ⟨by simp [(hok.line64 x hxm).1]⟩
    repeat (first | (refine G_id ?_; first | refine G_nil ?_ | refine G_plain rfl rfl ?_) | (refine X_id ?_; first | refine X_yl (Yl_move rfl rfl) rfl rfl ?_ | refine X_yl (Yl_lss_t rfl rfl rfl (by omega)) rfl rfl ?_ | refine X_yl (Yl_indexAddr rfl rfl rfl (by omega) (by omega) (by first | assumption | exact ⟨_, _, rfl⟩)) rfl rfl ?_) | (refine C_id ?_; first | refine C_seq ?_ | refine C_region ?_ | refine C_block ?_ | refine C_skip ?_ | refine C_cond_t rfl ?_) | (refine E_id ?_; first | refine E_code ?_))
    refine X_yl (Yl_loadAgg rfl rfl hseg (by simp [(hok.line64 x hxm).1])) rfl rfl ?_
    repeat (first | (refine G_id ?_; first | refine G_nil ?_ | refine G_plain rfl rfl ?_) | (refine X_id ?_; first | refine X_yl (Yl_move rfl rfl) rfl rfl ?_ | refine X_yl (Yl_assign rfl rfl) rfl rfl ?_ | refine X_store rfl rfl rfl rfl hS (fun _ hS _ => ?_) | refine X_alloc rfl rfl rfl hS (fun _ _ hS _ => ?_)) | (refine C_id ?_; first | refine C_seq ?_ | refine C_region ?_) | (refine E_id ?_; first | refine E_code ?_))
    refine X_callg 106 rfl rfl rfl rfl rfl (always_ _ _) ?_
    rintro _ _ ⟨rfl, rfl⟩
    repeat (first | (refine G_id ?_; first | refine G_nil ?_ | refine G_plain rfl rfl ?_) | (refine X_id ?_; first | refine X_yl (Yl_not_t rfl rfl) rfl rfl ?_) | (refine C_id ?_; first | refine C_seq ?_ | refine C_skip ?_ | refine C_cond_f rfl ?_) | (refine E_id ?_; first | refine E_code ?_))
    refine C_ord (.s 0 (.s 1 (.s 2 (.s 3 (.s 4 (.s 5 (.s 6 (.s 7 (.s 8 (.h 9 .nil .no)))))))))) mixed (by kernel_rfl) rfl ?_
    have hS := hS.drew
    repeat (first | (refine GO_id ?_; first | refine GO_pure rfl rfl (fun _ => Yl_move rfl rfl) rfl rfl ?_ | refine GO_pure rfl rfl (fun _ => Yl_nilCheck rfl rfl) rfl rfl ?_ | refine GO_pure rfl rfl (fun _ => Yl_fieldAddr0 rfl rfl rfl) rfl rfl ?_ | refine GO_pure rfl rfl (fun _ => Yl_indexAddr rfl rfl rfl (by omega) (by omega) (by first | assumption | exact ⟨_, _, rfl⟩)) rfl rfl ?_ | refine GO_read (fun w' => w'.cell? _ = some _) rfl rfl hS.cell (fun _ hc => Yl_load rfl rfl hc) rfl rfl ?_ | refine GO_read (fun w' => CellsN w' _ _ _) rfl rfl hS.cellsN (fun _ hc => Yl_loadN rfl rfl hc) rfl rfl ?_ | refine GO_hard rfl rfl ?_))
    refine X_storeOwnN (a := some ⟨lb, lo, none⟩) (i := x.1.toNat * 64) rfl rfl ?_ rfl (bv_one) (by simp [hx64]) rfl hS (by simp [hx64, hlay]; omega) (by omega) (fun w hS => ?_)
    · rfl
    repeat (first | (refine G_id ?_; first | refine G_nil ?_ | refine G_plain rfl rfl ?_) | (refine X_id ?_; first | refine X_yl (Yl_move rfl rfl) rfl rfl ?_ | refine X_yl (Yl_assign rfl rfl) rfl rfl ?_ | refine X_yl (Yl_add rfl rfl rfl (w64 (by omega) (by omega))) rfl rfl ?_) | (refine C_id ?_; first | refine C_region ?_) | (refine E_id ?_; first | refine E_code ?_ | refine E_blk_n ?_) | (refine GO_id ?_; first | refine GO_nil ?_) | (refine Keep_id ?_; first | refine And.intro (by repeat (first | exact trivial | refine And.intro (.inl (by decide +kernel)) ?_ | refine And.intro (.inr (by first | assumption | exact hS.cell | exact cell_at (by assumption) | exact hS.cellI (by omega) | exact hS.cellIP (by omega) | exact hS.cellsN | exact ((hr.rd hS).cellX (by omega) hx) | exact ((hr2.rd hS).cellX (by omega) hx2) | exact hS.cellB (by omega) | exact hS.cellBA (by omega) | exact (hb.rd hS).cellB' (by omega) | exact (hb2.rd hS).cellB' (by omega) | exact (hg.rd hS).cellI (by omega) | exact (hg2.rd hS).cellI (by omega) | exact ((hr.rd hS).cellF (by first | omega | (dsimp only; omega)) hx) | exact ((hr2.rd hS).cellF (by first | omega | (dsimp only; omega)) hx2) | exact hS.cellO 0 (by omega) | exact hS.cellO 1 (by omega) | exact hS.cellIA (by omega) | exact (hg.rd hS).cellIA (by omega) | exact (hg2.rd hS).cellIA (by omega) | exact cell_at (hc.rd hS).pts | exact hb.rd hS | exact (hr.rd hS).cellsF7 (by first | omega | (dsimp only; omega)) hst4 rfl | exact (hr2.rd hS).cellsF7 (by first | omega | (dsimp only; omega)) hst4 rfl | exact hS.cellO 4 (by omega) | exact hS.cellO 5 (by omega) | exact hS.cellO 6 (by omega) | exact hS.cellO 7 (by omega) | exact hS.cellO 8 (by omega) | exact hS.cellO 9 (by omega) | exact hS.cellO 10 (by omega) | exact hS.cellO 11 (by omega) | exact hS.cellO 12 (by omega) | exact hS.cellO 13 (by omega) | exact hS.cellO 2 (by omega) | exact hS.cellO 3 (by omega))) ?_)) ?_))
    refine E_round (k + 1) ⟨rfl, rfl, rfl, rfl, rfl, rfl, trivial⟩ ⟨hlt, ?_⟩ (by omega)
    rw [layOn_take hx]
    have hS := hS.pick [2, 0, 1]
    rwa [show splice (laidCells (layOn D.laid (D.line.take k))) (x.1.toNat * 64) (bv x.2) = _ from flatMap_set (fun y hy => by simp [hl64 y hy]) (by simp [hx64]) (by rw [layOn_length]; omega)] at hS
  · obtain rfl : k = D.line.length := by omega
    repeat (first | (refine G_id ?_; first | refine G_nil ?_ | refine G_plain rfl rfl ?_) | (refine X_id ?_; first | refine X_yl (Yl_move rfl rfl) rfl rfl ?_ | refine X_yl (Yl_assign rfl rfl) rfl rfl ?_ | refine X_yl (Yl_nilCheck rfl rfl) rfl rfl ?_ | refine X_yl (Yl_fieldAddr0 rfl rfl rfl) rfl rfl ?_ | refine X_yl (Yl_lss_f rfl rfl rfl (by omega)) rfl rfl ?_ | refine X_store rfl rfl rfl rfl hS (fun _ hS _ => ?_)) | (refine C_id ?_; first | refine C_seq ?_ | refine C_region ?_ | refine C_ret ?_ | refine C_exit ?_ | refine C_cond_f rfl ?_) | (refine E_id ?_; first | refine E_code ?_ | refine E_noGoto (fun _ h => by cases h) ?_ | refine E_then_exit ?_ | refine E_blk_same ?_ | refine E_ret1 rfl (Rv_tmp rfl) (Ret.mk ?_)))
    refine ⟨trivial, ?_⟩
    refine St.shutDisk (D := D.flushed) (al := al) (ai := none) (cl := cl) (ci := 0) (DiskM.flushed_ok hok) (by simpa [DiskM.flushed, layOn_length]) (by simp [DiskM.flushed]) ?_
    have hS := ((hS.pick [0, 0]).own_none 170 65 none).pick [1, 1, 0]
    rw [List.take_length] at hS
    simpa [DiskM.flushed, layOn_length, lineCells] using hS
/-! ### Flush -/
def DiskM.flush (D : DiskM) : Int × DiskM :=
  if D.off then (9, D) else if useB D.off D.armed D.left = false then (9, D.used)
  else (0, { D.used.flushed with flushes := IntKind.i64.wrap (D.flushes + 1) })
theorem DiskM.flush_use {D : DiskM} (h : D.off = false) (hu : useB D.off D.armed D.left = false) : D.flush = (9, D.used) := by
  unfold DiskM.flush
  rw [if_neg (by simp [h]), if_pos hu]
theorem DiskM.flush_yes {D : DiskM} (h : D.off = false) (hu : useB D.off D.armed D.left = true) : D.flush = (0, { D.used.flushed with flushes := IntKind.i64.wrap (D.flushes + 1) }) := by
  unfold DiskM.flush
  rw [if_neg (by simp [h]), if_neg (by simp [hu])]
theorem flush_ (p : Nat) (D : DiskM) (W : World) (F : Nat → Prop) (hS : St W F [disk p D] W) (hline : D.line.length < 1073741824) :
    Calls Tryz.prog 85 #[.pointer (some ⟨p, 0, none⟩)] W (Ret fun v w => v = .int .i64 D.flush.1 ∧ St W F [disk p D.flush.2] w) := by
  have hd := hS.rd (List.mem_cons_self ..)
  have hon := on_ p D W hd
  have hok := hd.disk.1
  cases hoff : D.off
  · rw [hoff] at hon
    refine calls_C Tryz.func85 rfl Tryz.ntmps85 rfl ?_
    repeat (first | (refine G_id ?_; first | refine G_nil ?_ | refine G_plain rfl rfl ?_ | refine G_yes rfl rfl rfl rfl ?_) | (refine X_id ?_; first | (refine X_callg 43 rfl rfl rfl rfl rfl hon ?_; rintro _ _ ⟨rfl, rfl⟩) | refine X_yl (Yl_move rfl rfl) rfl rfl ?_ | refine X_yl (Yl_assign rfl rfl) rfl rfl ?_ | refine X_yl (Yl_nilCheck rfl rfl) rfl rfl ?_ | refine X_yl (Yl_fieldAddr0 rfl rfl rfl) rfl rfl ?_ | refine X_yl (Yl_not_t rfl rfl) rfl rfl ?_) | (refine C_id ?_; first | refine C_seq ?_ | refine C_region ?_) | (refine E_id ?_; first | refine E_code ?_))
    obtain ⟨hok, al, cl, ai, ci, c1, c2, hS⟩ := hS.openDisk
    cases huse : useB D.off D.armed D.left
    · skip
      obtain ⟨_, hc, hr, hw, hbk⟩ := hS.call [true, false, false]
      refine X_callg _ rfl rfl rfl rfl rfl (use_ p D.off D.armed D.left _ _ _ _ hok.left0 hok.left1 hc) ?_
      rintro _ w ⟨rfl, hS⟩
      replace hS := hbk hS
      clear hc hr hw hbk
      rw [huse]
      repeat (first | (refine G_id ?_; first | refine G_nil ?_ | refine G_plain rfl rfl ?_ | refine G_yes rfl rfl rfl rfl ?_) | (refine X_id ?_; first | refine X_yl (Yl_assign rfl rfl) rfl rfl ?_ | refine X_yl (Yl_pick_f rfl rfl rfl) rfl rfl ?_ | refine X_yl (Yl_not_f rfl rfl) rfl rfl ?_) | (refine C_id ?_; first | refine C_seq ?_ | refine C_region ?_ | refine C_ret ?_ | refine C_cond_t rfl ?_) | (refine E_id ?_; first | refine E_code ?_ | refine E_then_ret ?_ | refine E_ret1 rfl (Rv_tmp rfl) (Ret.mk ?_)))
      rw [DiskM.flush_use hoff huse]
      exact ⟨rfl, St.shutDisk (DiskM.used_ok hok) c1 c2 hS⟩
    · skip
      obtain ⟨_, hc, hr, hw, hbk⟩ := hS.call [true, false, false]
      refine X_callg _ rfl rfl rfl rfl rfl (use_ p D.off D.armed D.left _ _ _ _ hok.left0 hok.left1 hc) ?_
      rintro _ w ⟨rfl, hS⟩
      replace hS := hbk hS
      clear hc hr hw hbk
      rw [huse]
      replace hS : St W F [disk p D.used] w := St.shutDisk (DiskM.used_ok hok) c1 c2 hS
      repeat (first | (refine G_id ?_; first | refine G_nil ?_ | refine G_plain rfl rfl ?_ | refine G_yes rfl rfl rfl rfl ?_) | (refine X_id ?_; first | refine X_yl (Yl_move rfl rfl) rfl rfl ?_ | refine X_yl (Yl_pick_f rfl rfl rfl) rfl rfl ?_ | refine X_yl (Yl_not_t rfl rfl) rfl rfl ?_) | (refine C_id ?_; first | refine C_seq ?_ | refine C_region ?_ | refine C_skip ?_ | refine C_cond_f rfl ?_) | (refine E_id ?_; first | refine E_code ?_))
      obtain ⟨_, hc, hr, hw, hbk⟩ := hS.call [true]
      refine X_callg _ rfl rfl rfl rfl rfl (lay_ p D.used _ _ hc hline) ?_
      rintro _ w ⟨_, hS⟩
      replace hS := hbk hS
      clear hc hr hw hbk
      obtain ⟨hok2, al2, cl2, ai2, ci2, d1, d2, hS⟩ := hS.openDisk
      repeat (first | (refine G_id ?_; first | refine G_nil ?_ | refine G_plain rfl rfl ?_) | (refine X_id ?_; first | refine X_yl (Yl_move rfl rfl) rfl rfl ?_ | refine X_yl (Yl_nilCheck rfl rfl) rfl rfl ?_ | refine X_yl (Yl_fieldAddr0 rfl rfl rfl) rfl rfl ?_) | (refine C_id ?_; first | refine C_seq ?_ | refine C_region ?_) | (refine E_id ?_; first | refine E_code ?_))
      obtain ⟨_, hc, hr, hw, hbk⟩ := hS.call [true, false, false]
      refine X_callg _ rfl rfl rfl rfl rfl (add64_ p 6 D.flushes 1 _ _ _ _ _ hc) ?_
      rintro _ w ⟨rfl, hS⟩
      replace hS := hbk hS
      clear hc hr hw hbk
      repeat (first | (refine G_id ?_; first | refine G_nil ?_ | refine G_plain rfl rfl ?_) | (refine X_id ?_; first | refine X_yl (Yl_assign rfl rfl) rfl rfl ?_) | (refine C_id ?_; first | refine C_seq ?_ | refine C_region ?_ | refine C_ret ?_) | (refine E_id ?_; first | refine E_code ?_ | refine E_ret1 rfl (Rv_tmp rfl) (Ret.mk ?_)))
      rw [DiskM.flush_yes hoff huse]
      exact ⟨rfl, St.shutDisk (D := { D.used.flushed with flushes := IntKind.i64.wrap (D.flushes + 1) }) ⟨hok2.1, hok2.2, hok2.3, hok2.4, hok2.5, hok2.6⟩ d1 d2 hS⟩
  · rw [hoff] at hon
    refine calls_C Tryz.func85 rfl Tryz.ntmps85 rfl ?_
    repeat (first | (refine G_id ?_; first | refine G_nil ?_ | refine G_plain rfl rfl ?_ | refine G_no rfl rfl rfl rfl rfl rfl ?_) | (refine X_id ?_; first | (refine X_callg 43 rfl rfl rfl rfl rfl hon ?_; rintro _ _ ⟨rfl, rfl⟩) | refine X_yl (Yl_move rfl rfl) rfl rfl ?_ | refine X_yl (Yl_assign rfl rfl) rfl rfl ?_ | refine X_yl (Yl_pick_t rfl rfl rfl) rfl rfl ?_ | refine X_yl (Yl_not_f rfl rfl) rfl rfl ?_) | (refine C_id ?_; first | refine C_seq ?_ | refine C_region ?_ | refine C_ret ?_ | refine C_cond_t rfl ?_) | (refine E_id ?_; first | refine E_code ?_ | refine E_then_ret ?_ | refine E_ret1 rfl (Rv_tmp rfl) (Ret.mk ?_)))
    exact ⟨by simp [DiskM.flush, hoff], by simpa [DiskM.flush, hoff] using hS⟩

/-! ### Read -/
theorem row_pts {b : Nat} {l : List Value} {T : TypeId} : ∀ h, pts b (.cells l.toArray T (0, 0)) h → row (some ⟨b, 0, none⟩) l h := fun _ hg => .inr ⟨b, 0, l.toArray, T, (0, 0), rfl, hg, fun j v hv => by simpa using hv⟩
theorem row_pts_mid {b off n : Nat} {l cs : List Value} {T : TypeId} (hs : (l.drop off).take n = cs) : ∀ h, pts b (.cells l.toArray T (0, 0)) h → row (some ⟨b, off, none⟩) cs h := fun _ hg => .inr ⟨b, off, l.toArray, T, (0, 0), rfl, hg, fun j v hv => by
  subst hs
  rw [List.getElem?_take] at hv
  split at hv
  · rw [List.getElem?_drop] at hv
    simpa using hv
  · cases hv⟩
theorem St.row_none {W : World} {F : Nat → Prop} {rs : List Res} {w : World} (hS : St W F rs w) : St W F (row none [] :: rs) w :=
  hS.imp fun h hh => ⟨fun _ => none, h, .inl ⟨rfl, fun _ => rfl⟩, hh, fun _ => .inl rfl, fun _ => by simp⟩
theorem St.more {W : World} {F : Nat → Prop} {rs : List Res} {w : World} (hS : St W noF rs w) : St W F rs w := by
  obtain ⟨h, hs, s⟩ := hS
  exact ⟨h, hs, s.agrees, fun b o e => (s.foot b o e).elim (fun h => h.elim) .inr, s.size, s.os, s.tape, s.output, fun k hk _ => s.kept k hk (fun h => h)⟩
theorem St.kept {W : World} {rs : List Res} {w : World} {b : Nat} {o : Obj} (hS : St W noF rs w) (h : W.heap[b]? = some o) : w.heap[b]? = some o := by
  have : Rd W (pts b o) := ⟨single b o, rfl, fun k o' e => by obtain ⟨rfl, rfl⟩ := of_single e; exact h⟩
  exact (this.ro.rd hS).pts
theorem on_b (p : Nat) (D : DiskM) (b : Bool) (hb : D.off = b) (W : World) (hd : Rd W (disk p D)) : Calls Tryz.prog 43 #[.pointer (some ⟨p, 0, none⟩)] W (Ret fun v w => v = .bool (!b) ∧ W = w) := by
  subst hb; exact on_ p D W hd
theorem has_b (p : Nat) (D : DiskM) (no : Int) (b : Bool) (hb : inDisk D no = b) (W : World) (hd : Rd W (disk p D)) : Calls Tryz.prog 91 #[.pointer (some ⟨p, 0, none⟩), .int .i64 no] W (Ret fun v w => v = .bool b ∧ W = w) := by
  subst hb; exact has_ p D no W hd
theorem backward_mk (a : Option Addr) (n c : Nat) (W : World) : Calls Tryz.prog 92 #[.slice a n c] W
    (Ret fun v w => ∃ bx, v = .func (.func 110) #[] #[.pointer (some ⟨bx, 0, none⟩)] ∧ St W noF [pts bx (.cells #[.slice a n c] 102)] w) := by
  have hS := St.start W
  refine calls_C Tryz.func92 rfl Tryz.ntmps92 rfl ?_
  repeat (first | (refine G_id ?_; first | refine G_nil ?_ | refine G_plain rfl rfl ?_) | (refine X_id ?_; first | refine X_yl (Yl_assign rfl rfl) rfl rfl ?_ | refine X_yl (Yl_makeFunc rfl rfl rfl) rfl rfl ?_ | refine X_box rfl rfl rfl rfl hS (fun _ _ hS _ => ?_)) | (refine C_id ?_; first | refine C_seq ?_ | refine C_region ?_ | refine C_ret ?_) | (refine E_id ?_; first | refine E_code ?_ | refine E_ret1 rfl (Rv_tmp rfl) (Ret.mk ?_)))
  exact ⟨_, rfl, hS⟩
/-- What is read of a disk: the error, and the bytes. -/
def DiskM.find (D : DiskM) (no : Int) : List UInt8 := match D.line.reverse.find? (fun x => x.1 == no) with | some x => x.2 | none => D.laid.getD no.toNat []
def DiskM.read (D : DiskM) (no : Int) : Int × List UInt8 := if D.off then (9, []) else if inDisk D no = false then (1, []) else (0, D.find no)
end Cr
namespace Cr
open Go Go.Proofs Go.ChangeShapes Go.WideShapes Go.Deep
section
variable {H : Type} {enc : TypeId × Value → H} {P : Program} {w : World} {base : Nat} {sp : Nat → Bool} {held : Bool}
theorem Rd.ofCellsA {a : Addr} {l : List Value} (h : ∀ i v, l[i]? = some v → w.cell? (a.add i) = some v) : Rd w (row (some a) l) := by
  cases l with
  | nil => exact Rd_nil w _
  | cons x r =>
    have h0 := h 0 x rfl
    have hsp : a.spot = none := by
      have := World.cell?_spot h0
      simpa [Addr.add] using this
    obtain ⟨b, off, spot⟩ := a
    obtain rfl : spot = none := hsp
    unfold World.cell? at h0
    split at h0
    · rename_i c t fz hb
      have hb : w.heap[b]? = some (.cells c t fz) := by simpa [Addr.add] using hb
      refine ⟨single b (.cells c t fz), .inr ⟨b, off, c, t, fz, rfl, rfl, fun i v hv => ?_⟩, fun k o e => ?_⟩
      · have := h i v hv
        have e : (⟨b, off, none⟩ : Addr).add i = ⟨b, off + i, none⟩ := by
          unfold Addr.add; split
          · rename_i h; subst h; rfl
          · rfl
        rw [e, cell_of_row w b (off + i) c t fz hb] at this
        exact this
      · obtain ⟨rfl, rfl⟩ := of_single e
        exact hb
    · cases h0
theorem u8_back {n : Int} (h : (Lit.int .u8 n).wf = true) : Value.int .u8 n = .int .u8 ((UInt8.ofNat n.toNat).toNat : Int) := by
  simp only [Lit.wf, Bool.and_eq_true, decide_eq_true_eq] at h
  have h1 : 0 ≤ n := h.1
  have h2 : n ≤ 255 := h.2
  congr 1
  have : (UInt8.ofNat n.toNat).toNat = n.toNat := by rw [UInt8.toNat_ofNat']; omega
  rw [this]; omega
/-- A slice of bytes. -/
theorem open_bytes {t e : TypeId} {fuel : Nat} {cs : List Value} {x : DataW H × List MemPlace} (ht : P.underlying t = some (.slice e)) (he : P.underlying e = some (.int .u8)) (hc : P.cellsOf e = 1)
    (h : DataW.trod enc P w base sp held fuel t cs = some x) : ∃ a s c, cs = [.slice a s.length c] ∧ s.length ≤ c ∧ c ≤ maxLen ∧ Rd w (bytes a s) := by
  rcases open_ints ht he hc h with ⟨rfl, _⟩ | ⟨a, len, cap, zs, rfl, _, hl, hm, hz, _, hcell, hwf⟩
  · exact ⟨none, [], 0, rfl, Nat.le_refl _, Nat.zero_le _, Rd_nil w _⟩
  · have hlz : len ≤ zs.length := by rw [hz]; split <;> omega
    have e1 : bv ((zs.take len).map fun n => UInt8.ofNat n.toNat) = (zs.take len).map fun n => Value.int .u8 n := by
      unfold bv
      rw [List.map_map]
      refine List.map_congr_left fun n hn => ?_
      exact (u8_back (hwf n (List.mem_of_mem_take hn))).symm
    have e2 : ((zs.take len).map fun n => UInt8.ofNat n.toNat).length = len := by simp; omega
    refine ⟨some a, (zs.take len).map fun n => UInt8.ofNat n.toNat, cap, by rw [e2], by rw [e2]; exact hl, hm, ?_⟩
    unfold bytes
    rw [e1]
    refine Rd.ofCellsA fun i v hv => ?_
    rw [List.getElem?_map, List.getElem?_take] at hv
    split at hv
    · rename_i hi
      rw [hcell i (by omega)]
      have h3 : zs[i]? = some zs[i] := List.getElem?_eq_getElem (by omega)
      rw [h3] at hv
      rw [List.getD_eq_getElem?_getD, h3]
      exact hv
    · cases hv
end
end Cr
namespace Cr
open Go Go.Proofs Go.ChangeShapes Go.WideShapes Go.Deep
section
variable {H : Type} {enc : TypeId × Value → H} {P : Program} {w : World} {base : Nat} {sp : Nat → Bool} {held : Bool}
/-- The elements as data, each by its own opening. -/
theorem open_sliceG {α : Type} [Inhabited α] (f : α → List Value) (Ok : α → Prop) {t e : TypeId} {fuel : Nat} {cs : List Value} {x : DataW H × List MemPlace} (n : Nat) (ht : P.underlying t = some (.slice e)) (ce : P.cellsOf e = n) (hpos : 0 < n)
    (hopen : ∀ (fuel : Nat) (cs : List Value) (y : DataW H × List MemPlace), DataW.trod enc P w base sp held fuel e cs = some y → ∃ a : α, cs = f a ∧ Ok a)
    (h : DataW.trod enc P w base sp held fuel t cs = some x) : ∃ (a : Option Addr) (l : List α) (c : Nat), cs = [.slice a l.length c] ∧ l.length ≤ c ∧ c ≤ maxLen ∧ Rd w (row a (l.flatMap f)) ∧ ∀ y ∈ l, Ok y ∧ (f y).length = n := by
  rcases DataW.trod_slice ht h with ⟨rfl, _⟩ | ⟨a, len, cap, elems, rest, m, _, rfl, _, _, hl, hm, hel, hx, _⟩
  · exact ⟨none, [], 0, rfl, Nat.le_refl _, Nat.zero_le _, Rd_nil w _, fun _ h => (List.not_mem_nil h).elim⟩
  · have each : ∀ i, i < len → ∃ q : α, Ok q ∧ (f q).length = n ∧ ∀ k, k < n → w.cell? (a.add (i * n + k)) = (f q)[k]? := fun i hi => by
      have h1 := hx i hi
      rw [List.getElem?_eq_getElem (by omega), ce, Option.bind_eq_some_iff] at h1
      obtain ⟨cs', h2, h3⟩ := h1
      obtain ⟨_, hlen, hcell⟩ := World.cells?_some h2
      obtain ⟨q, rfl, hq⟩ := hopen _ _ _ h3
      exact ⟨q, hq, hlen, fun k hk => by rw [← add_add]; exact hcell k hk⟩
    obtain ⟨q, hq⟩ := choose_lt each
    have hlen : ((List.range len).map q).length = len := by simp
    have hall : ∀ y ∈ (List.range len).map q, Ok y ∧ (f y).length = n := fun y hy => by
      obtain ⟨i, hi, rfl⟩ := List.mem_map.1 hy
      have := hq i (List.mem_range.1 hi)
      exact ⟨this.1, this.2.1⟩
    refine ⟨some a, (List.range len).map q, cap, by rw [hlen], by rw [hlen]; exact hl, hm, Rd.ofCellsA fun k v hv => ?_, hall⟩
    have hfl := flatMap_len (n := n) fun y hy => (hall y hy).2
    have hk : k / n < len := by
      have := (List.getElem?_eq_some_iff.1 hv).1
      rw [hfl, hlen] at this
      exact (Nat.div_lt_iff_lt_mul hpos).2 this
    have hget : ((List.range len).map q)[k / n]? = some (q (k / n)) := by simp [hk]
    have hsg := flatMap_seg (f := f) (fun y hy => (hall y hy).2) hget
    have hmod : k % n < n := Nat.mod_lt _ hpos
    have hk2 : k / n * n + k % n = k := by rw [Nat.mul_comm]; exact Nat.div_add_mod k n
    have hv3 := congrArg (fun l => l[k % n]?) hsg
    simp only [List.getElem?_take, List.getElem?_drop] at hv3
    rw [if_pos hmod, hk2, hv] at hv3
    have := (hq (k / n) hk).2.2 (k % n) hmod
    rw [hk2] at this
    rw [this]; exact hv3.symm
/-- An array of bytes. -/
theorem open_arrB {n : Nat} {t e : TypeId} {fuel : Nat} {cs : List Value} {x : DataW H × List MemPlace} (ht : P.underlying t = some (.array n e)) (he : P.underlying e = some (.int .u8)) (ce : P.cellsOf e = 1) (ct : P.cellsOf t = n)
    (h : DataW.trod enc P w base sp held fuel t cs = some x) : ∃ s : List UInt8, cs = bv s ∧ s.length = n := by
  obtain ⟨xs, m, _, _, hl, hxl, hf⟩ := DataW.trod_array ht h
  rw [ct] at hl
  have each : ∀ i, i < n → ∃ b : UInt8, cs[i]? = some (.int .u8 (b.toNat : Int)) := fun i hi => by
    have h1 := hf i hi
    rw [ce, Nat.mul_one, List.getElem?_eq_getElem (by omega)] at h1
    obtain ⟨k, hk, _, hw⟩ := DataW.trod_int he h1
    have h2 := congrArg (fun l => l[0]?) hk
    simp only [List.getElem?_take, List.getElem?_drop] at h2
    refine ⟨UInt8.ofNat k.toNat, ?_⟩
    rw [← u8_back hw]
    simpa using h2
  obtain ⟨q, hq⟩ := choose_lt each
  refine ⟨(List.range n).map q, ?_, by simp⟩
  apply List.ext_getElem?
  intro i
  by_cases hi : i < n
  · rw [hq i hi]; simp [bv, hi]
  · rw [List.getElem?_eq_none (by omega), List.getElem?_eq_none (by simp; omega)]
end
end Cr
namespace Cr
open Go
section
variable {P : Program} {Q : Exit → Act → World → Prop} {N : Nat} {ds : Md} {σ : Env} {w : World} {x y : Code}
theorem wpIn_weaken {F : Fence} {n : Nat} {c : Code} {Q Q' : Exit → Act → World → Prop} {a : Act} (hq : ∀ e a w, Q e a w → Q' e a w) (h : c.wpIn F n P Q a w) : c.wpIn F n P Q' a w := by
  intro b k cs hro hb hr
  obtain ⟨e, a', w', hQ, harr⟩ := h b k cs hro hb hr
  exact ⟨e, a', w', hq _ _ _ hQ, harr⟩
/-- What holds between two parts of a sequence. -/
def Mid {α : Type} (S : α → Env) (R : α → World → Prop) (N : Nat) (ds : Md) : Act → World → Prop := fun a w => ∃ z, Fr (S z) N ds a ∧ R z w
theorem C_mid {α : Type} (S : α → Env) (R : α → World → Prop) (h1 : C P x (Exit.then (Mid S R N ds) Q) N ds σ w) (h2 : ∀ z w, R z w → C P y Q N ds (S z) w) : C P (.seq x y) Q N ds σ w := ⟨fun a ha =>
  wpIn_seq (wpIn_weaken (fun e a w hh => by
    cases e with
    | normal => obtain ⟨z, hF, hR⟩ := hh; exact (h2 z w hR).run a hF
    | exit id => exact hh
    | goto l => exact hh
    | ret => exact hh
    | panic ch => exact hh
    | outgrown => exact hh) (h1.run a ha))⟩
/-- The same behind the walk's own step into a sequence. -/
theorem C_join {α : Type} (S : α → Env) (R : α → World → Prop) (h1 : C P x (Exit.then (Mid S R N ds) Q) N ds σ w) (h2 : ∀ z w, R z w → C P y Q N ds (S z) w) : C P x (Exit.then (y.wpIn (Fc ds) 0 P Q) Q) N ds σ w := ⟨fun a ha =>
  wpIn_weaken (fun e a w hh => by
    cases e with
    | normal => obtain ⟨z, hF, hR⟩ := hh; exact (h2 z w hR).run a hF
    | exit id => exact hh
    | goto l => exact hh
    | ret => exact hh
    | panic ch => exact hh
    | outgrown => exact hh) (h1.run a ha)⟩
theorem inBlock_mono {Q1 Q2 : Exit → Act → World → Prop} {id : Nat} (hq : ∀ e a w, Q1 e a w → Q2 e a w) : ∀ e a w, Exit.inBlock id Q1 e a w → Exit.inBlock id Q2 e a w := fun e a w h => by
  cases e with
  | exit id' =>
    by_cases he : id' = id
    · simp only [Exit.inBlock, if_pos he] at h ⊢; exact hq _ _ _ h
    · simp only [Exit.inBlock, if_neg he] at h ⊢; exact hq _ _ _ h
  | _ => exact hq _ _ _ h
/-- The same where the walk stands inside a block. -/
theorem C_joinB {α : Type} {id : Nat} (S : α → Env) (R : α → World → Prop) (h1 : C P x (Exit.inBlock id (Exit.then (Mid S R N ds) Q)) N ds σ w) (h2 : ∀ z w, R z w → C P y Q N ds (S z) w) : C P x (Exit.inBlock id (Exit.then (y.wpIn (Fc ds) 0 P Q) Q)) N ds σ w := ⟨fun a ha =>
  wpIn_weaken (inBlock_mono fun e a w hh => by
    cases e with
    | normal => obtain ⟨z, hF, hR⟩ := hh; exact (h2 z w hR).run a hF
    | exit id => exact hh
    | goto l => exact hh
    | ret => exact hh
    | panic ch => exact hh
    | outgrown => exact hh) (h1.run a ha)⟩
theorem E_mid {α : Type} {S : α → Env} {R : α → World → Prop} (z : α) (hσ : subs σ (S z)) (hR : R z w) : E (Exit.then (Mid S R N ds) Q) .normal N ds σ w := ⟨fun _ ha => ⟨z, ha.sub hσ, hR⟩⟩
theorem Rd.cellF {b off o' i : Nat} {cs : List Value} {v : Value} (H : Rd w (row (some ⟨b, off, none⟩) cs)) (hi : o' = off + i) (h : cs[i]? = some v) : w.cell? ⟨b, o', none⟩ = some v := by
  subst hi; exact H.cells i v h
end
section
variable {P : Program} {o : Oper} {σ : Env} {w : World} {t e : TypeId}
/-- An array literal, all of its elements given. -/
theorem Yl_buildArr {z : Value} {n size N m : Nat} {xs : List (Nat × Operand)} {parts : List (Nat × Value)} {l : List Value} (ho : o.op = .build t xs.toArray) (hx : evps σ xs = some parts) [h : Und P t (.array n e)] [hs : Siz P e size] [hi : Inf P t z N m] (hn : parts.length = n) (hN : N = n * size)
    (hidx : parts.map (·.1) = List.range' 0 parts.length) [hl : CellsAll parts size l] : Yl P o σ w (.agg l.toArray) := ⟨fun N' ds a ha => by
  obtain ⟨i, hi', hz', hsz, _⟩ := info_parts hi.inf
  obtain ⟨ls, h1, h2, h3⟩ := hl.all
  have hzl : z.cells.size = parts.length * size := by rw [hn, ← hN]; exact hi.zs
  have hq := fill_row (size := size) parts ls 0 [] z.cells.toList h1 h2 hidx (by simp) (by simpa using hzl)
  simp only [List.nil_append, Array.toArray_toList, h3] at hq
  have hze : (zeroValue t).run P w = .ok z w := by simp [zeroValue, typeInfo, hi', hz']
  have e := ha.evalps hx
  have hb : (Instr.build t parts.toArray).run P w = .ok (.agg l.toArray) w := by
    unfold Instr.build
    rw [Sem.run_bind, hze]
    show (underlying t >>= _ : Sem _).run P w = _
    rw [Sem.run_bind, run_underlying h.und]
    show (Go.sizeOf _ >>= _ : Sem _).run P w = _
    rw [Sem.run_bind, run_sizeOf]
    simp [Result.andThen, hq]
  simp [execOp, ho, e, hb]⟩
end
/-- A cell at a place that is told by a sum. -/
theorem St.cellO (k : Nat) {W : World} {F : Nat → Prop} {rs : List Res} {w : World} {b off : Nat} {l : List Value} {T : TypeId} {v : Value} (hS : St W F rs w) (hk : off = k) [hh : Has rs b (.cells l.toArray T (0, 0))] [hn : Nth l k v] : w.cell? ⟨b, off, none⟩ = some v := by
  subst hk
  rw [cell_of_row w b off _ T (0, 0) hS.has]
  simpa using hn.nth
/-- A row of the run's own, by its base. -/
theorem St.ownRd {W : World} {F : Nat → Prop} {rs rest : List Res} {w : World} {a : Option Addr} {T e c : Nat} {cs : List Value} (hS : St W F rs w) [hh : HasOwn rs a T e c cs rest] : Rd w (row a cs) := ((hS.perm hh.has).rd (List.mem_cons_self ..)).own_row
/-! ### resources in another order -/
class Take1 (rs : List Res) (r : Res) (rest : outParam (List Res)) : Prop where
  perm : rs.Perm (r :: rest)
instance Take1.there (q r : Res) (rs rest : List Res) [h : Take1 rs r rest] : Take1 (q :: rs) r (q :: rest) := ⟨(List.Perm.cons q h.perm).trans (.swap ..)⟩
instance Take1.here (r : Res) (rs : List Res) : Take1 (r :: rs) r rs := ⟨.refl _⟩
class Takes (rs out : List Res) : Prop where
  took : ∀ {W F w}, St W F rs w → St W F out w
instance Takes.nil (rs : List Res) : Takes rs [] := ⟨fun h => h.drops⟩
instance Takes.cons (rs rest out : List Res) (r : Res) [h : Take1 rs r rest] [h2 : Takes rest out] : Takes rs (r :: out) := ⟨fun hS => (hS.perm h.perm).under h2.took⟩
theorem St.took {W : World} {F : Nat → Prop} {rs out : List Res} {w : World} (hS : St W F rs w) [h : Takes rs out] : St W F out w := h.took hS
end Cr
namespace Cr
open Go
/-! parts of known length -/
class LenO (l : List Value) (n : outParam Nat) : Prop where
  len : l.length = n
instance : LenO [] 0 := ⟨rfl⟩
instance (v : Value) (l : List Value) (n : Nat) [h : LenO l n] : LenO (v :: l) (n + 1) := ⟨by simp [h.len]⟩
instance (l m : List Value) (n k : Nat) [h : LenO l n] [h' : LenO m k] : LenO (l ++ m) (n + k) := ⟨by simp [h.len, h'.len]⟩
instance (n : Nat) (v : Value) : LenO (List.replicate n v) n := ⟨by simp⟩
instance (n : Nat) : LenO (bv (List.replicate n 0)) n := ⟨by simp⟩
instance (l : List Value) (n : Nat) [h : LenO l n] : LenIs l n := ⟨h.len⟩
class SubO (k n : Nat) (j : outParam Nat) : Prop where
  eq : n = j + k
instance (n : Nat) : SubO 0 n n := ⟨rfl⟩
instance (k n j : Nat) [h : SubO k n j] : SubO (k + 1) (n + 1) j := ⟨by rw [h.eq]; omega⟩
instance nth_part (l m : List Value) (n k j : Nat) (v : Value) [hl : LenO l k] [hs : SubO k n j] [h : Nth m j v] : Nth (l ++ m) n v := ⟨by
  have := hl.len
  rw [hs.eq, List.getElem?_append_right (by omega), show j + k - l.length = j by omega]
  exact h.nth⟩
instance spl_part (l m vs m' : List Value) (n k j : Nat) [hl : LenO l k] [hs : SubO k n j] [h : Spl m j vs m'] : Spl (l ++ m) n vs (l ++ m') := ⟨by
  have e := hl.len
  have := h.spl
  rw [hs.eq]
  refine ⟨by simp; omega, ?_⟩
  rw [← this.2, show j + k = l.length + j by omega, List.take_length_add_append, show l.length + j + vs.length = l.length + (j + vs.length) by omega, List.drop_length_add_append]
  simp⟩
instance spl_front (l m vs : List Value) (k : Nat) [hl : LenO l k] [hv : LenO vs k] : Spl (l ++ m) 0 vs (vs ++ m) := ⟨by
  have e := hl.len
  have e' := hv.len
  refine ⟨by simp; omega, ?_⟩
  simp [show vs.length = l.length by omega]⟩
instance seg_part (l m cs : List Value) (n k j c : Nat) [hl : LenO l k] [hs : SubO k n j] [h : Seg m j c cs] : Seg (l ++ m) n c cs := ⟨by
  have e := hl.len
  rw [hs.eq, show j + k = l.length + j by omega, List.drop_length_add_append]
  exact h.seg⟩
theorem splice_mid {l m vs : List Value} {k n : Nat} (h : l.length = k) : splice (l ++ m) (k + n) vs = l ++ splice m n vs := by
  subst h
  unfold splice
  rw [List.take_length_add_append, Nat.add_assoc, List.drop_length_add_append]
  simp
theorem splice_all {l vs : List Value} (h : l.length = vs.length) : splice l 0 vs = vs := by
  unfold splice; simp [← h]
/-! bytes -/
def b8 (x : Int) : UInt8 := UInt8.ofNat (x % 256).toNat
theorem b8_nat (x : Int) : ((b8 x).toNat : Int) = x % 256 := by
  have h : (x % 256).toNat < 256 := by omega
  unfold b8
  simp only [UInt8.toNat_ofNat']
  omega
theorem u8_wrap (x : Int) : IntKind.u8.wrap x = ((b8 x).toNat : Int) := by
  rw [b8_nat]
  simp [IntKind.wrap, IntKind.bits, IntKind.signed]
theorem bv_set {R : List UInt8} {i : Nat} {c : UInt8} : (bv R).set i (.int .u8 (c.toNat : Int)) = bv (R.set i c) := by simp [bv, List.map_set]
theorem bv_getD {l : List UInt8} {i : Nat} (h : i < l.length) : (bv l)[i]? = some (.int .u8 ((l.getD i 0).toNat : Int)) := by
  rw [bv_get h]; simp [List.getD_eq_getElem?_getD, h]
theorem bv_rep (n : Nat) : List.replicate n (Value.int .u8 0) = bv (List.replicate n 0) := by simp [bv]
instance lenO_bvset (R : List UInt8) (i : Nat) (c : UInt8) (n : Nat) [h : LenO (bv R) n] : LenO (bv (R.set i c)) n := ⟨by have := h.len; simpa using this⟩
instance lenO_intsset (k : IntKind) (L : List Int) (i : Nat) (c : Int) (n : Nat) [h : LenO (ints k L) n] : LenO (ints k (L.set i c)) n := ⟨by have := h.len; simpa [ints] using this⟩
section
variable {P : Program} {o : Oper} {σ : Env} {w : World} {x y : Operand} {t ty : TypeId} {k k' : IntKind} {a b : Int}
theorem Yl_quoE (ho : o.op = .binOp .quo t x y ty) (hx : ev σ x = some (.int .i64 a)) (hy : ev σ y = some (.int .i64 b)) (h0 : 0 ≤ a) (h1 : a ≤ 9223372036854775807) (hb : 0 < b) : Yl P o σ w (.int .i64 (a / b)) :=
  Yl_quo ho hx hy (by omega) (by
    rw [Int.tdiv_eq_ediv_of_nonneg h0]
    have h2 := Int.ediv_nonneg h0 (Int.le_of_lt hb)
    have h3 := Int.ediv_le_self b h0
    exact w64 (by omega) (by omega))
theorem Yl_remE (ho : o.op = .binOp .rem t x y ty) (hx : ev σ x = some (.int k a)) (hy : ev σ y = some (.int k b)) (h0 : 0 ≤ a) (hb : 0 < b) : Yl P o σ w (.int k (a % b)) :=
  Yl_rem ho hx hy (by omega) (Int.tmod_eq_emod_of_nonneg h0)
theorem Yl_convU8 {src dst : TypeId} {i : Int} (ho : o.op = .convert src dst x) (hx : ev σ x = some (.int k i)) {d : TypeDesc} [hs : Und P src d] [hd : Und P dst (.int .u8)] : Yl P o σ w (.int .u8 ((b8 i).toNat : Int)) :=
  Yl_convInt (hs := hs) ho hx (u8_wrap i)
theorem Rd.cellX {a : Option Addr} {cs : List Value} {i' i : Nat} {v : Value} (H : Rd w (row a cs)) (hi : i' = i) (h : cs[i]? = some v) : w.cell? (adr a i') = some v := by subst hi; exact H.cells _ _ h
/-- One cell of a block stored. -/
theorem X_setG {N : Nat} {ds : Md} {K : Env → World → Prop} {b off : Nat} {v : Value} {l l' : List Value} {T : TypeId} {W : World} {F : Nat → Prop} {rs rs' : List Res} (ho : o.op = .store t x y) (hx : ev σ x = some (.pointer (some ⟨b, off, none⟩))) (hy : ev σ y = some v) [hv : Cell1 v] [hc : CellsOf v [v]] [hs : Siz P t 1]
    (hd : o.dst = none) (hS : St W F rs w) [hh : Has rs b (.cells l.toArray T (0, 0))] (hfit : off < l.length) (hl : l.set off v = l') [hu : Upd rs b (.cells l'.toArray T (0, 0)) rs']
    (h : ∀ w', St W F rs' w' → K σ w') : X P o N ds σ w K := by
  have e : splice l off [v] = l' := by
    rw [← hl, set_mid _ _ _ hfit]
    simp [splice]
  have hu' : Upd rs b (.cells (splice l off [v]).toArray T (0, 0)) rs' := by rw [e]; exact hu
  exact X_storeL (vs := [v]) ho hx hy rfl (fun u hu => by simp at hu; subst hu; exact hv.one) hd hS hfit (fun w' h' _ => h w' h')
/-- A byte stored in a block of bytes. -/
theorem X_storeB {N : Nat} {ds : Md} {K : Env → World → Prop} {b off : Nat} {c : UInt8} {L : List UInt8} {T : TypeId} {W : World} {F : Nat → Prop} {rs rs' : List Res} (ho : o.op = .store t x y) (hx : ev σ x = some (.pointer (some ⟨b, off, none⟩))) (hy : ev σ y = some (.int .u8 (c.toNat : Int))) [hs : Siz P t 1]
    (hd : o.dst = none) (hS : St W F rs w) [hh : Has rs b (.cells (bv L).toArray T (0, 0))] (hfit : off < L.length) [hu : Upd rs b (.cells (bv (L.set off c)).toArray T (0, 0)) rs']
    (h : ∀ w', St W F rs' w' → K σ w') : X P o N ds σ w K := X_setG (l := bv L) ho hx hy hd hS (by simpa using hfit) bv_set h
theorem St.cellB {W : World} {F : Nat → Prop} {rs : List Res} {b off : Nat} {L : List UInt8} {T : TypeId} (hS : St W F rs w) [hh : Has rs b (.cells (bv L).toArray T (0, 0))] (h : off < L.length) : w.cell? ⟨b, off, none⟩ = some (.int .u8 ((L.getD off 0).toNat : Int)) := by
  rw [cell_of_row w b off _ T (0, 0) hS.has]
  simpa using bv_getD h
theorem Rd.cellB {a : Option Addr} {s : List UInt8} {i : Nat} (H : Rd w (bytes a s)) (h : i < s.length) : w.cell? (adr a i) = some (.int .u8 ((s.getD i 0).toNat : Int)) := H.cells i _ (bv_getD h)
theorem Rd.cellB' {b o i : Nat} {s : List UInt8} (H : Rd w (bytes (some ⟨b, o, none⟩) s)) (h : i < s.length) : w.cell? ⟨b, o + i, none⟩ = some (.int .u8 ((s.getD i 0).toNat : Int)) := H.cellB h
theorem X_storeMB {N : Nat} {ds : Md} {K : Env → World → Prop} {b off k i : Nat} {c : UInt8} {l r : List Value} {L : List UInt8} {T : TypeId} {W : World} {F : Nat → Prop} {rs rs' : List Res} (ho : o.op = .store t x y) (hx : ev σ x = some (.pointer (some ⟨b, off, none⟩))) (hy : ev σ y = some (.int .u8 (c.toNat : Int))) [hs : Siz P t 1]
    (hd : o.dst = none) (hS : St W F rs w) [hh : Has rs b (.cells (l ++ (bv L ++ r)).toArray T (0, 0))] (hoff : off = k + i) [hl : LenO l k] (hfit : i < L.length) [hu : Upd rs b (.cells (l ++ (bv (L.set i c) ++ r)).toArray T (0, 0)) rs']
    (h : ∀ w', St W F rs' w' → K σ w') : X P o N ds σ w K := by
  have e := hl.len
  subst hoff
  refine X_setG (l := l ++ (bv L ++ r)) (l' := l ++ (bv (L.set i c) ++ r)) ho hx hy hd hS (by simp; omega) ?_ h
  rw [List.set_append_right _ _ (by omega), show k + i - l.length = i by omega, List.set_append_left _ _ (by simpa using hfit), bv_set]
/-- A store over the whole of a block. -/
theorem X_storeAll {N : Nat} {ds : Md} {K : Env → World → Prop} {b m : Nat} {v : Value} {l vs : List Value} {T : TypeId} {W : World} {F : Nat → Prop} {rs rs' : List Res} (ho : o.op = .store t x y) (hx : ev σ x = some (.pointer (some ⟨b, 0, none⟩))) (hy : ev σ y = some v) [hv : CellsOf v vs] [hs : Siz P t m] [h1 : Ones vs]
    (hd : o.dst = none) (hS : St W F rs w) [hh : Has rs b (.cells l.toArray T (0, 0))] [hm : LenO vs m] [hl : LenO l m] [hu : Upd rs b (.cells vs.toArray T (0, 0)) rs']
    (h : ∀ w', St W F rs' w' → K σ w') : X P o N ds σ w K := by
  have e : splice l 0 vs = vs := splice_all (by rw [hm.len, hl.len])
  have hu' : Upd rs b (.cells (splice l 0 vs).toArray T (0, 0)) rs' := by rw [e]; exact hu
  exact X_storeL ho hx hy hm.len h1.ones hd hS (by rw [hm.len, hl.len]; omega) (fun w' h' _ => h w' h')
end
end Cr
namespace Cr
open Go
theorem St.wide {W : World} {F : Nat → Prop} {rs : List Res} {w : World} (hS : St W noF rs w) : St W F rs w := by
  obtain ⟨h, hs, s⟩ := hS
  exact ⟨h, hs, s.agrees, fun b o e => (s.foot b o e).imp (fun h => h.elim) id, s.size, s.os, s.tape, s.output, fun b h1 _ => s.kept b h1 (fun h => h)⟩
/-- What was held and is no more touched stays, what a call made comes to it. -/
theorem St.plus {W : World} {F : Nat → Prop} {rs rs' rs'' : List Res} {w w' : World} (hS : St W F rs w) (h' : St w noF rs' w') [ha : AppR rs' rs rs''] : St W F rs'' w' := by
  obtain ⟨_, _, _, _, hbk⟩ := hS.call []
  exact hbk (h'.wide)
end Cr
namespace Cr
open Go
set_option maxRecDepth 10000
def str (s : List UInt8) : ByteArray := ⟨s.toArray⟩
section
variable {P : Program} {o : Oper} {σ : Env} {w : World} {x y : Operand} {t ty e : TypeId} {N : Nat} {ds : Md} {K : Env → World → Prop}
theorem fold_push (s : List UInt8) : ∀ acc : ByteArray, (s.map fun b => (b.toNat : Int)).foldl (fun r n => r.push (UInt8.ofNat n.toNat)) acc = ⟨acc.data ++ s.toArray⟩ := by
  induction s with
  | nil => intro acc; simp
  | cons c s ih =>
    intro acc
    rw [List.map_cons, List.foldl_cons, ih]
    congr 1
    have : UInt8.ofNat ((c.toNat : Int)).toNat = c := by simp
    rw [this]
    simp [ByteArray.push]
theorem run_bytesStr {a : Option Addr} {s : List UInt8} {n c : Nat} (h : Rd w (bytes a s)) (hn : s.length = n) : (Conv.bytesToString (.slice a n c)).run P w = .ok (.string (str s)) w := by
  cases a with
  | none =>
    have : bv s = [] := h.none_nil
    have hs : s = [] := by cases s with
      | nil => rfl
      | cons => simp [bv] at this
    subst hs
    rfl
  | some ad =>
    have hf := firstCells_row (P := P) (size := 1) (m := n) (c := c) h (by simp [hn])
    simp only [Builtin.firstCells, Nat.mul_one] at hf
    rw [run_bytesToString w ad n c (s.map fun b => (b.toNat : Int)) (by rw [hf, List.map_map]; rfl), fold_push]
    simp [str]
theorem Yl_bytesStr {src dst : TypeId} {a : Option Addr} {s : List UInt8} {n c : Nat} (ho : o.op = .convert src dst x) (hx : ev σ x = some (.slice a n c)) [hs : Und P src (.slice e)] [he : Und P e (.int .u8)] [hd : Und P dst .string] (h : Rd w (bytes a s)) (hn : s.length = n) : Yl P o σ w (.string (str s)) := ⟨fun N ds f ha => by
  have := run_bytesStr (P := P) (c := c) h hn
  simp only [execOp, ho, ha.eval hx, convert, Sem.run_bind, run_underlying hs.und, run_underlying hd.und, run_underlying he.und, Result.andThen_ok, this]
  rfl⟩
theorem str_toList (s : List UInt8) : (str s).toList = s := ByteArray.toList_mk s
theorem str_inj {s t : List UInt8} (h : str s = str t) : s = t := by rw [← str_toList s, h, str_toList]
theorem Yl_eqlStr {a b : List UInt8} (ho : o.op = .binOp .eql t x y ty) (hx : ev σ x = some (.string (str a))) (hy : ev σ y = some (.string (str b))) : Yl P o σ w (.bool (decide (a = b))) := ⟨fun N ds f ha => by
  simp only [execOp, ho, ha.eval hx, ha.eval hy, binOp, eqGuard, Op.stringOp, str_toList]
  have : (a == b) = decide (a = b) := by by_cases h : a = b <;> simp [h]
  rw [this]; rfl⟩
theorem Yl_neqStr {a b : List UInt8} (ho : o.op = .binOp .neq t x y ty) (hx : ev σ x = some (.string (str a))) (hy : ev σ y = some (.string (str b))) : Yl P o σ w (.bool (decide (¬ a = b))) := ⟨fun N ds f ha => by
  simp only [execOp, ho, ha.eval hx, ha.eval hy, binOp, eqGuard, Op.stringOp, str_toList]
  have : (!(a == b)) = decide (¬ a = b) := by by_cases h : a = b <;> simp [h]
  rw [this]; rfl⟩
/-- copy into a block of the run's own. -/
theorem X_copy {sT T : TypeId} {g off n c m c2 d : Nat} {a : Option Addr} {l news : List Value} {W : World} {F : Nat → Prop} {rs rs' : List Res} {z : Value} {bytes : Nat} {TT : TypeId} (ho : o.op = .call { callee := .builtin .copy, args := #[x, y], argTypes := #[t, sT] }) (hx : ev σ x = some (.slice (some ⟨g, off, none⟩) n c)) (hy : ev σ y = some (.slice a m c2))
    [h : Und P t (.slice T)] [hi : Inf P T z 1 bytes] (hd : o.dst = some d) (hN : Nat.blt d N = true) (hS : St W F rs w) [hh : Has rs g (.cells l.toArray TT (0, 0))] (hnews : Rd w (row a news)) (hl : news.length = m) (h1 : ∀ u ∈ news, u.oneCell' = true) (hfit : off + n ≤ l.length)
    [hu : Upd rs g (.cells (splice l off (news.take n)).toArray TT (0, 0)) rs'] (hk : ∀ w', St W F rs' w' → K ((d, .int .i64 ((min m n : Nat) : Int)) :: σ) w') : X P o N ds σ w K := ⟨fun f ha K' Q' hK => by
  have hb := hS.has (b := g) (o := .cells l.toArray TT (0, 0))
  obtain ⟨i, hi', hz', hsz, hby⟩ := info_parts hi.inf
  have hmin : (news.take n).length = Nat.min m n := by simp [hl]; exact Nat.min_comm _ _
  have hfc : (Builtin.firstCells 1 (Nat.min m n) (.slice a m c2)).run P w = .ok (news.take n).toArray w := by
    have h2 : Rd w (row a (news.take n)) := hnews.mono fun h hr => by
      rcases hr with ⟨rfl, h0⟩ | ⟨b, o', cells, T', fz, hb', rfl, hc⟩
      · exact ⟨h, .inl ⟨by simp, h0⟩, fun _ _ e => e⟩
      · refine ⟨_, .inr ⟨b, o', cells, T', fz, hb', rfl, fun j v hv => ?_⟩, fun _ _ e => e⟩
        rw [List.getElem?_take] at hv
        split at hv
        · exact hc j v hv
        · cases hv
    have := firstCells_row (P := P) (size := 1) (m := Nat.min m n) (c := c2) h2 (by omega)
    cases a <;> exact this
  have h1' : ∀ v ∈ news.take n, v.oneCell' = true := fun v hv => h1 v (List.mem_of_mem_take hv)
  have hst := run_storeCells_at P g off TT (news.take n) 0 l.toArray w hb (by simp; omega) h1'
  simp only [Nat.add_zero] at hst
  have hexec : (execOp f.eval o).run P w = .ok (.value (.int .i64 ((Nat.min m n : Nat) : Int))) (w.setRow g (splice l off (news.take n)).toArray) := by
    simp only [execOp, ho, resolve, invoke, builtin, ha.eval hx, ha.eval hy, Builtin.copy_, Sem.run_bind, Sem.run_pure, Result.andThen_ok, List.map_toArray, List.map_cons, List.map_nil]
    simp [run_underlying h.und, Builtin.lenOf, Go.sizeOf, typeInfo, hi', hsz, hfc, hst, goInt, splice]
  unfold Oper.wp
  rw [hexec]
  have u := setBlock_row hb (splice l off (news.take n)).toArray
  have := hK _ _ _ (ha.put (lt_of_blt hN) (.int .i64 ((Nat.min m n : Nat) : Int))) (hk _ (hS.upd u))
  rw [← hd] at this
  exact this⟩
theorem zeroCells_one {z : Value} (hz : z.cells = #[z]) (m : Nat) : Builtin.zeroCells z.cells m = (List.replicate m z).toArray := by
  rw [hz]
  apply Array.ext
  · simp [Builtin.zeroCells]
  · intro i h1 h2
    have : i % 1 = 0 := by omega
    simp [Builtin.zeroCells, this]
theorem run_appendZ {T bytes c n m : Nat} {k k' : IntKind} {a : Option Addr} {cs : List Value} {z : Value} {W : World} {F : Nat → Prop} {rest : List Res} (tx : TypeId) [h : Und P t (.slice T)] [hx : Und P tx (.int k')] [hi : Inf P T z 1 bytes] (hzc : z.cells = #[z]) (hz1 : z.oneCell' = true)
    (hS : St W F (own T 1 a c cs :: rest) w) (hcs : cs.length = n) (hnc : n ≤ c) (hfit : (n + m) * bytes ≤ 140737488355328) (hmax : n + m ≤ maxLen) :
    ∃ a' c' w', (Builtin.append_ #[t, tx] ty #[.slice a n c, .int k (m : Nat)]).run P w = .ok (.slice a' (n + m) c') w' ∧ St W F (own T 1 a' c' (cs ++ List.replicate m z) :: rest) w' ∧ n + m ≤ c' ∧ (a' = none ↔ a = none ∧ m = 0) := by
  obtain ⟨i, hi', hz', hsz, hby⟩ := info_parts hi.inf
  subst hby
  obtain ⟨f, ⟨f1, f2, ho, hs, hd, hu⟩, s⟩ := hS
  have hlt : ((n + m : Nat) : Int) ≤ 9223372036854775807 := by simp only [maxLen] at hmax; omega
  have hw64 : IntKind.i64.wrap (m : Int) = m := w64 (by omega) (by omega)
  have hm0 : ¬ ((m : Int) < 0) := by omega
  have hmb : ¬ (281474976710656 < (m : Int) * i.bytes) := by
    have h1 : (n + m) * i.bytes = n * i.bytes + m * i.bytes := Nat.add_mul ..
    rw [← Int.natCast_mul]
    generalize m * i.bytes = q at h1 ⊢
    omega
  have hnew : ∀ w : World, (if m = 0 then pure #[] else do pure (Builtin.zeroCells (← zeroValue T).cells m) : Sem (Array Value)).run P w = .ok (List.replicate m z).toArray w := fun w => by
    by_cases h0 : m = 0
    · subst h0; simp
    · rw [if_neg h0]
      simp [zeroValue, typeInfo, hi', hz', zeroCells_one hzc]
  by_cases hroom : n + m ≤ c
  · have ho' := ho
    obtain ⟨_, hcm, ⟨rfl, he⟩ | ⟨b, cells, rfl, hf1, hcz, ht⟩⟩ := ho
    · obtain rfl : n = 0 := by omega
      obtain rfl : m = 0 := by omega
      obtain rfl : cs = [] := List.eq_nil_of_length_eq_zero hcs
      refine ⟨a, 0, w, ?_, ⟨f, ⟨f1, f2, by simpa using ho', hs, hd, hu⟩, s⟩, by omega, by simp⟩
      cases a <;> simp [Builtin.append_, run_underlying h.und, run_underlying hx.und, Go.sizeOf, typeInfo, hi', asInt, asIntOf, storeCells, IntKind.wrap_i64]
    · have hb : w.heap[b]? = some (.cells cells T (0, 0)) := s.agrees b _ (by rw [hu, hf1, single_self]; rfl)
      have hfit2 : n + (List.replicate m z).length ≤ cells.size := by simp; omega
      have h1 : ∀ u ∈ List.replicate m z, u.oneCell' = true := fun u hu => by rw [List.eq_of_mem_replicate hu]; exact hz1
      have hst := run_storeCells_at P b n T (List.replicate m z) 0 cells w hb (by simpa using hfit2) h1
      simp only [Nat.add_zero] at hst
      have u := setBlock_row hb (cells.toList.take n ++ List.replicate m z ++ cells.toList.drop (n + (List.replicate m z).length)).toArray
      have hlen : (cells.toList.take n ++ List.replicate m z ++ cells.toList.drop (n + (List.replicate m z).length)).length = c * 1 := by
        simp only [List.length_append, List.length_take, List.length_drop, Array.length_toList, List.length_replicate] at hfit2 ⊢; omega
      refine ⟨some ⟨b, 0, none⟩, c, w.setRow b (cells.toList.take n ++ List.replicate m z ++ cells.toList.drop (n + (List.replicate m z).length)).toArray, ?_, ?_, hroom, by simp⟩
      · have hst2 : (storeCells ⟨b, n, none⟩ (List.replicate m z)).run P w = .ok () (w.setRow b (cells.toList.take n ++ List.replicate m z ++ cells.toList.drop (n + (List.replicate m z).length)).toArray) := hst
        rw [show (Builtin.append_ #[t, tx] ty #[.slice (some ⟨b, 0, none⟩) n c, .int k (m : Nat)]).run P w =
          ((if m = 0 then pure #[] else do pure (Builtin.zeroCells (← zeroValue T).cells m) : Sem (Array Value)).run P w).andThen (fun r w' => ((storeCells ⟨b, n, none⟩ r.toList).run P w').andThen fun _ w' => .ok (.slice (some ⟨b, 0, none⟩) (n + m) c) w') by
            simp [Builtin.append_, run_underlying h.und, run_underlying hx.und, Go.sizeOf, typeInfo, hi', hw64, hm0, hmb, hsz, hroom, add_lit, asInt, asIntOf], hnew w]
        simp only [Result.andThen_ok, hst2]
      · have hS2 : St W F (pts b (.cells cells T (0, 0)) :: rest) w := ⟨f, ⟨f1, f2, hf1, hs, hd, hu⟩, s⟩
        refine (hS2.set u).imp fun g hg => hg.mono_head (own_of_pts (c := c) hlen hcm ?_)
        rw [hcs] at ht
        rw [ht, List.take_append_of_le_length (by simp), List.take_of_length_le (by simp)]
  · have hge : n + m ≤ grownCap w (n + m) c T := grownCap_ge w (n + m) c T
    have hcm : grownCap w (n + m) c T ≤ maxLen := grownCap_le_maxLen w (n + m) c T hmax
    have hn' : ¬ (n + m ≤ c) := hroom
    have hmin : ¬ (9223372036854775807 < ((n : Int) + (m : Int))) := by omega
    have h48 : ¬ (281474976710656 < Builtin.nextslicecap (n + m) c * i.bytes) := by have := growslice_fits (show c < n + m by omega) hfit; omega
    have hod : (Builtin.firstCells 1 n (.slice a n c)).run P w.drew = .ok cs.toArray w.drew := firstCells_row (P := P) (size := 1) ⟨f1, ho.row, fun b o e => s.agrees b o (by rw [hu, e]; rfl)⟩ (by omega)
    let blk := cs.toArray ++ (List.replicate m z).toArray ++ Builtin.zeroCells z.cells (grownCap w (n + m) c T - (n + m))
    have hS2 : St W F rest w := St.drop ⟨f, ⟨f1, f2, ho, hs, hd, hu⟩, s⟩
    refine ⟨some ⟨w.heap.size, 0, none⟩, grownCap w (n + m) c T, w.drew.alloc (.cells blk T), ?_, ?_, hge, by simp; omega⟩
    · have hmm : m ≠ 0 := by omega
      simp [Builtin.append_, run_underlying h.und, run_underlying hx.und, Go.sizeOf, typeInfo, zeroValue, hi', hz', hw64, hm0, hmb, hsz, hn', hmin, h48, asInt, asIntOf, Question.forced, hod, hmm, zeroCells_one hzc, newRow, grownCap, blk]
    · have hlen : blk.toList.length = grownCap w (n + m) c T * 1 := by
        simp only [blk, Array.length_toList, Array.size_append, List.size_toArray, size_zeroCells, hzc, hcs, List.length_replicate]
        simp; omega
      have h3 := hS2.drew.alloc (.cells blk T)
      refine St.imp h3 fun g hg => hg.mono_head ?_
      have key := own_of_pts (T := T) (e := 1) (c := grownCap w (n + m) c T) (b := w.heap.size) (l := blk.toList) (cs := cs ++ List.replicate m z) hlen hcm (by
        simp only [blk, Array.toList_append]; exact List.take_left)
      simpa using key
/-- append of zeros onto a slice without room: the slice need only be read. -/
theorem X_appendZ_grow {T bytes c n m : Nat} {k k' : IntKind} {a : Option Addr} {cs : List Value} {z : Value} {W : World} {F : Nat → Prop} {rs : List Res} {d : Nat} {tx : TypeId} (ho : o.op = .call { callee := .builtin .append, args := #[x, y], argTypes := #[t, tx] }) (hx : ev σ x = some (.slice a n c)) (hy : ev σ y = some (.int k (m : Nat)))
    [h : Und P t (.slice T)] [hx' : Und P tx (.int k')] [hi : Inf P T z 1 bytes] (hzc : z.cells = #[z]) (hd : o.dst = some d) (hN : Nat.blt d N = true) (hS : St W F rs w) (hr : Rd w (row a cs)) (hcs : cs.length = n) (hg : c < n + m) (hm : 0 < m)
    (hfit : (n + m) * bytes ≤ 140737488355328) (hmax : n + m ≤ maxLen)
    (hk : ∀ b c' w', St W F (own T 1 (some ⟨b, 0, none⟩) c' (cs ++ List.replicate m z) :: rs) w' → n + m ≤ c' → K ((d, .slice (some ⟨b, 0, none⟩) (n + m) c') :: σ) w') : X P o N ds σ w K := ⟨fun f ha K' Q' hK => by
  obtain ⟨i, hi', hz', hsz, hby⟩ := info_parts hi.inf
  subst hby
  have hlt : ((n + m : Nat) : Int) ≤ 9223372036854775807 := by simp only [maxLen] at hmax; omega
  have hw64 : IntKind.i64.wrap (m : Int) = m := w64 (by omega) (by omega)
  have hm0 : ¬ ((m : Int) < 0) := by omega
  have hmb : ¬ (281474976710656 < (m : Int) * i.bytes) := by
    have h1 : (n + m) * i.bytes = n * i.bytes + m * i.bytes := Nat.add_mul ..
    rw [← Int.natCast_mul]
    generalize m * i.bytes = q at h1 ⊢
    omega
  have hge : n + m ≤ grownCap w (n + m) c T := grownCap_ge w (n + m) c T
  have hcm : grownCap w (n + m) c T ≤ maxLen := grownCap_le_maxLen w (n + m) c T hmax
  have hn' : ¬ (n + m ≤ c) := by omega
  have hmin : ¬ (9223372036854775807 < ((n : Int) + (m : Int))) := by omega
  have h48 : ¬ (281474976710656 < Builtin.nextslicecap (n + m) c * i.bytes) := by have := growslice_fits (show c < n + m by omega) hfit; omega
  have hod : (Builtin.firstCells 1 n (.slice a n c)).run P w.drew = .ok cs.toArray w.drew := firstCells_row (P := P) (size := 1) (by obtain ⟨g, hg, ha⟩ := hr; exact ⟨g, hg, ha⟩) (by omega)
  let blk := cs.toArray ++ (List.replicate m z).toArray ++ Builtin.zeroCells z.cells (grownCap w (n + m) c T - (n + m))
  have hlen : blk.toList.length = grownCap w (n + m) c T * 1 := by
    simp only [blk, Array.length_toList, Array.size_append, List.size_toArray, size_zeroCells, hzc, hcs, List.length_replicate]
    simp; omega
  have hexec : (execOp f.eval o).run P w = .ok (.value (.slice (some ⟨w.heap.size, 0, none⟩) (n + m) (grownCap w (n + m) c T))) (w.drew.alloc (.cells blk T)) := by
    have hmm : m ≠ 0 := by omega
    simp [execOp, ho, resolve, invoke, builtin, ha.eval hx, ha.eval hy, Builtin.append_, run_underlying h.und, run_underlying hx'.und, Go.sizeOf, typeInfo, zeroValue, hi', hz', hw64, hm0, hmb, hsz, hn', hmin, h48, asInt, asIntOf, Question.forced, hod, hmm, zeroCells_one hzc, newRow, grownCap, blk]
  unfold Oper.wp
  rw [hexec]
  have := hK _ _ _ (ha.put (lt_of_blt hN) (.slice (some ⟨w.heap.size, 0, none⟩) (n + m) (grownCap w (n + m) c T))) (hk w.heap.size _ (w.drew.alloc (.cells blk T)) (St.imp (hS.drew.alloc (.cells blk T)) fun g hg => hg.mono_head (by
    have key := own_of_pts (T := T) (e := 1) (c := grownCap w (n + m) c T) (b := w.heap.size) (l := blk.toList) (cs := cs ++ List.replicate m z) hlen hcm (by
      simp only [blk, Array.toList_append]; exact List.take_left)
    simpa using key)) hge)
  rw [← hd] at this
  exact this⟩
theorem X_appendZ {T bytes c n m : Nat} {k k' : IntKind} {a : Option Addr} {cs : List Value} {z : Value} {W : World} {F : Nat → Prop} {rs rest : List Res} {d : Nat} {tx : TypeId} (ho : o.op = .call { callee := .builtin .append, args := #[x, y], argTypes := #[t, tx] }) (hx : ev σ x = some (.slice a n c)) (hy : ev σ y = some (.int k (m : Nat)))
    [h : Und P t (.slice T)] [hx' : Und P tx (.int k')] [hi : Inf P T z 1 bytes] (hzc : z.cells = #[z]) (hz1 : z.oneCell' = true) (hd : o.dst = some d) (hN : Nat.blt d N = true) (hS : St W F rs w) [hh : HasOwn rs a T 1 c cs rest] (hcs : cs.length = n) (hnc : n ≤ c)
    (hfit : (n + m) * bytes ≤ 140737488355328) (hmax : n + m ≤ maxLen)
    (hk : ∀ a' c' w', St W F (own T 1 a' c' (cs ++ List.replicate m z) :: rest) w' → n + m ≤ c' → (a' = none ↔ a = none ∧ m = 0) → K ((d, .slice a' (n + m) c') :: σ) w') : X P o N ds σ w K := ⟨fun f ha K' Q' hK => by
  obtain ⟨a', c', w', hr, hS', hc', hn⟩ := run_appendZ (P := P) (t := t) (ty := o.type) (k := k) (m := m) tx hzc hz1 (hS.perm hh.has) hcs hnc hfit hmax
  unfold Oper.wp
  have hexec : (execOp f.eval o).run P w = .ok (.value (.slice a' (n + m) c')) w' := by
    simp [execOp, ho, resolve, invoke, builtin, ha.eval hx, ha.eval hy, hr]
  rw [hexec]
  have := hK _ _ _ (ha.put (lt_of_blt hN) (.slice a' (n + m) c')) (hk a' c' w' hS' hc' hn)
  rw [← hd] at this
  exact this⟩
end
end Cr
