/-
  Layer 1 (block): what each function of package block does to a disk in memory.
  Layer 1 (block): New, Write, Flush.
  Layer 1 (block): Write, Flush.
  slices.Backward: what the function that it hands back does, round by round.
  Layer 1 (block): lay, Flush, Read.
  A law's arguments, opened: bytes, lists of writes. What is read of them, by the reading that the row gives.
  A law's argument, opened: a slice of structs, whatever their fields; an array of bytes.
  Two more rules of the walk: a join behind a test (the rest is walked once), and an assertion in the middle.
  Names: what package path and the document call one; path.sign.
  path.Name says nameOk.
  A segment of a row that can be read. Over any program.
  Layer 10 (store): a revision that is right; Check of a package.
  Layer 10 (store): Check.
  The builtin min. Over any program.
  Layer 10 (store): the laws' helpers cut and ToConn.
-/
import Derived.Test.YtflbhldcnjmkkaaGreatDoorSto3
import Derived.Test.YtflbhldcnjmkkaaGreatDoorSto4
import Derived.Deep.SlicePairs
import Derived.Carry
import Derived.OpenShut
import Derived.Test.YtflbhldcnjmkkaaGreatDoorSto2
namespace Cr
open Go Go.Proofs
set_option maxRecDepth 100000

/-- A disk as data. -/
structure DiskM where
  off : Bool
  armed : Bool
  left : Int
  laid : List (List UInt8)
  line : List (Int × List UInt8)
  writes : Int
  flushes : Int
structure DiskM.ok (D : DiskM) : Prop where
  laid64 : ∀ s ∈ D.laid, s.length = 64
  line64 : ∀ x ∈ D.line, x.2.length = 64 ∧ 0 ≤ x.1 ∧ x.1 < D.laid.length
  some_ : 1 ≤ D.laid.length
  most : D.laid.length ≤ 4096
  left0 : 0 ≤ D.left
  left1 : D.left ≤ 9223372036854775807
def laidCells (l : List (List UInt8)) : List Value := l.flatMap bv
def lineCells (l : List (Int × List UInt8)) : List Value := l.flatMap fun x => .int .i64 x.1 :: bv x.2
/-- A disk in memory, at block p. -/
def disk (p : Nat) (D : DiskM) : Res := fun h => D.ok ∧ ∃ al cl ai ci, D.laid.length ≤ cl ∧ D.line.length ≤ ci ∧
  Sep [pts p (.cells #[.bool D.off, .bool D.armed, .int .i64 D.left, .slice al D.laid.length cl, .slice ai D.line.length ci, .int .i64 D.writes, .int .i64 D.flushes] 199),
    own 299 64 al cl (laidCells D.laid), own 301 65 ai ci (lineCells D.line)] h

theorem Sep.single {r : Res} {rs : List Res} {h : Frag} (H : Sep (r :: rs) h) : ∃ h1 h2, r h1 ∧ Sep rs h2 ∧ (∀ k, h1 k = none ∨ h2 k = none) ∧ (∀ k, h k = (h1 k).or (h2 k)) := H
theorem St.openR {W : World} {F : Nat → Prop} {r : Res} {rs rs' : List Res} {w : World} (hS : St W F (r :: rs) w) (hr : ∀ h, r h → Sep rs' h) : St W F (rs' ++ rs) w :=
  hS.imp fun h hh => by
    obtain ⟨h1, h2, a, b, c, d⟩ := hh
    exact Sep.append_mk (hr _ a) b c d
theorem St.shutR {W : World} {F : Nat → Prop} {r : Res} {rs rs' : List Res} {w : World} (hS : St W F (rs' ++ rs) w) (hr : ∀ h, Sep rs' h → r h) : St W F (r :: rs) w :=
  hS.imp fun h hh => by
    obtain ⟨h1, h2, a, b, c, d⟩ := Sep.append hh
    exact ⟨h1, h2, hr _ a, b, c, d⟩
/-- What is pure in a resource. -/
theorem St.pureR {W : World} {F : Nat → Prop} {r : Res} {rs : List Res} {w : World} {A : Prop} (hS : St W F (r :: rs) w) (hr : ∀ h, r h → A) : A := by
  obtain ⟨h, ⟨h1, _, a, _⟩, _⟩ := hS
  exact hr _ a

/-! ### On, Sectors, has, use -/
theorem on_nil (W : World) : Calls Tryz.prog 95 #[.pointer none] W (Ret fun v w => v = .bool false ∧ W = w) := by
  refine calls_C Tryz.func95 rfl Tryz.ntmps95 rfl ?_
  repeat (first | (refine G_id ?_; first | refine G_nil ?_ | refine G_plain rfl rfl ?_ | refine G_no rfl rfl rfl rfl rfl rfl ?_) | (refine X_id ?_; first | refine X_yl (Yl_move rfl rfl) rfl rfl ?_ | refine X_yl (Yl_assign rfl rfl) rfl rfl ?_ | refine X_yl (Yl_pick_f rfl rfl rfl) rfl rfl ?_ | refine X_yl (Yl_neqNil_none rfl rfl rfl) rfl rfl ?_) | (refine C_id ?_; first | refine C_seq ?_ | refine C_region ?_ | refine C_ret ?_) | (refine E_id ?_; first | refine E_code ?_ | refine E_ret1 rfl (Rv_tmp rfl) (Ret.mk ?_)))
  exact ⟨rfl, rfl⟩
theorem Rd.disk {w : World} {p : Nat} {D : DiskM} (h : Rd w (disk p D)) : D.ok ∧ ∃ al cl ai ci, D.laid.length ≤ cl ∧ D.line.length ≤ ci ∧
    w.heap[p]? = some (.cells #[.bool D.off, .bool D.armed, .int .i64 D.left, .slice al D.laid.length cl, .slice ai D.line.length ci, .int .i64 D.writes, .int .i64 D.flushes] 199) ∧
    Rd w (row al (laidCells D.laid)) ∧ Rd w (row ai (lineCells D.line)) := by
  obtain ⟨f, ⟨hok, al, cl, ai, ci, h1, h2, hs⟩, ha⟩ := h
  have hr := Rd.sep ⟨f, hs, ha⟩
  exact ⟨hok, al, cl, ai, ci, h1, h2, (hr _ (by simp)).pts, (hr _ (List.mem_cons_of_mem _ (List.mem_cons_self ..))).own_row, (hr _ (List.mem_cons_of_mem _ (List.mem_cons_of_mem _ (List.mem_cons_self ..)))).own_row⟩
theorem on_ (p : Nat) (D : DiskM) (W : World) (hd : Rd W (disk p D)) :
    Calls Tryz.prog 95 #[.pointer (some ⟨p, 0, none⟩)] W (Ret fun v w => v = .bool (!D.off) ∧ W = w) := by
  obtain ⟨_, al, cl, ai, ci, _, _, hc, _, _⟩ := hd.disk
  have hS := St.start W
  refine calls_C Tryz.func95 rfl Tryz.ntmps95 rfl ?_
  repeat (first | (refine G_id ?_; first | refine G_nil ?_ | refine G_plain rfl rfl ?_ | refine G_yes rfl rfl rfl rfl ?_) | (refine X_id ?_; first | refine X_yl (Yl_move rfl rfl) rfl rfl ?_ | refine X_yl (Yl_assign rfl rfl) rfl rfl ?_ | refine X_yl (Yl_nilCheck rfl rfl) rfl rfl ?_ | refine X_yl (Yl_fieldAddr0 rfl rfl rfl) rfl rfl ?_ | refine X_yl (Yl_pick_t rfl rfl rfl) rfl rfl ?_ | refine X_yl (Yl_not_b rfl rfl) rfl rfl ?_ | refine X_yl (Yl_neqNil_some rfl rfl rfl) rfl rfl ?_ | refine X_yl (Yl_load rfl rfl (cell_at (by assumption))) rfl rfl ?_) | (refine C_id ?_; first | refine C_seq ?_ | refine C_region ?_ | refine C_ret ?_) | (refine E_id ?_; first | refine E_code ?_ | refine E_ret1 rfl (Rv_tmp rfl) (Ret.mk ?_)))
  exact ⟨rfl, rfl⟩
theorem sectors_nil (W : World) : Calls Tryz.prog 96 #[.pointer none] W (Ret fun v w => v = .int .i64 0 ∧ W = w) := by
  refine calls_C Tryz.func96 rfl Tryz.ntmps96 rfl ?_
  repeat (first | (refine G_id ?_; first | refine G_nil ?_ | refine G_plain rfl rfl ?_) | (refine X_id ?_; first | refine X_yl (Yl_move rfl rfl) rfl rfl ?_ | refine X_yl (Yl_assign rfl rfl) rfl rfl ?_ | refine X_yl (Yl_eqlNil_none rfl rfl rfl) rfl rfl ?_) | (refine C_id ?_; first | refine C_seq ?_ | refine C_region ?_ | refine C_ret ?_ | refine C_cond_t rfl ?_) | (refine E_id ?_; first | refine E_code ?_ | refine E_then_ret ?_ | refine E_ret1 rfl (Rv_tmp rfl) (Ret.mk ?_)))
  exact ⟨rfl, rfl⟩
theorem sectors_ (p : Nat) (D : DiskM) (W : World) (hd : Rd W (disk p D)) :
    Calls Tryz.prog 96 #[.pointer (some ⟨p, 0, none⟩)] W (Ret fun v w => v = .int .i64 (D.laid.length : Nat) ∧ W = w) := by
  obtain ⟨_, al, cl, ai, ci, _, _, hc, _, _⟩ := hd.disk
  have hS := St.start W
  refine calls_C Tryz.func96 rfl Tryz.ntmps96 rfl ?_
  repeat (first | (refine G_id ?_; first | refine G_nil ?_ | refine G_plain rfl rfl ?_) | (refine X_id ?_; first | refine X_yl (Yl_move rfl rfl) rfl rfl ?_ | refine X_yl (Yl_assign rfl rfl) rfl rfl ?_ | refine X_yl (Yl_nilCheck rfl rfl) rfl rfl ?_ | refine X_yl (Yl_fieldAddr0 rfl rfl rfl) rfl rfl ?_ | refine X_yl (Yl_len rfl rfl) rfl rfl ?_ | refine X_yl (Yl_eqlNil_some rfl rfl rfl) rfl rfl ?_ | refine X_yl (Yl_load rfl rfl (cell_at (by assumption))) rfl rfl ?_) | (refine C_id ?_; first | refine C_seq ?_ | refine C_region ?_ | refine C_ret ?_ | refine C_skip ?_ | refine C_cond_f rfl ?_) | (refine E_id ?_; first | refine E_code ?_ | refine E_ret1 rfl (Rv_tmp rfl) (Ret.mk ?_)))
  exact ⟨rfl, rfl⟩
def inDisk (D : DiskM) (no : Int) : Bool := decide (0 ≤ no ∧ no < D.laid.length)
theorem has_ (p : Nat) (D : DiskM) (no : Int) (W : World) (hd : Rd W (disk p D)) :
    Calls Tryz.prog 174 #[.pointer (some ⟨p, 0, none⟩), .int .i64 no] W (Ret fun v w => v = .bool (inDisk D no) ∧ W = w) := by
  by_cases h : 0 ≤ no
  · refine calls_C Tryz.func174 rfl Tryz.ntmps174 rfl ?_
    repeat (first | (refine G_id ?_; first | refine G_nil ?_ | refine G_plain rfl rfl ?_ | refine G_yes rfl rfl rfl rfl ?_) | (refine X_id ?_; first | refine X_yl (Yl_move rfl rfl) rfl rfl ?_ | refine X_yl (Yl_assign rfl rfl) rfl rfl ?_ | refine X_yl (Yl_geq_t rfl rfl rfl (by omega)) rfl rfl ?_) | (refine C_id ?_; first | refine C_seq ?_ | refine C_region ?_) | (refine E_id ?_; first | refine E_code ?_))
    refine X_callg _ rfl rfl rfl rfl rfl (sectors_ p D W hd) ?_
    rintro _ _ ⟨rfl, rfl⟩
    repeat (first | (refine G_id ?_; first | refine G_nil ?_ | refine G_plain rfl rfl ?_ | refine G_yes rfl rfl rfl rfl ?_) | (refine X_id ?_; first | refine X_yl (Yl_assign rfl rfl) rfl rfl ?_ | refine X_yl (Yl_pick_t rfl rfl rfl) rfl rfl ?_ | refine X_yl (Yl_lss rfl rfl rfl) rfl rfl ?_) | (refine C_id ?_; first | refine C_ret ?_) | (refine E_id ?_; first | refine E_code ?_ | refine E_ret1 rfl (Rv_tmp rfl) (Ret.mk ?_)))
    exact ⟨by simp [inDisk, h], rfl⟩
  · refine calls_C Tryz.func174 rfl Tryz.ntmps174 rfl ?_
    repeat (first | (refine G_id ?_; first | refine G_nil ?_ | refine G_plain rfl rfl ?_ | refine G_no rfl rfl rfl rfl rfl rfl ?_) | (refine X_id ?_; first | refine X_yl (Yl_move rfl rfl) rfl rfl ?_ | refine X_yl (Yl_assign rfl rfl) rfl rfl ?_ | refine X_yl (Yl_pick_f rfl rfl rfl) rfl rfl ?_ | refine X_yl (Yl_geq_f rfl rfl rfl (by omega)) rfl rfl ?_) | (refine C_id ?_; first | refine C_seq ?_ | refine C_region ?_ | refine C_ret ?_) | (refine E_id ?_; first | refine E_code ?_ | refine E_ret1 rfl (Rv_tmp rfl) (Ret.mk ?_)))
    exact ⟨by simp [inDisk, h], rfl⟩

/-! ### power -/
def useB (off armed : Bool) (left : Int) : Bool := !off && (!armed || decide (¬ left = 0))
def useOff (off armed : Bool) (left : Int) : Bool := off || (armed && decide (left = 0))
def useLeft (off armed : Bool) (left : Int) : Int := if off = false ∧ armed = true ∧ ¬ left = 0 then left - 1 else left
theorem use_ (p : Nat) (off armed : Bool) (left : Int) (r : List Value) (T : TypeId) (W : World) (F : Nat → Prop) (h0 : 0 ≤ left) (h1 : left ≤ 9223372036854775807)
    (hS : St W F [pts p (.cells (.bool off :: .bool armed :: .int .i64 left :: r).toArray T)] W) :
    Calls Tryz.prog 220 #[.pointer (some ⟨p, 0, none⟩)] W (Ret fun v w => v = .bool (useB off armed left) ∧
      St W F [pts p (.cells (.bool (useOff off armed left) :: .bool armed :: .int .i64 (useLeft off armed left) :: r).toArray T)] w) := by
  cases off
  · cases armed
    · refine calls_C Tryz.func220 rfl Tryz.ntmps220 rfl ?_
      repeat (first | (refine G_id ?_; first | refine G_nil ?_ | refine G_plain rfl rfl ?_) | (refine X_id ?_; first | refine X_yl (Yl_move rfl rfl) rfl rfl ?_ | refine X_yl (Yl_assign rfl rfl) rfl rfl ?_ | refine X_yl (Yl_nilCheck rfl rfl) rfl rfl ?_ | refine X_yl (Yl_fieldAddr0 rfl rfl rfl) rfl rfl ?_ | refine X_yl (Yl_not_f rfl rfl) rfl rfl ?_ | refine X_yl (Yl_load rfl rfl hS.cell) rfl rfl ?_) | (refine C_id ?_; first | refine C_seq ?_ | refine C_region ?_ | refine C_block ?_ | refine C_ret ?_ | refine C_cond_t rfl ?_ | refine C_cond_f rfl ?_) | (refine E_id ?_; first | refine E_code ?_ | refine E_then_ret ?_ | refine E_blk_ret ?_ | refine E_ret1 rfl (Rv_tmp rfl) (Ret.mk ?_)))
      exact ⟨rfl, hS⟩
    · by_cases h : left = 0
      · subst h
        refine calls_C Tryz.func220 rfl Tryz.ntmps220 rfl ?_
        repeat (first | (refine G_id ?_; first | refine G_nil ?_ | refine G_plain rfl rfl ?_) | (refine X_id ?_; first | refine X_yl (Yl_move rfl rfl) rfl rfl ?_ | refine X_yl (Yl_assign rfl rfl) rfl rfl ?_ | refine X_yl (Yl_nilCheck rfl rfl) rfl rfl ?_ | refine X_yl (Yl_fieldAddr0 rfl rfl rfl) rfl rfl ?_ | refine X_yl (Yl_not_t rfl rfl) rfl rfl ?_ | refine X_yl (Yl_eql_t rfl rfl rfl (by omega)) rfl rfl ?_ | refine X_yl (Yl_load rfl rfl hS.cell) rfl rfl ?_ | refine X_store rfl rfl rfl rfl hS (fun _ hS _ => ?_)) | (refine C_id ?_; first | refine C_seq ?_ | refine C_region ?_ | refine C_block ?_ | refine C_ret ?_ | refine C_cond_t rfl ?_ | refine C_cond_f rfl ?_) | (refine E_id ?_; first | refine E_code ?_ | refine E_then_ret ?_ | refine E_blk_ret ?_ | refine E_ret1 rfl (Rv_tmp rfl) (Ret.mk ?_)))
        exact ⟨rfl, hS⟩
      · refine calls_C Tryz.func220 rfl Tryz.ntmps220 rfl ?_
        repeat (first | (refine G_id ?_; first | refine G_nil ?_ | refine G_plain rfl rfl ?_) | (refine X_id ?_; first | refine X_yl (Yl_move rfl rfl) rfl rfl ?_ | refine X_yl (Yl_assign rfl rfl) rfl rfl ?_ | refine X_yl (Yl_nilCheck rfl rfl) rfl rfl ?_ | refine X_yl (Yl_fieldAddr0 rfl rfl rfl) rfl rfl ?_ | refine X_yl (Yl_not_t rfl rfl) rfl rfl ?_ | refine X_yl (Yl_eql_f rfl rfl rfl (by omega)) rfl rfl ?_ | refine X_yl (Yl_sub rfl rfl rfl (w64 (by omega) (by omega))) rfl rfl ?_ | refine X_yl (Yl_load rfl rfl hS.cell) rfl rfl ?_ | refine X_store rfl rfl rfl rfl hS (fun _ hS _ => ?_)) | (refine C_id ?_; first | refine C_seq ?_ | refine C_region ?_ | refine C_block ?_ | refine C_ret ?_ | refine C_skip ?_ | refine C_cond_f rfl ?_) | (refine E_id ?_; first | refine E_code ?_ | refine E_blk_n ?_ | refine E_ret1 rfl (Rv_tmp rfl) (Ret.mk ?_)))
        exact ⟨by simp [useB, h], by simpa [useOff, useLeft, h] using hS⟩
  · refine calls_C Tryz.func220 rfl Tryz.ntmps220 rfl ?_
    repeat (first | (refine G_id ?_; first | refine G_nil ?_ | refine G_plain rfl rfl ?_) | (refine X_id ?_; first | refine X_yl (Yl_move rfl rfl) rfl rfl ?_ | refine X_yl (Yl_assign rfl rfl) rfl rfl ?_ | refine X_yl (Yl_nilCheck rfl rfl) rfl rfl ?_ | refine X_yl (Yl_fieldAddr0 rfl rfl rfl) rfl rfl ?_ | refine X_yl (Yl_load rfl rfl hS.cell) rfl rfl ?_) | (refine C_id ?_; first | refine C_seq ?_ | refine C_region ?_ | refine C_block ?_ | refine C_ret ?_ | refine C_cond_t rfl ?_) | (refine E_id ?_; first | refine E_code ?_ | refine E_then_ret ?_ | refine E_blk_ret ?_ | refine E_ret1 rfl (Rv_tmp rfl) (Ret.mk ?_)))
    exact ⟨rfl, hS⟩
end Cr
namespace Cr
open Go Go.Proofs
set_option maxRecDepth 100000

/-! ### New -/
def zero64 : List UInt8 := List.replicate 64 0
def newDisk (n : Nat) : DiskM := { off := false, armed := false, left := 0, laid := List.replicate n zero64, line := [], writes := 0, flushes := 0 }
theorem newDisk_ok {n : Nat} (h : 1 ≤ n) (h' : n ≤ 4096) : (newDisk n).ok := by
  refine ⟨fun s hs => ?_, fun x hx => by simp [newDisk] at hx, by simpa [newDisk] using h, by simpa [newDisk] using h', by simp [newDisk], by simp [newDisk]⟩
  simp [newDisk] at hs; rw [hs.2]; simp [zero64]
theorem laidCells_replicate (n : Nat) : laidCells (List.replicate n zero64) = List.replicate (n * 64) (.int .u8 0) := by
  induction n with
  | zero => rfl
  | succ n ih =>
    have e : bv zero64 = List.replicate 64 (.int .u8 0) := by simp [bv, zero64]
    have : laidCells (List.replicate (n + 1) zero64) = bv zero64 ++ laidCells (List.replicate n zero64) := by simp [laidCells, List.replicate_succ]
    rw [this, ih, e, List.replicate_append_replicate]
    congr 1; omega
theorem madeCells_zeros (m n : Nat) : madeCells (List.replicate m (Value.int .u8 0)).toArray n = (List.replicate n (if m = 0 then default else Value.int .u8 0)).toArray := by
  apply Array.ext
  · simp [madeCells]
  · intro i h1 h2
    simp only [madeCells, Array.getElem_map, Array.getElem_range, List.size_toArray, List.length_replicate]
    by_cases hm : m = 0
    · subst hm; simp
    · have : i % m < m := Nat.mod_lt _ (by omega)
      simp [hm, this]
theorem new_bad (n : Int) (W : World) (h : n < 1 ∨ 4096 < n) : Calls Tryz.prog 36 #[.int .i64 n] W (Ret fun v w => v = .tuple #[.pointer none, .int .i64 1] ∧ W = w) := by
  by_cases h1 : n < 1
  · refine calls_C Tryz.func36 rfl Tryz.ntmps36 rfl ?_
    repeat (first | (refine G_id ?_; first | refine G_nil ?_ | refine G_plain rfl rfl ?_ | refine G_no rfl rfl rfl rfl rfl rfl ?_) | (refine X_id ?_; first | refine X_yl (Yl_move rfl rfl) rfl rfl ?_ | refine X_yl (Yl_assign rfl rfl) rfl rfl ?_ | refine X_yl (Yl_pick_t rfl rfl rfl) rfl rfl ?_ | refine X_yl (Yl_lss_t rfl rfl rfl (by omega)) rfl rfl ?_) | (refine C_id ?_; first | refine C_seq ?_ | refine C_region ?_ | refine C_ret ?_ | refine C_cond_t rfl ?_) | (refine E_id ?_; first | refine E_code ?_ | refine E_then_ret ?_ | refine E_ret2 rfl (Rv_tmp rfl) (Rv_tmp rfl) (Ret.mk ?_)))
    exact ⟨rfl, rfl⟩
  · have h2 : 4096 < n := by omega
    refine calls_C Tryz.func36 rfl Tryz.ntmps36 rfl ?_
    repeat (first | (refine G_id ?_; first | refine G_nil ?_ | refine G_plain rfl rfl ?_ | refine G_yes rfl rfl rfl rfl ?_) | (refine X_id ?_; first | refine X_yl (Yl_move rfl rfl) rfl rfl ?_ | refine X_yl (Yl_assign rfl rfl) rfl rfl ?_ | refine X_yl (Yl_pick_f rfl rfl rfl) rfl rfl ?_ | refine X_yl (Yl_lss_f rfl rfl rfl (by omega)) rfl rfl ?_ | refine X_yl (Yl_gtr_t rfl rfl rfl (by omega)) rfl rfl ?_) | (refine C_id ?_; first | refine C_seq ?_ | refine C_region ?_ | refine C_ret ?_ | refine C_cond_t rfl ?_) | (refine E_id ?_; first | refine E_code ?_ | refine E_then_ret ?_ | refine E_ret2 rfl (Rv_tmp rfl) (Rv_tmp rfl) (Ret.mk ?_)))
    exact ⟨rfl, rfl⟩
theorem new_ (n : Nat) (W : World) (h1 : 1 ≤ n) (h2 : n ≤ 4096) : Calls Tryz.prog 36 #[.int .i64 (n : Int)] W (Ret fun v w => ∃ p, v = .tuple #[.pointer (some ⟨p, 0, none⟩), .int .i64 0] ∧ St W noF [disk p (newDisk n)] w) := by
  have hS := St.start W
  refine calls_C Tryz.func36 rfl Tryz.ntmps36 rfl ?_
  repeat (first | (refine G_id ?_; first | refine G_nil ?_ | refine G_plain rfl rfl ?_ | refine G_yes rfl rfl rfl rfl ?_) | (refine X_id ?_; first | refine X_yl (Yl_move rfl rfl) rfl rfl ?_ | refine X_yl (Yl_assign rfl rfl) rfl rfl ?_ | refine X_yl (Yl_pick_f rfl rfl rfl) rfl rfl ?_ | refine X_yl (Yl_lss_f rfl rfl rfl (by omega)) rfl rfl ?_ | refine X_yl (Yl_gtr_f rfl rfl rfl (by omega)) rfl rfl ?_) | (refine C_id ?_; first | refine C_seq ?_ | refine C_region ?_ | refine C_skip ?_ | refine C_cond_f rfl ?_) | (refine E_id ?_; first | refine E_code ?_))
  refine X_make rfl rfl rfl (by omega) (by omega) (by omega) (by omega) rfl rfl hS (fun al w hS _ => ?_)
  repeat (first | (refine G_id ?_; first | refine G_nil ?_ | refine G_plain rfl rfl ?_) | (refine X_id ?_; first | refine X_yl (Yl_assign rfl rfl) rfl rfl ?_ | refine X_yl (Yl_build rfl rfl rfl) rfl rfl ?_ | refine X_box rfl rfl rfl rfl hS (fun _ _ hS _ => ?_)) | (refine C_id ?_; first | refine C_ret ?_) | (refine E_id ?_; first | refine E_code ?_ | refine E_ret2 rfl (Rv_tmp rfl) (Rv_tmp rfl) (Ret.mk ?_)))
  refine ⟨_, rfl, ?_⟩
  have e : madeCells (Value.agg (List.replicate 64 (Value.int .u8 0)).toArray).cells ((n : Int).toNat * 64) = (laidCells (newDisk n).laid).toArray := by
    show madeCells (List.replicate 64 (Value.int .u8 0)).toArray _ = _
    rw [madeCells_zeros, newDisk, laidCells_replicate]; simp
  rw [e] at hS
  have hl : (laidCells (newDisk n).laid).length = n * 64 := by rw [newDisk, laidCells_replicate]; simp
  have hS := ((hS.second (own_of_pts (c := n) (cs := laidCells (newDisk n).laid) hl (by simp only [maxLen]; omega) (by simp))).own_none 301 65 none).sel [false, true, true]
  refine St.shutR (rs' := [_, _, _]) (rs := []) hS fun h hh => ⟨newDisk_ok h1 h2, some ⟨al, 0, none⟩, n, none, 0, by simp [newDisk], by simp [newDisk], ?_⟩
  have el : (newDisk n).laid.length = n := by simp [newDisk]
  rw [el]
  exact hh

/-! ### slices.Clone at bytes -/
theorem clone_ (a : Option Addr) (n c : Nat) (s : List UInt8) (W : World) (hs : Rd W (bytes a s)) (hn : s.length = n) (hlim : n ≤ 1073741824) :
    Calls Tryz.prog 176 #[.slice a n c] W (Ret fun v w => ∃ a' c', v = .slice a' n c' ∧ (a' = none ↔ a = none) ∧ n ≤ c' ∧ St W noF [own 5 1 a' c' (bv s)] w) := by
  have hS := St.start W
  cases a with
  | none =>
    have h0 : bv s = [] := hs.none_nil
    obtain rfl : n = 0 := by rw [← hn, ← bv_length s, h0]; rfl
    refine calls_C Tryz.func176 rfl Tryz.ntmps176 rfl ?_
    repeat (first | (refine G_id ?_; first | refine G_nil ?_ | refine G_plain rfl rfl ?_) | (refine X_id ?_; first | refine X_yl (Yl_move rfl rfl) rfl rfl ?_ | refine X_yl (Yl_assign rfl rfl) rfl rfl ?_ | refine X_yl (Yl_eqlNilSlice rfl rfl rfl) rfl rfl ?_) | (refine C_id ?_; first | refine C_seq ?_ | refine C_region ?_ | refine C_ret ?_ | refine C_cond_t rfl ?_) | (refine E_id ?_; first | refine E_code ?_ | refine E_then_ret ?_ | refine E_ret1 rfl (Rv_tmp rfl) (Ret.mk ?_)))
    refine ⟨none, 0, rfl, by simp, by omega, ?_⟩
    rw [h0]
    exact hS.own_none _ _ _
  | some ad =>
    refine calls_C Tryz.func176 rfl Tryz.ntmps176 rfl ?_
    repeat (first | (refine G_id ?_; first | refine G_nil ?_ | refine G_plain rfl rfl ?_) | (refine X_id ?_; first | refine X_yl (Yl_move rfl rfl) rfl rfl ?_ | refine X_yl (Yl_assign rfl rfl) rfl rfl ?_ | refine X_yl (Yl_eqlNilSlice rfl rfl rfl) rfl rfl ?_ | refine X_buildSlice rfl rfl rfl rfl rfl rfl rfl rfl hS (fun _ _ hS _ => ?_)) | (refine C_id ?_; first | refine C_seq ?_ | refine C_region ?_ | refine C_skip ?_ | refine C_cond_f rfl ?_) | (refine E_id ?_; first | refine E_code ?_))
    rename_i b w hb
    have hs := hs.below hb
    repeat (first | fail)
    refine X_append rfl rfl rfl rfl rfl hS rfl (by omega) hs (by simp [hn]) bv_one (by omega) (by simp only [maxLen]; omega) (fun a' c' w hS hc hnil => ?_)
    repeat (first | (refine G_id ?_; first | refine G_nil ?_ | refine G_plain rfl rfl ?_) | (refine X_id ?_; first | refine X_yl (Yl_assign rfl rfl) rfl rfl ?_) | (refine C_id ?_; first | refine C_ret ?_) | (refine E_id ?_; first | refine E_code ?_ | refine E_ret1 rfl (Rv_tmp rfl) (Ret.mk ?_)))
    refine ⟨a', c', by rw [Nat.zero_add], by rw [hnil]; simp, by omega, hS⟩
end Cr
namespace Cr
open Go Go.Proofs
set_option maxRecDepth 100000
set_option maxHeartbeats 4000000

theorem add64_ (b off : Nat) (x y : Int) (l l' : List Value) (T : TypeId) (W : World) (F : Nat → Prop) [hn : Nth l off (.int .i64 x)] [hs : Spl l off [.int .i64 (IntKind.i64.wrap (x + y))] l'] (hS : St W F [pts b (.cells l.toArray T)] W) :
    Calls Tryz.prog 221 #[.pointer (some ⟨b, off, none⟩), .int .i64 y] W (Ret fun v w => v = .int .i64 (IntKind.i64.wrap (x + y)) ∧ St W F [pts b (.cells l'.toArray T)] w) := by
  refine calls_C Tryz.func221 rfl Tryz.ntmps221 rfl ?_
  repeat (first | (refine G_id ?_; first | refine G_nil ?_ | refine G_plain rfl rfl ?_) | (refine X_id ?_; first | refine X_yl (Yl_move rfl rfl) rfl rfl ?_ | refine X_yl (Yl_assign rfl rfl) rfl rfl ?_ | refine X_yl (Yl_nilCheck rfl rfl) rfl rfl ?_ | refine X_yl (Yl_fieldAddr rfl rfl rfl) rfl rfl ?_ | refine X_eadd rfl rfl rfl rfl rfl rfl hS (fun _ hS => ?_)) | (refine C_id ?_; first | refine C_seq ?_ | refine C_region ?_ | refine C_ret ?_) | (refine E_id ?_; first | refine E_code ?_ | refine E_ret1 rfl (Rv_tmp rfl) (Ret.mk ?_)))
  exact ⟨rfl, hS⟩

def DiskM.used (D : DiskM) : DiskM := { D with off := useOff D.off D.armed D.left, left := useLeft D.off D.armed D.left }
def DiskM.write (D : DiskM) (no : Int) (b : List UInt8) : Int × DiskM :=
  if D.off then (9, D) else if inDisk D no = false ∨ b.length ≠ 64 then (1, D) else if useB D.off D.armed D.left = false then (9, D.used)
  else (0, { D.used with line := D.line ++ [(no, b)], writes := IntKind.i64.wrap (D.writes + 1) })
theorem DiskM.write_use {D : DiskM} {no : Int} {b : List UInt8} (h : D.off = false) (hin : inDisk D no = true) (hb : b.length = 64) (hu : useB D.off D.armed D.left = false) : D.write no b = (9, D.used) := by
  unfold DiskM.write
  rw [if_neg (by simp [h]), if_neg (by simp [hin, hb]), if_pos hu]
theorem DiskM.write_yes {D : DiskM} {no : Int} {b : List UInt8} (h : D.off = false) (hin : inDisk D no = true) (hb : b.length = 64) (hu : useB D.off D.armed D.left = true) : D.write no b = (0, { D.used with line := D.line ++ [(no, b)], writes := IntKind.i64.wrap (D.writes + 1) }) := by
  unfold DiskM.write
  rw [if_neg (by simp [h]), if_neg (by simp [hin, hb]), if_neg (by simp [hu])]
theorem DiskM.used_ok {D : DiskM} (h : D.ok) : D.used.ok := by
  obtain ⟨h1, h2, h3, h4, h5, h6⟩ := h
  refine ⟨h1, h2, h3, h4, ?_, ?_⟩ <;> simp only [DiskM.used, useLeft] <;> split <;> omega
theorem DiskM.line_ok {D : DiskM} (h : D.ok) {no : Int} {b : List UInt8} {wr : Int} (hn : inDisk D no = true) (hb : b.length = 64) : ({ D with line := D.line ++ [(no, b)], writes := wr } : DiskM).ok := by
  obtain ⟨h1, h2, h3, h4, h5, h6⟩ := h
  refine ⟨h1, fun x hx => ?_, h3, h4, h5, h6⟩
  simp only [List.mem_append, List.mem_singleton] at hx
  rcases hx with hx | rfl
  · exact h2 x hx
  · have : 0 ≤ no ∧ no < D.laid.length := by simpa [inDisk] using hn
    exact ⟨hb, this.1, this.2⟩
/-- A disk opened: its own block, its sectors, its line. -/
theorem St.openDisk {W : World} {F : Nat → Prop} {p : Nat} {D : DiskM} {rs : List Res} {w : World} (hS : St W F (disk p D :: rs) w) : D.ok ∧ ∃ al cl ai ci, D.laid.length ≤ cl ∧ D.line.length ≤ ci ∧
    St W F (pts p (.cells #[.bool D.off, .bool D.armed, .int .i64 D.left, .slice al D.laid.length cl, .slice ai D.line.length ci, .int .i64 D.writes, .int .i64 D.flushes] 199) ::
      own 299 64 al cl (laidCells D.laid) :: own 301 65 ai ci (lineCells D.line) :: rs) w := by
  obtain ⟨h, ⟨h1, h2, ⟨hok, al, cl, ai, ci, c1, c2, hs⟩, hr, hd, hu⟩, s⟩ := hS
  exact ⟨hok, al, cl, ai, ci, c1, c2, h, Sep.append_mk (rs := [_, _, _]) hs hr hd hu, s⟩
theorem St.shutDisk {W : World} {F : Nat → Prop} {p : Nat} {D : DiskM} {rs : List Res} {w : World} {al ai : Option Addr} {cl ci : Nat} (hok : D.ok) (c1 : D.laid.length ≤ cl) (c2 : D.line.length ≤ ci)
    (hS : St W F (pts p (.cells #[.bool D.off, .bool D.armed, .int .i64 D.left, .slice al D.laid.length cl, .slice ai D.line.length ci, .int .i64 D.writes, .int .i64 D.flushes] 199) ::
      own 299 64 al cl (laidCells D.laid) :: own 301 65 ai ci (lineCells D.line) :: rs) w) : St W F (disk p D :: rs) w :=
  St.shutR (rs' := [_, _, _]) (rs := rs) hS fun _ hh => ⟨hok, al, cl, ai, ci, c1, c2, hh⟩
theorem lineCells_append (l m : List (Int × List UInt8)) : lineCells (l ++ m) = lineCells l ++ lineCells m := by simp [lineCells]
theorem lineCells_length {l : List (Int × List UInt8)} (h : ∀ x ∈ l, x.2.length = 64) : (lineCells l).length = l.length * 65 := by
  induction l with
  | nil => rfl
  | cons x l ih =>
    have := ih fun y hy => h y (List.mem_cons_of_mem _ hy)
    have h0 := h x (List.mem_cons_self ..)
    simp only [lineCells, List.flatMap_cons, List.length_append, List.length_cons, bv_length, h0] at this ⊢
    omega
theorem laidCells_length {l : List (List UInt8)} (h : ∀ x ∈ l, x.length = 64) : (laidCells l).length = l.length * 64 := by
  induction l with
  | nil => rfl
  | cons x l ih =>
    have := ih fun y hy => h y (List.mem_cons_of_mem _ hy)
    have h0 := h x (List.mem_cons_self ..)
    simp only [laidCells, List.flatMap_cons, List.length_append, List.length_cons, bv_length, h0] at this ⊢
    omega

theorem one_int {k : IntKind} {n : Int} {l : List Value} (h : ∀ u ∈ l, u.oneCell' = true) : ∀ u ∈ Value.int k n :: l, u.oneCell' = true := fun u hu => by
  rcases List.mem_cons.mp hu with rfl | hu
  · rfl
  · exact h u hu
theorem write_ (p : Nat) (D : DiskM) (no : Int) (a : Option Addr) (n c : Nat) (b : List UInt8) (W : World) (F : Nat → Prop) (hS : St W F [disk p D] W) (hb : Ro W F (bytes a b)) (hn : b.length = n) (hline : D.line.length < 1073741824) :
    Calls Tryz.prog 166 #[.pointer (some ⟨p, 0, none⟩), .int .i64 no, .slice a n c] W (Ret fun v w => v = .int .i64 (D.write no b).1 ∧ St W F [disk p (D.write no b).2] w) := by
  have hd := hS.rd (List.mem_cons_self ..)
  cases hoff : D.off
  · have hon := on_ p D W hd
    rw [hoff] at hon
    cases hin : inDisk D no
    · have hhas := has_ p D no W hd
      rw [hin] at hhas
      refine calls_C Tryz.func166 rfl Tryz.ntmps166 rfl ?_
      repeat (first | (refine G_id ?_; first | refine G_nil ?_ | refine G_plain rfl rfl ?_ | refine G_no rfl rfl rfl rfl rfl rfl ?_) | (refine X_id ?_; first | (refine X_callg 95 rfl rfl rfl rfl rfl hon ?_; rintro _ _ ⟨rfl, rfl⟩) | (refine X_callg 174 rfl rfl rfl rfl rfl hhas ?_; rintro _ _ ⟨rfl, rfl⟩) | refine X_yl (Yl_move rfl rfl) rfl rfl ?_ | refine X_yl (Yl_assign rfl rfl) rfl rfl ?_ | refine X_yl (Yl_pick_t rfl rfl rfl) rfl rfl ?_ | refine X_yl (Yl_not_t rfl rfl) rfl rfl ?_ | refine X_yl (Yl_not_f rfl rfl) rfl rfl ?_) | (refine C_id ?_; first | refine C_seq ?_ | refine C_region ?_ | refine C_block ?_ | refine C_ret ?_ | refine C_cond_t rfl ?_ | refine C_cond_f rfl ?_) | (refine E_id ?_; first | refine E_code ?_ | refine E_then_ret ?_ | refine E_blk_ret ?_ | refine E_ret1 rfl (Rv_tmp rfl) (Ret.mk ?_)))
      refine ⟨by simp [DiskM.write, hoff, hin], by simpa [DiskM.write, hoff, hin] using hS⟩
    · have hhas := has_ p D no W hd
      rw [hin] at hhas
      by_cases hb64 : b.length = 64
      · have hn64 : n = 64 := by omega
        subst hn64
        obtain ⟨hok, al, cl, ai, ci, c1, c2, hS⟩ := hS.openDisk
        have hbr := hb.start
        obtain ⟨bb, bo, rfl⟩ := hbr.base (fun e => by rw [← bv_length, e] at hb64; cases hb64)
        have hcells := hbr.cellsAt rfl
        have hlc : LenIs (bv b) 64 := ⟨by simp [hb64]⟩
        cases huse : useB D.off D.armed D.left
        · refine calls_C Tryz.func166 rfl Tryz.ntmps166 rfl ?_
          repeat (first | (refine G_id ?_; first | refine G_nil ?_ | refine G_plain rfl rfl ?_ | refine G_yes rfl rfl rfl rfl ?_) | (refine X_id ?_; first | (refine X_callg 95 rfl rfl rfl rfl rfl hon ?_; rintro _ _ ⟨rfl, rfl⟩) | (refine X_callg 174 rfl rfl rfl rfl rfl hhas ?_; rintro _ _ ⟨rfl, rfl⟩) | refine X_yl (Yl_move rfl rfl) rfl rfl ?_ | refine X_yl (Yl_assign rfl rfl) rfl rfl ?_ | refine X_yl (Yl_nilCheck rfl rfl) rfl rfl ?_ | refine X_yl (Yl_fieldAddr0 rfl rfl rfl) rfl rfl ?_ | refine X_yl (Yl_pick_f rfl rfl rfl) rfl rfl ?_ | refine X_yl (Yl_not_t rfl rfl) rfl rfl ?_ | refine X_yl (Yl_len rfl rfl) rfl rfl ?_ | refine X_yl (Yl_neq_f rfl rfl rfl (by omega)) rfl rfl ?_) | (refine C_id ?_; first | refine C_seq ?_ | refine C_region ?_ | refine C_block ?_ | refine C_cond_f rfl ?_) | (refine E_id ?_; first | refine E_code ?_))
          obtain ⟨_, hc, hr, hw, hbk⟩ := hS.call [true, false, false]
          refine X_callg _ rfl rfl rfl rfl rfl (use_ p D.off D.armed D.left _ _ _ _ hok.left0 hok.left1 hc) ?_
          rintro _ w ⟨rfl, hS⟩
          replace hS := hbk hS
          clear hc hr hw hbk
          rw [huse]
          repeat (first | (refine G_id ?_; first | refine G_nil ?_ | refine G_plain rfl rfl ?_) | (refine X_id ?_; first | refine X_yl (Yl_assign rfl rfl) rfl rfl ?_ | refine X_yl (Yl_not_f rfl rfl) rfl rfl ?_) | (refine C_id ?_; first | refine C_seq ?_ | refine C_region ?_ | refine C_ret ?_ | refine C_cond_t rfl ?_) | (refine E_id ?_; first | refine E_code ?_ | refine E_then_ret ?_ | refine E_blk_ret ?_ | refine E_ret1 rfl (Rv_tmp rfl) (Ret.mk ?_)))
          rw [DiskM.write_use hoff hin hb64 huse]
          exact ⟨rfl, St.shutDisk (DiskM.used_ok hok) c1 c2 hS⟩
        · refine calls_C Tryz.func166 rfl Tryz.ntmps166 rfl ?_
          repeat (first | (refine G_id ?_; first | refine G_nil ?_ | refine G_plain rfl rfl ?_ | refine G_yes rfl rfl rfl rfl ?_) | (refine X_id ?_; first | (refine X_callg 95 rfl rfl rfl rfl rfl hon ?_; rintro _ _ ⟨rfl, rfl⟩) | (refine X_callg 174 rfl rfl rfl rfl rfl hhas ?_; rintro _ _ ⟨rfl, rfl⟩) | refine X_yl (Yl_move rfl rfl) rfl rfl ?_ | refine X_yl (Yl_assign rfl rfl) rfl rfl ?_ | refine X_yl (Yl_nilCheck rfl rfl) rfl rfl ?_ | refine X_yl (Yl_fieldAddr0 rfl rfl rfl) rfl rfl ?_ | refine X_yl (Yl_pick_f rfl rfl rfl) rfl rfl ?_ | refine X_yl (Yl_not_t rfl rfl) rfl rfl ?_ | refine X_yl (Yl_len rfl rfl) rfl rfl ?_ | refine X_yl (Yl_neq_f rfl rfl rfl (by omega)) rfl rfl ?_) | (refine C_id ?_; first | refine C_seq ?_ | refine C_region ?_ | refine C_block ?_ | refine C_cond_f rfl ?_) | (refine E_id ?_; first | refine E_code ?_))
          obtain ⟨_, hc, hr, hw, hbk⟩ := hS.call [true, false, false]
          refine X_callg _ rfl rfl rfl rfl rfl (use_ p D.off D.armed D.left _ _ _ _ hok.left0 hok.left1 hc) ?_
          rintro _ w ⟨rfl, hS⟩
          replace hS := hbk hS
          clear hc hr hw hbk
          rw [huse]
          repeat (first | (refine G_id ?_; first | refine G_nil ?_ | refine G_plain rfl rfl ?_) | (refine X_id ?_; first | refine X_yl (Yl_assign rfl rfl) rfl rfl ?_ | refine X_yl (Yl_not_t rfl rfl) rfl rfl ?_) | (refine C_id ?_; first | refine C_seq ?_ | refine C_skip ?_ | refine C_cond_f rfl ?_) | (refine E_id ?_; first | refine E_code ?_ | refine E_blk_n ?_))
          have hcells : CellsAt w.drew ⟨bb, bo, none⟩ (bv b) := (hb.rd hS).cellsAt rfl
          refine C_ord (.s 0 (.s 1 (.s 2 (.s 3 (.s 4 (.s 5 (.s 6 (.s 7 (.s 8 (.s 9 (.h 10 (.h 11 (.s 12 (.s 13 (.h 14 .nil .no))) .no) .no))))))))))) mixed (by kernel_rfl) rfl ?_
          have hS := hS.drew
          repeat (first | (refine X_id ?_; first | refine X_buildSlice rfl rfl rfl rfl rfl rfl rfl rfl hS (fun _ _ hS _ => ?_)) | (refine GO_id ?_; first | refine GO_pure rfl rfl (fun _ => Yl_move rfl rfl) rfl rfl ?_ | refine GO_pure rfl rfl (fun _ => Yl_nilCheck rfl rfl) rfl rfl ?_ | refine GO_pure rfl rfl (fun _ => Yl_fieldAddr0 rfl rfl rfl) rfl rfl ?_ | refine GO_pure rfl rfl (fun _ => Yl_build rfl rfl rfl) rfl rfl ?_ | refine GO_pure rfl rfl (fun _ => Yl_arrayAt rfl rfl (by omega)) rfl rfl ?_ | refine GO_read (fun w' => w'.cell? _ = some _) rfl rfl hS.cell (fun _ hc => Yl_load rfl rfl hc) rfl rfl ?_ | refine GO_read (fun w' => CellsAt w' _ _) rfl rfl (by assumption) (fun _ hc => Yl_loadAgg rfl rfl hc (by simp; omega)) rfl rfl ?_ | refine GO_hard rfl rfl ?_) | (refine Keep_id ?_; first | refine And.intro (by repeat (first | exact trivial | refine And.intro (.inl (by decide +kernel)) ?_ | refine And.intro (.inr (by first | assumption | exact hS.cell | exact cell_at (by assumption) | exact hS.cellI (by omega) | exact hS.cellIP (by omega) | exact hS.cellsN | exact ((hr.rd hS).cellX (by omega) hx) | exact ((hr2.rd hS).cellX (by omega) hx2) | exact hS.cellB (by omega) | exact hS.cellBA (by omega) | exact (hb.rd hS).cellB' (by omega) | exact (hb2.rd hS).cellB' (by omega) | exact (hg.rd hS).cellI (by omega) | exact (hg2.rd hS).cellI (by omega) | exact ((hr.rd hS).cellF (by first | omega | (dsimp only; omega)) hx) | exact ((hr2.rd hS).cellF (by first | omega | (dsimp only; omega)) hx2) | exact hS.cellO 0 (by omega) | exact hS.cellO 1 (by omega) | exact hS.cellIA (by omega) | exact (hg.rd hS).cellIA (by omega) | exact (hg2.rd hS).cellIA (by omega) | exact cell_at (hc.rd hS).pts | exact hb.rd hS | exact hS.cellO 4 (by omega) | exact hS.cellO 5 (by omega) | exact hS.cellO 6 (by omega) | exact hS.cellO 7 (by omega) | exact hS.cellO 8 (by omega) | exact hS.cellO 9 (by omega) | exact hS.cellO 10 (by omega) | exact hS.cellO 11 (by omega) | exact hS.cellO 12 (by omega) | exact hS.cellO 13 (by omega) | exact hS.cellO 2 (by omega) | exact hS.cellO 3 (by omega))) ?_)) ?_))
          refine X_append rfl rfl rfl rfl rfl hS (lineCells_length fun x hx => (hok.line64 x hx).1) c2 (hS.rd (List.mem_cons_self ..)).own_row (by simp [hb64]) (one_int bv_one) (by omega) (by simp only [maxLen]; omega) (fun a' c' w hS hc hnil => ?_)
          repeat (first | (refine G_id ?_; first | refine G_plain rfl rfl ?_) | (refine X_id ?_; first | refine X_yl (Yl_move rfl rfl) rfl rfl ?_ | refine X_yl (Yl_nilCheck rfl rfl) rfl rfl ?_ | refine X_yl (Yl_fieldAddr0 rfl rfl rfl) rfl rfl ?_ | refine X_store rfl rfl rfl rfl hS (fun _ hS _ => ?_)) | (refine C_id ?_; first | refine C_seq ?_ | refine C_region ?_) | (refine E_id ?_; first | refine E_code ?_) | (refine GO_id ?_; first | refine GO_nil ?_ | refine GO_pure rfl rfl (fun _ => Yl_nilCheck rfl rfl) rfl rfl ?_ | refine GO_pure rfl rfl (fun _ => Yl_fieldAddr0 rfl rfl rfl) rfl rfl ?_ | refine GO_hard rfl rfl ?_) | (refine Keep_id ?_; first | refine And.intro (by repeat (first | exact trivial | refine And.intro (.inl (by decide +kernel)) ?_ | refine And.intro (.inr (by first | assumption | exact hS.cell | exact cell_at (by assumption) | exact hS.cellI (by omega) | exact hS.cellIP (by omega) | exact hS.cellsN | exact ((hr.rd hS).cellX (by omega) hx) | exact ((hr2.rd hS).cellX (by omega) hx2) | exact hS.cellB (by omega) | exact hS.cellBA (by omega) | exact (hb.rd hS).cellB' (by omega) | exact (hb2.rd hS).cellB' (by omega) | exact (hg.rd hS).cellI (by omega) | exact (hg2.rd hS).cellI (by omega) | exact ((hr.rd hS).cellF (by first | omega | (dsimp only; omega)) hx) | exact ((hr2.rd hS).cellF (by first | omega | (dsimp only; omega)) hx2) | exact hS.cellO 0 (by omega) | exact hS.cellO 1 (by omega) | exact hS.cellIA (by omega) | exact (hg.rd hS).cellIA (by omega) | exact (hg2.rd hS).cellIA (by omega) | exact cell_at (hc.rd hS).pts | exact hb.rd hS | exact hS.cellO 4 (by omega) | exact hS.cellO 5 (by omega) | exact hS.cellO 6 (by omega) | exact hS.cellO 7 (by omega) | exact hS.cellO 8 (by omega) | exact hS.cellO 9 (by omega) | exact hS.cellO 10 (by omega) | exact hS.cellO 11 (by omega) | exact hS.cellO 12 (by omega) | exact hS.cellO 13 (by omega) | exact hS.cellO 2 (by omega) | exact hS.cellO 3 (by omega))) ?_)) ?_))
          obtain ⟨_, hc, hr, hw, hbk⟩ := hS.call [false, false, true, false]
          refine X_callg _ rfl rfl rfl rfl rfl (add64_ p 5 D.writes 1 _ _ _ _ _ hc) ?_
          rintro _ w ⟨rfl, hS⟩
          replace hS := hbk hS
          clear hc hr hw hbk
          repeat (first | (refine G_id ?_; first | refine G_nil ?_ | refine G_plain rfl rfl ?_) | (refine X_id ?_; first | refine X_yl (Yl_assign rfl rfl) rfl rfl ?_) | (refine C_id ?_; first | refine C_seq ?_ | refine C_region ?_ | refine C_ret ?_) | (refine E_id ?_; first | refine E_code ?_ | refine E_ret1 rfl (Rv_tmp rfl) (Ret.mk ?_)))
          rw [DiskM.write_yes hoff hin hb64 huse]
          have hok' := DiskM.line_ok (wr := IntKind.i64.wrap (D.writes + 1)) (DiskM.used_ok hok) (no := no) (b := b) hin hb64
          refine ⟨rfl, St.shutDisk (al := al) (ai := a') hok' c1 (show (D.line ++ [(no, b)]).length ≤ c' by simpa using hc) ?_⟩
          have hS := hS.pick [0, 2, 0]
          show St W F [pts p (.cells #[_, _, _, _, .slice a' ((D.line ++ [(no, b)]).length : Nat) c', _, _] 199), _, own _ _ _ _ (lineCells (D.line ++ [(no, b)]))] w
          rw [lineCells_append, List.length_append]
          simpa [lineCells, DiskM.used] using hS
      · refine calls_C Tryz.func166 rfl Tryz.ntmps166 rfl ?_
        repeat (first | (refine G_id ?_; first | refine G_nil ?_ | refine G_plain rfl rfl ?_ | refine G_yes rfl rfl rfl rfl ?_) | (refine X_id ?_; first | (refine X_callg 95 rfl rfl rfl rfl rfl hon ?_; rintro _ _ ⟨rfl, rfl⟩) | (refine X_callg 174 rfl rfl rfl rfl rfl hhas ?_; rintro _ _ ⟨rfl, rfl⟩) | refine X_yl (Yl_move rfl rfl) rfl rfl ?_ | refine X_yl (Yl_assign rfl rfl) rfl rfl ?_ | refine X_yl (Yl_pick_f rfl rfl rfl) rfl rfl ?_ | refine X_yl (Yl_not_t rfl rfl) rfl rfl ?_ | refine X_yl (Yl_len rfl rfl) rfl rfl ?_ | refine X_yl (Yl_neq_t rfl rfl rfl (by omega)) rfl rfl ?_) | (refine C_id ?_; first | refine C_seq ?_ | refine C_region ?_ | refine C_block ?_ | refine C_ret ?_ | refine C_cond_t rfl ?_ | refine C_cond_f rfl ?_) | (refine E_id ?_; first | refine E_code ?_ | refine E_then_ret ?_ | refine E_blk_ret ?_ | refine E_ret1 rfl (Rv_tmp rfl) (Ret.mk ?_)))
        refine ⟨by simp [DiskM.write, hoff, hin, hb64], by simpa [DiskM.write, hoff, hin, hb64] using hS⟩
  · have hon := on_ p D W hd
    rw [hoff] at hon
    refine calls_C Tryz.func166 rfl Tryz.ntmps166 rfl ?_
    repeat (first | (refine G_id ?_; first | refine G_nil ?_ | refine G_plain rfl rfl ?_) | (refine X_id ?_; first | (refine X_callg 95 rfl rfl rfl rfl rfl hon ?_; rintro _ _ ⟨rfl, rfl⟩) | refine X_yl (Yl_move rfl rfl) rfl rfl ?_ | refine X_yl (Yl_assign rfl rfl) rfl rfl ?_ | refine X_yl (Yl_not_f rfl rfl) rfl rfl ?_) | (refine C_id ?_; first | refine C_seq ?_ | refine C_region ?_ | refine C_block ?_ | refine C_ret ?_ | refine C_cond_t rfl ?_) | (refine E_id ?_; first | refine E_code ?_ | refine E_then_ret ?_ | refine E_blk_ret ?_ | refine E_ret1 rfl (Rv_tmp rfl) (Ret.mk ?_)))
    exact ⟨by simp [DiskM.write, hoff], by simpa [DiskM.write, hoff] using hS⟩
end Cr
namespace Cr
open Go Go.Proofs
set_option maxRecDepth 100000

theorem backward_waiting (l bx n c : Nat) (a : Option Addr) (cs : List Value) (w : World) (T : TypeId) (hn : n ≤ 4611686018427387904) (hcs : cs.length = n * 65) (Inv : Nat → World → Prop) (Stop : World → Prop)
    (hbx : ∀ k w, Inv k w → w.heap[bx]? = some (.cells #[.slice a n c] T)) (hrow : ∀ k w, Inv k w → Rd w (row a cs)) (hl : ∀ k w, Inv k w → ∃ r : Loop, r.params.size = 2 ∧ w.heap[l]? = some (.loop r) ∧ (k ≠ 0 →
      RoundIn Fence.wide 0 Tryz.prog l r.fn ((r.params.zip #[.int .i64 ((k - 1 : Nat) : Int), .agg ((cs.drop ((k - 1) * 65)).take 65).toArray]).foldl (fun tmps (t, a) => tmps.setIfInBounds t a) r.tmps) r.assign r.body w
        (Ret fun v w' => (v = .bool true ∧ Inv (k - 1) w') ∨ (v = .bool false ∧ Stop w')))) (h0 : Inv n w) :
    CallsIn Fence.wide 0 Tryz.prog 228 #[.func (.yield l) #[] #[], .pointer (some ⟨bx, 0, none⟩)] w (Ret fun _ w' => Inv 0 w' ∨ Stop w') := by
  refine callsIn_wide.2 ?_
  have hb := hbx _ _ h0
  refine calls_C Tryz.func228 rfl Tryz.ntmps228 rfl ?_
  repeat (first | (refine G_id ?_; first | refine G_nil ?_ | refine G_plain rfl rfl ?_) | (refine X_id ?_; first | refine X_yl (Yl_assign rfl rfl) rfl rfl ?_ | refine X_yl (Yl_len rfl rfl) rfl rfl ?_ | refine X_yl (Yl_sub rfl rfl rfl (w64 (by omega) (by omega))) rfl rfl ?_ | refine X_yl (Yl_load rfl rfl (cell_at (by assumption))) rfl rfl ?_) | (refine C_id ?_; first | refine C_seq ?_ | refine C_region ?_ | refine C_block ?_) | (refine E_id ?_; first | refine E_code ?_))
  refine C_loop (α := Nat) (fun k => [(0, .func (.yield l) #[] #[]), (1, .pointer (some ⟨bx, 0, none⟩)), (3, .int .i64 ((k : Int) - 1))]) (fun k w => k ≤ n ∧ Inv k w) (fun k => k) n ⟨rfl, rfl, rfl, trivial⟩ ⟨Nat.le_refl _, h0⟩ ?_
  clear hb h0
  rintro k w ⟨hk, hi⟩
  have hb := hbx _ _ hi
  by_cases h0 : k = 0
  · subst h0
    repeat (first | (refine G_id ?_; first | refine G_nil ?_ | refine G_plain rfl rfl ?_) | (refine X_id ?_; first | refine X_yl (Yl_move rfl rfl) rfl rfl ?_ | refine X_yl (Yl_geq_f rfl rfl rfl (by omega)) rfl rfl ?_) | (refine C_id ?_; first | refine C_seq ?_ | refine C_region ?_ | refine C_exit ?_ | refine C_cond_f rfl ?_) | (refine E_id ?_; first | refine E_code ?_ | refine E_then_exit ?_ | refine E_blk_same ?_ | refine E_end0 rfl (Ret.mk ?_)))
    exact .inl hi
  · obtain ⟨r, hp, hlr, hr⟩ := hl _ _ hi
    have hr := hr h0
    have hcs0 : cs ≠ [] := by intro e; rw [e] at hcs; simp at hcs; omega
    have ha := (hrow _ _ hi).base hcs0
    have hseg := (hrow _ _ hi).seg ((k - 1) * 65) 65
    have e1 : ((k : Int) - 1).toNat = k - 1 := by omega
    have e2 : ((k - 1 : Nat) : Int) = (k : Int) - 1 := by omega
    rw [e2] at hr
    repeat (first | (refine G_id ?_; first | refine G_nil ?_ | refine G_plain rfl rfl ?_) | (refine X_id ?_; first | refine X_yl (Yl_move rfl rfl) rfl rfl ?_ | refine X_yl (Yl_geq_t rfl rfl rfl (by omega)) rfl rfl ?_ | refine X_yl (Yl_indexAddr rfl rfl rfl (by omega) (by omega) (by first | assumption | exact ⟨_, _, rfl⟩)) rfl rfl ?_ | refine X_yl (Yl_load rfl rfl (cell_at (by assumption))) rfl rfl ?_) | (refine C_id ?_; first | refine C_seq ?_ | refine C_region ?_ | refine C_block ?_ | refine C_skip ?_ | refine C_cond_t rfl ?_) | (refine E_id ?_; first | refine E_code ?_))
    rw [e1]
    refine X_yl (Yl_loadAgg rfl rfl hseg (by simp; omega)) rfl rfl ?_
    refine G_yield rfl rfl rfl rfl rfl rfl hlr (by rw [hp]; rfl) hr ?_
    rintro v w' (⟨rfl, hi'⟩ | ⟨rfl, hs⟩)
    · repeat (first | (refine G_id ?_; first | refine G_nil ?_ | refine G_plain rfl rfl ?_) | (refine X_id ?_; first | refine X_yl (Yl_move rfl rfl) rfl rfl ?_ | refine X_yl (Yl_assign rfl rfl) rfl rfl ?_ | refine X_yl (Yl_not_t rfl rfl) rfl rfl ?_ | refine X_yl (Yl_sub rfl rfl rfl (w64 (by omega) (by omega))) rfl rfl ?_) | (refine C_id ?_; first | refine C_region ?_ | refine C_skip ?_ | refine C_cond_f rfl ?_) | (refine E_id ?_; first | refine E_code ?_ | refine E_blk_n ?_))
      refine E_round (k - 1) ⟨rfl, rfl, ?_, trivial⟩ ⟨by omega, hi'⟩ (by omega)
      rw [e2]; rfl
    · repeat (first | (refine G_id ?_; first | refine G_nil ?_ | refine G_plain rfl rfl ?_) | (refine X_id ?_; first | refine X_yl (Yl_not_f rfl rfl) rfl rfl ?_) | (refine C_id ?_; first | refine C_ret ?_ | refine C_cond_t rfl ?_) | (refine E_id ?_; first | refine E_code ?_ | refine E_then_ret ?_ | refine E_blk_ret ?_ | refine E_ret0 rfl (Ret.mk ?_)))
      exact .inr hs
end Cr
namespace Cr
open Go Go.Proofs
set_option maxRecDepth 100000
set_option maxHeartbeats 4000000

theorem flatMap_len {α β : Type} {f : α → List β} {n : Nat} {l : List α} (h : ∀ x ∈ l, (f x).length = n) : (l.flatMap f).length = l.length * n := by
  induction l with
  | nil => simp
  | cons x l ih =>
    have := ih fun y hy => h y (List.mem_cons_of_mem _ hy)
    have h0 := h x (List.mem_cons_self ..)
    simp only [List.flatMap_cons, List.length_append, List.length_cons, h0, this, Nat.succ_mul]
    omega
theorem flatMap_seg {α β : Type} {f : α → List β} {n : Nat} {l : List α} (h : ∀ x ∈ l, (f x).length = n) {k : Nat} {x : α} (hx : l[k]? = some x) : ((l.flatMap f).drop (k * n)).take n = f x := by
  induction l generalizing k with
  | nil => simp at hx
  | cons y l ih =>
    have h0 := h y (List.mem_cons_self ..)
    cases k with
    | zero =>
      have e : y = x := by simpa using hx
      subst e
      simp [List.flatMap_cons, ← h0]
    | succ k =>
      have hx' : l[k]? = some x := by simpa using hx
      have := ih (fun z hz => h z (List.mem_cons_of_mem _ hz)) hx'
      rw [List.flatMap_cons, List.drop_append, h0, show (k + 1) * n - n = k * n by rw [Nat.succ_mul]; omega, List.drop_of_length_le (by rw [h0, Nat.succ_mul]; omega)]
      simpa using this
theorem splice_here (l m vs : List Value) (n : Nat) (hn : l.length = n) (r : List Value) (hr : r.length = vs.length) : splice (l ++ (r ++ m)) n vs = l ++ (vs ++ m) := by
  subst hn
  simp [splice, ← hr]
theorem flatMap_set {α : Type} {f : α → List Value} {n : Nat} {l : List α} (h : ∀ x ∈ l, (f x).length = n) {k : Nat} {y : α} (hy : (f y).length = n) (hk : k < l.length) : splice (l.flatMap f) (k * n) (f y) = (l.set k y).flatMap f := by
  induction l generalizing k with
  | nil => simp at hk
  | cons x l ih =>
    have h0 := h x (List.mem_cons_self ..)
    cases k with
    | zero =>
      simp only [List.flatMap_cons, List.set_cons_zero, Nat.zero_mul, splice]
      simp [hy, ← h0]
    | succ k =>
      have := ih (fun z hz => h z (List.mem_cons_of_mem _ hz)) (k := k) (by simpa using hk)
      simp only [List.flatMap_cons, List.set_cons_succ]
      rw [← this]
      unfold splice
      rw [List.take_append, List.drop_append, h0, show (k + 1) * n - n = k * n by rw [Nat.succ_mul]; omega, List.take_of_length_le (by rw [h0, Nat.succ_mul]; omega), List.drop_of_length_le (by rw [h0, Nat.succ_mul]; omega),
        show (k + 1) * n + (f y).length - n = k * n + (f y).length by rw [Nat.succ_mul]; omega]
      simp

def layOn (l : List (List UInt8)) (xs : List (Int × List UInt8)) : List (List UInt8) := xs.foldl (fun l x => l.set x.1.toNat x.2) l
theorem layOn_length (xs : List (Int × List UInt8)) : ∀ l, (layOn l xs).length = l.length := by
  induction xs with
  | nil => intro l; rfl
  | cons x xs ih => intro l; simp [layOn, List.foldl_cons] at ih ⊢; rw [ih]; simp
theorem layOn_64 (xs : List (Int × List UInt8)) (hx : ∀ x ∈ xs, x.2.length = 64) : ∀ l, (∀ s ∈ l, s.length = 64) → ∀ s ∈ layOn l xs, s.length = 64 := by
  induction xs with
  | nil => intro l h; exact h
  | cons x xs ih =>
    intro l h
    refine ih (fun y hy => hx y (List.mem_cons_of_mem _ hy)) _ fun s hs => ?_
    rcases List.mem_or_eq_of_mem_set hs with h' | rfl
    · exact h s h'
    · exact hx x (List.mem_cons_self ..)
theorem layOn_take {l : List (List UInt8)} {xs : List (Int × List UInt8)} {k : Nat} {x : Int × List UInt8} (hx : xs[k]? = some x) : layOn l (xs.take (k + 1)) = (layOn l (xs.take k)).set x.1.toNat x.2 := by
  have : xs.take (k + 1) = xs.take k ++ [x] := by
    rw [List.take_add_one, hx]; rfl
  rw [this, layOn, List.foldl_append]; rfl

theorem always_ (x : Value) (W : World) : Calls Tryz.prog 224 #[x] W (Ret fun v w => v = .bool true ∧ W = w) := by
  refine calls_C Tryz.func224 rfl Tryz.ntmps224 rfl ?_
  repeat (first | (refine G_id ?_; first | refine G_nil ?_ | refine G_plain rfl rfl ?_) | (refine X_id ?_; first | refine X_yl (Yl_assign rfl rfl) rfl rfl ?_) | (refine C_id ?_; first | refine C_seq ?_ | refine C_region ?_ | refine C_ret ?_) | (refine E_id ?_; first | refine E_code ?_ | refine E_ret1 rfl (Rv_tmp rfl) (Ret.mk ?_)))
  exact ⟨rfl, rfl⟩
def DiskM.flushed (D : DiskM) : DiskM := { D with laid := layOn D.laid D.line, line := [] }
theorem DiskM.flushed_ok {D : DiskM} (h : D.ok) : D.flushed.ok := by
  obtain ⟨h1, h2, h3, h4, h5, h6⟩ := h
  refine ⟨layOn_64 _ (fun x hx => (h2 x hx).1) _ h1, fun x hx => (by cases hx), ?_, ?_, h5, h6⟩ <;> simpa [DiskM.flushed, layOn_length] using (by assumption)
theorem lay_ (p : Nat) (D : DiskM) (W : World) (F : Nat → Prop) (hS : St W F [disk p D] W) (hline : D.line.length < 1073741824) :
    Calls Tryz.prog 223 #[.pointer (some ⟨p, 0, none⟩), .func (.func 224) #[] #[]] W (Ret fun _ w => True ∧ St W F [disk p D.flushed] w) := by
  obtain ⟨hok, al, cl, ai, ci, c1, c2, hS⟩ := hS.openDisk
  refine calls_C Tryz.func223 rfl Tryz.ntmps223 rfl ?_
  repeat (first | (refine G_id ?_; first | refine G_nil ?_ | refine G_plain rfl rfl ?_) | (refine X_id ?_; first | refine X_yl (Yl_move rfl rfl) rfl rfl ?_ | refine X_yl (Yl_assign rfl rfl) rfl rfl ?_ | refine X_yl (Yl_nilCheck rfl rfl) rfl rfl ?_ | refine X_yl (Yl_fieldAddr0 rfl rfl rfl) rfl rfl ?_ | refine X_yl (Yl_len rfl rfl) rfl rfl ?_ | refine X_yl (Yl_load rfl rfl hS.cell) rfl rfl ?_) | (refine C_id ?_; first | refine C_seq ?_ | refine C_label ?_ | refine C_scope rfl ?_ | refine C_region ?_ | refine C_block ?_) | (refine E_id ?_; first | refine E_code ?_))
  refine C_loop (α := Nat) (fun k => [(0, .pointer (some ⟨p, 0, none⟩)), (1, .func (.func 224) #[] #[]), (5, .int .i64 (k : Nat)), (11, .slice ai D.line.length ci), (12, .int .i64 (D.line.length : Nat)), (13, .int .i64 (k : Nat))])
    (fun k w => k ≤ D.line.length ∧ St W F [pts p (.cells #[.bool D.off, .bool D.armed, .int .i64 D.left, .slice al D.laid.length cl, .slice ai D.line.length ci, .int .i64 D.writes, .int .i64 D.flushes] 199),
      own 299 64 al cl (laidCells (layOn D.laid (D.line.take k))), own 301 65 ai ci (lineCells D.line)] w) (fun k => D.line.length - k) 0 ⟨rfl, rfl, rfl, rfl, rfl, rfl, trivial⟩ ⟨Nat.zero_le _, hS⟩ ?_
  clear hS
  rintro k w ⟨hk, hS⟩
  by_cases hlt : k < D.line.length
  · obtain ⟨x, hx⟩ : ∃ x, D.line[k]? = some x := ⟨_, List.getElem?_eq_getElem hlt⟩
    have hxm := List.mem_of_getElem? hx
    have hln : ∀ x ∈ D.line, (Value.int .i64 x.1 :: bv x.2).length = 65 := fun x hx => by simp [(hok.line64 x hx).1]
    have hseg : CellsAt w (adr ai (k * 65)) (.int .i64 x.1 :: bv x.2) := by
      have := (hS.rd (List.mem_cons_of_mem _ (List.mem_cons_of_mem _ (List.mem_cons_self ..)))).own_row.seg (k * 65) 65
      rwa [show ((lineCells D.line).drop (k * 65)).take 65 = _ from flatMap_seg hln hx] at this
    obtain ⟨ab, ao, hae⟩ := (hS.rd (List.mem_cons_of_mem _ (List.mem_cons_of_mem _ (List.mem_cons_self ..)))).own_row.base (by intro e; have h := lineCells_length fun x hx => (hok.line64 x hx).1; rw [e] at h; simp at h; omega)
    subst hae
    have hx64 := (hok.line64 x hxm).1
    have hx0 := (hok.line64 x hxm).2.1
    have hx1 := (hok.line64 x hxm).2.2
    have hl64 := layOn_64 (D.line.take k) (fun y hy => (hok.line64 y (List.mem_of_mem_take hy)).1) _ hok.laid64
    have hlay := laidCells_length hl64
    rw [layOn_length] at hlay
    obtain ⟨lb, lo, rfl⟩ := (hS.rd (List.mem_cons_of_mem _ (List.mem_cons_self ..))).own_row.base (by intro e; rw [e] at hlay; simp at hlay; omega)
    have hlen : LenIs (bv x.2) 64 := ⟨by simp [(hok.line64 x hxm).1]⟩
    repeat (first | (refine G_id ?_; first | refine G_nil ?_ | refine G_plain rfl rfl ?_) | (refine X_id ?_; first | refine X_yl (Yl_move rfl rfl) rfl rfl ?_ | refine X_yl (Yl_lss_t rfl rfl rfl (by omega)) rfl rfl ?_ | refine X_yl (Yl_indexAddr rfl rfl rfl (by omega) (by omega) (by first | assumption | exact ⟨_, _, rfl⟩)) rfl rfl ?_) | (refine C_id ?_; first | refine C_seq ?_ | refine C_region ?_ | refine C_block ?_ | refine C_skip ?_ | refine C_cond_t rfl ?_) | (refine E_id ?_; first | refine E_code ?_))
    refine X_yl (Yl_loadAgg rfl rfl hseg (by simp [(hok.line64 x hxm).1])) rfl rfl ?_
    repeat (first | (refine G_id ?_; first | refine G_nil ?_ | refine G_plain rfl rfl ?_) | (refine X_id ?_; first | refine X_yl (Yl_move rfl rfl) rfl rfl ?_ | refine X_yl (Yl_assign rfl rfl) rfl rfl ?_ | refine X_store rfl rfl rfl rfl hS (fun _ hS _ => ?_) | refine X_alloc rfl rfl rfl hS (fun _ _ hS _ => ?_)) | (refine C_id ?_; first | refine C_seq ?_ | refine C_region ?_) | (refine E_id ?_; first | refine E_code ?_))
    refine X_callg 224 rfl rfl rfl rfl rfl (always_ _ _) ?_
    rintro _ _ ⟨rfl, rfl⟩
    repeat (first | (refine G_id ?_; first | refine G_nil ?_ | refine G_plain rfl rfl ?_) | (refine X_id ?_; first | refine X_yl (Yl_not_t rfl rfl) rfl rfl ?_) | (refine C_id ?_; first | refine C_seq ?_ | refine C_skip ?_ | refine C_cond_f rfl ?_) | (refine E_id ?_; first | refine E_code ?_))
    refine C_ord (.s 0 (.s 1 (.s 2 (.s 3 (.s 4 (.s 5 (.s 6 (.s 7 (.s 8 (.h 9 .nil .no)))))))))) mixed (by kernel_rfl) rfl ?_
    have hS := hS.drew
    repeat (first | (refine GO_id ?_; first | refine GO_pure rfl rfl (fun _ => Yl_move rfl rfl) rfl rfl ?_ | refine GO_pure rfl rfl (fun _ => Yl_nilCheck rfl rfl) rfl rfl ?_ | refine GO_pure rfl rfl (fun _ => Yl_fieldAddr0 rfl rfl rfl) rfl rfl ?_ | refine GO_pure rfl rfl (fun _ => Yl_indexAddr rfl rfl rfl (by omega) (by omega) (by first | assumption | exact ⟨_, _, rfl⟩)) rfl rfl ?_ | refine GO_read (fun w' => w'.cell? _ = some _) rfl rfl hS.cell (fun _ hc => Yl_load rfl rfl hc) rfl rfl ?_ | refine GO_read (fun w' => CellsN w' _ _ _) rfl rfl hS.cellsN (fun _ hc => Yl_loadN rfl rfl hc) rfl rfl ?_ | refine GO_hard rfl rfl ?_))
    refine X_storeOwnN (a := some ⟨lb, lo, none⟩) (i := x.1.toNat * 64) rfl rfl ?_ rfl (bv_one) (by simp [hx64]) rfl hS (by simp [hx64, hlay]; omega) (by omega) (fun w hS => ?_)
    · rfl
    repeat (first | (refine G_id ?_; first | refine G_nil ?_ | refine G_plain rfl rfl ?_) | (refine X_id ?_; first | refine X_yl (Yl_move rfl rfl) rfl rfl ?_ | refine X_yl (Yl_assign rfl rfl) rfl rfl ?_ | refine X_yl (Yl_add rfl rfl rfl (w64 (by omega) (by omega))) rfl rfl ?_) | (refine C_id ?_; first | refine C_region ?_) | (refine E_id ?_; first | refine E_code ?_ | refine E_blk_n ?_) | (refine GO_id ?_; first | refine GO_nil ?_) | (refine Keep_id ?_; first | refine And.intro (by repeat (first | exact trivial | refine And.intro (.inl (by decide +kernel)) ?_ | refine And.intro (.inr (by first | assumption | exact hS.cell | exact cell_at (by assumption) | exact hS.cellI (by omega) | exact hS.cellIP (by omega) | exact hS.cellsN | exact ((hr.rd hS).cellX (by omega) hx) | exact ((hr2.rd hS).cellX (by omega) hx2) | exact hS.cellB (by omega) | exact hS.cellBA (by omega) | exact (hb.rd hS).cellB' (by omega) | exact (hb2.rd hS).cellB' (by omega) | exact (hg.rd hS).cellI (by omega) | exact (hg2.rd hS).cellI (by omega) | exact ((hr.rd hS).cellF (by first | omega | (dsimp only; omega)) hx) | exact ((hr2.rd hS).cellF (by first | omega | (dsimp only; omega)) hx2) | exact hS.cellO 0 (by omega) | exact hS.cellO 1 (by omega) | exact hS.cellIA (by omega) | exact (hg.rd hS).cellIA (by omega) | exact (hg2.rd hS).cellIA (by omega) | exact cell_at (hc.rd hS).pts | exact hb.rd hS | exact hS.cellO 4 (by omega) | exact hS.cellO 5 (by omega) | exact hS.cellO 6 (by omega) | exact hS.cellO 7 (by omega) | exact hS.cellO 8 (by omega) | exact hS.cellO 9 (by omega) | exact hS.cellO 10 (by omega) | exact hS.cellO 11 (by omega) | exact hS.cellO 12 (by omega) | exact hS.cellO 13 (by omega) | exact hS.cellO 2 (by omega) | exact hS.cellO 3 (by omega))) ?_)) ?_))
    refine E_round (k + 1) ⟨rfl, rfl, rfl, rfl, rfl, rfl, trivial⟩ ⟨hlt, ?_⟩ (by omega)
    rw [layOn_take hx]
    have hS := hS.pick [2, 0, 1]
    rwa [show splice (laidCells (layOn D.laid (D.line.take k))) (x.1.toNat * 64) (bv x.2) = _ from flatMap_set (fun y hy => by simp [hl64 y hy]) (by simp [hx64]) (by rw [layOn_length]; omega)] at hS
  · obtain rfl : k = D.line.length := by omega
    repeat (first | (refine G_id ?_; first | refine G_nil ?_ | refine G_plain rfl rfl ?_) | (refine X_id ?_; first | refine X_yl (Yl_move rfl rfl) rfl rfl ?_ | refine X_yl (Yl_assign rfl rfl) rfl rfl ?_ | refine X_yl (Yl_nilCheck rfl rfl) rfl rfl ?_ | refine X_yl (Yl_fieldAddr0 rfl rfl rfl) rfl rfl ?_ | refine X_yl (Yl_lss_f rfl rfl rfl (by omega)) rfl rfl ?_ | refine X_store rfl rfl rfl rfl hS (fun _ hS _ => ?_)) | (refine C_id ?_; first | refine C_seq ?_ | refine C_region ?_ | refine C_ret ?_ | refine C_exit ?_ | refine C_cond_f rfl ?_) | (refine E_id ?_; first | refine E_code ?_ | refine E_noGoto (fun _ h => by cases h) ?_ | refine E_then_exit ?_ | refine E_blk_same ?_ | refine E_ret1 rfl (Rv_tmp rfl) (Ret.mk ?_)))
    refine ⟨trivial, ?_⟩
    refine St.shutDisk (D := D.flushed) (al := al) (ai := none) (cl := cl) (ci := 0) (DiskM.flushed_ok hok) (by simpa [DiskM.flushed, layOn_length]) (by simp [DiskM.flushed]) ?_
    have hS := ((hS.pick [0, 0]).own_none 301 65 none).pick [1, 1, 0]
    rw [List.take_length] at hS
    simpa [DiskM.flushed, layOn_length, lineCells] using hS
/-! ### Flush -/
def DiskM.flush (D : DiskM) : Int × DiskM :=
  if D.off then (9, D) else if useB D.off D.armed D.left = false then (9, D.used)
  else (0, { D.used.flushed with flushes := IntKind.i64.wrap (D.flushes + 1) })
theorem DiskM.flush_use {D : DiskM} (h : D.off = false) (hu : useB D.off D.armed D.left = false) : D.flush = (9, D.used) := by
  unfold DiskM.flush
  rw [if_neg (by simp [h]), if_pos hu]
theorem DiskM.flush_yes {D : DiskM} (h : D.off = false) (hu : useB D.off D.armed D.left = true) : D.flush = (0, { D.used.flushed with flushes := IntKind.i64.wrap (D.flushes + 1) }) := by
  unfold DiskM.flush
  rw [if_neg (by simp [h]), if_neg (by simp [hu])]
theorem flush_ (p : Nat) (D : DiskM) (W : World) (F : Nat → Prop) (hS : St W F [disk p D] W) (hline : D.line.length < 1073741824) :
    Calls Tryz.prog 168 #[.pointer (some ⟨p, 0, none⟩)] W (Ret fun v w => v = .int .i64 D.flush.1 ∧ St W F [disk p D.flush.2] w) := by
  have hd := hS.rd (List.mem_cons_self ..)
  have hon := on_ p D W hd
  have hok := hd.disk.1
  cases hoff : D.off
  · rw [hoff] at hon
    refine calls_C Tryz.func168 rfl Tryz.ntmps168 rfl ?_
    repeat (first | (refine G_id ?_; first | refine G_nil ?_ | refine G_plain rfl rfl ?_ | refine G_yes rfl rfl rfl rfl ?_) | (refine X_id ?_; first | (refine X_callg 95 rfl rfl rfl rfl rfl hon ?_; rintro _ _ ⟨rfl, rfl⟩) | refine X_yl (Yl_move rfl rfl) rfl rfl ?_ | refine X_yl (Yl_assign rfl rfl) rfl rfl ?_ | refine X_yl (Yl_nilCheck rfl rfl) rfl rfl ?_ | refine X_yl (Yl_fieldAddr0 rfl rfl rfl) rfl rfl ?_ | refine X_yl (Yl_not_t rfl rfl) rfl rfl ?_) | (refine C_id ?_; first | refine C_seq ?_ | refine C_region ?_) | (refine E_id ?_; first | refine E_code ?_))
    obtain ⟨hok, al, cl, ai, ci, c1, c2, hS⟩ := hS.openDisk
    cases huse : useB D.off D.armed D.left
    · skip
      obtain ⟨_, hc, hr, hw, hbk⟩ := hS.call [true, false, false]
      refine X_callg _ rfl rfl rfl rfl rfl (use_ p D.off D.armed D.left _ _ _ _ hok.left0 hok.left1 hc) ?_
      rintro _ w ⟨rfl, hS⟩
      replace hS := hbk hS
      clear hc hr hw hbk
      rw [huse]
      repeat (first | (refine G_id ?_; first | refine G_nil ?_ | refine G_plain rfl rfl ?_ | refine G_yes rfl rfl rfl rfl ?_) | (refine X_id ?_; first | refine X_yl (Yl_assign rfl rfl) rfl rfl ?_ | refine X_yl (Yl_pick_f rfl rfl rfl) rfl rfl ?_ | refine X_yl (Yl_not_f rfl rfl) rfl rfl ?_) | (refine C_id ?_; first | refine C_seq ?_ | refine C_region ?_ | refine C_ret ?_ | refine C_cond_t rfl ?_) | (refine E_id ?_; first | refine E_code ?_ | refine E_then_ret ?_ | refine E_ret1 rfl (Rv_tmp rfl) (Ret.mk ?_)))
      rw [DiskM.flush_use hoff huse]
      exact ⟨rfl, St.shutDisk (DiskM.used_ok hok) c1 c2 hS⟩
    · skip
      obtain ⟨_, hc, hr, hw, hbk⟩ := hS.call [true, false, false]
      refine X_callg _ rfl rfl rfl rfl rfl (use_ p D.off D.armed D.left _ _ _ _ hok.left0 hok.left1 hc) ?_
      rintro _ w ⟨rfl, hS⟩
      replace hS := hbk hS
      clear hc hr hw hbk
      rw [huse]
      replace hS : St W F [disk p D.used] w := St.shutDisk (DiskM.used_ok hok) c1 c2 hS
      repeat (first | (refine G_id ?_; first | refine G_nil ?_ | refine G_plain rfl rfl ?_ | refine G_yes rfl rfl rfl rfl ?_) | (refine X_id ?_; first | refine X_yl (Yl_move rfl rfl) rfl rfl ?_ | refine X_yl (Yl_pick_f rfl rfl rfl) rfl rfl ?_ | refine X_yl (Yl_not_t rfl rfl) rfl rfl ?_) | (refine C_id ?_; first | refine C_seq ?_ | refine C_region ?_ | refine C_skip ?_ | refine C_cond_f rfl ?_) | (refine E_id ?_; first | refine E_code ?_))
      obtain ⟨_, hc, hr, hw, hbk⟩ := hS.call [true]
      refine X_callg _ rfl rfl rfl rfl rfl (lay_ p D.used _ _ hc hline) ?_
      rintro _ w ⟨_, hS⟩
      replace hS := hbk hS
      clear hc hr hw hbk
      obtain ⟨hok2, al2, cl2, ai2, ci2, d1, d2, hS⟩ := hS.openDisk
      repeat (first | (refine G_id ?_; first | refine G_nil ?_ | refine G_plain rfl rfl ?_) | (refine X_id ?_; first | refine X_yl (Yl_move rfl rfl) rfl rfl ?_ | refine X_yl (Yl_nilCheck rfl rfl) rfl rfl ?_ | refine X_yl (Yl_fieldAddr0 rfl rfl rfl) rfl rfl ?_) | (refine C_id ?_; first | refine C_seq ?_ | refine C_region ?_) | (refine E_id ?_; first | refine E_code ?_))
      obtain ⟨_, hc, hr, hw, hbk⟩ := hS.call [true, false, false]
      refine X_callg _ rfl rfl rfl rfl rfl (add64_ p 6 D.flushes 1 _ _ _ _ _ hc) ?_
      rintro _ w ⟨rfl, hS⟩
      replace hS := hbk hS
      clear hc hr hw hbk
      repeat (first | (refine G_id ?_; first | refine G_nil ?_ | refine G_plain rfl rfl ?_) | (refine X_id ?_; first | refine X_yl (Yl_assign rfl rfl) rfl rfl ?_) | (refine C_id ?_; first | refine C_seq ?_ | refine C_region ?_ | refine C_ret ?_) | (refine E_id ?_; first | refine E_code ?_ | refine E_ret1 rfl (Rv_tmp rfl) (Ret.mk ?_)))
      rw [DiskM.flush_yes hoff huse]
      exact ⟨rfl, St.shutDisk (D := { D.used.flushed with flushes := IntKind.i64.wrap (D.flushes + 1) }) ⟨hok2.1, hok2.2, hok2.3, hok2.4, hok2.5, hok2.6⟩ d1 d2 hS⟩
  · rw [hoff] at hon
    refine calls_C Tryz.func168 rfl Tryz.ntmps168 rfl ?_
    repeat (first | (refine G_id ?_; first | refine G_nil ?_ | refine G_plain rfl rfl ?_ | refine G_no rfl rfl rfl rfl rfl rfl ?_) | (refine X_id ?_; first | (refine X_callg 95 rfl rfl rfl rfl rfl hon ?_; rintro _ _ ⟨rfl, rfl⟩) | refine X_yl (Yl_move rfl rfl) rfl rfl ?_ | refine X_yl (Yl_assign rfl rfl) rfl rfl ?_ | refine X_yl (Yl_pick_t rfl rfl rfl) rfl rfl ?_ | refine X_yl (Yl_not_f rfl rfl) rfl rfl ?_) | (refine C_id ?_; first | refine C_seq ?_ | refine C_region ?_ | refine C_ret ?_ | refine C_cond_t rfl ?_) | (refine E_id ?_; first | refine E_code ?_ | refine E_then_ret ?_ | refine E_ret1 rfl (Rv_tmp rfl) (Ret.mk ?_)))
    exact ⟨by simp [DiskM.flush, hoff], by simpa [DiskM.flush, hoff] using hS⟩

/-! ### Read -/
theorem row_pts {b : Nat} {l : List Value} {T : TypeId} : ∀ h, pts b (.cells l.toArray T (0, 0)) h → row (some ⟨b, 0, none⟩) l h := fun _ hg => .inr ⟨b, 0, l.toArray, T, (0, 0), rfl, hg, fun j v hv => by simpa using hv⟩
theorem row_pts_mid {b off n : Nat} {l cs : List Value} {T : TypeId} (hs : (l.drop off).take n = cs) : ∀ h, pts b (.cells l.toArray T (0, 0)) h → row (some ⟨b, off, none⟩) cs h := fun _ hg => .inr ⟨b, off, l.toArray, T, (0, 0), rfl, hg, fun j v hv => by
  subst hs
  rw [List.getElem?_take] at hv
  split at hv
  · rw [List.getElem?_drop] at hv
    simpa using hv
  · cases hv⟩
theorem St.row_none {W : World} {F : Nat → Prop} {rs : List Res} {w : World} (hS : St W F rs w) : St W F (row none [] :: rs) w :=
  hS.imp fun h hh => ⟨fun _ => none, h, .inl ⟨rfl, fun _ => rfl⟩, hh, fun _ => .inl rfl, fun _ => by simp⟩
theorem St.more {W : World} {F : Nat → Prop} {rs : List Res} {w : World} (hS : St W noF rs w) : St W F rs w := by
  obtain ⟨h, hs, s⟩ := hS
  exact ⟨h, hs, s.agrees, fun b o e => (s.foot b o e).elim (fun h => h.elim) .inr, s.size, s.os, s.tape, s.output, fun k hk _ => s.kept k hk (fun h => h)⟩
theorem St.kept {W : World} {rs : List Res} {w : World} {b : Nat} {o : Obj} (hS : St W noF rs w) (h : W.heap[b]? = some o) : w.heap[b]? = some o := by
  have : Rd W (pts b o) := ⟨single b o, rfl, fun k o' e => by obtain ⟨rfl, rfl⟩ := of_single e; exact h⟩
  exact (this.ro.rd hS).pts
theorem on_b (p : Nat) (D : DiskM) (b : Bool) (hb : D.off = b) (W : World) (hd : Rd W (disk p D)) : Calls Tryz.prog 95 #[.pointer (some ⟨p, 0, none⟩)] W (Ret fun v w => v = .bool (!b) ∧ W = w) := by
  subst hb; exact on_ p D W hd
theorem has_b (p : Nat) (D : DiskM) (no : Int) (b : Bool) (hb : inDisk D no = b) (W : World) (hd : Rd W (disk p D)) : Calls Tryz.prog 174 #[.pointer (some ⟨p, 0, none⟩), .int .i64 no] W (Ret fun v w => v = .bool b ∧ W = w) := by
  subst hb; exact has_ p D no W hd
theorem backward_mk (a : Option Addr) (n c : Nat) (W : World) : Calls Tryz.prog 175 #[.slice a n c] W
    (Ret fun v w => ∃ bx, v = .func (.func 228) #[] #[.pointer (some ⟨bx, 0, none⟩)] ∧ St W noF [pts bx (.cells #[.slice a n c] 192)] w) := by
  have hS := St.start W
  refine calls_C Tryz.func175 rfl Tryz.ntmps175 rfl ?_
  repeat (first | (refine G_id ?_; first | refine G_nil ?_ | refine G_plain rfl rfl ?_) | (refine X_id ?_; first | refine X_yl (Yl_assign rfl rfl) rfl rfl ?_ | refine X_yl (Yl_makeFunc rfl rfl rfl) rfl rfl ?_ | refine X_box rfl rfl rfl rfl hS (fun _ _ hS _ => ?_)) | (refine C_id ?_; first | refine C_seq ?_ | refine C_region ?_ | refine C_ret ?_) | (refine E_id ?_; first | refine E_code ?_ | refine E_ret1 rfl (Rv_tmp rfl) (Ret.mk ?_)))
  exact ⟨_, rfl, hS⟩
/-- What is read of a disk: the error, and the bytes. -/
def DiskM.find (D : DiskM) (no : Int) : List UInt8 := match D.line.reverse.find? (fun x => x.1 == no) with | some x => x.2 | none => D.laid.getD no.toNat []
def DiskM.read (D : DiskM) (no : Int) : Int × List UInt8 := if D.off then (9, []) else if inDisk D no = false then (1, []) else (0, D.find no)
end Cr
namespace Cr
open Go Go.Proofs Go.ChangeShapes Go.WideShapes Go.Deep
section
variable {H : Type} {enc : TypeId × Value → H} {P : Program} {w : World} {base : Nat} {sp : Nat → Bool} {held : Bool}
theorem Rd.ofCellsA {a : Addr} {l : List Value} (h : ∀ i v, l[i]? = some v → w.cell? (a.add i) = some v) : Rd w (row (some a) l) := by
  cases l with
  | nil => exact Rd_nil w _
  | cons x r =>
    have h0 := h 0 x rfl
    have hsp : a.spot = none := by
      have := World.cell?_spot h0
      simpa [Addr.add] using this
    obtain ⟨b, off, spot⟩ := a
    obtain rfl : spot = none := hsp
    unfold World.cell? at h0
    split at h0
    · rename_i c t fz hb
      have hb : w.heap[b]? = some (.cells c t fz) := by simpa [Addr.add] using hb
      refine ⟨single b (.cells c t fz), .inr ⟨b, off, c, t, fz, rfl, rfl, fun i v hv => ?_⟩, fun k o e => ?_⟩
      · have := h i v hv
        have e : (⟨b, off, none⟩ : Addr).add i = ⟨b, off + i, none⟩ := by
          unfold Addr.add; split
          · rename_i h; subst h; rfl
          · rfl
        rw [e, cell_of_row w b (off + i) c t fz hb] at this
        exact this
      · obtain ⟨rfl, rfl⟩ := of_single e
        exact hb
    · cases h0
theorem u8_back {n : Int} (h : (Lit.int .u8 n).wf = true) : Value.int .u8 n = .int .u8 ((UInt8.ofNat n.toNat).toNat : Int) := by
  simp only [Lit.wf, Bool.and_eq_true, decide_eq_true_eq] at h
  have h1 : 0 ≤ n := h.1
  have h2 : n ≤ 255 := h.2
  congr 1
  have : (UInt8.ofNat n.toNat).toNat = n.toNat := by rw [UInt8.toNat_ofNat']; omega
  rw [this]; omega
/-- A slice of bytes. -/
theorem open_bytes {t e : TypeId} {fuel : Nat} {cs : List Value} {x : DataW H × List MemPlace} (ht : P.underlying t = some (.slice e)) (he : P.underlying e = some (.int .u8)) (hc : P.cellsOf e = 1)
    (h : DataW.trod enc P w base sp held fuel t cs = some x) : ∃ a s c, cs = [.slice a s.length c] ∧ s.length ≤ c ∧ c ≤ maxLen ∧ Rd w (bytes a s) := by
  rcases open_ints ht he hc h with ⟨rfl, _⟩ | ⟨a, len, cap, zs, rfl, _, hl, hm, hz, _, hcell, hwf⟩
  · exact ⟨none, [], 0, rfl, Nat.le_refl _, Nat.zero_le _, Rd_nil w _⟩
  · have hlz : len ≤ zs.length := by rw [hz]; split <;> omega
    have e1 : bv ((zs.take len).map fun n => UInt8.ofNat n.toNat) = (zs.take len).map fun n => Value.int .u8 n := by
      unfold bv
      rw [List.map_map]
      refine List.map_congr_left fun n hn => ?_
      exact (u8_back (hwf n (List.mem_of_mem_take hn))).symm
    have e2 : ((zs.take len).map fun n => UInt8.ofNat n.toNat).length = len := by simp; omega
    refine ⟨some a, (zs.take len).map fun n => UInt8.ofNat n.toNat, cap, by rw [e2], by rw [e2]; exact hl, hm, ?_⟩
    unfold bytes
    rw [e1]
    refine Rd.ofCellsA fun i v hv => ?_
    rw [List.getElem?_map, List.getElem?_take] at hv
    split at hv
    · rename_i hi
      rw [hcell i (by omega)]
      have h3 : zs[i]? = some zs[i] := List.getElem?_eq_getElem (by omega)
      rw [h3] at hv
      rw [List.getD_eq_getElem?_getD, h3]
      exact hv
    · cases hv
end
end Cr
namespace Cr
open Go Go.Proofs Go.ChangeShapes Go.WideShapes Go.Deep
section
variable {H : Type} {enc : TypeId × Value → H} {P : Program} {w : World} {base : Nat} {sp : Nat → Bool} {held : Bool}
/-- The elements as data, each by its own opening. -/
theorem open_sliceG {α : Type} [Inhabited α] (f : α → List Value) (Ok : α → Prop) {t e : TypeId} {fuel : Nat} {cs : List Value} {x : DataW H × List MemPlace} (n : Nat) (ht : P.underlying t = some (.slice e)) (ce : P.cellsOf e = n) (hpos : 0 < n)
    (hopen : ∀ (fuel : Nat) (cs : List Value) (y : DataW H × List MemPlace), DataW.trod enc P w base sp held fuel e cs = some y → ∃ a : α, cs = f a ∧ Ok a)
    (h : DataW.trod enc P w base sp held fuel t cs = some x) : ∃ (a : Option Addr) (l : List α) (c : Nat), cs = [.slice a l.length c] ∧ l.length ≤ c ∧ c ≤ maxLen ∧ Rd w (row a (l.flatMap f)) ∧ ∀ y ∈ l, Ok y ∧ (f y).length = n := by
  rcases DataW.trod_slice ht h with ⟨rfl, _⟩ | ⟨a, len, cap, elems, rest, m, _, rfl, _, _, hl, hm, hel, hx, _⟩
  · exact ⟨none, [], 0, rfl, Nat.le_refl _, Nat.zero_le _, Rd_nil w _, fun _ h => (List.not_mem_nil h).elim⟩
  · have each : ∀ i, i < len → ∃ q : α, Ok q ∧ (f q).length = n ∧ ∀ k, k < n → w.cell? (a.add (i * n + k)) = (f q)[k]? := fun i hi => by
      have h1 := hx i hi
      rw [List.getElem?_eq_getElem (by omega), ce, Option.bind_eq_some_iff] at h1
      obtain ⟨cs', h2, h3⟩ := h1
      obtain ⟨_, hlen, hcell⟩ := World.cells?_some h2
      obtain ⟨q, rfl, hq⟩ := hopen _ _ _ h3
      exact ⟨q, hq, hlen, fun k hk => by rw [← add_add]; exact hcell k hk⟩
    obtain ⟨q, hq⟩ := choose_lt each
    have hlen : ((List.range len).map q).length = len := by simp
    have hall : ∀ y ∈ (List.range len).map q, Ok y ∧ (f y).length = n := fun y hy => by
      obtain ⟨i, hi, rfl⟩ := List.mem_map.1 hy
      have := hq i (List.mem_range.1 hi)
      exact ⟨this.1, this.2.1⟩
    refine ⟨some a, (List.range len).map q, cap, by rw [hlen], by rw [hlen]; exact hl, hm, Rd.ofCellsA fun k v hv => ?_, hall⟩
    have hfl := flatMap_len (n := n) fun y hy => (hall y hy).2
    have hk : k / n < len := by
      have := (List.getElem?_eq_some_iff.1 hv).1
      rw [hfl, hlen] at this
      exact (Nat.div_lt_iff_lt_mul hpos).2 this
    have hget : ((List.range len).map q)[k / n]? = some (q (k / n)) := by simp [hk]
    have hsg := flatMap_seg (f := f) (fun y hy => (hall y hy).2) hget
    have hmod : k % n < n := Nat.mod_lt _ hpos
    have hk2 : k / n * n + k % n = k := by rw [Nat.mul_comm]; exact Nat.div_add_mod k n
    have hv3 := congrArg (fun l => l[k % n]?) hsg
    simp only [List.getElem?_take, List.getElem?_drop] at hv3
    rw [if_pos hmod, hk2, hv] at hv3
    have := (hq (k / n) hk).2.2 (k % n) hmod
    rw [hk2] at this
    rw [this]; exact hv3.symm
/-- An array of bytes. -/
theorem open_arrB {n : Nat} {t e : TypeId} {fuel : Nat} {cs : List Value} {x : DataW H × List MemPlace} (ht : P.underlying t = some (.array n e)) (he : P.underlying e = some (.int .u8)) (ce : P.cellsOf e = 1) (ct : P.cellsOf t = n)
    (h : DataW.trod enc P w base sp held fuel t cs = some x) : ∃ s : List UInt8, cs = bv s ∧ s.length = n := by
  obtain ⟨xs, m, _, _, hl, hxl, hf⟩ := DataW.trod_array ht h
  rw [ct] at hl
  have each : ∀ i, i < n → ∃ b : UInt8, cs[i]? = some (.int .u8 (b.toNat : Int)) := fun i hi => by
    have h1 := hf i hi
    rw [ce, Nat.mul_one, List.getElem?_eq_getElem (by omega)] at h1
    obtain ⟨k, hk, _, hw⟩ := DataW.trod_int he h1
    have h2 := congrArg (fun l => l[0]?) hk
    simp only [List.getElem?_take, List.getElem?_drop] at h2
    refine ⟨UInt8.ofNat k.toNat, ?_⟩
    rw [← u8_back hw]
    simpa using h2
  obtain ⟨q, hq⟩ := choose_lt each
  refine ⟨(List.range n).map q, ?_, by simp⟩
  apply List.ext_getElem?
  intro i
  by_cases hi : i < n
  · rw [hq i hi]; simp [bv, hi]
  · rw [List.getElem?_eq_none (by omega), List.getElem?_eq_none (by simp; omega)]
end
end Cr
namespace Cr
open Go
section
variable {P : Program} {Q : Exit → Act → World → Prop} {N : Nat} {ds : Md} {σ : Env} {w : World} {x y : Code}
theorem wpIn_weaken {F : Fence} {n : Nat} {c : Code} {Q Q' : Exit → Act → World → Prop} {a : Act} (hq : ∀ e a w, Q e a w → Q' e a w) (h : c.wpIn F n P Q a w) : c.wpIn F n P Q' a w := by
  intro b k cs hro hb hr
  obtain ⟨e, a', w', hQ, harr⟩ := h b k cs hro hb hr
  exact ⟨e, a', w', hq _ _ _ hQ, harr⟩
/-- What holds between two parts of a sequence. -/
def Mid {α : Type} (S : α → Env) (R : α → World → Prop) (N : Nat) (ds : Md) : Act → World → Prop := fun a w => ∃ z, Fr (S z) N ds a ∧ R z w
theorem C_mid {α : Type} (S : α → Env) (R : α → World → Prop) (h1 : C P x (Exit.then (Mid S R N ds) Q) N ds σ w) (h2 : ∀ z w, R z w → C P y Q N ds (S z) w) : C P (.seq x y) Q N ds σ w := ⟨fun a ha =>
  wpIn_seq (wpIn_weaken (fun e a w hh => by
    cases e with
    | normal => obtain ⟨z, hF, hR⟩ := hh; exact (h2 z w hR).run a hF
    | exit id => exact hh
    | goto l => exact hh
    | ret => exact hh
    | panic ch => exact hh
    | outgrown => exact hh) (h1.run a ha))⟩
/-- The same behind the walk's own step into a sequence. -/
theorem C_join {α : Type} (S : α → Env) (R : α → World → Prop) (h1 : C P x (Exit.then (Mid S R N ds) Q) N ds σ w) (h2 : ∀ z w, R z w → C P y Q N ds (S z) w) : C P x (Exit.then (y.wpIn (Fc ds) 0 P Q) Q) N ds σ w := ⟨fun a ha =>
  wpIn_weaken (fun e a w hh => by
    cases e with
    | normal => obtain ⟨z, hF, hR⟩ := hh; exact (h2 z w hR).run a hF
    | exit id => exact hh
    | goto l => exact hh
    | ret => exact hh
    | panic ch => exact hh
    | outgrown => exact hh) (h1.run a ha)⟩
theorem inBlock_mono {Q1 Q2 : Exit → Act → World → Prop} {id : Nat} (hq : ∀ e a w, Q1 e a w → Q2 e a w) : ∀ e a w, Exit.inBlock id Q1 e a w → Exit.inBlock id Q2 e a w := fun e a w h => by
  cases e with
  | exit id' =>
    by_cases he : id' = id
    · simp only [Exit.inBlock, if_pos he] at h ⊢; exact hq _ _ _ h
    · simp only [Exit.inBlock, if_neg he] at h ⊢; exact hq _ _ _ h
  | _ => exact hq _ _ _ h
/-- The same where the walk stands inside a block. -/
theorem C_joinB {α : Type} {id : Nat} (S : α → Env) (R : α → World → Prop) (h1 : C P x (Exit.inBlock id (Exit.then (Mid S R N ds) Q)) N ds σ w) (h2 : ∀ z w, R z w → C P y Q N ds (S z) w) : C P x (Exit.inBlock id (Exit.then (y.wpIn (Fc ds) 0 P Q) Q)) N ds σ w := ⟨fun a ha =>
  wpIn_weaken (inBlock_mono fun e a w hh => by
    cases e with
    | normal => obtain ⟨z, hF, hR⟩ := hh; exact (h2 z w hR).run a hF
    | exit id => exact hh
    | goto l => exact hh
    | ret => exact hh
    | panic ch => exact hh
    | outgrown => exact hh) (h1.run a ha)⟩
theorem E_mid {α : Type} {S : α → Env} {R : α → World → Prop} (z : α) (hσ : subs σ (S z)) (hR : R z w) : E (Exit.then (Mid S R N ds) Q) .normal N ds σ w := ⟨fun _ ha => ⟨z, ha.sub hσ, hR⟩⟩
theorem Rd.cellF {b off o' i : Nat} {cs : List Value} {v : Value} (H : Rd w (row (some ⟨b, off, none⟩) cs)) (hi : o' = off + i) (h : cs[i]? = some v) : w.cell? ⟨b, o', none⟩ = some v := by
  subst hi; exact H.cells i v h
end
section
variable {P : Program} {o : Oper} {σ : Env} {w : World} {t e : TypeId}
/-- An array literal, all of its elements given. -/
theorem Yl_buildArr {z : Value} {n size N m : Nat} {xs : List (Nat × Operand)} {parts : List (Nat × Value)} {l : List Value} (ho : o.op = .build t xs.toArray) (hx : evps σ xs = some parts) [h : Und P t (.array n e)] [hs : Siz P e size] [hi : Inf P t z N m] (hn : parts.length = n) (hN : N = n * size)
    (hidx : parts.map (·.1) = List.range' 0 parts.length) [hl : CellsAll parts size l] : Yl P o σ w (.agg l.toArray) := ⟨fun N' ds a ha => by
  obtain ⟨i, hi', hz', hsz, _⟩ := info_parts hi.inf
  obtain ⟨ls, h1, h2, h3⟩ := hl.all
  have hzl : z.cells.size = parts.length * size := by rw [hn, ← hN]; exact hi.zs
  have hq := fill_row (size := size) parts ls 0 [] z.cells.toList h1 h2 hidx (by simp) (by simpa using hzl)
  simp only [List.nil_append, Array.toArray_toList, h3] at hq
  have hze : (zeroValue t).run P w = .ok z w := by simp [zeroValue, typeInfo, hi', hz']
  have e := ha.evalps hx
  have hb : (Instr.build t parts.toArray).run P w = .ok (.agg l.toArray) w := by
    unfold Instr.build
    rw [Sem.run_bind, hze]
    show (underlying t >>= _ : Sem _).run P w = _
    rw [Sem.run_bind, run_underlying h.und]
    show (Go.sizeOf _ >>= _ : Sem _).run P w = _
    rw [Sem.run_bind, run_sizeOf]
    simp [Result.andThen, hq]
  simp [execOp, ho, e, hb]⟩
end
/-- A cell at a place that is told by a sum. -/
theorem St.cellO (k : Nat) {W : World} {F : Nat → Prop} {rs : List Res} {w : World} {b off : Nat} {l : List Value} {T : TypeId} {v : Value} (hS : St W F rs w) (hk : off = k) [hh : Has rs b (.cells l.toArray T (0, 0))] [hn : Nth l k v] : w.cell? ⟨b, off, none⟩ = some v := by
  subst hk
  rw [cell_of_row w b off _ T (0, 0) hS.has]
  simpa using hn.nth
/-- A row of the run's own, by its base. -/
theorem St.ownRd {W : World} {F : Nat → Prop} {rs rest : List Res} {w : World} {a : Option Addr} {T e c : Nat} {cs : List Value} (hS : St W F rs w) [hh : HasOwn rs a T e c cs rest] : Rd w (row a cs) := ((hS.perm hh.has).rd (List.mem_cons_self ..)).own_row
/-! ### resources in another order -/
class Take1 (rs : List Res) (r : Res) (rest : outParam (List Res)) : Prop where
  perm : rs.Perm (r :: rest)
instance Take1.there (q r : Res) (rs rest : List Res) [h : Take1 rs r rest] : Take1 (q :: rs) r (q :: rest) := ⟨(List.Perm.cons q h.perm).trans (.swap ..)⟩
instance Take1.here (r : Res) (rs : List Res) : Take1 (r :: rs) r rs := ⟨.refl _⟩
class Takes (rs out : List Res) : Prop where
  took : ∀ {W F w}, St W F rs w → St W F out w
instance Takes.nil (rs : List Res) : Takes rs [] := ⟨fun h => h.drops⟩
instance Takes.cons (rs rest out : List Res) (r : Res) [h : Take1 rs r rest] [h2 : Takes rest out] : Takes rs (r :: out) := ⟨fun hS => (hS.perm h.perm).under h2.took⟩
theorem St.took {W : World} {F : Nat → Prop} {rs out : List Res} {w : World} (hS : St W F rs w) [h : Takes rs out] : St W F out w := h.took hS
end Cr
namespace Cr
open Go Go.Proofs
set_option maxRecDepth 100000
set_option maxHeartbeats 2000000
attribute [local irreducible] Calls

/-- A sign of a name. -/
def okC (c : UInt8) : Prop := (97 ≤ c.toNat ∧ c.toNat ≤ 122) ∨ (48 ≤ c.toNat ∧ c.toNat ≤ 57) ∨ c.toNat = 46 ∨ c.toNat = 45 ∨ c.toNat = 95
instance (c : UInt8) : Decidable (okC c) := by unfold okC; infer_instance
def nameOk (s : List UInt8) : Prop := 1 ≤ s.length ∧ s.length ≤ 24 ∧ s ≠ [46] ∧ s ≠ [46, 46] ∧ ∀ c ∈ s, okC c
instance (s : List UInt8) : Decidable (nameOk s) := by unfold nameOk; infer_instance
theorem sign_ (c : UInt8) (W : World) : Calls Tryz.prog 177 #[.int .u8 (c.toNat : Int)] W (Ret fun v w => v = .bool (decide (okC c)) ∧ St W noF [] w) := by
  have hS := St.start W
  refine calls_C Tryz.func177 rfl Tryz.ntmps177 rfl ?_
  repeat' (first | (refine G_id ?_; first | refine G_nil ?_ | refine G_plain rfl rfl ?_ | refine G_yes rfl rfl rfl rfl ?_ | refine G_no rfl rfl rfl rfl rfl rfl ?_ | refine G_no_undef rfl rfl rfl rfl rfl ?_) | (refine X_id ?_; first | refine X_yl (Yl_move rfl rfl) rfl rfl ?_ | refine X_yl (Yl_assign rfl rfl) rfl rfl ?_ | refine X_yl (Yl_pick_t rfl rfl rfl) rfl rfl ?_ | refine X_yl (Yl_pick_f rfl rfl rfl) rfl rfl ?_ | refine X_yl (Yl_eql_f rfl rfl rfl (by omega)) rfl rfl ?_ | refine X_yl (Yl_leq_f rfl rfl rfl (by omega)) rfl rfl ?_ | refine X_yl (Yl_geq_t rfl rfl rfl (by omega)) rfl rfl ?_ | refine X_yl (Yl_eql rfl rfl rfl) rfl rfl ?_ | refine X_yl (Yl_leq rfl rfl rfl) rfl rfl ?_ | refine X_yl (Yl_geq rfl rfl rfl) rfl rfl ?_) | (refine C_id ?_; first | refine C_seq ?_ | refine C_region ?_ | refine C_ret ?_) | (refine E_id ?_; first | refine E_code ?_ | refine E_ret1 rfl (Rv_tmp rfl) (Ret.mk ?_)) | (refine G_split (d := 5) rfl ?_ ?_ <;> intro hd) | (refine G_split (d := 9) rfl ?_ ?_ <;> intro hd) | (refine G_split (d := 12) rfl ?_ ?_ <;> intro hd) | (refine G_split (d := 17) rfl ?_ ?_ <;> intro hd) | (refine G_split (d := 21) rfl ?_ ?_ <;> intro hd) | (refine G_split (d := 25) rfl ?_ ?_ <;> intro hd) | (refine C_cond_dec rfl ?_ ?_ <;> intro hd))
  all_goals
    refine ⟨?_, hS⟩
    congr 1
    unfold okC
    first | (symm; exact decide_eq_true (by omega)) | (symm; exact decide_eq_false (by omega)) | exact decide_eq_decide.2 (by omega)
end Cr
namespace Cr
open Go Go.Proofs
set_option maxRecDepth 100000
set_option maxHeartbeats 2000000
attribute [local irreducible] Calls

theorem nameOk_no {s : List UInt8} (h : s.length < 1 ∨ 24 < s.length ∨ s = [46] ∨ s = [46, 46]) : decide (nameOk s) = false := by
  refine decide_eq_false fun q => ?_
  obtain ⟨q1, q2, q3, q4, _⟩ := q
  rcases h with h | h | h | h
  · omega
  · omega
  · exact q3 h
  · exact q4 h
theorem name_ (s : List UInt8) (W : World) : Calls Tryz.prog 126 #[.string (str s)] W (Ret fun v w => v = .bool (decide (nameOk s)) ∧ St W noF [] w) := by
  have hS := St.start W
  have hz := str_size s
  by_cases h1 : s.length < 1
  · rw [nameOk_no (.inl h1)]
    refine calls_C Tryz.func126 rfl Tryz.ntmps126 rfl ?_
    repeat (first | (refine G_id ?_; first | refine G_nil ?_ | refine G_plain rfl rfl ?_ | refine G_no rfl rfl rfl rfl rfl rfl ?_) | (refine X_id ?_; first | refine X_yl (Yl_move rfl rfl) rfl rfl ?_ | refine X_yl (Yl_assign rfl rfl) rfl rfl ?_ | refine X_yl (Yl_pick_t rfl rfl rfl) rfl rfl ?_ | refine X_yl (Yl_len_str rfl rfl) rfl rfl ?_ | refine X_yl (Yl_lss_t rfl rfl rfl (by omega)) rfl rfl ?_) | (refine C_id ?_; first | refine C_seq ?_ | refine C_scope rfl ?_ | refine C_region ?_ | refine C_ret ?_ | refine C_cond_t rfl ?_) | (refine E_id ?_; first | refine E_code ?_ | refine E_then_ret ?_ | refine E_noGoto (fun _ h => by cases h) ?_ | refine E_ret1 rfl (Rv_tmp rfl) (Ret.mk ?_)))
    exact ⟨rfl, hS⟩
  by_cases h2 : 24 < s.length
  · rw [nameOk_no (.inr (.inl h2))]
    refine calls_C Tryz.func126 rfl Tryz.ntmps126 rfl ?_
    repeat (first | (refine G_id ?_; first | refine G_nil ?_ | refine G_plain rfl rfl ?_ | refine G_yes rfl rfl rfl rfl ?_ | refine G_no rfl rfl rfl rfl rfl rfl ?_) | (refine X_id ?_; first | refine X_yl (Yl_move rfl rfl) rfl rfl ?_ | refine X_yl (Yl_assign rfl rfl) rfl rfl ?_ | refine X_yl (Yl_pick_t rfl rfl rfl) rfl rfl ?_ | refine X_yl (Yl_pick_f rfl rfl rfl) rfl rfl ?_ | refine X_yl (Yl_len_str rfl rfl) rfl rfl ?_ | refine X_yl (Yl_lss_f rfl rfl rfl (by omega)) rfl rfl ?_ | refine X_yl (Yl_gtr_t rfl rfl rfl (by omega)) rfl rfl ?_) | (refine C_id ?_; first | refine C_seq ?_ | refine C_scope rfl ?_ | refine C_region ?_ | refine C_ret ?_ | refine C_cond_t rfl ?_) | (refine E_id ?_; first | refine E_code ?_ | refine E_then_ret ?_ | refine E_noGoto (fun _ h => by cases h) ?_ | refine E_ret1 rfl (Rv_tmp rfl) (Ret.mk ?_)))
    exact ⟨rfl, hS⟩
  by_cases h3 : s = [46]
  · rw [nameOk_no (.inr (.inr (.inl h3)))]
    refine calls_C Tryz.func126 rfl Tryz.ntmps126 rfl ?_
    repeat (first | (refine G_id ?_; first | refine G_nil ?_ | refine G_plain rfl rfl ?_ | refine G_yes rfl rfl rfl rfl ?_ | refine G_no rfl rfl rfl rfl rfl rfl ?_) | (refine X_id ?_; first | refine X_yl (Yl_move rfl rfl) rfl rfl ?_ | refine X_yl (Yl_assign rfl rfl) rfl rfl ?_ | refine X_yl (Yl_pick_t rfl rfl rfl) rfl rfl ?_ | refine X_yl (Yl_pick_f rfl rfl rfl) rfl rfl ?_ | refine X_yl (Yl_len_str rfl rfl) rfl rfl ?_ | refine X_yl (Yl_lss_f rfl rfl rfl (by omega)) rfl rfl ?_ | refine X_yl (Yl_gtr_f rfl rfl rfl (by omega)) rfl rfl ?_ | refine X_yl (Yl_eqlStrT rfl rfl rfl (by assumption)) rfl rfl ?_) | (refine C_id ?_; first | refine C_seq ?_ | refine C_scope rfl ?_ | refine C_region ?_ | refine C_ret ?_ | refine C_cond_t rfl ?_) | (refine E_id ?_; first | refine E_code ?_ | refine E_then_ret ?_ | refine E_noGoto (fun _ h => by cases h) ?_ | refine E_ret1 rfl (Rv_tmp rfl) (Ret.mk ?_)))
    exact ⟨rfl, hS⟩
  by_cases h4 : s = [46, 46]
  · rw [nameOk_no (.inr (.inr (.inr h4)))]
    refine calls_C Tryz.func126 rfl Tryz.ntmps126 rfl ?_
    repeat (first | (refine G_id ?_; first | refine G_nil ?_ | refine G_plain rfl rfl ?_ | refine G_yes rfl rfl rfl rfl ?_) | (refine X_id ?_; first | refine X_yl (Yl_move rfl rfl) rfl rfl ?_ | refine X_yl (Yl_assign rfl rfl) rfl rfl ?_ | refine X_yl (Yl_pick_f rfl rfl rfl) rfl rfl ?_ | refine X_yl (Yl_len_str rfl rfl) rfl rfl ?_ | refine X_yl (Yl_lss_f rfl rfl rfl (by omega)) rfl rfl ?_ | refine X_yl (Yl_gtr_f rfl rfl rfl (by omega)) rfl rfl ?_ | refine X_yl (Yl_eqlStrT rfl rfl rfl (by assumption)) rfl rfl ?_ | refine X_yl (Yl_eqlStrF rfl rfl rfl (by assumption)) rfl rfl ?_) | (refine C_id ?_; first | refine C_seq ?_ | refine C_scope rfl ?_ | refine C_region ?_ | refine C_ret ?_ | refine C_cond_t rfl ?_) | (refine E_id ?_; first | refine E_code ?_ | refine E_then_ret ?_ | refine E_noGoto (fun _ h => by cases h) ?_ | refine E_ret1 rfl (Rv_tmp rfl) (Ret.mk ?_)))
    exact ⟨rfl, hS⟩
  refine calls_C Tryz.func126 rfl Tryz.ntmps126 rfl ?_
  repeat (first | (refine G_id ?_; first | refine G_nil ?_ | refine G_plain rfl rfl ?_ | refine G_yes rfl rfl rfl rfl ?_) | (refine X_id ?_; first | refine X_yl (Yl_move rfl rfl) rfl rfl ?_ | refine X_yl (Yl_assign rfl rfl) rfl rfl ?_ | refine X_yl (Yl_pick_f rfl rfl rfl) rfl rfl ?_ | refine X_yl (Yl_len_str rfl rfl) rfl rfl ?_ | refine X_yl (Yl_lss_f rfl rfl rfl (by omega)) rfl rfl ?_ | refine X_yl (Yl_gtr_f rfl rfl rfl (by omega)) rfl rfl ?_ | refine X_yl (Yl_eqlStrF rfl rfl rfl (by assumption)) rfl rfl ?_) | (refine C_id ?_; first | refine C_seq ?_ | refine C_label ?_ | refine C_scope rfl ?_ | refine C_region ?_ | refine C_block ?_ | refine C_skip ?_ | refine C_cond_f rfl ?_) | (refine E_id ?_; first | refine E_code ?_))
  refine C_joinB (α := Unit) (fun _ => []) (fun _ w => (∀ c ∈ s, okC c) ∧ St W noF [] w) ?_ ?_
  · refine C_loop (α := Nat) (fun i => [(0, .string (str s)), (21, .int .i64 (s.length : Nat)), (22, .int .i64 (i : Nat))]) (fun i w => i ≤ s.length ∧ (∀ c ∈ s.take i, okC c) ∧ St W noF [] w) (fun i => s.length - i) 0 ⟨rfl, rfl, rfl, trivial⟩ ⟨Nat.zero_le _, fun c hc => by simp at hc, hS⟩ ?_
    clear hS
    rintro i w ⟨hi, hok, hS⟩
    by_cases hlt : i < s.length
    · obtain ⟨x, hx0⟩ : ∃ x, s[i]? = some x := ⟨_, List.getElem?_eq_getElem hlt⟩
      have hx : s[((i : Nat) : Int).toNat]? = some x := hx0
      have hq := sign_ x
      by_cases hc : okC x
      · rw [decide_eq_true hc] at hq
        repeat (first | (refine G_id ?_; first | refine G_nil ?_ | refine G_plain rfl rfl ?_) | (refine X_id ?_; first | (refine X_callq 177 rfl rfl rfl rfl rfl hS (hq _) ?_; rintro _ _ rfl hS) | refine X_yl (Yl_move rfl rfl) rfl rfl ?_ | refine X_yl (Yl_assign rfl rfl) rfl rfl ?_ | refine X_yl (Yl_lss_t rfl rfl rfl (by omega)) rfl rfl ?_ | refine X_yl (Yl_add rfl rfl rfl (w64 (by omega) (by omega))) rfl rfl ?_ | refine X_yl (Yl_indexStr rfl rfl rfl (by omega) (by assumption)) rfl rfl ?_) | (refine C_id ?_; first | refine C_seq ?_ | refine C_region ?_ | refine C_block ?_ | refine C_skip ?_ | refine C_exit ?_ | refine C_cond_t rfl ?_) | (refine E_id ?_; first | refine E_code ?_ | refine E_then_exit ?_ | refine E_blk_same ?_))
        refine E_round (z := i) (i + 1) ⟨rfl, rfl, rfl, trivial⟩ ⟨hlt, fun c hc' => ?_, hS⟩ (by omega)
        rw [List.take_add_one, hx0] at hc'
        rcases List.mem_append.1 hc' with h | h
        · exact hok c h
        · obtain rfl : c = x := by simpa using h
          exact hc
      · rw [decide_eq_false hc] at hq
        repeat (first | (refine G_id ?_; first | refine G_nil ?_ | refine G_plain rfl rfl ?_) | (refine X_id ?_; first | (refine X_callq 177 rfl rfl rfl rfl rfl hS (hq _) ?_; rintro _ _ rfl hS) | refine X_yl (Yl_move rfl rfl) rfl rfl ?_ | refine X_yl (Yl_assign rfl rfl) rfl rfl ?_ | refine X_yl (Yl_lss_t rfl rfl rfl (by omega)) rfl rfl ?_ | refine X_yl (Yl_indexStr rfl rfl rfl (by omega) (by assumption)) rfl rfl ?_) | (refine C_id ?_; first | refine C_seq ?_ | refine C_region ?_ | refine C_block ?_ | refine C_ret ?_ | refine C_skip ?_ | refine C_cond_t rfl ?_ | refine C_cond_f rfl ?_) | (refine E_id ?_; first | refine E_code ?_ | refine E_then_ret ?_ | refine E_noGoto (fun _ h => by cases h) ?_ | refine E_blk_ret ?_ | refine E_ret1 rfl (Rv_tmp rfl) (Ret.mk ?_)))
        refine ⟨?_, hS⟩
        rw [decide_eq_false (fun q : nameOk s => hc (q.2.2.2.2 x (List.mem_of_getElem? hx0)))]
    · repeat (first | (refine G_id ?_; first | refine G_nil ?_ | refine G_plain rfl rfl ?_) | (refine X_id ?_; first | refine X_yl (Yl_lss_f rfl rfl rfl (by omega)) rfl rfl ?_) | (refine C_id ?_; first | refine C_seq ?_ | refine C_region ?_ | refine C_exit ?_ | refine C_cond_f rfl ?_) | (refine E_id ?_; first | refine E_code ?_ | refine E_then_exit ?_ | refine E_blk_same ?_))
      refine E_mid () trivial ⟨?_, hS⟩
      rwa [List.take_of_length_le (by omega)] at hok
  · clear hS
    rintro _ w ⟨hok, hS⟩
    repeat (first | (refine G_id ?_; first | refine G_nil ?_ | refine G_plain rfl rfl ?_) | (refine X_id ?_; first | refine X_yl (Yl_assign rfl rfl) rfl rfl ?_) | (refine C_id ?_; first | refine C_seq ?_ | refine C_region ?_ | refine C_ret ?_) | (refine E_id ?_; first | refine E_code ?_ | refine E_noGoto (fun _ h => by cases h) ?_ | refine E_ret1 rfl (Rv_tmp rfl) (Ret.mk ?_)))
    refine ⟨?_, hS⟩
    rw [decide_eq_true (show nameOk s from ⟨by omega, by omega, h3, h4, hok⟩)]
end Cr
namespace Cr
open Go
theorem Rd.cellsX {w : World} {a : Option Addr} {cs seg : List Value} {i' i n : Nat} (H : Rd w (Cr.row a cs)) (hi : i' = i) (h : (cs.drop i).take n = seg) (hn : seg.length = n) : CellsN w (adr a i') n seg := by
  subst hi; subst h
  exact ⟨H.seg _ _, hn⟩
end Cr
namespace Cr
open Go Go.Proofs
set_option maxRecDepth 100000
set_option maxHeartbeats 4000000
attribute [local irreducible] Calls

/-- A revision: its number, the 32 bytes of its seal, its size. -/
structure RevD where
  no : Int
  sl : List UInt8
  size : Int
abbrev RevD.cells (r : RevD) : List Value := .int .i64 r.no :: (bv r.sl ++ [.int .i64 r.size])
def rightR (r : RevD) (behind : Int) : Prop := behind < r.no ∧ r.no ≤ 999999 ∧ 0 ≤ r.size ∧ r.size ≤ 131072
instance (r : RevD) (b : Int) : Decidable (rightR r b) := by unfold rightR; infer_instance
/-- Revisions that are right, each behind the one before. -/
def revsOk : Int → List RevD → Prop
  | _, [] => True
  | b, r :: l => rightR r b ∧ revsOk r.no l
instance revsOk_dec : ∀ (b : Int) (l : List RevD), Decidable (revsOk b l)
  | _, [] => isTrue trivial
  | b, r :: l => match (inferInstance : Decidable (rightR r b)), revsOk_dec r.no l with
    | isTrue h, isTrue h' => isTrue ⟨h, h'⟩
    | isFalse h, _ => isFalse fun q => h q.1
    | _, isFalse h => isFalse fun q => h q.2
/-- What is wrong with a package. -/
def chkS (nm pb : List UInt8) (ac : Int) (l : List RevD) : Int :=
  if nameOk nm ∧ nameOk pb then if l = [] ∨ 3 < l.length then 2 else if revsOk 0 l then if ac ∈ l.map RevD.no then 0 else 7 else 1 else 10
theorem len32 {l : List UInt8} (h : l.length = 32) : ∃ a0 a1 a2 a3 a4 a5 a6 a7 a8 a9 b0 b1 b2 b3 b4 b5 b6 b7 b8 b9 c0 c1 c2 c3 c4 c5 c6 c7 c8 c9 d0 d1, l = [a0, a1, a2, a3, a4, a5, a6, a7, a8, a9, b0, b1, b2, b3, b4, b5, b6, b7, b8, b9, c0, c1, c2, c3, c4, c5, c6, c7, c8, c9, d0, d1] := by
  match l, h with
  | [a0, a1, a2, a3, a4, a5, a6, a7, a8, a9, b0, b1, b2, b3, b4, b5, b6, b7, b8, b9, c0, c1, c2, c3, c4, c5, c6, c7, c8, c9, d0, d1], _ => exact ⟨a0, a1, a2, a3, a4, a5, a6, a7, a8, a9, b0, b1, b2, b3, b4, b5, b6, b7, b8, b9, c0, c1, c2, c3, c4, c5, c6, c7, c8, c9, d0, d1, rfl⟩
theorem right_ (r : RevD) (h : r.sl.length = 32) (b : Int) (W : World) :
    Calls Tryz.prog 139 #[.agg r.cells.toArray, .int .i64 b] W (Ret fun v w => v = .bool (decide (rightR r b)) ∧ St W noF [] w) := by
  have hS := St.start W
  obtain ⟨no, sl, size⟩ := r
  obtain ⟨a0, a1, a2, a3, a4, a5, a6, a7, a8, a9, b0, b1, b2, b3, b4, b5, b6, b7, b8, b9, c0, c1, c2, c3, c4, c5, c6, c7, c8, c9, d0, d1, e⟩ := len32 h
  simp only at e
  subst e
  simp only [RevD.cells, bv, List.map_cons, List.map_nil, List.cons_append, List.nil_append]
  refine calls_C Tryz.func139 rfl Tryz.ntmps139 rfl ?_
  repeat' (first | (refine G_id ?_; first | refine G_nil ?_ | refine G_plain rfl rfl ?_ | refine G_yes rfl rfl rfl rfl ?_ | refine G_no rfl rfl rfl rfl rfl rfl ?_) | (refine X_id ?_; first | refine X_yl (Yl_move rfl rfl) rfl rfl ?_ | refine X_yl (Yl_assign rfl rfl) rfl rfl ?_ | refine X_yl (Yl_fieldAddr0 rfl rfl rfl) rfl rfl ?_ | refine X_yl (Yl_pick_t rfl rfl rfl) rfl rfl ?_ | refine X_yl (Yl_pick_f rfl rfl rfl) rfl rfl ?_ | refine X_yl (Yl_leq rfl rfl rfl) rfl rfl ?_ | refine X_yl (Yl_gtr rfl rfl rfl) rfl rfl ?_ | refine X_yl (Yl_geq rfl rfl rfl) rfl rfl ?_ | refine X_yl (Yl_load rfl rfl hS.cell) rfl rfl ?_ | refine X_box rfl rfl rfl rfl hS (fun _ _ hS _ => ?_)) | (refine C_id ?_; first | refine C_seq ?_ | refine C_region ?_ | refine C_ret ?_) | (refine E_id ?_; first | refine E_code ?_ | refine E_ret1 rfl (Rv_tmp rfl) (Ret.mk ?_)) | (refine G_split (d := 9) rfl ?_ ?_ <;> intro hd) | (refine G_split (d := 14) rfl ?_ ?_ <;> intro hd) | (refine G_split (d := 19) rfl ?_ ?_ <;> intro hd) | (refine C_cond_dec rfl ?_ ?_ <;> intro hd))
  all_goals
    refine ⟨?_, hS.drops⟩
    congr 1
    unfold rightR
    first | (symm; exact decide_eq_true (by dsimp only; omega)) | (symm; exact decide_eq_false (by dsimp only; omega)) | exact decide_eq_decide.2 (by dsimp only; omega)
theorem rev_seg : ∀ {l : List RevD}, (∀ x ∈ l, x.sl.length = 32) → ∀ {i : Nat} {x : RevD}, l[i]? = some x → ((l.flatMap RevD.cells).drop (i * 34)).take 34 = x.cells
  | [], _, _, _, h => by cases h
  | y :: l, hl, i, x, h => by
    have hy : (RevD.cells y).length = 34 := by simp [hl y (List.mem_cons_self ..)]
    cases i with
    | zero =>
      obtain rfl : y = x := by simpa using h
      rw [List.flatMap_cons, Nat.zero_mul, List.drop_zero, ← hy, List.take_left]
    | succ i =>
      have e : (i + 1) * 34 = (RevD.cells y).length + i * 34 := by rw [hy]; omega
      rw [List.flatMap_cons, e, List.drop_length_add_append]
      exact rev_seg (fun z hz => hl z (List.mem_cons_of_mem _ hz)) (i := i) (x := x) (by simpa using h)
end Cr
namespace Cr
open Go Go.Proofs
set_option maxRecDepth 100000
set_option maxHeartbeats 8000000
attribute [local irreducible] Calls

def lastNo : Int → List RevD → Int
  | b, [] => b
  | _, r :: l => lastNo r.no l
theorem lastNo_snoc : ∀ (b : Int) (l : List RevD) (r : RevD), lastNo b (l ++ [r]) = r.no
  | _, [], _ => rfl
  | _, x :: l, r => lastNo_snoc x.no l r
theorem revsOk_app : ∀ (b : Int) (l m : List RevD), revsOk b (l ++ m) ↔ revsOk b l ∧ revsOk (lastNo b l) m
  | _, [], _ => by simp [revsOk, lastNo]
  | b, x :: l, m => by
    have := revsOk_app x.no l m
    simp only [List.cons_append, revsOk, lastNo, this, and_assoc]
theorem scheck_ (nm pb : List UInt8) (ac : Int) (a : Option Addr) (c : Nat) (l : List RevD) (hl : ∀ x ∈ l, x.sl.length = 32) (W : World) (hr0 : Rd W (row a (l.flatMap RevD.cells))) (hc : l.length ≤ c) :
    Calls Tryz.prog 76 #[.agg #[.string (str nm), .string (str pb), .int .i64 ac, .slice a l.length c]] W (Ret fun v w => v = .int .i64 (chkS nm pb ac l) ∧ St W noF [] w) := by
  have hro := hr0.ro
  have hS := St.start W
  have hN1 := name_ nm
  have hN2 := name_ pb
  unfold chkS
  by_cases h1 : nameOk nm
  case neg =>
    rw [decide_eq_false h1] at hN1
    rw [if_neg (fun q => h1 q.1)]
    refine calls_C Tryz.func76 rfl Tryz.ntmps76 rfl ?_
    repeat (first | (refine G_id ?_; first | refine G_nil ?_ | refine G_plain rfl rfl ?_ | refine G_no rfl rfl rfl rfl rfl rfl ?_) | (refine X_id ?_; first | (refine X_callq 126 rfl rfl rfl rfl rfl hS (hN1 _) ?_; rintro _ _ rfl hS) | refine X_yl (Yl_move rfl rfl) rfl rfl ?_ | refine X_yl (Yl_assign rfl rfl) rfl rfl ?_ | refine X_yl (Yl_fieldAddr0 rfl rfl rfl) rfl rfl ?_ | refine X_yl (Yl_pick_t rfl rfl rfl) rfl rfl ?_ | refine X_yl (Yl_not_f rfl rfl) rfl rfl ?_ | refine X_yl (Yl_load rfl rfl hS.cell) rfl rfl ?_ | refine X_box rfl rfl rfl rfl hS (fun _ _ hS _ => ?_)) | (refine C_id ?_; first | refine C_seq ?_ | refine C_region ?_ | refine C_block ?_ | refine C_ret ?_ | refine C_cond_t rfl ?_) | (refine E_id ?_; first | refine E_code ?_ | refine E_then_ret ?_ | refine E_blk_ret ?_ | refine E_ret1 rfl (Rv_tmp rfl) (Ret.mk ?_)))
    exact ⟨rfl, hS.drops⟩
  rw [decide_eq_true h1] at hN1
  by_cases h2 : nameOk pb
  case neg =>
    rw [decide_eq_false h2] at hN2
    rw [if_neg (fun q => h2 q.2)]
    refine calls_C Tryz.func76 rfl Tryz.ntmps76 rfl ?_
    repeat (first | (refine G_id ?_; first | refine G_nil ?_ | refine G_plain rfl rfl ?_ | refine G_yes rfl rfl rfl rfl ?_) | (refine X_id ?_; first | (refine X_callq 126 rfl rfl rfl rfl rfl hS (hN1 _) ?_; rintro _ _ rfl hS) | (refine X_callq 126 rfl rfl rfl rfl rfl hS (hN2 _) ?_; rintro _ _ rfl hS) | refine X_yl (Yl_move rfl rfl) rfl rfl ?_ | refine X_yl (Yl_assign rfl rfl) rfl rfl ?_ | refine X_yl (Yl_fieldAddr0 rfl rfl rfl) rfl rfl ?_ | refine X_yl (Yl_pick_f rfl rfl rfl) rfl rfl ?_ | refine X_yl (Yl_not_t rfl rfl) rfl rfl ?_ | refine X_yl (Yl_not_f rfl rfl) rfl rfl ?_ | refine X_yl (Yl_load rfl rfl hS.cell) rfl rfl ?_ | refine X_box rfl rfl rfl rfl hS (fun _ _ hS _ => ?_)) | (refine C_id ?_; first | refine C_seq ?_ | refine C_region ?_ | refine C_block ?_ | refine C_ret ?_ | refine C_cond_t rfl ?_) | (refine E_id ?_; first | refine E_code ?_ | refine E_then_ret ?_ | refine E_blk_ret ?_ | refine E_ret1 rfl (Rv_tmp rfl) (Ret.mk ?_)))
    exact ⟨rfl, hS.drops⟩
  rw [decide_eq_true h2] at hN2
  rw [if_pos ⟨h1, h2⟩]
  by_cases h3 : l = [] ∨ 3 < l.length
  case pos =>
    rw [if_pos h3]
    by_cases h4 : l.length = 0
    · refine calls_C Tryz.func76 rfl Tryz.ntmps76 rfl ?_
      repeat (first | (refine G_id ?_; first | refine G_nil ?_ | refine G_plain rfl rfl ?_ | refine G_yes rfl rfl rfl rfl ?_ | refine G_no rfl rfl rfl rfl rfl rfl ?_) | (refine X_id ?_; first | (refine X_callq 126 rfl rfl rfl rfl rfl hS (hN1 _) ?_; rintro _ _ rfl hS) | (refine X_callq 126 rfl rfl rfl rfl rfl hS (hN2 _) ?_; rintro _ _ rfl hS) | refine X_yl (Yl_move rfl rfl) rfl rfl ?_ | refine X_yl (Yl_assign rfl rfl) rfl rfl ?_ | refine X_yl (Yl_fieldAddr0 rfl rfl rfl) rfl rfl ?_ | refine X_yl (Yl_pick_t rfl rfl rfl) rfl rfl ?_ | refine X_yl (Yl_pick_f rfl rfl rfl) rfl rfl ?_ | refine X_yl (Yl_not_t rfl rfl) rfl rfl ?_ | refine X_yl (Yl_len rfl rfl) rfl rfl ?_ | refine X_yl (Yl_eql_t rfl rfl rfl (by omega)) rfl rfl ?_ | refine X_yl (Yl_load rfl rfl hS.cell) rfl rfl ?_ | refine X_box rfl rfl rfl rfl hS (fun _ _ hS _ => ?_)) | (refine C_id ?_; first | refine C_seq ?_ | refine C_region ?_ | refine C_block ?_ | refine C_ret ?_ | refine C_cond_t rfl ?_ | refine C_cond_f rfl ?_) | (refine E_id ?_; first | refine E_code ?_ | refine E_then_ret ?_ | refine E_blk_ret ?_ | refine E_ret1 rfl (Rv_tmp rfl) (Ret.mk ?_)))
      exact ⟨rfl, hS.drops⟩
    · have h5 : 3 < l.length := h3.resolve_left fun e => h4 (by rw [e]; rfl)
      refine calls_C Tryz.func76 rfl Tryz.ntmps76 rfl ?_
      repeat (first | (refine G_id ?_; first | refine G_nil ?_ | refine G_plain rfl rfl ?_ | refine G_yes rfl rfl rfl rfl ?_) | (refine X_id ?_; first | (refine X_callq 126 rfl rfl rfl rfl rfl hS (hN1 _) ?_; rintro _ _ rfl hS) | (refine X_callq 126 rfl rfl rfl rfl rfl hS (hN2 _) ?_; rintro _ _ rfl hS) | refine X_yl (Yl_move rfl rfl) rfl rfl ?_ | refine X_yl (Yl_assign rfl rfl) rfl rfl ?_ | refine X_yl (Yl_fieldAddr0 rfl rfl rfl) rfl rfl ?_ | refine X_yl (Yl_pick_f rfl rfl rfl) rfl rfl ?_ | refine X_yl (Yl_not_t rfl rfl) rfl rfl ?_ | refine X_yl (Yl_len rfl rfl) rfl rfl ?_ | refine X_yl (Yl_eql_f rfl rfl rfl (by omega)) rfl rfl ?_ | refine X_yl (Yl_gtr_t rfl rfl rfl (by omega)) rfl rfl ?_ | refine X_yl (Yl_load rfl rfl hS.cell) rfl rfl ?_ | refine X_box rfl rfl rfl rfl hS (fun _ _ hS _ => ?_)) | (refine C_id ?_; first | refine C_seq ?_ | refine C_region ?_ | refine C_block ?_ | refine C_ret ?_ | refine C_cond_t rfl ?_ | refine C_cond_f rfl ?_) | (refine E_id ?_; first | refine E_code ?_ | refine E_then_ret ?_ | refine E_blk_ret ?_ | refine E_ret1 rfl (Rv_tmp rfl) (Ret.mk ?_)))
      exact ⟨rfl, hS.drops⟩
  rw [if_neg h3]
  have h4 : ¬ l.length = 0 := fun e => h3 (.inl (List.length_eq_zero_iff.1 e))
  have h5 : ¬ 3 < l.length := fun e => h3 (.inr e)
  refine calls_C Tryz.func76 rfl Tryz.ntmps76 rfl ?_
  repeat (first | (refine G_id ?_; first | refine G_nil ?_ | refine G_plain rfl rfl ?_ | refine G_yes rfl rfl rfl rfl ?_) | (refine X_id ?_; first | (refine X_callq 126 rfl rfl rfl rfl rfl hS (hN1 _) ?_; rintro _ _ rfl hS) | (refine X_callq 126 rfl rfl rfl rfl rfl hS (hN2 _) ?_; rintro _ _ rfl hS) | refine X_yl (Yl_move rfl rfl) rfl rfl ?_ | refine X_yl (Yl_assign rfl rfl) rfl rfl ?_ | refine X_yl (Yl_fieldAddr0 rfl rfl rfl) rfl rfl ?_ | refine X_yl (Yl_pick_f rfl rfl rfl) rfl rfl ?_ | refine X_yl (Yl_not_t rfl rfl) rfl rfl ?_ | refine X_yl (Yl_len rfl rfl) rfl rfl ?_ | refine X_yl (Yl_eql_f rfl rfl rfl (by omega)) rfl rfl ?_ | refine X_yl (Yl_gtr_f rfl rfl rfl (by omega)) rfl rfl ?_ | refine X_yl (Yl_load rfl rfl hS.cell) rfl rfl ?_ | refine X_box rfl rfl rfl rfl hS (fun _ _ hS _ => ?_)) | (refine C_id ?_; first | refine C_seq ?_ | refine C_region ?_ | refine C_block ?_ | refine C_skip ?_ | refine C_cond_f rfl ?_) | (refine E_id ?_; first | refine E_code ?_ | refine E_blk_n ?_))
  rename_i pb0 _ _ _ _ _ _
  refine C_joinB (α := Unit) (fun _ => [(2, .int .i64 0), (4, .bool (decide (ac ∈ l.map RevD.no)))]) (fun _ w => revsOk 0 l ∧ St W noF [] w) ?_ ?_
  · refine C_loop (α := Nat) (fun i => [(1, .pointer (some ⟨pb0, 0, none⟩)), (2, .int .i64 0), (3, .int .i64 (lastNo 0 (l.take i))), (4, .bool (decide (ac ∈ (l.take i).map RevD.no))), (30, .slice a l.length c), (31, .int .i64 (l.length : Nat)), (32, .int .i64 (i : Nat))])
      (fun i w => i ≤ l.length ∧ revsOk 0 (l.take i) ∧ St W noF [pts pb0 (.cells #[.string (str nm), .string (str pb), .int .i64 ac, .slice a l.length c] 62)] w) (fun i => l.length - i) 0 ⟨rfl, rfl, rfl, rfl, rfl, rfl, rfl, trivial⟩ ⟨Nat.zero_le _, by simp [revsOk], hS⟩ ?_
    clear hS
    rintro i w ⟨hi, hall, hS⟩
    by_cases hlt : i < l.length
    · have hx0 : l[i]? = some l[i] := List.getElem?_eq_getElem (by omega)
      generalize l[i] = x at hx0
      have hr := hro
      have hxl := hl x (List.mem_of_getElem? hx0)
      have hxs := rev_seg hl hx0
      have hR := fun b W => right_ x hxl b W
      have htk : l.take (i + 1) = l.take i ++ [x] := by rw [List.take_add_one, hx0]; rfl
      have hok : revsOk 0 (l.take (i + 1)) ↔ revsOk 0 (l.take i) ∧ rightR x (lastNo 0 (l.take i)) := by rw [htk, revsOk_app]; simp [revsOk]
      have hln : lastNo 0 (l.take (i + 1)) = x.no := by rw [htk, lastNo_snoc]
      have hac : decide (ac ∈ (l.take (i + 1)).map RevD.no) = (decide (ac ∈ (l.take i).map RevD.no) || decide (x.no = ac)) := by
        have e : (ac ∈ (l.take (i + 1)).map RevD.no) ↔ (ac ∈ (l.take i).map RevD.no ∨ x.no = ac) := by
          rw [htk, List.map_append, List.mem_append, List.map_cons, List.map_nil, List.mem_singleton]
          exact or_congr Iff.rfl eq_comm
        rw [decide_eq_decide.2 e]; exact Bool.decide_or _ _
      have hno : ¬ rightR x (lastNo 0 (l.take i)) → ¬ revsOk 0 l := fun hq h => hq (by
        have := (revsOk_app 0 (l.take (i + 1)) (l.drop (i + 1))).1 (by rw [List.take_append_drop]; exact h)
        exact (hok.1 this.1).2)
      replace hR := hR (lastNo 0 (l.take i))
      have hnext : rightR x (lastNo 0 (l.take i)) → revsOk 0 (l.take (i + 1)) := fun h => hok.2 ⟨hall, h⟩
      have hq0 : rightR x (lastNo 0 (l.take i)) ∨ ¬ rightR x (lastNo 0 (l.take i)) := Decidable.em _
      obtain ⟨no, sl, size⟩ := x
      obtain ⟨a0, a1, a2, a3, a4, a5, a6, a7, a8, a9, b0, b1, b2, b3, b4, b5, b6, b7, b8, b9, c0, c1, c2, c3, c4, c5, c6, c7, c8, c9, d0, d1, e⟩ := len32 hxl
      simp only at e
      subst e
      simp only [RevD.cells, bv, List.map_cons, List.map_nil, List.cons_append, List.nil_append] at hxs hR
      obtain ⟨xb, xo, rfl⟩ := (hr.rd hS).base (by intro e; rw [show l.flatMap RevD.cells = [] from e] at hxs; simp at hxs)
      rcases hq0 with hq | hq
      · rw [decide_eq_true hq] at hR
        cases hm : decide (ac ∈ (l.take i).map RevD.no) with
        | true =>
          rw [hm] at hac
          repeat (first | (refine G_id ?_; first | refine G_nil ?_ | refine G_plain rfl rfl ?_ | refine G_no rfl rfl rfl rfl rfl rfl ?_) | (refine X_id ?_; first | (refine X_callq 139 rfl rfl rfl rfl rfl hS (hR _) ?_; rintro _ _ rfl hS) | refine X_yl (Yl_move rfl rfl) rfl rfl ?_ | refine X_yl (Yl_assign rfl rfl) rfl rfl ?_ | refine X_yl (Yl_fieldAddr0 rfl rfl rfl) rfl rfl ?_ | refine X_yl (Yl_pick_t rfl rfl rfl) rfl rfl ?_ | refine X_yl (Yl_not_t rfl rfl) rfl rfl ?_ | refine X_yl (Yl_lss_t rfl rfl rfl (by omega)) rfl rfl ?_ | refine X_yl (Yl_indexAddr rfl rfl rfl (by omega) (by omega) (by first | assumption | exact ⟨_, _, rfl⟩)) rfl rfl ?_ | refine X_yl (Yl_add rfl rfl rfl (w64 (by omega) (by omega))) rfl rfl ?_ | refine X_yl (Yl_load rfl rfl hS.cell) rfl rfl ?_ | refine X_yl (Yl_loadN rfl rfl hS.cellsN) rfl rfl ?_ | refine X_yl (Yl_loadN rfl rfl ((hr.rd hS).cellsX (by omega) hxs rfl)) rfl rfl ?_ | refine X_storeAll rfl rfl rfl rfl hS (fun _ hS => ?_) | refine X_alloc rfl rfl rfl hS (fun _ _ hS _ => ?_)) | (refine C_id ?_; first | refine C_seq ?_ | refine C_region ?_ | refine C_block ?_ | refine C_skip ?_ | refine C_cond_t rfl ?_ | refine C_cond_f rfl ?_) | (refine E_id ?_; first | refine E_code ?_ | refine E_blk_n ?_))
          refine E_round (z := i) (i + 1) ⟨rfl, rfl, by rw [hln]; rfl, by rw [hac]; rfl, rfl, rfl, rfl, trivial⟩ ⟨by omega, hnext hq, hS.pick [1]⟩ (by omega)
        | false =>
          rw [hm] at hac
          repeat (first | (refine G_id ?_; first | refine G_nil ?_ | refine G_plain rfl rfl ?_ | refine G_yes rfl rfl rfl rfl ?_) | (refine X_id ?_; first | (refine X_callq 139 rfl rfl rfl rfl rfl hS (hR _) ?_; rintro _ _ rfl hS) | refine X_yl (Yl_move rfl rfl) rfl rfl ?_ | refine X_yl (Yl_assign rfl rfl) rfl rfl ?_ | refine X_yl (Yl_fieldAddr0 rfl rfl rfl) rfl rfl ?_ | refine X_yl (Yl_pick_f rfl rfl rfl) rfl rfl ?_ | refine X_yl (Yl_not_t rfl rfl) rfl rfl ?_ | refine X_yl (Yl_lss_t rfl rfl rfl (by omega)) rfl rfl ?_ | refine X_yl (Yl_eql rfl rfl rfl) rfl rfl ?_ | refine X_yl (Yl_indexAddr rfl rfl rfl (by omega) (by omega) (by first | assumption | exact ⟨_, _, rfl⟩)) rfl rfl ?_ | refine X_yl (Yl_add rfl rfl rfl (w64 (by omega) (by omega))) rfl rfl ?_ | refine X_yl (Yl_load rfl rfl hS.cell) rfl rfl ?_ | refine X_yl (Yl_loadN rfl rfl hS.cellsN) rfl rfl ?_ | refine X_yl (Yl_loadN rfl rfl ((hr.rd hS).cellsX (by omega) hxs rfl)) rfl rfl ?_ | refine X_storeAll rfl rfl rfl rfl hS (fun _ hS => ?_) | refine X_alloc rfl rfl rfl hS (fun _ _ hS _ => ?_)) | (refine C_id ?_; first | refine C_seq ?_ | refine C_region ?_ | refine C_block ?_ | refine C_skip ?_ | refine C_cond_t rfl ?_ | refine C_cond_f rfl ?_) | (refine E_id ?_; first | refine E_code ?_ | refine E_blk_n ?_))
          refine E_round (z := i) (i + 1) ⟨rfl, rfl, by rw [hln]; rfl, by rw [hac, Bool.false_or]; rfl, rfl, rfl, rfl, trivial⟩ ⟨by omega, hnext hq, hS.pick [1]⟩ (by omega)
      · rw [decide_eq_false hq] at hR
        rw [if_neg (hno hq)]
        repeat (first | (refine G_id ?_; first | refine G_nil ?_ | refine G_plain rfl rfl ?_) | (refine X_id ?_; first | (refine X_callq 139 rfl rfl rfl rfl rfl hS (hR _) ?_; rintro _ _ rfl hS) | refine X_yl (Yl_move rfl rfl) rfl rfl ?_ | refine X_yl (Yl_assign rfl rfl) rfl rfl ?_ | refine X_yl (Yl_not_f rfl rfl) rfl rfl ?_ | refine X_yl (Yl_lss_t rfl rfl rfl (by omega)) rfl rfl ?_ | refine X_yl (Yl_indexAddr rfl rfl rfl (by omega) (by omega) (by first | assumption | exact ⟨_, _, rfl⟩)) rfl rfl ?_ | refine X_yl (Yl_loadN rfl rfl hS.cellsN) rfl rfl ?_ | refine X_yl (Yl_loadN rfl rfl ((hr.rd hS).cellsX (by omega) hxs rfl)) rfl rfl ?_ | refine X_storeAll rfl rfl rfl rfl hS (fun _ hS => ?_) | refine X_alloc rfl rfl rfl hS (fun _ _ hS _ => ?_)) | (refine C_id ?_; first | refine C_seq ?_ | refine C_region ?_ | refine C_block ?_ | refine C_ret ?_ | refine C_skip ?_ | refine C_cond_t rfl ?_) | (refine E_id ?_; first | refine E_code ?_ | refine E_then_ret ?_ | refine E_blk_ret ?_ | refine E_ret1 rfl (Rv_tmp rfl) (Ret.mk ?_)))
        exact ⟨rfl, hS.drops⟩
    · obtain rfl : i = l.length := by omega
      rw [List.take_length] at hall ⊢
      repeat (first | (refine G_id ?_; first | refine G_nil ?_ | refine G_plain rfl rfl ?_) | (refine X_id ?_; first | refine X_yl (Yl_lss_f rfl rfl rfl (by omega)) rfl rfl ?_) | (refine C_id ?_; first | refine C_seq ?_ | refine C_region ?_ | refine C_exit ?_ | refine C_cond_f rfl ?_) | (refine E_id ?_; first | refine E_code ?_ | refine E_then_exit ?_ | refine E_blk_same ?_))
      exact E_mid () ⟨rfl, rfl, trivial⟩ ⟨hall, hS.drops⟩
  · clear hS
    rintro _ w ⟨hall, hS⟩
    rw [if_pos hall]
    by_cases hm : ac ∈ l.map RevD.no
    · rw [if_pos hm, decide_eq_true hm]
      repeat (first | (refine G_id ?_; first | refine G_nil ?_ | refine G_plain rfl rfl ?_) | (refine X_id ?_; first | refine X_yl (Yl_move rfl rfl) rfl rfl ?_ | refine X_yl (Yl_assign rfl rfl) rfl rfl ?_ | refine X_yl (Yl_not_t rfl rfl) rfl rfl ?_) | (refine C_id ?_; first | refine C_seq ?_ | refine C_region ?_ | refine C_ret ?_ | refine C_skip ?_ | refine C_cond_f rfl ?_) | (refine E_id ?_; first | refine E_code ?_ | refine E_ret1 rfl (Rv_tmp rfl) (Ret.mk ?_)))
      exact ⟨rfl, hS.drops⟩
    · rw [if_neg hm, decide_eq_false hm]
      repeat (first | (refine G_id ?_; first | refine G_nil ?_ | refine G_plain rfl rfl ?_) | (refine X_id ?_; first | refine X_yl (Yl_move rfl rfl) rfl rfl ?_ | refine X_yl (Yl_assign rfl rfl) rfl rfl ?_ | refine X_yl (Yl_not_f rfl rfl) rfl rfl ?_) | (refine C_id ?_; first | refine C_seq ?_ | refine C_region ?_ | refine C_ret ?_ | refine C_cond_t rfl ?_) | (refine E_id ?_; first | refine E_code ?_ | refine E_then_ret ?_ | refine E_ret1 rfl (Rv_tmp rfl) (Ret.mk ?_)))
      exact ⟨rfl, hS.drops⟩
end Cr
namespace Cr
open Go
theorem Yl_minC {P : Program} {o : Oper} {σ : Env} {w : World} {x y : Operand} {ts : Array TypeId} {m n T : Nat} (ho : o.op = .call { callee := .builtin .min, args := #[x, y], argTypes := ts }) (hx : ev σ x = some (.int .i64 (m : Nat))) (hy : ev σ y = some (.int .i64 (n : Nat))) (hT : min m n = T) : Yl P o σ w (.int .i64 (T : Nat)) := ⟨fun N ds a ha => by
  simp [execOp, ho, resolve, invoke, builtin, ha.eval hx, ha.eval hy, Builtin.min_, Builtin.min2]
  rw [← hT]
  split <;> omega⟩
end Cr
namespace Cr
open Go Go.Proofs
set_option maxRecDepth 100000
set_option maxHeartbeats 4000000
attribute [local irreducible] Calls

theorem cut10_ (s : List UInt8) (W : World) : Calls Tryz.prog 79 #[.string (str s)] W (Ret fun v w => v = .string (str (s.take 40)) ∧ St W noF [] w) := by
  obtain ⟨T, hT⟩ : ∃ T, min s.length 40 = T := ⟨_, rfl⟩
  have hz := str_size s
  have hS := St.start W
  refine calls_C Tryz.func79 rfl Tryz.ntmps79 rfl ?_
  repeat (first | (refine G_id ?_; first | refine G_nil ?_ | refine G_plain rfl rfl ?_) | (refine X_id ?_; first | refine X_yl (Yl_move rfl rfl) rfl rfl ?_ | refine X_yl (Yl_assign rfl rfl) rfl rfl ?_ | refine X_yl (Yl_len_str rfl rfl) rfl rfl ?_) | (refine C_id ?_; first | refine C_seq ?_ | refine C_region ?_) | (refine E_id ?_; first | refine E_code ?_))
  refine X_yl (Yl_minC (m := (str s).size) (n := 40) (T := T) rfl rfl rfl (by rw [hz]; exact hT)) rfl rfl ?_
  repeat (first | (refine G_id ?_; first | refine G_nil ?_ | refine G_plain rfl rfl ?_) | (refine X_id ?_; first | refine X_yl (Yl_assign rfl rfl) rfl rfl ?_ | refine X_yl (Yl_sliceStr rfl rfl rfl rfl (.inr ⟨_, _, rfl, by omega, rfl, by omega⟩) (.inl ⟨rfl, rfl⟩)) rfl rfl ?_) | (refine C_id ?_; first | refine C_ret ?_) | (refine E_id ?_; first | refine E_code ?_ | refine E_ret1 rfl (Rv_tmp rfl) (Ret.mk ?_)))
  refine ⟨?_, hS⟩
  rw [List.drop_zero, Nat.sub_zero, Int.toNat_natCast, ← hT]
  congr 2
  rw [Nat.min_comm, ← List.take_eq_take_min]
theorem toConn_ (a b c d e : List UInt8) (W : World) : Calls Tryz.prog 24 #[.agg #[.string (str a), .string (str b), .string (str c), .string (str d), .string (str e)]] W
    (Ret fun v w => v = .agg #[.string (str (a.take 40)), .string (str (b.take 40)), .string (str (c.take 40)), .string (str (d.take 40)), .string (str (e.take 40))] ∧ St W noF [] w) := by
  have hS := St.start W
  have C1 := fun W => cut10_ a W
  have C2 := fun W => cut10_ b W
  have C3 := fun W => cut10_ c W
  have C4 := fun W => cut10_ d W
  have C5 := fun W => cut10_ e W
  refine calls_C Tryz.func24 rfl Tryz.ntmps24 rfl ?_
  repeat (first | (refine G_id ?_; first | refine G_nil ?_ | refine G_plain rfl rfl ?_) | (refine X_id ?_; first | refine X_box rfl rfl rfl rfl hS (fun _ _ hS _ => ?_) | refine X_alloc rfl rfl rfl hS (fun _ _ hS _ => ?_)) | (refine C_id ?_; first | refine C_seq ?_ | refine C_region ?_) | (refine E_id ?_; first | refine E_code ?_))
  refine C_ord (.s 0 (.s 1 (.s 2 (.s 4 (.s 5 (.s 6 (.s 9 (.s 10 (.s 11 (.s 13 (.s 14 (.s 15 (.s 18 (.s 19 (.h 3 (.h 7 (.s 8 (.h 12 (.h 16 (.s 17 (.h 20 (.s 21 (.h 22 .nil .no)) .no)) .no) .no)) .no) .no))))))))))))))) mixed (by kernel_rfl) rfl ?_
  have hS := hS.drew
  repeat (first | (refine X_id ?_; first | (refine X_callq 79 rfl rfl rfl rfl rfl hS (C1 _) ?_; rintro _ _ rfl hS) | (refine X_callq 79 rfl rfl rfl rfl rfl hS (C2 _) ?_; rintro _ _ rfl hS) | (refine X_callq 79 rfl rfl rfl rfl rfl hS (C3 _) ?_; rintro _ _ rfl hS) | (refine X_callq 79 rfl rfl rfl rfl rfl hS (C4 _) ?_; rintro _ _ rfl hS) | (refine X_callq 79 rfl rfl rfl rfl rfl hS (C5 _) ?_; rintro _ _ rfl hS) | refine X_store rfl rfl rfl rfl hS (fun _ hS _ => ?_)) | (refine C_id ?_; first | refine C_ret ?_) | (refine E_id ?_; first | refine E_code ?_ | refine E_ret1 rfl (by first | exact Rv_tmp rfl | exact Rv_cell rfl (run_load1 hS.cell) | exact Rv_cell rfl (run_loadN hS.cellsN)) (Ret.mk ?_)) | (refine GO_id ?_; first | refine GO_nil ?_ | refine GO_pure rfl rfl (fun _ => Yl_fieldAddr0 rfl rfl rfl) rfl rfl ?_ | refine GO_pure rfl rfl (fun _ => Yl_build rfl rfl rfl) rfl rfl ?_ | refine GO_pure rfl rfl (fun _ => Yl_indexAddr_arr rfl rfl rfl (by omega) (by omega)) rfl rfl ?_ | refine GO_read (fun w' => w'.cell? _ = some _) rfl rfl hS.cell (fun _ hc => Yl_load rfl rfl hc) rfl rfl ?_ | refine GO_hard rfl rfl ?_ | refine GO_pure rfl rfl (fun _ => Yl_buildArr rfl rfl rfl rfl rfl) rfl rfl ?_ | refine GO_read (fun w' => w'.cell? _ = some _) rfl rfl (hS.cellO 0 (by omega)) (fun _ hc => Yl_load rfl rfl hc) rfl rfl ?_ | refine GO_read (fun w' => w'.cell? _ = some _) rfl rfl (hS.cellO 1 (by omega)) (fun _ hc => Yl_load rfl rfl hc) rfl rfl ?_ | refine GO_read (fun w' => w'.cell? _ = some _) rfl rfl (hS.cellO 2 (by omega)) (fun _ hc => Yl_load rfl rfl hc) rfl rfl ?_ | refine GO_read (fun w' => w'.cell? _ = some _) rfl rfl (hS.cellO 3 (by omega)) (fun _ hc => Yl_load rfl rfl hc) rfl rfl ?_) | (refine Keep_id ?_; first | refine And.intro (by repeat (first | exact trivial | refine And.intro (.inl (by decide +kernel)) ?_ | refine And.intro (.inr (by first | assumption | exact hS.cell | exact cell_at (by assumption) | exact hS.cellI (by omega) | exact hS.cellIP (by omega) | exact hS.cellsN | exact ((hr.rd hS).cellX (by omega) hx) | exact ((hr2.rd hS).cellX (by omega) hx2) | exact hS.cellB (by omega) | exact hS.cellBA (by omega) | exact (hb.rd hS).cellB' (by omega) | exact (hb2.rd hS).cellB' (by omega) | exact (hg.rd hS).cellI (by omega) | exact (hg2.rd hS).cellI (by omega) | exact ((hr.rd hS).cellF (by first | omega | (dsimp only; omega)) hx) | exact ((hr2.rd hS).cellF (by first | omega | (dsimp only; omega)) hx2) | exact hS.cellO 0 (by omega) | exact hS.cellO 1 (by omega) | exact hS.cellIA (by omega) | exact (hg.rd hS).cellIA (by omega) | exact (hg2.rd hS).cellIA (by omega) | exact cell_at (hc.rd hS).pts | exact hb.rd hS | exact hS.cellO 4 (by omega) | exact hS.cellO 5 (by omega) | exact hS.cellO 6 (by omega) | exact hS.cellO 7 (by omega) | exact hS.cellO 8 (by omega) | exact hS.cellO 9 (by omega) | exact hS.cellO 10 (by omega) | exact hS.cellO 11 (by omega) | exact hS.cellO 12 (by omega) | exact hS.cellO 13 (by omega) | exact hS.cellO 2 (by omega) | exact hS.cellO 3 (by omega))) ?_)) ?_))
  exact ⟨rfl, hS.drops⟩
end Cr
