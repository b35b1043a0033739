/-
  Package command: a command's value: its leaves.
  Package command: the command that a value says.
  Package command: the command that a list says whose first value is a text.
  Arrays of strings, structs of strings and numbers, errors that may be nil: compared. Over any program.
  Pairs of texts and records compared, as package command compares them.
  Package command: are two commands the same?
  Package codec: a reader takes a byte; a reader takes digits.
  Package codec: a reader takes the digits that come.
-/
import Derived.Test.YtkdolbmcnekeoaaDoorCrd4
import Derived.Test.YtkdolbmcnekeoaaDoorCrd2
import Derived.Laws.StructEq
import Derived.Test.YtkdolbmcnekeoaaDoorCrd3
import Derived.KernelRfl
namespace Cr
open Go Go.Proofs
set_option maxRecDepth 100000
set_option maxHeartbeats 8000000
attribute [local irreducible] Calls

instance : Cell1 z0 := ⟨rfl⟩
/-- No text is too long. -/
def Cmd.small (c : Cmd) : Prop := c.word.length ≤ 1073741824 ∧ c.arch.length ≤ 1073741824 ∧ ∀ o, (c.s o).length ≤ 1073741824
theorem leaf_small {c : Cmd} (h : c.small) : ∀ x ∈ c.leaves, ∀ b, x = .txt b → b.length ≤ 1073741824 := by
  intro x hx b hb
  unfold Cmd.leaves at hx
  rcases List.mem_cons.1 hx with rfl | hx
  · injection hb with hb; rw [← hb]; exact h.1
  · obtain ⟨p, _, rfl⟩ := List.mem_map.1 hx
    cases p with
    | t o => injection hb with hb; rw [← hb]; exact h.2.2 o
    | b => injection hb with hb; rw [← hb]; exact h.2.1
    | n o => cases hb
theorem leaves_oth (c : Cmd) : Leaf.oth ∉ c.leaves := by
  unfold Cmd.leaves
  rw [List.mem_cons, List.mem_map]
  rintro (h | ⟨p, _, h⟩)
  · cases h
  · cases p <;> cases h
theorem flatMap_seg {α : Type} {f : α → List Value} {n : Nat} (hf : ∀ x, (f x).length = n) : ∀ {l : List α} {i : Nat} {x : α}, l[i]? = some x → ((l.flatMap f).drop (i * n)).take n = f x
  | [], _, _, h => by cases h
  | y :: l, i, x, h => by
    cases i with
    | zero =>
      obtain rfl : y = x := by simpa using h
      rw [List.flatMap_cons, Nat.zero_mul, List.drop_zero, ← hf y, List.take_left]
    | succ i =>
      have ih := flatMap_seg hf (l := l) (i := i) (x := x) (by simpa using h)
      rw [List.flatMap_cons, List.drop_append, hf, show (i + 1) * n - n = i * n by rw [Nat.succ_mul]; omega, List.drop_of_length_le (by rw [hf, Nat.succ_mul]; omega), List.nil_append]
      exact ih
theorem ptv_len (pc pb : Nat) (p : Pt) : (ptv pc pb p).length = 3 := by cases p <;> rfl
theorem partsW_ok {w : List UInt8} : ∀ p ∈ partsW w, p.ok := by
  unfold partsW
  split
  · exact parts_ok
  · intro p hp; cases hp
theorem cells_s {c : Cmd} {ar : Value} {o : Nat} (h : Pt.ok (.t o)) : (c.cells ar)[o]? = some (.string (str (c.s o))) := by
  have h : o = 1 ∨ o = 2 ∨ o = 4 ∨ o = 5 ∨ o = 6 ∨ o = 7 ∨ o = 8 ∨ o = 9 ∨ o = 10 := h
  rcases h with rfl | rfl | rfl | rfl | rfl | rfl | rfl | rfl | rfl <;> rfl
theorem cells_n {c : Cmd} {ar : Value} {o : Nat} (h : Pt.ok (.n o)) : (c.cells ar)[o]? = some (.int .i64 (c.n o)) := by
  have h : o = 12 ∨ o = 13 := h
  rcases h with rfl | rfl <;> rfl
theorem row_of_pts {b : Nat} {l : List Value} {T : TypeId} : ∀ h, pts b (.cells l.toArray T (0, 0)) h → row (some ⟨b, 0, none⟩) l h := fun _ hg => .inr ⟨b, 0, l.toArray, T, (0, 0), rfl, hg, fun j v hv => by simpa using hv⟩
theorem Ro.pts_row {W : World} {F : Nat → Prop} {b : Nat} {l : List Value} {T : TypeId} (H : Ro W F (pts b (.cells l.toArray T (0, 0)))) : Ro W F (row (some ⟨b, 0, none⟩) l) := H.mono fun h hh => ⟨h, row_of_pts h hh, fun _ _ e => e⟩
theorem partsW_len (w : List UInt8) : (partsW w).length ≤ 4 := by
  unfold partsW
  split
  · rename_i k h
    have := sort_lt h
    match k, this with
    | 0, _ | 1, _ | 2, _ | 3, _ | 4, _ | 5, _ => decide
  · simp
theorem value_m (c : Cmd) (aa : Option Addr) (cc : Nat) (W : World) (hb : Ro W noF (bytes aa c.arch)) (hs : c.small) :
    Calls Tryd.prog 27 #[.agg (c.cells (.slice aa c.arch.length cc)).toArray] W (Ret fun v w => ∃ b q, v = .tuple #[.agg (List.toArray [.int .i64 2, .int .i64 0, z0, .slice b c.leaves.length q]), .bool (isWord c.word)] ∧ St W noF [listR b c.leaves] w) := by
  have hS := St.start W
  refine calls_C Tryd.func27 rfl Tryd.ntmps27 rfl ?_
  repeat (first | (refine G_id ?_; first | refine G_nil ?_ | refine G_plain rfl rfl ?_) | (refine X_id ?_; first | refine X_yl (Yl_assign rfl rfl) rfl rfl ?_ | refine X_yl (Yl_fieldAddr0 rfl rfl rfl) rfl rfl ?_ | refine X_yl (Yl_load rfl rfl hS.cell) rfl rfl ?_ | refine X_store rfl rfl rfl rfl hS (fun _ hS _ => ?_) | refine X_box rfl rfl rfl rfl hS (fun _ _ hS _ => ?_) | refine X_alloc rfl rfl rfl hS (fun _ _ hS _ => ?_) | refine X_yl (Yl_bytesStr rfl rfl (hb.rd hS) rfl) rfl rfl ?_) | (refine C_id ?_; first | refine C_seq ?_ | refine C_region ?_) | (refine E_id ?_; first | refine E_code ?_))
  rename_i pc _ _ _ t2 _ _ _ pb _ _ _ _ _
  refine X_callg _ rfl rfl rfl rfl rfl (parts_ pc pb c (.slice aa c.arch.length cc) _ (hS.rd (by simp))) ?_
  rintro _ w ⟨pa, pq, rfl, hpq, hS'⟩
  replace hS := hS.plus hS'
  clear hS'
  repeat (first | (refine G_id ?_; first | refine G_nil ?_ | refine G_plain rfl rfl ?_) | (refine X_id ?_; first | refine X_yl (Yl_move rfl rfl) rfl rfl ?_ | refine X_yl (Yl_assign rfl rfl) rfl rfl ?_ | refine X_yl (Yl_fieldAddr0 rfl rfl rfl) rfl rfl ?_ | refine X_yl (Yl_extract rfl rfl) rfl rfl ?_ | refine X_yl (Yl_load rfl rfl hS.cell) rfl rfl ?_) | (refine C_id ?_; first | refine C_seq ?_ | refine C_region ?_) | (refine E_id ?_; first | refine E_code ?_))
  refine X_callg _ rfl rfl rfl rfl rfl (text_ c.word _) ?_
  rintro _ w ⟨tb, tc, rfl, hS'⟩
  replace hS := hS.plus hS'
  clear hS'
  repeat (first | (refine G_id ?_; first | refine G_plain rfl rfl ?_) | (refine X_id ?_; first | refine X_buildSlice rfl rfl rfl rfl rfl rfl rfl rfl hS (fun _ _ hS _ => ?_)))
  have hlf := (hS.rd (r := leafR (.txt c.word) [.int .i64 1, .int .i64 0, .slice tb c.word.length tc, z0]) (by simp)).ro.leaf
  have hrw := (hS.rd (List.mem_cons_self ..)).own_row.ro
  refine X_callg _ rfl rfl rfl rfl rfl (of_ _ [.txt c.word] _ [[.int .i64 1, .int .i64 0, .slice tb c.word.length tc, z0]] _ hrw ⟨rfl, fun i y hy => ?_⟩ (by simp) (fun b hb => ?_) (by simp)) ?_
  · cases i with
    | zero =>
      obtain rfl : Leaf.txt c.word = y := by simpa using hy
      exact ⟨_, rfl, hlf⟩
    | succ i => cases hy
  · obtain rfl : b = c.word := by simpa using hb
    exact hs.1
  rintro _ w ⟨b, q, rows', rfl, hnq, hrl, hS'⟩
  replace hS := hS.plus hS'
  clear hS'
  repeat (first | (refine G_id ?_; first | refine G_nil ?_ | refine G_plain rfl rfl ?_) | (refine X_id ?_; first | refine X_yl (Yl_move rfl rfl) rfl rfl ?_ | refine X_yl (Yl_len rfl rfl) rfl rfl ?_ | refine X_store rfl rfl rfl rfl hS (fun _ hS _ => ?_) | refine X_alloc rfl rfl rfl hS (fun _ _ hS _ => ?_)) | (refine C_id ?_; first | refine C_seq ?_ | refine C_region ?_ | refine C_block ?_) | (refine E_id ?_; first | refine E_code ?_))
  rename_i t7 _ _ _ _ _
  have hS := hS.pick [0, 0, 0, 4, 2, 2, 2]
  replace hS : St W noF [pts t7 (.cells (List.toArray [.int .i64 2, .int .i64 0, z0, .slice b 1 q]) 61 (0, 0)), own 61 4 b q rows'.flatten, leavesR [Leaf.txt c.word] rows', pts t2 (.cells (List.toArray [.int .i64 0, .int .i64 0, .slice none 0 0, .slice none 0 0]) 61 (0, 0)), own 93 3 pa pq ((partsW c.word).flatMap (ptv pc pb)), pts pb (.cells (List.toArray [.string (str c.arch)]) 9 (0, 0)), pts pc (.cells (c.cells (.slice aa c.arch.length cc)).toArray 30 (0, 0))] _ := hS
  obtain ⟨F2, hS2, hro, _, hbk⟩ := hS.call [true, true, true, true]
  have hparts := (hro _ (List.mem_cons_self ..)).own_row
  have hpb := hro _ (List.mem_cons_of_mem _ (List.mem_cons_self ..))
  have hpc := hro _ (List.mem_cons_of_mem _ (List.mem_cons_of_mem _ (List.mem_cons_self ..)))
  clear hS hro
  have hn4 := partsW_len c.word
  obtain ⟨ps, hps⟩ : ∃ ps, ps = partsW c.word := ⟨_, rfl⟩
  have hok : ∀ p ∈ ps, p.ok := by rw [hps]; exact partsW_ok
  have hlv : c.leaves = .txt c.word :: ps.map c.leaf := by rw [hps]; rfl
  rw [hlv]
  simp only [← hps] at hparts hbk hn4 ⊢
  refine C_loop (α := Nat × Option Addr × Nat) (fun z => [(2, .pointer (some ⟨t2, 0, none⟩)), (6, .bool (isWord c.word)), (7, .pointer (some ⟨t7, 0, none⟩)), (22, .slice pa ps.length pq), (23, .int .i64 (ps.length : Nat)), (24, .int .i64 (z.1 : Nat))])
    (fun z w => z.1 ≤ ps.length ∧ z.1 + 1 ≤ z.2.2 ∧ ∃ rows', rows'.flatten.length = (z.1 + 1) * 4 ∧ St _ F2 [pts t7 (.cells (List.toArray [.int .i64 2, .int .i64 0, z0, .slice z.2.1 (z.1 + 1) z.2.2]) 61 (0, 0)), own 61 4 z.2.1 z.2.2 rows'.flatten, leavesR (.txt c.word :: (ps.take z.1).map c.leaf) rows', pts t2 (.cells (List.toArray [.int .i64 0, .int .i64 0, .slice none 0 0, .slice none 0 0]) 61 (0, 0))] w)
    (fun z => ps.length - z.1) (0, b, q) ⟨rfl, rfl, rfl, rfl, rfl, rfl, trivial⟩ ⟨Nat.zero_le _, hnq, rows', hrl, hS2⟩ ?_
  clear hS2 hrl hnq
  rintro ⟨i, b, q⟩ w ⟨hi, hiq, rows', hrl, hS2⟩
  simp only at hi hiq hrl hS2
  by_cases hlt : i < ps.length
  · obtain ⟨p, hp⟩ : ∃ p, ps[i]? = some p := ⟨_, List.getElem?_eq_getElem hlt⟩
    have hpok := hok p (List.mem_of_getElem? hp)
    have hxs := flatMap_seg (ptv_len pc pb) hp
    have hr := hparts
    have htk : (ps.take (i + 1)).map c.leaf = (ps.take i).map c.leaf ++ [c.leaf p] := by
      rw [List.take_add_one, hp]; simp
    obtain ⟨pab, pao, rfl⟩ := hr.start.base (by
      intro e
      rw [e] at hxs
      have := congrArg List.length hxs
      rw [ptv_len] at this
      simp at this)
    have hS := hS2
    cases p with
    | t o =>
      have hr2 := hpc.pts_row
      have hx2 := cells_s (c := c) (ar := .slice aa c.arch.length cc) hpok
      simp only [ptv] at hxs
      repeat (first | (refine G_id ?_; first | refine G_nil ?_ | refine G_plain rfl rfl ?_) | (refine X_id ?_; first | refine X_yl (Yl_fieldAddr0 rfl rfl rfl) rfl rfl ?_ | refine X_yl (Yl_lss_t rfl rfl rfl (by omega)) rfl rfl ?_ | refine X_yl (Yl_indexAddr rfl rfl rfl (by omega) (by omega) (by first | assumption | exact ⟨_, _, rfl⟩)) rfl rfl ?_ | refine X_yl (Yl_load rfl rfl hS.cell) rfl rfl ?_ | refine X_yl (Yl_loadN rfl rfl ((hr.rd hS).cellsX (by omega) hxs rfl)) rfl rfl ?_ | refine X_store rfl rfl rfl rfl hS (fun _ hS _ => ?_) | refine X_alloc rfl rfl rfl hS (fun _ _ hS _ => ?_)) | (refine C_id ?_; first | refine C_seq ?_ | refine C_region ?_ | refine C_block ?_ | refine C_skip ?_ | refine C_cond_t rfl ?_) | (refine E_id ?_; first | refine E_code ?_))
      refine C_ord (.s 0 (.s 1 (.s 2 (.s 3 (.s 4 (.s 5 (.h 6 (.h 7 (.h 8 (.s 9 (.h 10 .nil .no)) .no) .no) .no))))))) mixed (by kernel_rfl) rfl ?_
      have hS := hS.drew
      repeat (first | (refine GO_id ?_; first | refine GO_pure rfl rfl (fun _ => Yl_nilCheck rfl rfl) rfl rfl ?_ | refine GO_pure rfl rfl (fun _ => Yl_fieldAddr0 rfl rfl rfl) rfl rfl ?_ | refine GO_read (fun w' => w'.cell? _ = some _) rfl rfl hS.cell (fun _ hc => Yl_load rfl rfl hc) rfl rfl ?_ | refine GO_hard rfl rfl ?_ | refine GO_read (fun w' => w'.cell? _ = some _) rfl rfl ((hr2.rd hS).cellF (by first | omega | (dsimp only; omega)) hx2) (fun _ hc => Yl_load rfl rfl hc) rfl rfl ?_))
      refine X_callg _ rfl rfl rfl rfl rfl (text_ (c.s o) _) ?_
      rintro _ w ⟨tb', tc', rfl, hS'⟩
      replace hS := hS.plus hS'
      clear hS'
      repeat (first | (refine X_id ?_; first | refine X_buildSlice rfl rfl rfl rfl rfl rfl rfl rfl hS (fun _ _ hS _ => ?_)) | (refine GO_id ?_; first | refine GO_hard rfl rfl ?_) | (refine Keep_id ?_; first | refine And.intro (by repeat (first | exact trivial | refine And.intro (.inl (by decide +kernel)) ?_ | refine And.intro (.inr (by first | assumption | exact hS.cell | exact cell_at (by assumption) | exact hS.cellI (by omega) | exact hS.cellIP (by omega) | exact hS.cellsN | exact ((hr.rd hS).cellX (by omega) hx) | exact ((hr2.rd hS).cellX (by omega) hx2) | exact hS.cellB (by omega) | exact hS.cellBA (by omega) | exact (hb.rd hS).cellB' (by omega) | exact (hb2.rd hS).cellB' (by omega) | exact (hg.rd hS).cellI (by omega) | exact (hg2.rd hS).cellI (by omega) | exact ((hr.rd hS).cellF (by first | omega | (dsimp only; omega)) hx) | exact ((hr2.rd hS).cellF (by first | omega | (dsimp only; omega)) hx2) | exact hS.cellO 0 (by omega) | exact hS.cellO 1 (by omega) | exact hS.cellIA (by omega) | exact (hg.rd hS).cellIA (by omega) | exact (hg2.rd hS).cellIA (by omega) | exact cell_at (hc.rd hS).pts | exact hb.rd hS)) ?_)) ?_))
      have hnw := (hS.rd (List.mem_cons_self ..)).own_row
      refine X_append rfl rfl rfl rfl rfl hS hrl hiq hnw rfl (by simp [Value.oneCell', z0]) (by first | omega | (dsimp only; omega)) (by simp only [maxLen]; omega) (fun b' q' w hS hq' _ => ?_)
      repeat (first | (refine G_id ?_; first | refine G_nil ?_ | refine G_plain rfl rfl ?_) | (refine X_id ?_; first | refine X_yl (Yl_move rfl rfl) rfl rfl ?_ | refine X_yl (Yl_add rfl rfl rfl (w64 (by omega) (by omega))) rfl rfl ?_ | refine X_store rfl rfl rfl rfl hS (fun _ hS _ => ?_)) | (refine C_id ?_; first | refine C_region ?_) | (refine E_id ?_; first | refine E_code ?_ | refine E_blk_n ?_) | (refine GO_id ?_; first | refine GO_nil ?_ | refine GO_pure rfl rfl (fun _ => Yl_fieldAddr0 rfl rfl rfl) rfl rfl ?_ | refine GO_hard rfl rfl ?_) | (refine Keep_id ?_; first | refine And.intro (by repeat (first | exact trivial | refine And.intro (.inl (by decide +kernel)) ?_ | refine And.intro (.inr (by first | assumption | exact hS.cell | exact cell_at (by assumption) | exact hS.cellI (by omega) | exact hS.cellIP (by omega) | exact hS.cellsN | exact ((hr.rd hS).cellX (by omega) hx) | exact ((hr2.rd hS).cellX (by omega) hx2) | exact hS.cellB (by omega) | exact hS.cellBA (by omega) | exact (hb.rd hS).cellB' (by omega) | exact (hb2.rd hS).cellB' (by omega) | exact (hg.rd hS).cellI (by omega) | exact (hg2.rd hS).cellI (by omega) | exact ((hr.rd hS).cellF (by first | omega | (dsimp only; omega)) hx) | exact ((hr2.rd hS).cellF (by first | omega | (dsimp only; omega)) hx2) | exact hS.cellO 0 (by omega) | exact hS.cellO 1 (by omega) | exact hS.cellIA (by omega) | exact (hg.rd hS).cellIA (by omega) | exact (hg2.rd hS).cellIA (by omega) | exact cell_at (hc.rd hS).pts | exact hb.rd hS)) ?_)) ?_))
      refine E_round (z := (i, b, q)) (i + 1, b', q') ⟨rfl, rfl, rfl, rfl, rfl, rfl, trivial⟩ ⟨hlt, hq', rows' ++ [[.int .i64 1, .int .i64 0, .slice tb' (c.s o).length tc', z0]], by simp [hrl]; omega, ?_⟩ (by dsimp only; omega)
      simp only
      rw [htk]
      have hS : St _ F2 [leavesR (.txt c.word :: (ps.take i).map c.leaf) rows', leafR (.txt (c.s o)) [.int .i64 1, .int .i64 0, .slice tb' (c.s o).length tc', z0], own 61 4 b' q' (rows'.flatten ++ [.int .i64 1, .int .i64 0, .slice tb' (c.s o).length tc', z0]),
        pts t7 (.cells (List.toArray [.int .i64 2, .int .i64 0, z0, .slice b' (i + 1 + 1) q']) 61 (0, 0)), pts t2 (.cells (List.toArray [.int .i64 0, .int .i64 0, .slice none 0 0, .slice none 0 0]) 61 (0, 0))] _ := hS.took
      have hS := hS.leaves_snoc
      have hS := hS.head (r' := leavesR (.txt c.word :: ((ps.take i).map c.leaf ++ [c.leaf (.t o)])) _) (fun _ h => h)
      rw [List.flatten_append, List.flatten_cons, List.flatten_nil, List.append_nil]
      exact hS.took
    | b =>
      have hr2 := hpb.pts_row
      have hx2 : ([.string (str c.arch)] : List Value)[0]? = some (.string (str c.arch)) := rfl
      simp only [ptv] at hxs
      repeat (first | (refine G_id ?_; first | refine G_nil ?_ | refine G_plain rfl rfl ?_) | (refine X_id ?_; first | refine X_yl (Yl_fieldAddr0 rfl rfl rfl) rfl rfl ?_ | refine X_yl (Yl_lss_t rfl rfl rfl (by omega)) rfl rfl ?_ | refine X_yl (Yl_indexAddr rfl rfl rfl (by omega) (by omega) (by first | assumption | exact ⟨_, _, rfl⟩)) rfl rfl ?_ | refine X_yl (Yl_load rfl rfl hS.cell) rfl rfl ?_ | refine X_yl (Yl_loadN rfl rfl ((hr.rd hS).cellsX (by omega) hxs rfl)) rfl rfl ?_ | refine X_store rfl rfl rfl rfl hS (fun _ hS _ => ?_) | refine X_alloc rfl rfl rfl hS (fun _ _ hS _ => ?_)) | (refine C_id ?_; first | refine C_seq ?_ | refine C_region ?_ | refine C_block ?_ | refine C_skip ?_ | refine C_cond_t rfl ?_) | (refine E_id ?_; first | refine E_code ?_))
      refine C_ord (.s 0 (.s 1 (.s 2 (.s 3 (.s 4 (.s 5 (.h 6 (.h 7 (.h 8 (.s 9 (.h 10 .nil .no)) .no) .no) .no))))))) mixed (by kernel_rfl) rfl ?_
      have hS := hS.drew
      repeat (first | (refine GO_id ?_; first | refine GO_pure rfl rfl (fun _ => Yl_nilCheck rfl rfl) rfl rfl ?_ | refine GO_pure rfl rfl (fun _ => Yl_fieldAddr0 rfl rfl rfl) rfl rfl ?_ | refine GO_read (fun w' => w'.cell? _ = some _) rfl rfl hS.cell (fun _ hc => Yl_load rfl rfl hc) rfl rfl ?_ | refine GO_hard rfl rfl ?_ | refine GO_read (fun w' => w'.cell? _ = some _) rfl rfl ((hr2.rd hS).cellF (by first | omega | (dsimp only; omega)) hx2) (fun _ hc => Yl_load rfl rfl hc) rfl rfl ?_))
      refine X_callg _ rfl rfl rfl rfl rfl (text_ c.arch _) ?_
      rintro _ w ⟨tb', tc', rfl, hS'⟩
      replace hS := hS.plus hS'
      clear hS'
      repeat (first | (refine X_id ?_; first | refine X_buildSlice rfl rfl rfl rfl rfl rfl rfl rfl hS (fun _ _ hS _ => ?_)) | (refine GO_id ?_; first | refine GO_hard rfl rfl ?_) | (refine Keep_id ?_; first | refine And.intro (by repeat (first | exact trivial | refine And.intro (.inl (by decide +kernel)) ?_ | refine And.intro (.inr (by first | assumption | exact hS.cell | exact cell_at (by assumption) | exact hS.cellI (by omega) | exact hS.cellIP (by omega) | exact hS.cellsN | exact ((hr.rd hS).cellX (by omega) hx) | exact ((hr2.rd hS).cellX (by omega) hx2) | exact hS.cellB (by omega) | exact hS.cellBA (by omega) | exact (hb.rd hS).cellB' (by omega) | exact (hb2.rd hS).cellB' (by omega) | exact (hg.rd hS).cellI (by omega) | exact (hg2.rd hS).cellI (by omega) | exact ((hr.rd hS).cellF (by first | omega | (dsimp only; omega)) hx) | exact ((hr2.rd hS).cellF (by first | omega | (dsimp only; omega)) hx2) | exact hS.cellO 0 (by omega) | exact hS.cellO 1 (by omega) | exact hS.cellIA (by omega) | exact (hg.rd hS).cellIA (by omega) | exact (hg2.rd hS).cellIA (by omega) | exact cell_at (hc.rd hS).pts | exact hb.rd hS)) ?_)) ?_))
      have hnw := (hS.rd (List.mem_cons_self ..)).own_row
      refine X_append rfl rfl rfl rfl rfl hS hrl hiq hnw rfl (by simp [Value.oneCell', z0]) (by first | omega | (dsimp only; omega)) (by simp only [maxLen]; omega) (fun b' q' w hS hq' _ => ?_)
      repeat (first | (refine G_id ?_; first | refine G_nil ?_ | refine G_plain rfl rfl ?_) | (refine X_id ?_; first | refine X_yl (Yl_move rfl rfl) rfl rfl ?_ | refine X_yl (Yl_add rfl rfl rfl (w64 (by omega) (by omega))) rfl rfl ?_ | refine X_store rfl rfl rfl rfl hS (fun _ hS _ => ?_)) | (refine C_id ?_; first | refine C_region ?_) | (refine E_id ?_; first | refine E_code ?_ | refine E_blk_n ?_) | (refine GO_id ?_; first | refine GO_nil ?_ | refine GO_pure rfl rfl (fun _ => Yl_fieldAddr0 rfl rfl rfl) rfl rfl ?_ | refine GO_hard rfl rfl ?_) | (refine Keep_id ?_; first | refine And.intro (by repeat (first | exact trivial | refine And.intro (.inl (by decide +kernel)) ?_ | refine And.intro (.inr (by first | assumption | exact hS.cell | exact cell_at (by assumption) | exact hS.cellI (by omega) | exact hS.cellIP (by omega) | exact hS.cellsN | exact ((hr.rd hS).cellX (by omega) hx) | exact ((hr2.rd hS).cellX (by omega) hx2) | exact hS.cellB (by omega) | exact hS.cellBA (by omega) | exact (hb.rd hS).cellB' (by omega) | exact (hb2.rd hS).cellB' (by omega) | exact (hg.rd hS).cellI (by omega) | exact (hg2.rd hS).cellI (by omega) | exact ((hr.rd hS).cellF (by first | omega | (dsimp only; omega)) hx) | exact ((hr2.rd hS).cellF (by first | omega | (dsimp only; omega)) hx2) | exact hS.cellO 0 (by omega) | exact hS.cellO 1 (by omega) | exact hS.cellIA (by omega) | exact (hg.rd hS).cellIA (by omega) | exact (hg2.rd hS).cellIA (by omega) | exact cell_at (hc.rd hS).pts | exact hb.rd hS)) ?_)) ?_))
      refine E_round (z := (i, b, q)) (i + 1, b', q') ⟨rfl, rfl, rfl, rfl, rfl, rfl, trivial⟩ ⟨hlt, hq', rows' ++ [[.int .i64 1, .int .i64 0, .slice tb' (c.arch).length tc', z0]], by simp [hrl]; omega, ?_⟩ (by dsimp only; omega)
      simp only
      rw [htk]
      have hS : St _ F2 [leavesR (.txt c.word :: (ps.take i).map c.leaf) rows', leafR (.txt (c.arch)) [.int .i64 1, .int .i64 0, .slice tb' (c.arch).length tc', z0], own 61 4 b' q' (rows'.flatten ++ [.int .i64 1, .int .i64 0, .slice tb' (c.arch).length tc', z0]),
        pts t7 (.cells (List.toArray [.int .i64 2, .int .i64 0, z0, .slice b' (i + 1 + 1) q']) 61 (0, 0)), pts t2 (.cells (List.toArray [.int .i64 0, .int .i64 0, .slice none 0 0, .slice none 0 0]) 61 (0, 0))] _ := hS.took
      have hS := hS.leaves_snoc
      have hS := hS.head (r' := leavesR (.txt c.word :: ((ps.take i).map c.leaf ++ [c.leaf (.b)])) _) (fun _ h => h)
      rw [List.flatten_append, List.flatten_cons, List.flatten_nil, List.append_nil]
      exact hS.took
    | n o =>
      have hr2 := hpc.pts_row
      have hx2 := cells_n (c := c) (ar := .slice aa c.arch.length cc) hpok
      simp only [ptv] at hxs
      repeat (first | (refine G_id ?_; first | refine G_nil ?_ | refine G_plain rfl rfl ?_) | (refine X_id ?_; first | refine X_yl (Yl_fieldAddr0 rfl rfl rfl) rfl rfl ?_ | refine X_yl (Yl_lss_t rfl rfl rfl (by omega)) rfl rfl ?_ | refine X_yl (Yl_indexAddr rfl rfl rfl (by omega) (by omega) (by first | assumption | exact ⟨_, _, rfl⟩)) rfl rfl ?_ | refine X_yl (Yl_load rfl rfl hS.cell) rfl rfl ?_ | refine X_yl (Yl_loadN rfl rfl ((hr.rd hS).cellsX (by omega) hxs rfl)) rfl rfl ?_ | refine X_store rfl rfl rfl rfl hS (fun _ hS _ => ?_) | refine X_alloc rfl rfl rfl hS (fun _ _ hS _ => ?_)) | (refine C_id ?_; first | refine C_seq ?_ | refine C_region ?_ | refine C_block ?_ | refine C_skip ?_ | refine C_cond_t rfl ?_ | refine C_cond_f rfl ?_) | (refine E_id ?_; first | refine E_code ?_))
      refine C_ord (.s 0 (.s 1 (.s 2 (.s 3 (.s 4 (.s 5 (.h 6 (.h 7 (.h 8 (.s 9 (.h 10 .nil .no)) .no) .no) .no))))))) mixed (by kernel_rfl) rfl ?_
      have hS := hS.drew
      repeat (first | (refine GO_id ?_; first | refine GO_pure rfl rfl (fun _ => Yl_nilCheck rfl rfl) rfl rfl ?_ | refine GO_pure rfl rfl (fun _ => Yl_fieldAddr0 rfl rfl rfl) rfl rfl ?_ | refine GO_read (fun w' => w'.cell? _ = some _) rfl rfl hS.cell (fun _ hc => Yl_load rfl rfl hc) rfl rfl ?_ | refine GO_hard rfl rfl ?_ | refine GO_read (fun w' => w'.cell? _ = some _) rfl rfl ((hr2.rd hS).cellF (by first | omega | (dsimp only; omega)) hx2) (fun _ hc => Yl_load rfl rfl hc) rfl rfl ?_))
      refine X_callg _ rfl rfl rfl rfl rfl (int_ (c.n o) _) ?_
      rintro _ w ⟨rfl, hS'⟩
      replace hS := hS.plus hS'
      clear hS'
      repeat (first | (refine X_id ?_; first | refine X_buildSlice rfl rfl rfl rfl rfl rfl rfl rfl hS (fun _ _ hS _ => ?_)) | (refine GO_id ?_; first | refine GO_hard rfl rfl ?_) | (refine Keep_id ?_; first | refine And.intro (by repeat (first | exact trivial | refine And.intro (.inl (by decide +kernel)) ?_ | refine And.intro (.inr (by first | assumption | exact hS.cell | exact cell_at (by assumption) | exact hS.cellI (by omega) | exact hS.cellIP (by omega) | exact hS.cellsN | exact ((hr.rd hS).cellX (by omega) hx) | exact ((hr2.rd hS).cellX (by omega) hx2) | exact hS.cellB (by omega) | exact hS.cellBA (by omega) | exact (hb.rd hS).cellB' (by omega) | exact (hb2.rd hS).cellB' (by omega) | exact (hg.rd hS).cellI (by omega) | exact (hg2.rd hS).cellI (by omega) | exact ((hr.rd hS).cellF (by first | omega | (dsimp only; omega)) hx) | exact ((hr2.rd hS).cellF (by first | omega | (dsimp only; omega)) hx2) | exact hS.cellO 0 (by omega) | exact hS.cellO 1 (by omega) | exact hS.cellIA (by omega) | exact (hg.rd hS).cellIA (by omega) | exact (hg2.rd hS).cellIA (by omega) | exact cell_at (hc.rd hS).pts | exact hb.rd hS)) ?_)) ?_))
      have hnw := (hS.rd (List.mem_cons_self ..)).own_row
      refine X_append rfl rfl rfl rfl rfl hS hrl hiq hnw rfl (by simp [Value.oneCell', z0]) (by first | omega | (dsimp only; omega)) (by simp only [maxLen]; omega) (fun b' q' w hS hq' _ => ?_)
      repeat (first | (refine G_id ?_; first | refine G_nil ?_ | refine G_plain rfl rfl ?_) | (refine X_id ?_; first | refine X_yl (Yl_move rfl rfl) rfl rfl ?_ | refine X_yl (Yl_add rfl rfl rfl (w64 (by omega) (by omega))) rfl rfl ?_ | refine X_store rfl rfl rfl rfl hS (fun _ hS _ => ?_)) | (refine C_id ?_; first | refine C_region ?_) | (refine E_id ?_; first | refine E_code ?_ | refine E_blk_n ?_) | (refine GO_id ?_; first | refine GO_nil ?_ | refine GO_pure rfl rfl (fun _ => Yl_fieldAddr0 rfl rfl rfl) rfl rfl ?_ | refine GO_hard rfl rfl ?_) | (refine Keep_id ?_; first | refine And.intro (by repeat (first | exact trivial | refine And.intro (.inl (by decide +kernel)) ?_ | refine And.intro (.inr (by first | assumption | exact hS.cell | exact cell_at (by assumption) | exact hS.cellI (by omega) | exact hS.cellIP (by omega) | exact hS.cellsN | exact ((hr.rd hS).cellX (by omega) hx) | exact ((hr2.rd hS).cellX (by omega) hx2) | exact hS.cellB (by omega) | exact hS.cellBA (by omega) | exact (hb.rd hS).cellB' (by omega) | exact (hb2.rd hS).cellB' (by omega) | exact (hg.rd hS).cellI (by omega) | exact (hg2.rd hS).cellI (by omega) | exact ((hr.rd hS).cellF (by first | omega | (dsimp only; omega)) hx) | exact ((hr2.rd hS).cellF (by first | omega | (dsimp only; omega)) hx2) | exact hS.cellO 0 (by omega) | exact hS.cellO 1 (by omega) | exact hS.cellIA (by omega) | exact (hg.rd hS).cellIA (by omega) | exact (hg2.rd hS).cellIA (by omega) | exact cell_at (hc.rd hS).pts | exact hb.rd hS)) ?_)) ?_))
      refine E_round (z := (i, b, q)) (i + 1, b', q') ⟨rfl, rfl, rfl, rfl, rfl, rfl, trivial⟩ ⟨hlt, hq', rows' ++ [[.int .i64 0, .int .i64 (c.n o), z0, z0]], by simp [hrl]; omega, ?_⟩ (by dsimp only; omega)
      simp only
      rw [htk]
      have hS : St _ F2 [leavesR (.txt c.word :: (ps.take i).map c.leaf) rows', leafR (.num (c.n o)) [.int .i64 0, .int .i64 (c.n o), z0, z0], own 61 4 b' q' (rows'.flatten ++ [.int .i64 0, .int .i64 (c.n o), z0, z0]),
        pts t7 (.cells (List.toArray [.int .i64 2, .int .i64 0, z0, .slice b' (i + 1 + 1) q']) 61 (0, 0)), pts t2 (.cells (List.toArray [.int .i64 0, .int .i64 0, .slice none 0 0, .slice none 0 0]) 61 (0, 0))] _ := hS.took
      have hS := hS.leaves_snoc
      have hS := hS.head (r' := leavesR (.txt c.word :: ((ps.take i).map c.leaf ++ [c.leaf (.n o)])) _) (fun _ h => h)
      rw [List.flatten_append, List.flatten_cons, List.flatten_nil, List.append_nil]
      exact hS.took
  · obtain rfl : i = ps.length := by omega
    have hS := hS2
    repeat (first | (refine G_id ?_; first | refine G_nil ?_ | refine G_plain rfl rfl ?_) | (refine X_id ?_; first | refine X_yl (Yl_move rfl rfl) rfl rfl ?_ | refine X_yl (Yl_assign rfl rfl) rfl rfl ?_ | refine X_yl (Yl_lss_f rfl rfl rfl (by omega)) rfl rfl ?_ | refine X_yl (Yl_loadN rfl rfl hS.cellsN) rfl rfl ?_ | refine X_store rfl rfl rfl rfl hS (fun _ hS _ => ?_)) | (refine C_id ?_; first | refine C_seq ?_ | refine C_region ?_ | refine C_ret ?_ | refine C_exit ?_ | refine C_cond_f rfl ?_) | (refine E_id ?_; first | refine E_code ?_ | refine E_then_exit ?_ | refine E_blk_same ?_ | refine E_ret2 rfl (by first | exact Rv_tmp rfl | exact Rv_cell rfl (run_load1 hS.cell) | exact Rv_cell rfl (run_loadN hS.cellsN)) (by first | exact Rv_tmp rfl | exact Rv_cell rfl (run_load1 hS.cell) | exact Rv_cell rfl (run_loadN hS.cellsN)) (Ret.mk ?_)))
    rw [List.take_length] at hS
    refine ⟨b, q, by simp, ?_⟩
    have hS := hbk hS
    have hS := hS.pick [1, 1]
    exact (hS.head fun _ h => h.row).list_mk
end Cr
namespace Cr
open Go Go.Proofs
set_option maxRecDepth 100000
set_option maxHeartbeats 8000000
attribute [local irreducible] Calls

/-- A value to be read: a leaf (none that hides a list), or a list. -/
def TopRo (W : World) (F : Nat → Prop) : Top → List Value → Prop
  | .leaf y, cs => y ≠ .oth ∧ LeafRo W F y cs
  | .list x, cs => ∃ a c rows, cs = [.int .i64 2, .int .i64 0, .slice none 0 0, .slice a x.length c] ∧ Ro W F (row a rows.flatten) ∧ Leaves W F x rows
abbrev zC : List Value := (Cmd.blank []).cells (.slice none 0 0)
def RdRes (W : World) (r : Option Cmd) (v : Value) (w : World) : Prop :=
  match r with
  | some c => ∃ b q, v = .tuple #[.agg (c.cells (.slice b c.arch.length q)).toArray, .bool true] ∧ St W noF [bytes b c.arch] w
  | none => v = .tuple #[.agg zC.toArray, .bool false] ∧ St W noF [] w
theorem read_leaf (y : Leaf) (cs : List Value) (W : World) (hy : LeafRo W noF y cs) (hne : y ≠ .oth) : Calls Tryd.prog 30 #[.agg (List.toArray cs)] W (Ret fun v w => RdRes W none v w) := by
  have hS := St.start W
  obtain ⟨k, n, a1, n1, c1, a2, n2, c2, rfl, hk⟩ : ∃ k n a1 n1 c1 a2 n2 c2, cs = [.int .i64 k, .int .i64 n, .slice a1 n1 c1, .slice a2 n2 c2] ∧ k ≠ 2 := by
    cases y with
    | oth => exact absurd rfl hne
    | num n => exact ⟨0, n, none, 0, 0, none, 0, 0, hy, by decide⟩
    | txt b =>
      obtain ⟨a, c, rfl, _⟩ := hy
      exact ⟨1, 0, a, b.length, c, none, 0, 0, rfl, by decide⟩
  refine calls_C Tryd.func30 rfl Tryd.ntmps30 rfl ?_
  repeat (first | (refine G_id ?_; first | refine G_nil ?_ | refine G_plain rfl rfl ?_ | refine G_no rfl rfl rfl rfl rfl rfl ?_) | (refine X_id ?_; first | refine X_yl (Yl_move rfl rfl) rfl rfl ?_ | refine X_yl (Yl_assign rfl rfl) rfl rfl ?_ | refine X_yl (Yl_fieldAddr0 rfl rfl rfl) rfl rfl ?_ | refine X_yl (Yl_pick_t rfl rfl rfl) rfl rfl ?_ | refine X_yl (Yl_neq_t rfl rfl rfl (by omega)) rfl rfl ?_ | refine X_yl (Yl_build rfl rfl rfl) rfl rfl ?_ | refine X_yl (Yl_load rfl rfl hS.cell) rfl rfl ?_ | refine X_store rfl rfl rfl rfl hS (fun _ hS _ => ?_) | refine X_box rfl rfl rfl rfl hS (fun _ _ hS _ => ?_) | refine X_alloc rfl rfl rfl hS (fun _ _ hS _ => ?_)) | (refine C_id ?_; first | refine C_seq ?_ | refine C_region ?_ | refine C_ret ?_ | refine C_cond_t rfl ?_) | (refine E_id ?_; first | refine E_code ?_ | refine E_then_ret ?_ | refine E_ret2 rfl (by first | exact Rv_tmp rfl | exact Rv_cell rfl (run_load1 hS.cell) | exact Rv_cell rfl (run_loadN hS.cellsN)) (by first | exact Rv_tmp rfl | exact Rv_cell rfl (run_load1 hS.cell) | exact Rv_cell rfl (run_loadN hS.cellsN)) (Ret.mk ?_)))
  exact ⟨rfl, hS.drops⟩
theorem read_nil (a : Option Addr) (c : Nat) (W : World) : Calls Tryd.prog 30 #[.agg (List.toArray [.int .i64 2, .int .i64 0, .slice none 0 0, .slice a 0 c])] W (Ret fun v w => RdRes W none v w) := by
  have hS := St.start W
  refine calls_C Tryd.func30 rfl Tryd.ntmps30 rfl ?_
  repeat (first | (refine G_id ?_; first | refine G_nil ?_ | refine G_plain rfl rfl ?_ | refine G_yes rfl rfl rfl rfl ?_ | refine G_no rfl rfl rfl rfl rfl rfl ?_) | (refine X_id ?_; first | refine X_yl (Yl_move rfl rfl) rfl rfl ?_ | refine X_yl (Yl_assign rfl rfl) rfl rfl ?_ | refine X_yl (Yl_fieldAddr0 rfl rfl rfl) rfl rfl ?_ | refine X_yl (Yl_pick_t rfl rfl rfl) rfl rfl ?_ | refine X_yl (Yl_pick_f rfl rfl rfl) rfl rfl ?_ | refine X_yl (Yl_len rfl rfl) rfl rfl ?_ | refine X_yl (Yl_eql_t rfl rfl rfl (by omega)) rfl rfl ?_ | refine X_yl (Yl_neq_f rfl rfl rfl (by omega)) rfl rfl ?_ | refine X_yl (Yl_build rfl rfl rfl) rfl rfl ?_ | refine X_yl (Yl_load rfl rfl hS.cell) rfl rfl ?_ | refine X_store rfl rfl rfl rfl hS (fun _ hS _ => ?_) | refine X_box rfl rfl rfl rfl hS (fun _ _ hS _ => ?_) | refine X_alloc rfl rfl rfl hS (fun _ _ hS _ => ?_)) | (refine C_id ?_; first | refine C_seq ?_ | refine C_region ?_ | refine C_ret ?_ | refine C_cond_t rfl ?_) | (refine E_id ?_; first | refine E_code ?_ | refine E_then_ret ?_ | refine E_ret2 rfl (by first | exact Rv_tmp rfl | exact Rv_cell rfl (run_load1 hS.cell) | exact Rv_cell rfl (run_loadN hS.cellsN)) (by first | exact Rv_tmp rfl | exact Rv_cell rfl (run_load1 hS.cell) | exact Rv_cell rfl (run_loadN hS.cellsN)) (Ret.mk ?_)))
  exact ⟨rfl, hS.drops⟩
/-- A list whose first value is no text. -/
theorem read_first (a : Option Addr) (c : Nat) (x : List Leaf) (rows : List (List Value)) (y : Leaf) (W : World) (hr : Ro W noF (row a rows.flatten)) (hx : Leaves W noF x rows) (hy0 : x[0]? = some y) (hny : ∀ b, y ≠ .txt b) :
    Calls Tryd.prog 30 #[.agg (List.toArray [.int .i64 2, .int .i64 0, .slice none 0 0, .slice a x.length c])] W (Ret fun v w => RdRes W none v w) := by
  have hS := St.start W
  have hlen : 0 < x.length := (List.getElem?_eq_some_iff.1 hy0).1
  obtain ⟨cs, hxs, hy⟩ := hx.at_ hy0
  obtain ⟨k, n, a1, n1, c1, a2, n2, c2, rfl, hk⟩ : ∃ k n a1 n1 c1 a2 n2 c2, cs = [.int .i64 k, .int .i64 n, .slice a1 n1 c1, .slice a2 n2 c2] ∧ k ≠ 1 := by
    cases y with
    | num n => exact ⟨0, n, none, 0, 0, none, 0, 0, hy, by decide⟩
    | txt b => exact absurd rfl (hny b)
    | oth =>
      obtain ⟨a, n, c, rfl⟩ := hy
      exact ⟨2, 0, none, 0, 0, a, n, c, rfl, by decide⟩
  obtain ⟨ab, ao, rfl⟩ := hr.start.base (by
    intro e
    rw [e] at hxs
    simp at hxs)
  have hx0 : rows.flatten[0]? = some (.int .i64 k) := by
    have := congrArg (·[0]?) hxs
    simpa [List.getElem?_take] using this
  have hx := hx0
  refine calls_C Tryd.func30 rfl Tryd.ntmps30 rfl ?_
  repeat (first | (refine G_id ?_; first | refine G_nil ?_ | refine G_plain rfl rfl ?_ | refine G_yes rfl rfl rfl rfl ?_) | (refine X_id ?_; first | refine X_yl (Yl_move rfl rfl) rfl rfl ?_ | refine X_yl (Yl_assign rfl rfl) rfl rfl ?_ | refine X_yl (Yl_fieldAddr0 rfl rfl rfl) rfl rfl ?_ | refine X_yl (Yl_fieldAddr rfl rfl rfl) rfl rfl ?_ | refine X_yl (Yl_pick_f rfl rfl rfl) rfl rfl ?_ | refine X_yl (Yl_len rfl rfl) rfl rfl ?_ | refine X_yl (Yl_eql_f rfl rfl rfl (by omega)) rfl rfl ?_ | refine X_yl (Yl_neq_t rfl rfl rfl (by omega)) rfl rfl ?_ | refine X_yl (Yl_neq_f rfl rfl rfl (by omega)) rfl rfl ?_ | refine X_yl (Yl_build rfl rfl rfl) rfl rfl ?_ | refine X_yl (Yl_indexAddr rfl rfl rfl (by omega) (by omega) (by first | assumption | exact ⟨_, _, rfl⟩)) rfl rfl ?_ | refine X_yl (Yl_load rfl rfl hS.cell) rfl rfl ?_ | refine X_yl (Yl_load rfl rfl ((hr.rd hS).cellX (by omega) hx)) rfl rfl ?_ | refine X_store rfl rfl rfl rfl hS (fun _ hS _ => ?_) | refine X_box rfl rfl rfl rfl hS (fun _ _ hS _ => ?_) | refine X_alloc rfl rfl rfl hS (fun _ _ hS _ => ?_)) | (refine C_id ?_; first | refine C_seq ?_ | refine C_region ?_ | refine C_ret ?_ | refine C_cond_t rfl ?_) | (refine E_id ?_; first | refine E_code ?_ | refine E_then_ret ?_ | refine E_ret2 rfl (by first | exact Rv_tmp rfl | exact Rv_cell rfl (run_load1 hS.cell) | exact Rv_cell rfl (run_loadN hS.cellsN)) (by first | exact Rv_tmp rfl | exact Rv_cell rfl (run_load1 hS.cell) | exact Rv_cell rfl (run_loadN hS.cellsN)) (Ret.mk ?_)))
  exact ⟨rfl, hS.drops⟩
end Cr
namespace Cr
open Go Go.Proofs
set_option maxRecDepth 100000
set_option maxHeartbeats 8000000
attribute [local irreducible] Calls

abbrev nil0 : Value := .slice none 0 0
theorem splice_s {c : Cmd} {ar : Value} {o : Nat} (v : List UInt8) (h : Pt.ok (.t o)) : splice (c.cells ar) o [.string (str v)] = (c.setS v o).cells ar := by
  have h : o = 1 ∨ o = 2 ∨ o = 4 ∨ o = 5 ∨ o = 6 ∨ o = 7 ∨ o = 8 ∨ o = 9 ∨ o = 10 := h
  rcases h with rfl | rfl | rfl | rfl | rfl | rfl | rfl | rfl | rfl <;> rfl
theorem splice_n {c : Cmd} {ar : Value} {o : Nat} (v : Int) (h : Pt.ok (.n o)) : splice (c.cells ar) o [.int .i64 v] = (c.setN v o).cells ar := by
  have h : o = 12 ∨ o = 13 := h
  rcases h with rfl | rfl <;> rfl
theorem setS_arch (c : Cmd) (v : List UInt8) (o : Nat) : (c.setS v o).arch = c.arch := by unfold Cmd.setS; split <;> rfl
theorem setN_arch (c : Cmd) (v : Int) (o : Nat) : (c.setN v o).arch = c.arch := by unfold Cmd.setN; split <;> rfl
theorem ok_lt {p : Pt} (h : p.ok) : ∀ o, (p = .t o ∨ p = .n o) → o + 1 ≤ 14 := by
  rintro o (rfl | rfl)
  · have h : o = 1 ∨ o = 2 ∨ o = 4 ∨ o = 5 ∨ o = 6 ∨ o = 7 ∨ o = 8 ∨ o = 9 ∨ o = 10 := h
    omega
  · have h : o = 12 ∨ o = 13 := h
    omega
theorem read_list (a : Option Addr) (c : Nat) (w0 : List UInt8) (xs : List Leaf) (rows : List (List Value)) (W : World) (hr0 : Ro W noF (row a rows.flatten)) (hx : Leaves W noF (.txt w0 :: xs) rows) (hl : xs.length ≤ 1099511627776) :
    Calls Tryd.prog 30 #[.agg (List.toArray [.int .i64 2, .int .i64 0, .slice none 0 0, .slice a (xs.length + 1) c])] W (Ret fun v w => RdRes W (readC (.txt w0 :: xs)) v w) := by
  have hS := St.start W
  obtain ⟨cs, hxs, hy⟩ := hx.at_ (i := 0) (y := .txt w0) rfl
  obtain ⟨b0, q0, rfl, hb⟩ := hy
  obtain ⟨ab, ao, rfl⟩ := hr0.start.base (by
    intro e
    rw [e] at hxs
    simp at hxs)
  have hr := hr0
  have hr2 := hr0
  have hx1 : rows.flatten[0]? = some (.int .i64 1) := by
    have := congrArg (·[0]?) hxs
    simpa [List.getElem?_take] using this
  have hx2 : rows.flatten[2]? = some (.slice b0 w0.length q0) := by
    have := congrArg (·[2]?) hxs
    simpa [List.getElem?_take] using this
  have hL := hx
  clear hx hxs
  have hx := hx1
  refine calls_C Tryd.func30 rfl Tryd.ntmps30 rfl ?_
  repeat (first | (refine G_id ?_; first | refine G_nil ?_ | refine G_plain rfl rfl ?_ | refine G_yes rfl rfl rfl rfl ?_) | (refine X_id ?_; first | refine X_yl (Yl_move rfl rfl) rfl rfl ?_ | refine X_yl (Yl_assign rfl rfl) rfl rfl ?_ | refine X_yl (Yl_fieldAddr0 rfl rfl rfl) rfl rfl ?_ | refine X_yl (Yl_fieldAddr rfl rfl rfl) rfl rfl ?_ | refine X_yl (Yl_pick_f rfl rfl rfl) rfl rfl ?_ | refine X_yl (Yl_len rfl rfl) rfl rfl ?_ | refine X_yl (Yl_eql_f rfl rfl rfl (by omega)) rfl rfl ?_ | refine X_yl (Yl_neq_f rfl rfl rfl (by omega)) rfl rfl ?_ | refine X_yl (Yl_build rfl rfl rfl) rfl rfl ?_ | refine X_yl (Yl_indexAddr rfl rfl rfl (by omega) (by omega) (by first | assumption | exact ⟨_, _, rfl⟩)) rfl rfl ?_ | refine X_yl (Yl_load rfl rfl hS.cell) rfl rfl ?_ | refine X_yl (Yl_load rfl rfl ((hr.rd hS).cellX (by omega) hx)) rfl rfl ?_ | refine X_yl (Yl_load rfl rfl ((hr2.rd hS).cellX (by omega) hx2)) rfl rfl ?_ | refine X_store rfl rfl rfl rfl hS (fun _ hS _ => ?_) | refine X_box rfl rfl rfl rfl hS (fun _ _ hS _ => ?_) | refine X_alloc rfl rfl rfl hS (fun _ _ hS _ => ?_) | refine X_yl (Yl_bytesStr rfl rfl (hb.rd hS) rfl) rfl rfl ?_) | (refine C_id ?_; first | refine C_seq ?_ | refine C_region ?_ | refine C_skip ?_ | refine C_cond_f rfl ?_) | (refine E_id ?_; first | refine E_code ?_))
  rename_i t1 _ _ _ t2 _ _ _ t4 _ _ _ t5 _ _ _ _ _ _ _ _
  replace hS : St W noF [pts t5 (.cells (List.toArray [.string (str [])]) 9 (0, 0)), pts t4 (.cells ((Cmd.blank w0).cells nil0).toArray 30 (0, 0)), pts t2 (.cells zC.toArray 30 (0, 0)), pts t1 (.cells (List.toArray [.int .i64 2, .int .i64 0, .slice none 0 0, .slice (some ⟨ab, ao, none⟩) (xs.length + 1) c]) 61 (0, 0))] _ := hS
  have hP : ∀ W, Rd W (pts t4 (.cells ((Cmd.blank w0).cells nil0).toArray 30 (0, 0))) → Calls Tryd.prog 46 #[.pointer (some ⟨t4, 0, none⟩), .pointer (some ⟨t5, 0, none⟩)] W (Ret fun v w => ∃ a q, v = .tuple #[.slice a (partsW w0).length q, .bool (isWord w0)] ∧ (partsW w0).length ≤ q ∧
      St W noF [own 93 3 a q ((partsW w0).flatMap (ptv t4 t5))] w) := fun W h => parts_ t4 t5 (Cmd.blank w0) nil0 W h
  have hPok := partsW_ok (w := w0)
  cases hk : sort w0 with
  | none =>
    have hrc : readC (.txt w0 :: xs) = none := by unfold readC; simp only [hk]
    have e1 : partsW w0 = [] := by unfold partsW; rw [hk]
    have e2 : isWord w0 = false := by unfold isWord; rw [hk]; rfl
    rw [e1, e2] at hP
    rw [hrc]
    refine X_callg _ rfl rfl rfl rfl rfl (hP _ (hS.rd (by simp))) ?_
    rintro _ w ⟨pa, pq, rfl, hpq, hS'⟩
    replace hS := hS.plus hS'
    clear hS'
    repeat (first | (refine G_id ?_; first | refine G_nil ?_ | refine G_plain rfl rfl ?_ | refine G_no rfl rfl rfl rfl rfl rfl ?_) | (refine X_id ?_; first | refine X_yl (Yl_move rfl rfl) rfl rfl ?_ | refine X_yl (Yl_assign rfl rfl) rfl rfl ?_ | refine X_yl (Yl_extract rfl rfl) rfl rfl ?_ | refine X_yl (Yl_pick_t rfl rfl rfl) rfl rfl ?_ | refine X_yl (Yl_not_f rfl rfl) rfl rfl ?_ | refine X_yl (Yl_build rfl rfl rfl) rfl rfl ?_ | refine X_store rfl rfl rfl rfl hS (fun _ hS _ => ?_)) | (refine C_id ?_; first | refine C_seq ?_ | refine C_region ?_ | refine C_ret ?_ | refine C_cond_t rfl ?_) | (refine E_id ?_; first | refine E_code ?_ | refine E_then_ret ?_ | refine E_ret2 rfl (by first | exact Rv_tmp rfl | exact Rv_cell rfl (run_load1 hS.cell) | exact Rv_cell rfl (run_loadN hS.cellsN)) (by first | exact Rv_tmp rfl | exact Rv_cell rfl (run_load1 hS.cell) | exact Rv_cell rfl (run_loadN hS.cellsN)) (Ret.mk ?_)))
    exact ⟨rfl, hS.drops⟩
  | some k =>
    have hrc : readC (.txt w0 :: xs) = (Cmd.blank w0).puts (partsW w0) xs := by unfold readC partsW; simp only [hk]
    have e2 : isWord w0 = true := by unfold isWord; rw [hk]; rfl
    rw [e2] at hP
    rw [hrc]
    clear hrc e2 hk
    generalize partsW w0 = ps at hP hPok ⊢
    refine X_callg _ rfl rfl rfl rfl rfl (hP _ (hS.rd (by simp))) ?_
    rintro _ w ⟨pa, pq, rfl, hpq, hS'⟩
    replace hS := hS.plus hS'
    clear hS' hP
    by_cases hlen : ps.length = xs.length
    case neg =>
      have hrn : (Cmd.blank w0).puts ps xs = none := by
        cases h : (Cmd.blank w0).puts ps xs with
        | none => rfl
        | some d => exact absurd (puts_len h).symm hlen
      rw [hrn]
      repeat (first | (refine G_id ?_; first | refine G_nil ?_ | refine G_plain rfl rfl ?_ | refine G_yes rfl rfl rfl rfl ?_) | (refine X_id ?_; first | refine X_yl (Yl_move rfl rfl) rfl rfl ?_ | refine X_yl (Yl_assign rfl rfl) rfl rfl ?_ | refine X_yl (Yl_fieldAddr0 rfl rfl rfl) rfl rfl ?_ | refine X_yl (Yl_extract rfl rfl) rfl rfl ?_ | refine X_yl (Yl_pick_f rfl rfl rfl) rfl rfl ?_ | refine X_yl (Yl_not_t rfl rfl) rfl rfl ?_ | refine X_yl (Yl_len rfl rfl) rfl rfl ?_ | refine X_yl (Yl_neq_t rfl rfl rfl (by omega)) rfl rfl ?_ | refine X_yl (Yl_build rfl rfl rfl) rfl rfl ?_ | refine X_yl (Yl_sub rfl rfl rfl (w64 (by omega) (by omega))) rfl rfl ?_ | refine X_yl (Yl_load rfl rfl hS.cell) rfl rfl ?_ | refine X_store rfl rfl rfl rfl hS (fun _ hS _ => ?_)) | (refine C_id ?_; first | refine C_seq ?_ | refine C_region ?_ | refine C_ret ?_ | refine C_cond_t rfl ?_) | (refine E_id ?_; first | refine E_code ?_ | refine E_then_ret ?_ | refine E_ret2 rfl (by first | exact Rv_tmp rfl | exact Rv_cell rfl (run_load1 hS.cell) | exact Rv_cell rfl (run_loadN hS.cellsN)) (by first | exact Rv_tmp rfl | exact Rv_cell rfl (run_load1 hS.cell) | exact Rv_cell rfl (run_loadN hS.cellsN)) (Ret.mk ?_)))
      exact ⟨rfl, hS.drops⟩
    case pos =>
      repeat (first | (refine G_id ?_; first | refine G_nil ?_ | refine G_plain rfl rfl ?_ | refine G_yes rfl rfl rfl rfl ?_) | (refine X_id ?_; first | refine X_yl (Yl_move rfl rfl) rfl rfl ?_ | refine X_yl (Yl_assign rfl rfl) rfl rfl ?_ | refine X_yl (Yl_fieldAddr0 rfl rfl rfl) rfl rfl ?_ | refine X_yl (Yl_extract rfl rfl) rfl rfl ?_ | refine X_yl (Yl_pick_f rfl rfl rfl) rfl rfl ?_ | refine X_yl (Yl_not_t rfl rfl) rfl rfl ?_ | refine X_yl (Yl_len rfl rfl) rfl rfl ?_ | refine X_yl (Yl_neq_f rfl rfl rfl (by omega)) rfl rfl ?_ | refine X_yl (Yl_sub rfl rfl rfl (w64 (by omega) (by omega))) rfl rfl ?_ | refine X_yl (Yl_load rfl rfl hS.cell) rfl rfl ?_) | (refine C_id ?_; first | refine C_seq ?_ | refine C_region ?_ | refine C_block ?_ | refine C_skip ?_ | refine C_cond_f rfl ?_) | (refine E_id ?_; first | refine E_code ?_))
      obtain ⟨F2, hS2, hro, hw2, hbk⟩ := hS.call [false, true, true, true]
      have hparts := (hro _ (List.mem_cons_self ..)).own_row
      have hbox := hro _ (List.mem_cons_of_mem _ (List.mem_cons_self ..))
      have hL2 := hL.mono hw2
      have hrows := hw2 _ hr0
      clear hS hro hw2
      obtain ⟨res, hres⟩ : ∃ res, res = (Cmd.blank w0).puts ps xs := ⟨_, rfl⟩
      rw [← hres]
      refine C_loop (α := Nat × Cmd) (fun z => [(1, .pointer (some ⟨t1, 0, none⟩)), (2, .pointer (some ⟨t2, 0, none⟩)), (4, .pointer (some ⟨t4, 0, none⟩)), (5, .pointer (some ⟨t5, 0, none⟩)), (52, .slice pa ps.length pq), (53, .int .i64 (ps.length : Nat)), (54, .int .i64 (z.1 : Nat))])
        (fun z w => z.1 ≤ ps.length ∧ res = z.2.puts (ps.drop z.1) (xs.drop z.1) ∧ St _ F2 [pts t5 (.cells (List.toArray [.string (str z.2.arch)]) 9 (0, 0)), pts t4 (.cells (z.2.cells nil0).toArray 30 (0, 0)), pts t2 (.cells zC.toArray 30 (0, 0))] w)
        (fun z => ps.length - z.1) (0, Cmd.blank w0) ⟨rfl, rfl, rfl, rfl, rfl, rfl, rfl, trivial⟩ ⟨Nat.zero_le _, hres, hS2⟩ ?_
      clear hS2 hres
      rintro ⟨i, cm⟩ w ⟨hi, hres, hS2⟩
      simp only at hi hres hS2
      by_cases hlt : i < ps.length
      case neg =>
        obtain rfl : i = ps.length := by omega
        rw [List.drop_of_length_le (Nat.le_refl _), List.drop_of_length_le (by omega)] at hres
        have hS := hS2
        repeat (first | (refine G_id ?_; first | refine G_nil ?_ | refine G_plain rfl rfl ?_) | (refine X_id ?_; first | refine X_yl (Yl_assign rfl rfl) rfl rfl ?_ | refine X_yl (Yl_fieldAddr0 rfl rfl rfl) rfl rfl ?_ | refine X_yl (Yl_lss_f rfl rfl rfl (by omega)) rfl rfl ?_ | refine X_yl (Yl_load rfl rfl hS.cell) rfl rfl ?_ | refine X_yl (Yl_loadN rfl rfl hS.cellsN) rfl rfl ?_ | refine X_store rfl rfl rfl rfl hS (fun _ hS _ => ?_) | refine X_strBytes rfl rfl rfl rfl hS (fun _ _ _ hS _ => ?_)) | (refine C_id ?_; first | refine C_seq ?_ | refine C_region ?_ | refine C_ret ?_ | refine C_exit ?_ | refine C_cond_f rfl ?_) | (refine E_id ?_; first | refine E_code ?_ | refine E_then_exit ?_ | refine E_blk_same ?_ | refine E_ret2 rfl (by first | exact Rv_tmp rfl | exact Rv_cell rfl (run_load1 hS.cell) | exact Rv_cell rfl (run_loadN hS.cellsN)) (by first | exact Rv_tmp rfl | exact Rv_cell rfl (run_load1 hS.cell) | exact Rv_cell rfl (run_loadN hS.cellsN)) (Ret.mk ?_)))
        rw [hres]
        refine ⟨_, _, rfl, ?_⟩
        have hS := hbk hS
        exact hS.pick [0]
      case pos =>
        obtain ⟨p, hp⟩ : ∃ p, ps[i]? = some p := ⟨_, List.getElem?_eq_getElem hlt⟩
        obtain ⟨y, hy0⟩ : ∃ y, xs[i]? = some y := ⟨_, List.getElem?_eq_getElem (by omega)⟩
        have hpok := hPok p (List.mem_of_getElem? hp)
        have hxs := flatMap_seg (ptv_len t4 t5) hp
        have hr := hparts
        obtain ⟨pab, pao, rfl⟩ := hr.start.base (by
          intro e
          rw [e] at hxs
          have := congrArg List.length hxs
          rw [ptv_len] at this
          simp at this)
        obtain ⟨ys, hys, hyl⟩ := hL2.at_ (i := i + 1) (y := y) (by simpa using hy0)
        have hstep : ∀ d, cm.put p y = d → res = d.bind fun e => e.puts (ps.drop (i + 1)) (xs.drop (i + 1)) := fun d hd => by
          rw [hres, List.drop_eq_getElem_cons hlt, List.drop_eq_getElem_cons (show i < xs.length by omega)]
          rw [List.getElem?_eq_getElem hlt] at hp
          rw [List.getElem?_eq_getElem (show i < xs.length by omega)] at hy0
          rw [Option.some.inj hp, Option.some.inj hy0, ← hd]
          rfl
        have hc := hbox
        have hS := hS2
        cases p with
        | t o =>
          simp only [ptv] at hxs
          cases y with
          | txt v =>
            obtain ⟨a1, c1, hyl, hb⟩ := hyl
            have hyl : ys = [.int .i64 1, .int .i64 0, .slice a1 v.length c1, .slice none 0 0] := hyl
            subst hyl
            repeat (first | (refine G_id ?_; first | refine G_nil ?_ | refine G_plain rfl rfl ?_) | (refine X_id ?_; first | refine X_yl (Yl_move rfl rfl) rfl rfl ?_ | refine X_yl (Yl_assign rfl rfl) rfl rfl ?_ | refine X_yl (Yl_fieldAddr0 rfl rfl rfl) rfl rfl ?_ | refine X_yl (Yl_lss_t rfl rfl rfl (by omega)) rfl rfl ?_ | refine X_yl (Yl_indexAddr rfl rfl rfl (by omega) (by omega) (by first | assumption | exact ⟨_, _, rfl⟩)) rfl rfl ?_ | refine X_yl (Yl_add rfl rfl rfl (w64 (by omega) (by omega))) rfl rfl ?_ | refine X_yl (Yl_loadN rfl rfl ((hr.rd hS).cellsX (by omega) hxs rfl)) rfl rfl ?_ | refine X_store rfl rfl rfl rfl hS (fun _ hS _ => ?_) | refine X_alloc rfl rfl rfl hS (fun _ _ hS _ => ?_) | refine X_yl (Yl_load rfl rfl (cell_at (hc.rd hS).pts)) rfl rfl ?_) | (refine C_id ?_; first | refine C_seq ?_ | refine C_region ?_ | refine C_block ?_ | refine C_skip ?_ | refine C_cond_t rfl ?_) | (refine E_id ?_; first | refine E_code ?_))
            refine X_yl (Yl_loadN rfl rfl ((hrows.rd hS).cellsX (by omega) hys rfl)) rfl rfl ?_
            repeat (first | (refine G_id ?_; first | refine G_nil ?_ | refine G_plain rfl rfl ?_ | refine G_yes rfl rfl rfl rfl ?_) | (refine X_id ?_; first | refine X_yl (Yl_move rfl rfl) rfl rfl ?_ | refine X_yl (Yl_assign rfl rfl) rfl rfl ?_ | refine X_yl (Yl_nilCheck rfl rfl) rfl rfl ?_ | refine X_yl (Yl_fieldAddr0 rfl rfl rfl) rfl rfl ?_ | refine X_yl (Yl_pick_t rfl rfl rfl) rfl rfl ?_ | refine X_yl (Yl_eql_t rfl rfl rfl (by omega)) rfl rfl ?_ | refine X_yl (Yl_load rfl rfl hS.cell) rfl rfl ?_ | refine X_store rfl rfl rfl rfl hS (fun _ hS _ => ?_) | refine X_alloc rfl rfl rfl hS (fun _ _ hS _ => ?_) | refine X_yl (Yl_bytesStr rfl rfl (hb.rd hS) rfl) rfl rfl ?_) | (refine C_id ?_; first | refine C_seq ?_ | refine C_region ?_ | refine C_block ?_ | refine C_cond_t rfl ?_) | (refine E_id ?_; first | refine E_code ?_))
            refine X_storeL rfl rfl rfl rfl (by simp [Value.oneCell']) rfl hS (by have := ok_lt hpok _ (.inl rfl); exact this) (fun w hS _ => ?_)
            rw [splice_s v hpok] at hS
            repeat (first | (refine G_id ?_; first | refine G_nil ?_ | refine G_plain rfl rfl ?_) | (refine X_id ?_; first | refine X_yl (Yl_move rfl rfl) rfl rfl ?_ | refine X_yl (Yl_add rfl rfl rfl (w64 (by omega) (by omega))) rfl rfl ?_) | (refine C_id ?_; first | refine C_region ?_) | (refine E_id ?_; first | refine E_code ?_ | refine E_blk_n ?_))
            refine E_round (i + 1, cm.setS v o) ⟨rfl, rfl, rfl, rfl, rfl, rfl, rfl, trivial⟩ ⟨hlt, hstep _ rfl, ?_⟩ (by dsimp only; omega)
            simp only [setS_arch]
            exact hS.pick [2, 2, 2]
          | num n =>
            have hyl : ys = [.int .i64 0, .int .i64 n, .slice none 0 0, .slice none 0 0] := hyl
            subst hyl
            repeat (first | (refine G_id ?_; first | refine G_nil ?_ | refine G_plain rfl rfl ?_) | (refine X_id ?_; first | refine X_yl (Yl_move rfl rfl) rfl rfl ?_ | refine X_yl (Yl_assign rfl rfl) rfl rfl ?_ | refine X_yl (Yl_fieldAddr0 rfl rfl rfl) rfl rfl ?_ | refine X_yl (Yl_lss_t rfl rfl rfl (by omega)) rfl rfl ?_ | refine X_yl (Yl_indexAddr rfl rfl rfl (by omega) (by omega) (by first | assumption | exact ⟨_, _, rfl⟩)) rfl rfl ?_ | refine X_yl (Yl_add rfl rfl rfl (w64 (by omega) (by omega))) rfl rfl ?_ | refine X_yl (Yl_loadN rfl rfl ((hr.rd hS).cellsX (by omega) hxs rfl)) rfl rfl ?_ | refine X_store rfl rfl rfl rfl hS (fun _ hS _ => ?_) | refine X_alloc rfl rfl rfl hS (fun _ _ hS _ => ?_) | refine X_yl (Yl_load rfl rfl (cell_at (hc.rd hS).pts)) rfl rfl ?_) | (refine C_id ?_; first | refine C_seq ?_ | refine C_region ?_ | refine C_block ?_ | refine C_skip ?_ | refine C_cond_t rfl ?_) | (refine E_id ?_; first | refine E_code ?_))
            refine X_yl (Yl_loadN rfl rfl ((hrows.rd hS).cellsX (by omega) hys rfl)) rfl rfl ?_
            repeat (first | (refine G_id ?_; first | refine G_nil ?_ | refine G_plain rfl rfl ?_ | refine G_yes rfl rfl rfl rfl ?_ | refine G_no rfl rfl rfl rfl rfl rfl ?_) | (refine X_id ?_; first | refine X_yl (Yl_move rfl rfl) rfl rfl ?_ | refine X_yl (Yl_assign rfl rfl) rfl rfl ?_ | refine X_yl (Yl_fieldAddr0 rfl rfl rfl) rfl rfl ?_ | refine X_yl (Yl_pick_t rfl rfl rfl) rfl rfl ?_ | refine X_yl (Yl_pick_f rfl rfl rfl) rfl rfl ?_ | refine X_yl (Yl_not_t rfl rfl) rfl rfl ?_ | refine X_yl (Yl_eql_f rfl rfl rfl (by omega)) rfl rfl ?_ | refine X_yl (Yl_build rfl rfl rfl) rfl rfl ?_ | refine X_yl (Yl_load rfl rfl hS.cell) rfl rfl ?_ | refine X_store rfl rfl rfl rfl hS (fun _ hS _ => ?_) | refine X_alloc rfl rfl rfl hS (fun _ _ hS _ => ?_)) | (refine C_id ?_; first | refine C_seq ?_ | refine C_region ?_ | refine C_block ?_ | refine C_ret ?_ | refine C_cond_f rfl ?_) | (refine E_id ?_; first | refine E_code ?_ | refine E_then_ret ?_ | refine E_blk_ret ?_ | refine E_ret2 rfl (by first | exact Rv_tmp rfl | exact Rv_cell rfl (run_load1 hS.cell) | exact Rv_cell rfl (run_loadN hS.cellsN)) (by first | exact Rv_tmp rfl | exact Rv_cell rfl (run_load1 hS.cell) | exact Rv_cell rfl (run_loadN hS.cellsN)) (Ret.mk ?_)))
            rw [hstep none rfl]
            exact ⟨rfl, (hbk hS).drops⟩
          | oth =>
            obtain ⟨a1, n1, c1, hyl⟩ := hyl
            have hyl : ys = [.int .i64 2, .int .i64 0, .slice none 0 0, .slice a1 n1 c1] := hyl
            subst hyl
            repeat (first | (refine G_id ?_; first | refine G_nil ?_ | refine G_plain rfl rfl ?_) | (refine X_id ?_; first | refine X_yl (Yl_move rfl rfl) rfl rfl ?_ | refine X_yl (Yl_assign rfl rfl) rfl rfl ?_ | refine X_yl (Yl_fieldAddr0 rfl rfl rfl) rfl rfl ?_ | refine X_yl (Yl_lss_t rfl rfl rfl (by omega)) rfl rfl ?_ | refine X_yl (Yl_indexAddr rfl rfl rfl (by omega) (by omega) (by first | assumption | exact ⟨_, _, rfl⟩)) rfl rfl ?_ | refine X_yl (Yl_add rfl rfl rfl (w64 (by omega) (by omega))) rfl rfl ?_ | refine X_yl (Yl_loadN rfl rfl ((hr.rd hS).cellsX (by omega) hxs rfl)) rfl rfl ?_ | refine X_store rfl rfl rfl rfl hS (fun _ hS _ => ?_) | refine X_alloc rfl rfl rfl hS (fun _ _ hS _ => ?_) | refine X_yl (Yl_load rfl rfl (cell_at (hc.rd hS).pts)) rfl rfl ?_) | (refine C_id ?_; first | refine C_seq ?_ | refine C_region ?_ | refine C_block ?_ | refine C_skip ?_ | refine C_cond_t rfl ?_) | (refine E_id ?_; first | refine E_code ?_))
            refine X_yl (Yl_loadN rfl rfl ((hrows.rd hS).cellsX (by omega) hys rfl)) rfl rfl ?_
            repeat (first | (refine G_id ?_; first | refine G_nil ?_ | refine G_plain rfl rfl ?_ | refine G_yes rfl rfl rfl rfl ?_ | refine G_no rfl rfl rfl rfl rfl rfl ?_) | (refine X_id ?_; first | refine X_yl (Yl_move rfl rfl) rfl rfl ?_ | refine X_yl (Yl_assign rfl rfl) rfl rfl ?_ | refine X_yl (Yl_fieldAddr0 rfl rfl rfl) rfl rfl ?_ | refine X_yl (Yl_pick_t rfl rfl rfl) rfl rfl ?_ | refine X_yl (Yl_pick_f rfl rfl rfl) rfl rfl ?_ | refine X_yl (Yl_not_t rfl rfl) rfl rfl ?_ | refine X_yl (Yl_eql_f rfl rfl rfl (by omega)) rfl rfl ?_ | refine X_yl (Yl_build rfl rfl rfl) rfl rfl ?_ | refine X_yl (Yl_load rfl rfl hS.cell) rfl rfl ?_ | refine X_store rfl rfl rfl rfl hS (fun _ hS _ => ?_) | refine X_alloc rfl rfl rfl hS (fun _ _ hS _ => ?_)) | (refine C_id ?_; first | refine C_seq ?_ | refine C_region ?_ | refine C_block ?_ | refine C_ret ?_ | refine C_cond_f rfl ?_) | (refine E_id ?_; first | refine E_code ?_ | refine E_then_ret ?_ | refine E_blk_ret ?_ | refine E_ret2 rfl (by first | exact Rv_tmp rfl | exact Rv_cell rfl (run_load1 hS.cell) | exact Rv_cell rfl (run_loadN hS.cellsN)) (by first | exact Rv_tmp rfl | exact Rv_cell rfl (run_load1 hS.cell) | exact Rv_cell rfl (run_loadN hS.cellsN)) (Ret.mk ?_)))
            rw [hstep none rfl]
            exact ⟨rfl, (hbk hS).drops⟩
        | b =>
          simp only [ptv] at hxs
          cases y with
          | txt v =>
            obtain ⟨a1, c1, hyl, hb⟩ := hyl
            have hyl : ys = [.int .i64 1, .int .i64 0, .slice a1 v.length c1, .slice none 0 0] := hyl
            subst hyl
            repeat (first | (refine G_id ?_; first | refine G_nil ?_ | refine G_plain rfl rfl ?_) | (refine X_id ?_; first | refine X_yl (Yl_move rfl rfl) rfl rfl ?_ | refine X_yl (Yl_assign rfl rfl) rfl rfl ?_ | refine X_yl (Yl_fieldAddr0 rfl rfl rfl) rfl rfl ?_ | refine X_yl (Yl_lss_t rfl rfl rfl (by omega)) rfl rfl ?_ | refine X_yl (Yl_indexAddr rfl rfl rfl (by omega) (by omega) (by first | assumption | exact ⟨_, _, rfl⟩)) rfl rfl ?_ | refine X_yl (Yl_add rfl rfl rfl (w64 (by omega) (by omega))) rfl rfl ?_ | refine X_yl (Yl_loadN rfl rfl ((hr.rd hS).cellsX (by omega) hxs rfl)) rfl rfl ?_ | refine X_store rfl rfl rfl rfl hS (fun _ hS _ => ?_) | refine X_alloc rfl rfl rfl hS (fun _ _ hS _ => ?_) | refine X_yl (Yl_load rfl rfl (cell_at (hc.rd hS).pts)) rfl rfl ?_) | (refine C_id ?_; first | refine C_seq ?_ | refine C_region ?_ | refine C_block ?_ | refine C_skip ?_ | refine C_cond_t rfl ?_) | (refine E_id ?_; first | refine E_code ?_))
            refine X_yl (Yl_loadN rfl rfl ((hrows.rd hS).cellsX (by omega) hys rfl)) rfl rfl ?_
            repeat (first | (refine G_id ?_; first | refine G_nil ?_ | refine G_plain rfl rfl ?_ | refine G_yes rfl rfl rfl rfl ?_) | (refine X_id ?_; first | refine X_yl (Yl_move rfl rfl) rfl rfl ?_ | refine X_yl (Yl_assign rfl rfl) rfl rfl ?_ | refine X_yl (Yl_nilCheck rfl rfl) rfl rfl ?_ | refine X_yl (Yl_fieldAddr0 rfl rfl rfl) rfl rfl ?_ | refine X_yl (Yl_pick_t rfl rfl rfl) rfl rfl ?_ | refine X_yl (Yl_eql_t rfl rfl rfl (by omega)) rfl rfl ?_ | refine X_yl (Yl_add rfl rfl rfl (w64 (by omega) (by omega))) rfl rfl ?_ | refine X_yl (Yl_load rfl rfl hS.cell) rfl rfl ?_ | refine X_store rfl rfl rfl rfl hS (fun _ hS _ => ?_) | refine X_alloc rfl rfl rfl hS (fun _ _ hS _ => ?_) | refine X_yl (Yl_bytesStr rfl rfl (hb.rd hS) rfl) rfl rfl ?_) | (refine C_id ?_; first | refine C_seq ?_ | refine C_region ?_ | refine C_block ?_ | refine C_cond_t rfl ?_) | (refine E_id ?_; first | refine E_code ?_ | refine E_blk_n ?_))
            refine E_round (i + 1, { cm with arch := v }) ⟨rfl, rfl, rfl, rfl, rfl, rfl, rfl, trivial⟩ ⟨hlt, hstep _ rfl, ?_⟩ (by dsimp only; omega)
            exact hS.pick [2, 2, 2]
          | num n =>
            have hyl : ys = [.int .i64 0, .int .i64 n, .slice none 0 0, .slice none 0 0] := hyl
            subst hyl
            repeat (first | (refine G_id ?_; first | refine G_nil ?_ | refine G_plain rfl rfl ?_) | (refine X_id ?_; first | refine X_yl (Yl_move rfl rfl) rfl rfl ?_ | refine X_yl (Yl_assign rfl rfl) rfl rfl ?_ | refine X_yl (Yl_fieldAddr0 rfl rfl rfl) rfl rfl ?_ | refine X_yl (Yl_lss_t rfl rfl rfl (by omega)) rfl rfl ?_ | refine X_yl (Yl_indexAddr rfl rfl rfl (by omega) (by omega) (by first | assumption | exact ⟨_, _, rfl⟩)) rfl rfl ?_ | refine X_yl (Yl_add rfl rfl rfl (w64 (by omega) (by omega))) rfl rfl ?_ | refine X_yl (Yl_loadN rfl rfl ((hr.rd hS).cellsX (by omega) hxs rfl)) rfl rfl ?_ | refine X_store rfl rfl rfl rfl hS (fun _ hS _ => ?_) | refine X_alloc rfl rfl rfl hS (fun _ _ hS _ => ?_) | refine X_yl (Yl_load rfl rfl (cell_at (hc.rd hS).pts)) rfl rfl ?_) | (refine C_id ?_; first | refine C_seq ?_ | refine C_region ?_ | refine C_block ?_ | refine C_skip ?_ | refine C_cond_t rfl ?_) | (refine E_id ?_; first | refine E_code ?_))
            refine X_yl (Yl_loadN rfl rfl ((hrows.rd hS).cellsX (by omega) hys rfl)) rfl rfl ?_
            repeat (first | (refine G_id ?_; first | refine G_nil ?_ | refine G_plain rfl rfl ?_ | refine G_yes rfl rfl rfl rfl ?_ | refine G_no rfl rfl rfl rfl rfl rfl ?_) | (refine X_id ?_; first | refine X_yl (Yl_move rfl rfl) rfl rfl ?_ | refine X_yl (Yl_assign rfl rfl) rfl rfl ?_ | refine X_yl (Yl_fieldAddr0 rfl rfl rfl) rfl rfl ?_ | refine X_yl (Yl_pick_t rfl rfl rfl) rfl rfl ?_ | refine X_yl (Yl_pick_f rfl rfl rfl) rfl rfl ?_ | refine X_yl (Yl_not_t rfl rfl) rfl rfl ?_ | refine X_yl (Yl_eql_f rfl rfl rfl (by omega)) rfl rfl ?_ | refine X_yl (Yl_build rfl rfl rfl) rfl rfl ?_ | refine X_yl (Yl_load rfl rfl hS.cell) rfl rfl ?_ | refine X_store rfl rfl rfl rfl hS (fun _ hS _ => ?_) | refine X_alloc rfl rfl rfl hS (fun _ _ hS _ => ?_)) | (refine C_id ?_; first | refine C_seq ?_ | refine C_region ?_ | refine C_block ?_ | refine C_ret ?_ | refine C_cond_f rfl ?_) | (refine E_id ?_; first | refine E_code ?_ | refine E_then_ret ?_ | refine E_blk_ret ?_ | refine E_ret2 rfl (by first | exact Rv_tmp rfl | exact Rv_cell rfl (run_load1 hS.cell) | exact Rv_cell rfl (run_loadN hS.cellsN)) (by first | exact Rv_tmp rfl | exact Rv_cell rfl (run_load1 hS.cell) | exact Rv_cell rfl (run_loadN hS.cellsN)) (Ret.mk ?_)))
            rw [hstep none rfl]
            exact ⟨rfl, (hbk hS).drops⟩
          | oth =>
            obtain ⟨a1, n1, c1, hyl⟩ := hyl
            have hyl : ys = [.int .i64 2, .int .i64 0, .slice none 0 0, .slice a1 n1 c1] := hyl
            subst hyl
            repeat (first | (refine G_id ?_; first | refine G_nil ?_ | refine G_plain rfl rfl ?_) | (refine X_id ?_; first | refine X_yl (Yl_move rfl rfl) rfl rfl ?_ | refine X_yl (Yl_assign rfl rfl) rfl rfl ?_ | refine X_yl (Yl_fieldAddr0 rfl rfl rfl) rfl rfl ?_ | refine X_yl (Yl_lss_t rfl rfl rfl (by omega)) rfl rfl ?_ | refine X_yl (Yl_indexAddr rfl rfl rfl (by omega) (by omega) (by first | assumption | exact ⟨_, _, rfl⟩)) rfl rfl ?_ | refine X_yl (Yl_add rfl rfl rfl (w64 (by omega) (by omega))) rfl rfl ?_ | refine X_yl (Yl_loadN rfl rfl ((hr.rd hS).cellsX (by omega) hxs rfl)) rfl rfl ?_ | refine X_store rfl rfl rfl rfl hS (fun _ hS _ => ?_) | refine X_alloc rfl rfl rfl hS (fun _ _ hS _ => ?_) | refine X_yl (Yl_load rfl rfl (cell_at (hc.rd hS).pts)) rfl rfl ?_) | (refine C_id ?_; first | refine C_seq ?_ | refine C_region ?_ | refine C_block ?_ | refine C_skip ?_ | refine C_cond_t rfl ?_) | (refine E_id ?_; first | refine E_code ?_))
            refine X_yl (Yl_loadN rfl rfl ((hrows.rd hS).cellsX (by omega) hys rfl)) rfl rfl ?_
            repeat (first | (refine G_id ?_; first | refine G_nil ?_ | refine G_plain rfl rfl ?_ | refine G_yes rfl rfl rfl rfl ?_ | refine G_no rfl rfl rfl rfl rfl rfl ?_) | (refine X_id ?_; first | refine X_yl (Yl_move rfl rfl) rfl rfl ?_ | refine X_yl (Yl_assign rfl rfl) rfl rfl ?_ | refine X_yl (Yl_fieldAddr0 rfl rfl rfl) rfl rfl ?_ | refine X_yl (Yl_pick_t rfl rfl rfl) rfl rfl ?_ | refine X_yl (Yl_pick_f rfl rfl rfl) rfl rfl ?_ | refine X_yl (Yl_not_t rfl rfl) rfl rfl ?_ | refine X_yl (Yl_eql_f rfl rfl rfl (by omega)) rfl rfl ?_ | refine X_yl (Yl_build rfl rfl rfl) rfl rfl ?_ | refine X_yl (Yl_load rfl rfl hS.cell) rfl rfl ?_ | refine X_store rfl rfl rfl rfl hS (fun _ hS _ => ?_) | refine X_alloc rfl rfl rfl hS (fun _ _ hS _ => ?_)) | (refine C_id ?_; first | refine C_seq ?_ | refine C_region ?_ | refine C_block ?_ | refine C_ret ?_ | refine C_cond_f rfl ?_) | (refine E_id ?_; first | refine E_code ?_ | refine E_then_ret ?_ | refine E_blk_ret ?_ | refine E_ret2 rfl (by first | exact Rv_tmp rfl | exact Rv_cell rfl (run_load1 hS.cell) | exact Rv_cell rfl (run_loadN hS.cellsN)) (by first | exact Rv_tmp rfl | exact Rv_cell rfl (run_load1 hS.cell) | exact Rv_cell rfl (run_loadN hS.cellsN)) (Ret.mk ?_)))
            rw [hstep none rfl]
            exact ⟨rfl, (hbk hS).drops⟩
        | n o =>
          simp only [ptv] at hxs
          cases y with
          | txt v =>
            obtain ⟨a1, c1, hyl, hb⟩ := hyl
            have hyl : ys = [.int .i64 1, .int .i64 0, .slice a1 v.length c1, .slice none 0 0] := hyl
            subst hyl
            repeat (first | (refine G_id ?_; first | refine G_nil ?_ | refine G_plain rfl rfl ?_) | (refine X_id ?_; first | refine X_yl (Yl_move rfl rfl) rfl rfl ?_ | refine X_yl (Yl_assign rfl rfl) rfl rfl ?_ | refine X_yl (Yl_fieldAddr0 rfl rfl rfl) rfl rfl ?_ | refine X_yl (Yl_lss_t rfl rfl rfl (by omega)) rfl rfl ?_ | refine X_yl (Yl_indexAddr rfl rfl rfl (by omega) (by omega) (by first | assumption | exact ⟨_, _, rfl⟩)) rfl rfl ?_ | refine X_yl (Yl_add rfl rfl rfl (w64 (by omega) (by omega))) rfl rfl ?_ | refine X_yl (Yl_loadN rfl rfl ((hr.rd hS).cellsX (by omega) hxs rfl)) rfl rfl ?_ | refine X_store rfl rfl rfl rfl hS (fun _ hS _ => ?_) | refine X_alloc rfl rfl rfl hS (fun _ _ hS _ => ?_) | refine X_yl (Yl_load rfl rfl (cell_at (hc.rd hS).pts)) rfl rfl ?_) | (refine C_id ?_; first | refine C_seq ?_ | refine C_region ?_ | refine C_block ?_ | refine C_skip ?_ | refine C_cond_t rfl ?_) | (refine E_id ?_; first | refine E_code ?_))
            refine X_yl (Yl_loadN rfl rfl ((hrows.rd hS).cellsX (by omega) hys rfl)) rfl rfl ?_
            repeat (first | (refine G_id ?_; first | refine G_nil ?_ | refine G_plain rfl rfl ?_ | refine G_yes rfl rfl rfl rfl ?_ | refine G_no rfl rfl rfl rfl rfl rfl ?_) | (refine X_id ?_; first | refine X_yl (Yl_move rfl rfl) rfl rfl ?_ | refine X_yl (Yl_assign rfl rfl) rfl rfl ?_ | refine X_yl (Yl_fieldAddr0 rfl rfl rfl) rfl rfl ?_ | refine X_yl (Yl_pick_t rfl rfl rfl) rfl rfl ?_ | refine X_yl (Yl_pick_f rfl rfl rfl) rfl rfl ?_ | refine X_yl (Yl_not_f rfl rfl) rfl rfl ?_ | refine X_yl (Yl_eql_f rfl rfl rfl (by omega)) rfl rfl ?_ | refine X_yl (Yl_build rfl rfl rfl) rfl rfl ?_ | refine X_yl (Yl_load rfl rfl hS.cell) rfl rfl ?_ | refine X_store rfl rfl rfl rfl hS (fun _ hS _ => ?_) | refine X_alloc rfl rfl rfl hS (fun _ _ hS _ => ?_)) | (refine C_id ?_; first | refine C_seq ?_ | refine C_region ?_ | refine C_block ?_ | refine C_ret ?_ | refine C_cond_f rfl ?_) | (refine E_id ?_; first | refine E_code ?_ | refine E_then_ret ?_ | refine E_blk_ret ?_ | refine E_ret2 rfl (by first | exact Rv_tmp rfl | exact Rv_cell rfl (run_load1 hS.cell) | exact Rv_cell rfl (run_loadN hS.cellsN)) (by first | exact Rv_tmp rfl | exact Rv_cell rfl (run_load1 hS.cell) | exact Rv_cell rfl (run_loadN hS.cellsN)) (Ret.mk ?_)))
            rw [hstep none rfl]
            exact ⟨rfl, (hbk hS).drops⟩
          | num n =>
            have hyl : ys = [.int .i64 0, .int .i64 n, .slice none 0 0, .slice none 0 0] := hyl
            subst hyl
            repeat (first | (refine G_id ?_; first | refine G_nil ?_ | refine G_plain rfl rfl ?_) | (refine X_id ?_; first | refine X_yl (Yl_move rfl rfl) rfl rfl ?_ | refine X_yl (Yl_assign rfl rfl) rfl rfl ?_ | refine X_yl (Yl_fieldAddr0 rfl rfl rfl) rfl rfl ?_ | refine X_yl (Yl_lss_t rfl rfl rfl (by omega)) rfl rfl ?_ | refine X_yl (Yl_indexAddr rfl rfl rfl (by omega) (by omega) (by first | assumption | exact ⟨_, _, rfl⟩)) rfl rfl ?_ | refine X_yl (Yl_add rfl rfl rfl (w64 (by omega) (by omega))) rfl rfl ?_ | refine X_yl (Yl_loadN rfl rfl ((hr.rd hS).cellsX (by omega) hxs rfl)) rfl rfl ?_ | refine X_store rfl rfl rfl rfl hS (fun _ hS _ => ?_) | refine X_alloc rfl rfl rfl hS (fun _ _ hS _ => ?_) | refine X_yl (Yl_load rfl rfl (cell_at (hc.rd hS).pts)) rfl rfl ?_) | (refine C_id ?_; first | refine C_seq ?_ | refine C_region ?_ | refine C_block ?_ | refine C_skip ?_ | refine C_cond_t rfl ?_) | (refine E_id ?_; first | refine E_code ?_))
            refine X_yl (Yl_loadN rfl rfl ((hrows.rd hS).cellsX (by omega) hys rfl)) rfl rfl ?_
            repeat (first | (refine G_id ?_; first | refine G_nil ?_ | refine G_plain rfl rfl ?_ | refine G_yes rfl rfl rfl rfl ?_ | refine G_no rfl rfl rfl rfl rfl rfl ?_) | (refine X_id ?_; first | refine X_yl (Yl_move rfl rfl) rfl rfl ?_ | refine X_yl (Yl_assign rfl rfl) rfl rfl ?_ | refine X_yl (Yl_nilCheck rfl rfl) rfl rfl ?_ | refine X_yl (Yl_fieldAddr0 rfl rfl rfl) rfl rfl ?_ | refine X_yl (Yl_pick_t rfl rfl rfl) rfl rfl ?_ | refine X_yl (Yl_pick_f rfl rfl rfl) rfl rfl ?_ | refine X_yl (Yl_not_f rfl rfl) rfl rfl ?_ | refine X_yl (Yl_eql_t rfl rfl rfl (by omega)) rfl rfl ?_ | refine X_yl (Yl_load rfl rfl hS.cell) rfl rfl ?_ | refine X_store rfl rfl rfl rfl hS (fun _ hS _ => ?_) | refine X_alloc rfl rfl rfl hS (fun _ _ hS _ => ?_)) | (refine C_id ?_; first | refine C_seq ?_ | refine C_region ?_ | refine C_block ?_ | refine C_cond_t rfl ?_ | refine C_cond_f rfl ?_) | (refine E_id ?_; first | refine E_code ?_))
            refine X_storeL rfl rfl rfl rfl (by simp [Value.oneCell']) rfl hS (by have := ok_lt hpok _ (.inr rfl); exact this) (fun w hS _ => ?_)
            rw [splice_n n hpok] at hS
            repeat (first | (refine G_id ?_; first | refine G_nil ?_ | refine G_plain rfl rfl ?_) | (refine X_id ?_; first | refine X_yl (Yl_move rfl rfl) rfl rfl ?_ | refine X_yl (Yl_add rfl rfl rfl (w64 (by omega) (by omega))) rfl rfl ?_) | (refine C_id ?_; first | refine C_region ?_) | (refine E_id ?_; first | refine E_code ?_ | refine E_blk_n ?_))
            refine E_round (i + 1, cm.setN n o) ⟨rfl, rfl, rfl, rfl, rfl, rfl, rfl, trivial⟩ ⟨hlt, hstep _ rfl, ?_⟩ (by dsimp only; omega)
            simp only [setN_arch]
            exact hS.pick [2, 2, 2]
          | oth =>
            obtain ⟨a1, n1, c1, hyl⟩ := hyl
            have hyl : ys = [.int .i64 2, .int .i64 0, .slice none 0 0, .slice a1 n1 c1] := hyl
            subst hyl
            repeat (first | (refine G_id ?_; first | refine G_nil ?_ | refine G_plain rfl rfl ?_) | (refine X_id ?_; first | refine X_yl (Yl_move rfl rfl) rfl rfl ?_ | refine X_yl (Yl_assign rfl rfl) rfl rfl ?_ | refine X_yl (Yl_fieldAddr0 rfl rfl rfl) rfl rfl ?_ | refine X_yl (Yl_lss_t rfl rfl rfl (by omega)) rfl rfl ?_ | refine X_yl (Yl_indexAddr rfl rfl rfl (by omega) (by omega) (by first | assumption | exact ⟨_, _, rfl⟩)) rfl rfl ?_ | refine X_yl (Yl_add rfl rfl rfl (w64 (by omega) (by omega))) rfl rfl ?_ | refine X_yl (Yl_loadN rfl rfl ((hr.rd hS).cellsX (by omega) hxs rfl)) rfl rfl ?_ | refine X_store rfl rfl rfl rfl hS (fun _ hS _ => ?_) | refine X_alloc rfl rfl rfl hS (fun _ _ hS _ => ?_) | refine X_yl (Yl_load rfl rfl (cell_at (hc.rd hS).pts)) rfl rfl ?_) | (refine C_id ?_; first | refine C_seq ?_ | refine C_region ?_ | refine C_block ?_ | refine C_skip ?_ | refine C_cond_t rfl ?_) | (refine E_id ?_; first | refine E_code ?_))
            refine X_yl (Yl_loadN rfl rfl ((hrows.rd hS).cellsX (by omega) hys rfl)) rfl rfl ?_
            repeat (first | (refine G_id ?_; first | refine G_nil ?_ | refine G_plain rfl rfl ?_ | refine G_yes rfl rfl rfl rfl ?_ | refine G_no rfl rfl rfl rfl rfl rfl ?_) | (refine X_id ?_; first | refine X_yl (Yl_move rfl rfl) rfl rfl ?_ | refine X_yl (Yl_assign rfl rfl) rfl rfl ?_ | refine X_yl (Yl_fieldAddr0 rfl rfl rfl) rfl rfl ?_ | refine X_yl (Yl_pick_t rfl rfl rfl) rfl rfl ?_ | refine X_yl (Yl_pick_f rfl rfl rfl) rfl rfl ?_ | refine X_yl (Yl_not_f rfl rfl) rfl rfl ?_ | refine X_yl (Yl_eql_f rfl rfl rfl (by omega)) rfl rfl ?_ | refine X_yl (Yl_build rfl rfl rfl) rfl rfl ?_ | refine X_yl (Yl_load rfl rfl hS.cell) rfl rfl ?_ | refine X_store rfl rfl rfl rfl hS (fun _ hS _ => ?_) | refine X_alloc rfl rfl rfl hS (fun _ _ hS _ => ?_)) | (refine C_id ?_; first | refine C_seq ?_ | refine C_region ?_ | refine C_block ?_ | refine C_ret ?_ | refine C_cond_f rfl ?_) | (refine E_id ?_; first | refine E_code ?_ | refine E_then_ret ?_ | refine E_blk_ret ?_ | refine E_ret2 rfl (by first | exact Rv_tmp rfl | exact Rv_cell rfl (run_load1 hS.cell) | exact Rv_cell rfl (run_loadN hS.cellsN)) (by first | exact Rv_tmp rfl | exact Rv_cell rfl (run_load1 hS.cell) | exact Rv_cell rfl (run_loadN hS.cellsN)) (Ret.mk ?_)))
            rw [hstep none rfl]
            exact ⟨rfl, (hbk hS).drops⟩
end Cr
namespace Cr
open Go
set_option maxRecDepth 10000
section
variable {P : Program} {w : World} {t e : TypeId}
theorem run_strEq {d : Nat} (a b : List UInt8) [he : Und P e .string] : (Op.equalIn (d + 1) e (.string (str a)) (.string (str b))).run P w = .ok (decide (a = b)) w := by
  rw [run_equalIn_string w d e (str a) (str b) he.und, str_toList, str_toList]
  congr 1
  by_cases h : a = b <;> simp [h]
/-- Arrays, element by element. -/
theorem run_equalIn_arrG {α : Type} [DecidableEq α] (enc : α → Value) (d n : Nat) [h : Und P t (.array n e)] [hs : Siz P e 1] [h1 : One P e]
    (heq : ∀ (a b : α) (w : World), (Op.equalIn (d + 1) e (enc a) (enc b)).run P w = .ok (decide (a = b)) w) (a b : List α) (ha : a.length = n) (hb : b.length = n) :
    (Op.equalIn (d + 2) t (.agg (a.map enc).toArray) (.agg (b.map enc).toArray)).run P w = .ok (decide (a = b)) w := by
  unfold Op.equalIn
  simp only [Sem.run_bind, run_underlying h.und, Result.andThen_ok, run_sizeOf (n := 1), Nat.mul_one]
  simp only [Std.Legacy.Range.forIn_eq_forIn_range']
  have hp : ∀ (l : List α) (i : Nat) (hi : i < l.length), (part e (l.map enc).toArray i).run P w = .ok (enc l[i]) w := fun l i hi => by
    simp [part, h1.one, hi]
  have key : ∀ m s, s + m = n → (forIn (List.range' s m) (none, ()) (fun i (__s : Option Bool × Unit) => do
      let __do_lift ← part e (a.map enc).toArray i
      let __do_lift_1 ← part e (b.map enc).toArray i
      let __do_lift ← Op.equalIn (d + 1) e __do_lift __do_lift_1
      if (!__do_lift) = true then pure (ForInStep.done (some false, ())) else pure (ForInStep.yield (none, ()))) : Sem (Option Bool × Unit)).run P w = .ok (if a.drop s = b.drop s then none else some false, ()) w := by
    intro m
    induction m with
    | zero =>
      intro s hs
      rw [List.drop_of_length_le (by omega), List.drop_of_length_le (by omega)]
      simp
    | succ m ih =>
      intro s hs
      have hsa : s < a.length := by omega
      have hsb : s < b.length := by omega
      rw [List.range'_succ, List.forIn_cons]
      simp only [Sem.run_bind, hp a s hsa, hp b s hsb, Result.andThen_ok, heq]
      rw [List.drop_eq_getElem_cons hsa, List.drop_eq_getElem_cons hsb]
      by_cases hc : a[s] = b[s]
      · rw [decide_eq_true hc]
        simp only [Bool.not_true, Bool.false_eq_true, if_false, Sem.run_pure, Result.andThen_ok]
        rw [ih (s + 1) (by omega), hc]
        simp only [List.cons.injEq, true_and]
      · rw [decide_eq_false hc]
        simp only [Bool.not_false, if_true, Sem.run_pure, Result.andThen_ok]
        rw [if_neg (fun h => hc (List.cons.inj h).1)]
  have hz : [:n].size = n := by simp [Std.Legacy.Range.size]
  rw [hz, key n 0 (by omega)]
  by_cases hab : a = b <;> simp [hab]
end
section
variable {P : Program} {o : Oper} {σ : Env} {w : World} {x y : Operand} {t ty e : TypeId}
/-- Comparing values of this type asks no interface. -/
class NoGd (P : Program) (t : TypeId) : Prop where
  no : P.eqGuardType P.depth t = false
def sv (s : List UInt8) : Value := .string (str s)
theorem Yl_neqStrs {n : Nat} (a b : List (List UInt8)) {u v : Array Value} (ho : o.op = .binOp .neq t x y ty) (hx : ev σ x = some (.agg u)) (hy : ev σ y = some (.agg v)) (hu : u = (a.map sv).toArray) (hv : v = (b.map sv).toArray) [h : Und P t (.array n e)] [he : Und P e .string] [hs : Siz P e 1] [h1 : One P e] [hg : NoGd P t] (ha : a.length = n) (hb : b.length = n) :
    Yl P o σ w (.bool (decide (¬ a = b))) := ⟨fun N ds f hf => by
  subst hu hv
  have h2 := run_eqGuard_agg (P := P) (w := w) .neq t x y (a.map sv).toArray (b.map sv).toArray hg.no
  have h3 := run_neq_struct (P := P) (w := w) t (a.map sv).toArray (b.map sv).toArray
  have h4 := run_equalIn_arrG (P := P) (w := w) (t := t) (e := e) sv 9998 n (fun p q w => run_strEq p q) a b ha hb
  have e1 : (!(decide (a = b))) = decide (¬ a = b) := by by_cases q : a = b <;> simp [q]
  simp only [execOp, ho, hf.eval hx, hf.eval hy, Sem.run_bind, h2, h3, h4, Result.andThen_ok, e1]
  rfl⟩
theorem Yl_eqlStrs {n : Nat} (a b : List (List UInt8)) {u v : Array Value} (ho : o.op = .binOp .eql t x y ty) (hx : ev σ x = some (.agg u)) (hy : ev σ y = some (.agg v)) (hu : u = (a.map sv).toArray) (hv : v = (b.map sv).toArray) [h : Und P t (.array n e)] [he : Und P e .string] [hs : Siz P e 1] [h1 : One P e] [hg : NoGd P t] (ha : a.length = n) (hb : b.length = n) :
    Yl P o σ w (.bool (decide (a = b))) := ⟨fun N ds f hf => by
  subst hu hv
  have h2 := run_eqGuard_agg (P := P) (w := w) .eql t x y (a.map sv).toArray (b.map sv).toArray hg.no
  have h3 := run_eql_struct (P := P) (w := w) t (a.map sv).toArray (b.map sv).toArray
  have h4 := run_equalIn_arrG (P := P) (w := w) (t := t) (e := e) sv 9998 n (fun p q w => run_strEq p q) a b ha hb
  simp only [execOp, ho, hf.eval hx, hf.eval hy, Sem.run_bind, h2, h3, h4, Result.andThen_ok]
  rfl⟩
/-- Structs of strings and numbers. -/
inductive SF where
  | s (l : List UInt8)
  | n (k : Int)
def SF.v : SF → Value
  | .s l => .string (str l)
  | .n k => .int .i64 k
/-- A field, and what it holds on both sides. -/
def SFok (P : Program) (xs ys : Array Value) (f : Field) : SF × SF → Prop
  | (.s a, .s b) => P.underlying f.type = some .string ∧ xs[f.offset]? = some (.string (str a)) ∧ ys[f.offset]? = some (.string (str b)) ∧ (f.name == "_") = false
  | (.n a, .n b) => P.underlying f.type = some (.int .i64) ∧ xs[f.offset]? = some (.int .i64 a) ∧ ys[f.offset]? = some (.int .i64 b) ∧ (f.name == "_") = false
  | _ => False
def SFeq : List (SF × SF) → Prop
  | [] => True
  | (.s a, .s b) :: r => a = b ∧ SFeq r
  | (.n a, .n b) :: r => a = b ∧ SFeq r
  | _ :: _ => False
instance : (l : List (SF × SF)) → Decidable (SFeq l)
  | [] => .isTrue trivial
  | (.s a, .s b) :: r => @instDecidableAnd (a = b) (SFeq r) _ (instDecidableSFeq r)
  | (.n a, .n b) :: r => @instDecidableAnd (a = b) (SFeq r) _ (instDecidableSFeq r)
  | (.s _, .n _) :: _ => .isFalse id
  | (.n _, .s _) :: _ => .isFalse id
end
end Cr
namespace Cr
open Go Go.Proofs
set_option maxRecDepth 100000
section
variable {P : Program} {o : Oper} {σ : Env} {w : World} {x y : Operand} {t ty e : TypeId}
instance seg_zero (l : List Value) : Seg l 0 0 [] := ⟨by simp⟩
instance seg_cons (v : Value) (l cs : List Value) (n : Nat) [h : Seg l 0 n cs] : Seg (v :: l) 0 (n + 1) (v :: cs) := ⟨by have := h.seg; simp at this ⊢; exact this⟩
theorem Yl_eql2 {a0 a1 b0 b1 : List UInt8} (ho : o.op = .binOp .eql t x y ty) (hx : ev σ x = some (.agg (List.toArray [.string (str a0), .string (str a1)]))) (hy : ev σ y = some (.agg (List.toArray [.string (str b0), .string (str b1)]))) [h : Und P t (.array 2 e)] [he : Und P e .string] [hs : Siz P e 1] [h1 : One P e] [hg : NoGd P t] :
    Yl P o σ w (.bool (decide ([a0, a1] = [b0, b1]))) := Yl_eqlStrs (n := 2) [a0, a1] [b0, b1] ho hx hy rfl rfl rfl rfl
theorem Yl_neq2 {a0 a1 b0 b1 : List UInt8} (ho : o.op = .binOp .neq t x y ty) (hx : ev σ x = some (.agg (List.toArray [.string (str a0), .string (str a1)]))) (hy : ev σ y = some (.agg (List.toArray [.string (str b0), .string (str b1)]))) [h : Und P t (.array 2 e)] [he : Und P e .string] [hs : Siz P e 1] [h1 : One P e] [hg : NoGd P t] :
    Yl P o σ w (.bool (decide (¬ [a0, a1] = [b0, b1]))) := Yl_neqStrs (n := 2) [a0, a1] [b0, b1] ho hx hy rfl rfl rfl rfl
theorem Yl_neq3 {a0 a1 a2 b0 b1 b2 : List UInt8} (ho : o.op = .binOp .neq t x y ty) (hx : ev σ x = some (.agg (List.toArray [.string (str a0), .string (str a1), .string (str a2)]))) (hy : ev σ y = some (.agg (List.toArray [.string (str b0), .string (str b1), .string (str b2)]))) [h : Und P t (.array 3 e)] [he : Und P e .string] [hs : Siz P e 1] [h1 : One P e] [hg : NoGd P t] :
    Yl P o σ w (.bool (decide (¬ [a0, a1, a2] = [b0, b1, b2]))) := Yl_neqStrs (n := 3) [a0, a1, a2] [b0, b1, b2] ho hx hy rfl rfl rfl rfl
theorem Yl.toT {p : Prop} [Decidable p] (h : Yl P o σ w (.bool (decide p))) (hp : p) : Yl P o σ w (.bool true) := by rwa [decide_eq_true hp] at h
theorem Yl.toF {p : Prop} [Decidable p] (h : Yl P o σ w (.bool (decide p))) (hp : ¬ p) : Yl P o σ w (.bool false) := by rwa [decide_eq_false hp] at h
end
instance : NoGd Tryd.prog 23 := ⟨by kernel_rfl⟩
instance : NoGd Tryd.prog 24 := ⟨by kernel_rfl⟩
abbrev rcV (a b c : List UInt8) (m n : Int) : List Value := [.string (str a), .string (str b), .string (str c), .int .i64 m, .int .i64 n]
theorem run_eqRec (d : Nat) (w : World) (a0 a1 a2 b0 b1 b2 : List UInt8) (m0 m1 n0 n1 : Int) :
    (Op.equalIn (d + 2) 28 (.agg (rcV a0 a1 a2 m0 m1).toArray) (.agg (rcV b0 b1 b2 n0 n1).toArray)).run Tryd.prog w = .ok (decide (a0 = b0 ∧ a1 = b1 ∧ a2 = b2 ∧ m0 = n0 ∧ m1 = n1)) w := by
  have key : ∀ fs, Tryd.prog.underlying 28 = some (.struct fs) → Tryd.prog.fieldsOf 28 = fs := fun fs h => by unfold Program.fieldsOf; rw [h]
  have hu := Tryd.underlying28
  have hf := key _ hu
  rw [run_equalIn_struct w (d + 1) 28 _ _ (by rw [hf]; exact hu) (by kernel_rfl), hf]
  have hs := fun (a b : List UInt8) => run_strEq (P := Tryd.prog) (w := w) (e := 9) (d := d) a b
  have hi := fun (a b : Int) => run_equalIn_int (P := Tryd.prog) w d 3 .i64 .i64 a b Und.und
  have o1 : ∀ w, (isAgg 9).run Tryd.prog w = .ok false w := One.one
  have o2 : ∀ w, (isAgg 3).run Tryd.prog w = .ok false w := One.one
  have e1 : ∀ a b : Int, (a == b) = decide (a = b) := fun a b => by by_cases h : a = b <;> simp [h]
  simp [Op.eqFields, part, o1, o2, hs, hi, e1]
  by_cases h0 : a0 = b0 <;> by_cases h1 : a1 = b1 <;> by_cases h2 : a2 = b2 <;> by_cases h3 : m0 = n0 <;> by_cases h4 : m1 = n1 <;> simp [h0, h1, h2, h3, h4]
instance : NoGd Tryd.prog 28 := ⟨by kernel_rfl⟩
theorem Yl_eqlRec {o : Oper} {σ : Env} {w : World} {x y : Operand} {ty : TypeId} {a0 a1 a2 b0 b1 b2 : List UInt8} {m0 m1 n0 n1 : Int} (ho : o.op = .binOp .eql 28 x y ty) (hx : ev σ x = some (.agg (List.toArray [.string (str a0), .string (str a1), .string (str a2), .int .i64 m0, .int .i64 m1]))) (hy : ev σ y = some (.agg (List.toArray [.string (str b0), .string (str b1), .string (str b2), .int .i64 n0, .int .i64 n1]))) :
    Yl Tryd.prog o σ w (.bool (decide (a0 = b0 ∧ a1 = b1 ∧ a2 = b2 ∧ m0 = n0 ∧ m1 = n1))) := ⟨fun N ds f hf => by
  have h2 := run_eqGuard_agg (P := Tryd.prog) (w := w) .eql 28 x y (rcV a0 a1 a2 m0 m1).toArray (rcV b0 b1 b2 n0 n1).toArray (NoGd.no)
  have h3 := run_eql_struct (P := Tryd.prog) (w := w) 28 (rcV a0 a1 a2 m0 m1).toArray (rcV b0 b1 b2 n0 n1).toArray
  have h4 := run_eqRec 9998 w a0 a1 a2 b0 b1 b2 m0 m1 n0 n1
  simp only [execOp, ho, hf.eval hx, hf.eval hy, Sem.run_bind, h2, h3, h4, Result.andThen_ok]
  rfl⟩
end Cr
namespace Cr
open Go Go.Proofs
set_option maxRecDepth 100000
set_option maxHeartbeats 8000000
attribute [local irreducible] Calls

theorem same_m (c d : Cmd) (aa ab : Option Addr) (ca cb : Nat) (W : World) (ha : Ro W noF (bytes aa c.arch)) (hb0 : Ro W noF (bytes ab d.arch)) :
    Calls Tryd.prog 12 #[.agg (c.cells (.slice aa c.arch.length ca)).toArray, .agg (d.cells (.slice ab d.arch.length cb)).toArray] W (Ret fun v w => v = .bool (decide (c = d)) ∧ St W noF [] w) := by
  have hS := St.start W
  have hne : ∀ (v : Value), ¬ c = d → v = .bool false → v = .bool (decide (c = d)) := fun v h e => by rw [e, decide_eq_false h]
  have heq := fun W h1 h2 => bequal_ aa ab c.arch.length d.arch.length ca cb c.arch d.arch W h1 h2 rfl rfl
  refine calls_C Tryd.func12 rfl Tryd.ntmps12 rfl ?_
  by_cases h1 : c.word = d.word
  case neg =>
    repeat (first | (refine G_id ?_; first | refine G_nil ?_ | refine G_plain rfl rfl ?_ | refine G_no rfl rfl rfl rfl rfl rfl ?_) | (refine X_id ?_; first | refine X_yl (Yl_move rfl rfl) rfl rfl ?_ | refine X_yl (Yl_assign rfl rfl) rfl rfl ?_ | refine X_yl (Yl_fieldAddr0 rfl rfl rfl) rfl rfl ?_ | refine X_yl (Yl_pick_f rfl rfl rfl) rfl rfl ?_ | refine X_yl (Yl_load rfl rfl hS.cell) rfl rfl ?_ | refine X_box rfl rfl rfl rfl hS (fun _ _ hS _ => ?_) | refine X_yl (Yl_eqlStrF rfl rfl rfl (by assumption)) rfl rfl ?_) | (refine C_id ?_; first | refine C_seq ?_ | refine C_region ?_ | refine C_ret ?_) | (refine E_id ?_; first | refine E_code ?_ | refine E_ret1 rfl (Rv_tmp rfl) (Ret.mk ?_)))
    exact ⟨hne _ (fun h => h1 (by rw [h])) rfl, hS.drops⟩
  case pos =>
    by_cases h2 : c.text = d.text
    case neg =>
      repeat (first | (refine G_id ?_; first | refine G_nil ?_ | refine G_plain rfl rfl ?_ | refine G_yes rfl rfl rfl rfl ?_ | refine G_no rfl rfl rfl rfl rfl rfl ?_) | (refine X_id ?_; first | refine X_yl (Yl_move rfl rfl) rfl rfl ?_ | refine X_yl (Yl_assign rfl rfl) rfl rfl ?_ | refine X_yl (Yl_fieldAddr0 rfl rfl rfl) rfl rfl ?_ | refine X_yl (Yl_pick_t rfl rfl rfl) rfl rfl ?_ | refine X_yl (Yl_pick_f rfl rfl rfl) rfl rfl ?_ | refine X_yl (Yl_load rfl rfl hS.cell) rfl rfl ?_ | refine X_box rfl rfl rfl rfl hS (fun _ _ hS _ => ?_) | refine X_yl (Yl_eqlStrT rfl rfl rfl (by assumption)) rfl rfl ?_ | refine X_yl (Yl_eqlStrF rfl rfl rfl (by assumption)) rfl rfl ?_) | (refine C_id ?_; first | refine C_seq ?_ | refine C_region ?_ | refine C_ret ?_) | (refine E_id ?_; first | refine E_code ?_ | refine E_ret1 rfl (Rv_tmp rfl) (Ret.mk ?_)))
      exact ⟨hne _ (fun h => h2 (by rw [h])) rfl, hS.drops⟩
    case pos =>
      by_cases h3 : c.name = d.name
      case neg =>
        repeat (first | (refine G_id ?_; first | refine G_nil ?_ | refine G_plain rfl rfl ?_ | refine G_yes rfl rfl rfl rfl ?_ | refine G_no rfl rfl rfl rfl rfl rfl ?_) | (refine X_id ?_; first | refine X_yl (Yl_move rfl rfl) rfl rfl ?_ | refine X_yl (Yl_assign rfl rfl) rfl rfl ?_ | refine X_yl (Yl_fieldAddr0 rfl rfl rfl) rfl rfl ?_ | refine X_yl (Yl_pick_t rfl rfl rfl) rfl rfl ?_ | refine X_yl (Yl_pick_f rfl rfl rfl) rfl rfl ?_ | refine X_yl (Yl_load rfl rfl hS.cell) rfl rfl ?_ | refine X_box rfl rfl rfl rfl hS (fun _ _ hS _ => ?_) | refine X_yl (Yl_eqlStrT rfl rfl rfl (by assumption)) rfl rfl ?_ | refine X_yl (Yl_eqlStrF rfl rfl rfl (by assumption)) rfl rfl ?_) | (refine C_id ?_; first | refine C_seq ?_ | refine C_region ?_ | refine C_ret ?_) | (refine E_id ?_; first | refine E_code ?_ | refine E_ret1 rfl (Rv_tmp rfl) (Ret.mk ?_)))
        exact ⟨hne _ (fun h => h3 (by rw [h])) rfl, hS.drops⟩
      case pos =>
        by_cases h4 : c.arch = d.arch
        case neg =>
          simp only [decide_eq_false h4] at heq
          repeat (first | (refine G_id ?_; first | refine G_nil ?_ | refine G_plain rfl rfl ?_ | refine G_yes rfl rfl rfl rfl ?_ | refine G_no rfl rfl rfl rfl rfl rfl ?_) | (refine X_id ?_; first | (refine X_callg 31 rfl rfl rfl rfl rfl (heq _ (ha.rd hS) (hb0.rd hS)) ?_; rintro _ _ ⟨rfl, rfl⟩) | refine X_yl (Yl_move rfl rfl) rfl rfl ?_ | refine X_yl (Yl_assign rfl rfl) rfl rfl ?_ | refine X_yl (Yl_fieldAddr0 rfl rfl rfl) rfl rfl ?_ | refine X_yl (Yl_pick_t rfl rfl rfl) rfl rfl ?_ | refine X_yl (Yl_pick_f rfl rfl rfl) rfl rfl ?_ | refine X_yl (Yl_load rfl rfl hS.cell) rfl rfl ?_ | refine X_box rfl rfl rfl rfl hS (fun _ _ hS _ => ?_) | refine X_yl (Yl_eqlStrT rfl rfl rfl (by assumption)) rfl rfl ?_) | (refine C_id ?_; first | refine C_seq ?_ | refine C_region ?_ | refine C_ret ?_) | (refine E_id ?_; first | refine E_code ?_ | refine E_ret1 rfl (Rv_tmp rfl) (Ret.mk ?_)))
          exact ⟨hne _ (fun h => h4 (by rw [h])) rfl, hS.drops⟩
        case pos =>
          simp only [decide_eq_true h4] at heq
          repeat (first | (refine G_id ?_; first | refine G_nil ?_ | refine G_plain rfl rfl ?_ | refine G_yes rfl rfl rfl rfl ?_) | (refine X_id ?_; first | (refine X_callg 31 rfl rfl rfl rfl rfl (heq _ (ha.rd hS) (hb0.rd hS)) ?_; rintro _ _ ⟨rfl, rfl⟩) | refine X_yl (Yl_move rfl rfl) rfl rfl ?_ | refine X_yl (Yl_assign rfl rfl) rfl rfl ?_ | refine X_yl (Yl_fieldAddr0 rfl rfl rfl) rfl rfl ?_ | refine X_yl (Yl_pick_t rfl rfl rfl) rfl rfl ?_ | refine X_yl (Yl_load rfl rfl hS.cell) rfl rfl ?_ | refine X_yl (Yl_loadN rfl rfl hS.cellsN) rfl rfl ?_ | refine X_box rfl rfl rfl rfl hS (fun _ _ hS _ => ?_) | refine X_yl (Yl_eqlStrT rfl rfl rfl (by assumption)) rfl rfl ?_) | (refine C_id ?_; first | refine C_seq ?_ | refine C_region ?_) | (refine E_id ?_; first | refine E_code ?_))
          by_cases h5 : [c.p0, c.p1] = [d.p0, d.p1]
          case neg =>
            refine X_yl ((Yl_eql2 rfl rfl rfl).toF h5) rfl rfl ?_
            repeat (first | (refine G_id ?_; first | refine G_nil ?_ | refine G_plain rfl rfl ?_ | refine G_no rfl rfl rfl rfl rfl rfl ?_) | (refine X_id ?_; first | refine X_yl (Yl_move rfl rfl) rfl rfl ?_ | refine X_yl (Yl_assign rfl rfl) rfl rfl ?_ | refine X_yl (Yl_pick_t rfl rfl rfl) rfl rfl ?_ | refine X_yl (Yl_pick_f rfl rfl rfl) rfl rfl ?_) | (refine C_id ?_; first | refine C_ret ?_) | (refine E_id ?_; first | refine E_code ?_ | refine E_ret1 rfl (Rv_tmp rfl) (Ret.mk ?_)))
            exact ⟨hne _ (fun h => h5 (by rw [h])) rfl, hS.drops⟩
          case pos =>
            refine X_yl ((Yl_eql2 rfl rfl rfl).toT h5) rfl rfl ?_
            repeat (first | (refine G_id ?_; first | refine G_plain rfl rfl ?_ | refine G_yes rfl rfl rfl rfl ?_) | (refine X_id ?_; first | refine X_yl (Yl_move rfl rfl) rfl rfl ?_ | refine X_yl (Yl_fieldAddr0 rfl rfl rfl) rfl rfl ?_ | refine X_yl (Yl_pick_t rfl rfl rfl) rfl rfl ?_ | refine X_yl (Yl_loadN rfl rfl hS.cellsN) rfl rfl ?_))
            by_cases h6 : [c.s0, c.s1] = [d.s0, d.s1]
            case neg =>
              refine X_yl ((Yl_eql2 rfl rfl rfl).toF h6) rfl rfl ?_
              repeat (first | (refine G_id ?_; first | refine G_nil ?_ | refine G_plain rfl rfl ?_ | refine G_no rfl rfl rfl rfl rfl rfl ?_) | (refine X_id ?_; first | refine X_yl (Yl_move rfl rfl) rfl rfl ?_ | refine X_yl (Yl_assign rfl rfl) rfl rfl ?_ | refine X_yl (Yl_pick_t rfl rfl rfl) rfl rfl ?_ | refine X_yl (Yl_pick_f rfl rfl rfl) rfl rfl ?_) | (refine C_id ?_; first | refine C_ret ?_) | (refine E_id ?_; first | refine E_code ?_ | refine E_ret1 rfl (Rv_tmp rfl) (Ret.mk ?_)))
              exact ⟨hne _ (fun h => h6 (by rw [h])) rfl, hS.drops⟩
            case pos =>
              refine X_yl ((Yl_eql2 rfl rfl rfl).toT h6) rfl rfl ?_
              repeat (first | (refine G_id ?_; first | refine G_plain rfl rfl ?_ | refine G_yes rfl rfl rfl rfl ?_) | (refine X_id ?_; first | refine X_yl (Yl_move rfl rfl) rfl rfl ?_ | refine X_yl (Yl_fieldAddr0 rfl rfl rfl) rfl rfl ?_ | refine X_yl (Yl_pick_t rfl rfl rfl) rfl rfl ?_ | refine X_yl (Yl_loadN rfl rfl hS.cellsN) rfl rfl ?_))
              by_cases h7 : c.q0 = d.q0 ∧ c.q1 = d.q1 ∧ c.q2 = d.q2 ∧ c.rev = d.rev ∧ c.out = d.out
              case neg =>
                refine X_yl ((Yl_eqlRec rfl rfl rfl).toF h7) rfl rfl ?_
                repeat (first | (refine G_id ?_; first | refine G_nil ?_ | refine G_plain rfl rfl ?_ | refine G_no rfl rfl rfl rfl rfl rfl ?_) | (refine X_id ?_; first | refine X_yl (Yl_move rfl rfl) rfl rfl ?_ | refine X_yl (Yl_assign rfl rfl) rfl rfl ?_ | refine X_yl (Yl_pick_t rfl rfl rfl) rfl rfl ?_ | refine X_yl (Yl_pick_f rfl rfl rfl) rfl rfl ?_) | (refine C_id ?_; first | refine C_ret ?_) | (refine E_id ?_; first | refine E_code ?_ | refine E_ret1 rfl (Rv_tmp rfl) (Ret.mk ?_)))
                exact ⟨hne _ (fun h => h7 (by rw [h]; exact ⟨rfl, rfl, rfl, rfl, rfl⟩)) rfl, hS.drops⟩
              case pos =>
                refine X_yl ((Yl_eqlRec rfl rfl rfl).toT h7) rfl rfl ?_
                repeat (first | (refine G_id ?_; first | refine G_nil ?_ | refine G_plain rfl rfl ?_ | refine G_yes rfl rfl rfl rfl ?_) | (refine X_id ?_; first | refine X_yl (Yl_move rfl rfl) rfl rfl ?_ | refine X_yl (Yl_assign rfl rfl) rfl rfl ?_ | refine X_yl (Yl_fieldAddr0 rfl rfl rfl) rfl rfl ?_ | refine X_yl (Yl_pick_t rfl rfl rfl) rfl rfl ?_ | refine X_yl (Yl_eql rfl rfl rfl) rfl rfl ?_ | refine X_yl (Yl_load rfl rfl hS.cell) rfl rfl ?_) | (refine C_id ?_; first | refine C_ret ?_) | (refine E_id ?_; first | refine E_code ?_ | refine E_ret1 rfl (Rv_tmp rfl) (Ret.mk ?_)))
                refine ⟨?_, hS.drops⟩
                congr 1
                obtain ⟨_, _, _, _, _, _, _, _, _, _, _, _, _, _⟩ := c
                obtain ⟨_, _, _, _, _, _, _, _, _, _, _, _, _, _⟩ := d
                simp only at h1 h2 h3 h4 h5 h6 h7
                simp only [Cmd.mk.injEq]
                simp at h5 h6
                obtain ⟨h7, h8, h9, h10, h11⟩ := h7
                simp [h1, h2, h3, h4, h5, h6, h7, h8, h9, h10, h11]
end Cr
namespace Cr
open Go Go.Proofs
set_option maxRecDepth 100000
set_option maxHeartbeats 4000000
attribute [local irreducible] Calls

/-- take: where the reader stands then, and what is wrong. -/
def takeP (s : List UInt8) (i : Nat) (e : Int) (k : UInt8) : Nat × Int :=
  if e ≠ 0 then (i, e) else if ¬ i < s.length then (i, 4) else if s[i]? = some k then (i + 1, 0) else (i, 3)
theorem take_ (p : Nat) (a : Option Addr) (s : List UInt8) (c : Nat) (i : Nat) (e : Int) (k : UInt8) (W : World) (F : Nat → Prop) (hS : St W F [Rdr p a s.length c i e] W) (hb : Ro W F (bytes a s)) (hl : s.length ≤ 1099511627776) :
    Calls Tryd.prog 70 #[.pointer (some ⟨p, 0, none⟩), .int .u8 (k.toNat : Int)] W (Ret fun v w => v = .tuple #[] ∧ St W F [Rdr p a s.length c (takeP s i e k).1 (takeP s i e k).2] w) := by
  by_cases he : e = 0
  · subst he
    by_cases h : i < s.length
    · have hm := more_ p a s.length c i 0
      simp only [decide_eq_true h] at hm
      have hq := is_ p a s c i 0 k
      by_cases hk : s[i]? = some k
      · simp only [decide_eq_true hk] at hq
        rw [show takeP s i 0 k = (i + 1, 0) by unfold takeP; rw [if_neg (by simp), if_neg (by simpa using h), if_pos hk]]
        refine calls_C Tryd.func70 rfl Tryd.ntmps70 rfl ?_
        repeat (first | (refine G_id ?_; first | refine G_nil ?_ | refine G_plain rfl rfl ?_) | (refine X_id ?_; first | (refine X_callq 66 rfl rfl rfl rfl rfl hS (hm _ (hS.rd (List.mem_cons_self ..))) ?_; rintro _ _ rfl hS) | (refine X_callq 68 rfl rfl rfl rfl rfl hS (hq _ (hS.rd (List.mem_cons_self ..)) (hb.rd hS)) ?_; rintro _ _ rfl hS) | refine X_yl (Yl_move rfl rfl) rfl rfl ?_ | refine X_yl (Yl_assign rfl rfl) rfl rfl ?_ | refine X_yl (Yl_nilCheck rfl rfl) rfl rfl ?_ | refine X_yl (Yl_fieldAddr0 rfl rfl rfl) rfl rfl ?_ | refine X_yl (Yl_not_t rfl rfl) rfl rfl ?_ | refine X_yl (Yl_neq_f rfl rfl rfl (by omega)) rfl rfl ?_ | refine X_yl (Yl_add rfl rfl rfl (w64 (by omega) (by omega))) rfl rfl ?_ | refine X_yl (Yl_load rfl rfl hS.cell) rfl rfl ?_ | refine X_store rfl rfl rfl rfl hS (fun _ hS _ => ?_)) | (refine C_id ?_; first | refine C_seq ?_ | refine C_region ?_ | refine C_block ?_ | refine C_cond_f rfl ?_) | (refine E_id ?_; first | refine E_code ?_ | refine E_blk_n ?_ | refine E_end0 rfl (Ret.mk ?_)))
        exact ⟨rfl, hS⟩
      · simp only [decide_eq_false hk] at hq
        rw [show takeP s i 0 k = (i, 3) by unfold takeP; rw [if_neg (by simp), if_neg (by simpa using h), if_neg hk]]
        refine calls_C Tryd.func70 rfl Tryd.ntmps70 rfl ?_
        repeat (first | (refine G_id ?_; first | refine G_nil ?_ | refine G_plain rfl rfl ?_) | (refine X_id ?_; first | (refine X_callq 66 rfl rfl rfl rfl rfl hS (hm _ (hS.rd (List.mem_cons_self ..))) ?_; rintro _ _ rfl hS) | (refine X_callq 68 rfl rfl rfl rfl rfl hS (hq _ (hS.rd (List.mem_cons_self ..)) (hb.rd hS)) ?_; rintro _ _ rfl hS) | refine X_yl (Yl_move rfl rfl) rfl rfl ?_ | refine X_yl (Yl_assign rfl rfl) rfl rfl ?_ | refine X_yl (Yl_nilCheck rfl rfl) rfl rfl ?_ | refine X_yl (Yl_fieldAddr0 rfl rfl rfl) rfl rfl ?_ | refine X_yl (Yl_not_t rfl rfl) rfl rfl ?_ | refine X_yl (Yl_not_f rfl rfl) rfl rfl ?_ | refine X_yl (Yl_neq_f rfl rfl rfl (by omega)) rfl rfl ?_ | refine X_yl (Yl_load rfl rfl hS.cell) rfl rfl ?_) | (refine C_id ?_; first | refine C_seq ?_ | refine C_region ?_ | refine C_block ?_ | refine C_cond_t rfl ?_ | refine C_cond_f rfl ?_) | (refine E_id ?_; first | refine E_code ?_))
        obtain ⟨_, hc, hr, hw, hbk⟩ := hS.call [true]
        refine X_callg _ rfl rfl rfl rfl rfl (wrong_ p a s.length c i 0 3 _ _ hc) ?_
        rintro _ w ⟨rfl, hS⟩
        replace hS := hbk hS
        clear hc hr hw hbk
        repeat (first | (refine G_id ?_; first | refine G_nil ?_) | (refine E_id ?_; first | refine E_blk_n ?_ | refine E_end0 rfl (Ret.mk ?_)))
        exact ⟨rfl, hS⟩
    · have hm := more_ p a s.length c i 0
      simp only [decide_eq_false h] at hm
      rw [show takeP s i 0 k = (i, 4) by unfold takeP; rw [if_neg (by simp), if_pos h]]
      refine calls_C Tryd.func70 rfl Tryd.ntmps70 rfl ?_
      repeat (first | (refine G_id ?_; first | refine G_nil ?_ | refine G_plain rfl rfl ?_) | (refine X_id ?_; first | (refine X_callq 66 rfl rfl rfl rfl rfl hS (hm _ (hS.rd (List.mem_cons_self ..))) ?_; rintro _ _ rfl hS) | refine X_yl (Yl_move rfl rfl) rfl rfl ?_ | refine X_yl (Yl_assign rfl rfl) rfl rfl ?_ | refine X_yl (Yl_nilCheck rfl rfl) rfl rfl ?_ | refine X_yl (Yl_fieldAddr0 rfl rfl rfl) rfl rfl ?_ | refine X_yl (Yl_not_f rfl rfl) rfl rfl ?_ | refine X_yl (Yl_neq_f rfl rfl rfl (by omega)) rfl rfl ?_ | refine X_yl (Yl_load rfl rfl hS.cell) rfl rfl ?_) | (refine C_id ?_; first | refine C_seq ?_ | refine C_region ?_ | refine C_block ?_ | refine C_cond_t rfl ?_ | refine C_cond_f rfl ?_) | (refine E_id ?_; first | refine E_code ?_))
      obtain ⟨_, hc, hr, hw, hbk⟩ := hS.call [true]
      refine X_callg _ rfl rfl rfl rfl rfl (wrong_ p a s.length c i 0 4 _ _ hc) ?_
      rintro _ w ⟨rfl, hS⟩
      replace hS := hbk hS
      clear hc hr hw hbk
      repeat (first | (refine G_id ?_; first | refine G_nil ?_) | (refine E_id ?_; first | refine E_blk_n ?_ | refine E_end0 rfl (Ret.mk ?_)))
      exact ⟨rfl, hS⟩
  · rw [show takeP s i e k = (i, e) by unfold takeP; rw [if_pos he]]
    refine calls_C Tryd.func70 rfl Tryd.ntmps70 rfl ?_
    repeat (first | (refine G_id ?_; first | refine G_nil ?_ | refine G_plain rfl rfl ?_) | (refine X_id ?_; first | refine X_yl (Yl_move rfl rfl) rfl rfl ?_ | refine X_yl (Yl_assign rfl rfl) rfl rfl ?_ | refine X_yl (Yl_nilCheck rfl rfl) rfl rfl ?_ | refine X_yl (Yl_fieldAddr0 rfl rfl rfl) rfl rfl ?_ | refine X_yl (Yl_neq_t rfl rfl rfl (by omega)) rfl rfl ?_ | refine X_yl (Yl_load rfl rfl hS.cell) rfl rfl ?_) | (refine C_id ?_; first | refine C_seq ?_ | refine C_region ?_ | refine C_block ?_ | refine C_skip ?_ | refine C_cond_t rfl ?_) | (refine E_id ?_; first | refine E_code ?_ | refine E_blk_n ?_ | refine E_end0 rfl (Ret.mk ?_)))
    exact ⟨rfl, hS⟩
theorem take_bad (p : Nat) (a : Option Addr) (n c : Nat) (i : Nat) (e : Int) (k : UInt8) (W : World) (F : Nat → Prop) (hS : St W F [Rdr p a n c i e] W) (he : e ≠ 0) :
    Calls Tryd.prog 70 #[.pointer (some ⟨p, 0, none⟩), .int .u8 (k.toNat : Int)] W (Ret fun v w => v = .tuple #[] ∧ St W F [Rdr p a n c i e] w) := by
  refine calls_C Tryd.func70 rfl Tryd.ntmps70 rfl ?_
  repeat (first | (refine G_id ?_; first | refine G_nil ?_ | refine G_plain rfl rfl ?_) | (refine X_id ?_; first | refine X_yl (Yl_move rfl rfl) rfl rfl ?_ | refine X_yl (Yl_assign rfl rfl) rfl rfl ?_ | refine X_yl (Yl_nilCheck rfl rfl) rfl rfl ?_ | refine X_yl (Yl_fieldAddr0 rfl rfl rfl) rfl rfl ?_ | refine X_yl (Yl_neq_t rfl rfl rfl (by omega)) rfl rfl ?_ | refine X_yl (Yl_load rfl rfl hS.cell) rfl rfl ?_) | (refine C_id ?_; first | refine C_seq ?_ | refine C_region ?_ | refine C_block ?_ | refine C_skip ?_ | refine C_cond_t rfl ?_) | (refine E_id ?_; first | refine E_code ?_ | refine E_blk_n ?_ | refine E_end0 rfl (Ret.mk ?_)))
  exact ⟨rfl, hS⟩
theorem takeWhile_stop {p : UInt8 → Bool} : ∀ {l : List UInt8} {j : Nat}, (∀ i c, i < j → l[i]? = some c → p c = true) → (∀ c, l[j]? = some c → p c = false) → j ≤ l.length → (l.takeWhile p).length = j
  | [], j, _, _, h => by simp at h; simp [h]
  | x :: l, 0, _, h2, _ => by rw [List.takeWhile_cons, if_neg (by rw [h2 x rfl]; simp)]; rfl
  | x :: l, j + 1, h1, h2, h => by
    rw [List.takeWhile_cons, if_pos (h1 0 x (by omega) rfl), List.length_cons, takeWhile_stop (j := j) (fun i c hi hc => h1 (i + 1) c (by omega) (by simpa using hc)) (fun c hc => h2 c (by simpa using hc)) (by simpa using h)]
/-- Behind the sign: j digits, and then none. -/
theorem numS_stop {s : List UInt8} {i : Nat} {below : Bool} {j : Nat} (h1 : ∀ k c, k < j → s[i + (sgn below (s.drop i)).length + k]? = some c → dig c = true) (h2 : ∀ c, s[i + (sgn below (s.drop i)).length + j]? = some c → dig c = false) (hj : i + (sgn below (s.drop i)).length + j ≤ s.length) :
    (numS below (s.drop i)).length = (sgn below (s.drop i)).length + j := by
  unfold numS
  generalize (sgn below (s.drop i)) = g at *
  rw [List.length_append, List.drop_drop, takeWhile_stop (j := j) (fun k c hk hc => h1 k c hk (by rw [List.getElem?_drop] at hc; exact hc)) (fun c hc => h2 c (by rw [List.getElem?_drop] at hc; exact hc)) (by simp; omega)]
theorem sgn_head {s : List UInt8} {i : Nat} {below : Bool} : sgn below (s.drop i) = if below = true ∧ s[i]? = some 45 then [45] else [] := by
  unfold sgn
  rw [List.head?_drop]
end Cr
namespace Cr
open Go Go.Proofs
set_option maxRecDepth 100000
set_option maxHeartbeats 4000000
attribute [local irreducible] Calls

theorem sub_take {s : List UInt8} {i n : Nat} {t : List UInt8} (h : (s.drop i).take n = t) : (s.drop i).take (i + n - i) = t := by
  rw [show i + n - i = n by omega]; exact h
theorem dig_t {x : UInt8} (h : dig x = true) : ¬ ((x.toNat : Int) < 48) ∧ ¬ ((57 : Int) < (x.toNat : Int)) := by
  have := dig_iff.1 h
  constructor <;> omega
theorem dig_f {x : UInt8} (h : ¬ dig x = true) : ((x.toNat : Int) < 48) ∨ (¬ ((x.toNat : Int) < 48) ∧ (57 : Int) < (x.toNat : Int)) := by
  have h2 : ¬ (48 ≤ x.toNat ∧ x.toNat ≤ 57) := fun q => h (dig_iff.2 q)
  rcases Nat.lt_or_ge x.toNat 48 with h3 | h3
  · exact .inl (by omega)
  · exact .inr ⟨by omega, by omega⟩
theorem St.conv {W : World} {F : Nat → Prop} {rs rs' : List Res} {w : World} (h : St W F rs w) (e : rs = rs') : St W F rs' w := e ▸ h
theorem digits_ (p : Nat) (a : Option Addr) (s : List UInt8) (c : Nat) (hsc : s.length ≤ c) (i : Nat) (e : Int) (below : Bool) (W : World) (F : Nat → Prop) (hS : St W F [Rdr p a s.length c i e] W) (hb : Ro W F (bytes a s)) (hl : s.length ≤ 1099511627776) (hi : i ≤ s.length) :
    Calls Tryd.prog 75 #[.pointer (some ⟨p, 0, none⟩), .bool below] W (Ret fun v w => v = .string (str (numS below (s.drop i))) ∧ St W F [Rdr p a s.length c (i + (numS below (s.drop i)).length) e] w) := by
  have hq := is_ p a s c i e 45
  have hm := more_ p a s.length c
  obtain ⟨g, hg⟩ : ∃ g, (sgn below (s.drop i)).length = g := ⟨_, rfl⟩
  have hgi : i + g ≤ s.length := by
    rw [← hg, sgn_head]
    split
    · rename_i h
      have := (List.getElem?_eq_some_iff.1 h.2).1
      simp; omega
    · simpa using hi
  have h3 : (below = true ∧ s[i]? = some 45 ∧ g = 1) ∨ (below = true ∧ ¬ s[i]? = some 45 ∧ g = 0) ∨ (below = false ∧ g = 0) := by
    rw [sgn_head] at hg
    cases below
    · exact .inr (.inr ⟨rfl, by rw [← hg]; simp⟩)
    · by_cases hk : s[i]? = some 45
      · exact .inl ⟨rfl, hk, by rw [← hg, if_pos ⟨rfl, hk⟩]; rfl⟩
      · exact .inr (.inl ⟨rfl, hk, by rw [← hg, if_neg (fun h => hk h.2)]; rfl⟩)
  have hstop := fun j => numS_stop (s := s) (i := i) (below := below) (j := j)
  rw [hg] at hstop
  have htk := numS_take below (s.drop i)
  generalize numS below (s.drop i) = T at hstop htk ⊢
  clear hg
  refine calls_C Tryd.func75 rfl Tryd.ntmps75 rfl ?_
  rcases h3 with ⟨rfl, hk, hg⟩ | ⟨rfl, hk, hg⟩ | ⟨rfl, hg⟩
  case' inl =>
    simp only [decide_eq_true hk] at hq
    repeat (first | (refine G_id ?_; first | refine G_nil ?_ | refine G_plain rfl rfl ?_ | refine G_yes rfl rfl rfl rfl ?_) | (refine X_id ?_; first | (refine X_callq 68 rfl rfl rfl rfl rfl hS (hq _ (hS.rd (List.mem_cons_self ..)) (hb.rd hS)) ?_; rintro _ _ rfl hS) | refine X_yl (Yl_move rfl rfl) rfl rfl ?_ | refine X_yl (Yl_assign rfl rfl) rfl rfl ?_ | refine X_yl (Yl_nilCheck rfl rfl) rfl rfl ?_ | refine X_yl (Yl_fieldAddr0 rfl rfl rfl) rfl rfl ?_ | refine X_yl (Yl_pick_t rfl rfl rfl) rfl rfl ?_ | refine X_yl (Yl_add rfl rfl rfl (w64 (by omega) (by omega))) rfl rfl ?_ | refine X_yl (Yl_load rfl rfl hS.cell) rfl rfl ?_ | refine X_store rfl rfl rfl rfl hS (fun _ hS _ => ?_)) | (refine C_id ?_; first | refine C_seq ?_ | refine C_label ?_ | refine C_scope rfl ?_ | refine C_region ?_ | refine C_block ?_ | refine C_cond_t rfl ?_) | (refine E_id ?_; first | refine E_code ?_))
    have hS := hS.conv (rs' := [Rdr p a s.length c (i + g) e]) (by rw [hg]; rfl)
  case' inr.inl =>
    simp only [decide_eq_false hk] at hq
    repeat (first | (refine G_id ?_; first | refine G_nil ?_ | refine G_plain rfl rfl ?_ | refine G_yes rfl rfl rfl rfl ?_) | (refine X_id ?_; first | (refine X_callq 68 rfl rfl rfl rfl rfl hS (hq _ (hS.rd (List.mem_cons_self ..)) (hb.rd hS)) ?_; rintro _ _ rfl hS) | refine X_yl (Yl_move rfl rfl) rfl rfl ?_ | refine X_yl (Yl_assign rfl rfl) rfl rfl ?_ | refine X_yl (Yl_nilCheck rfl rfl) rfl rfl ?_ | refine X_yl (Yl_fieldAddr0 rfl rfl rfl) rfl rfl ?_ | refine X_yl (Yl_pick_t rfl rfl rfl) rfl rfl ?_ | refine X_yl (Yl_load rfl rfl hS.cell) rfl rfl ?_) | (refine C_id ?_; first | refine C_seq ?_ | refine C_label ?_ | refine C_scope rfl ?_ | refine C_region ?_ | refine C_block ?_ | refine C_skip ?_ | refine C_cond_f rfl ?_) | (refine E_id ?_; first | refine E_code ?_))
    have hS := hS.conv (rs' := [Rdr p a s.length c (i + g) e]) (by rw [hg]; rfl)
  case' inr.inr =>
    repeat (first | (refine G_id ?_; first | refine G_nil ?_ | refine G_plain rfl rfl ?_ | refine G_no rfl rfl rfl rfl rfl rfl ?_) | (refine X_id ?_; first | refine X_yl (Yl_move rfl rfl) rfl rfl ?_ | refine X_yl (Yl_assign rfl rfl) rfl rfl ?_ | refine X_yl (Yl_nilCheck rfl rfl) rfl rfl ?_ | refine X_yl (Yl_fieldAddr0 rfl rfl rfl) rfl rfl ?_ | refine X_yl (Yl_pick_f rfl rfl rfl) rfl rfl ?_ | refine X_yl (Yl_load rfl rfl hS.cell) rfl rfl ?_) | (refine C_id ?_; first | refine C_seq ?_ | refine C_label ?_ | refine C_scope rfl ?_ | refine C_region ?_ | refine C_block ?_ | refine C_skip ?_ | refine C_cond_f rfl ?_) | (refine E_id ?_; first | refine E_code ?_))
    have hS := hS.conv (rs' := [Rdr p a s.length c (i + g) e]) (by rw [hg]; rfl)
  all_goals
    clear hq hg
    refine C_joinB (α := Unit) (fun _ => [(0, .pointer (some ⟨p, 0, none⟩)), (5, .int .i64 (i : Nat))]) (fun _ w => i + T.length ≤ s.length ∧ St W F [Rdr p a s.length c (i + T.length) e] w) ?_ ?_
    · refine C_loop (α := Nat) (fun _ => [(0, .pointer (some ⟨p, 0, none⟩)), (5, .int .i64 (i : Nat))])
        (fun j w => i + g + j ≤ s.length ∧ (∀ k c, k < j → s[i + g + k]? = some c → dig c = true) ∧ St W F [Rdr p a s.length c (i + g + j) e] w) (fun j => s.length - j) 0 ⟨rfl, rfl, trivial⟩ ⟨hgi, fun k c hk => by omega, hS⟩ ?_
      clear hS
      rintro j w ⟨hj, hd, hS⟩
      by_cases hlt : i + g + j < s.length
      · obtain ⟨ab, ao, rfl⟩ := hb.start.base (by intro e; have := bv_length s; rw [e] at this; simp at this; omega)
        have hm := hm (i + g + j) e
        simp only [decide_eq_true hlt] at hm
        obtain ⟨x, hx⟩ : ∃ x, s[i + g + j]? = some x := ⟨_, List.getElem?_eq_getElem hlt⟩
        have hx2 : s.getD ((((i + g + j : Nat) : Int)).toNat * 1) 0 = x := by
          rw [List.getD_eq_getElem?_getD, show ((((i + g + j : Nat) : Int)).toNat * 1) = i + g + j by omega, hx]; rfl
        by_cases hdx : dig x = true
        · obtain ⟨d1, d2⟩ := dig_t hdx
          rw [← hx2] at d1 d2
          repeat (first | (refine G_id ?_; first | refine G_nil ?_ | refine G_plain rfl rfl ?_) | (refine X_id ?_; first | (refine X_callq 66 rfl rfl rfl rfl rfl hS (hm _ (hS.rd (List.mem_cons_self ..))) ?_; rintro _ _ rfl hS) | refine X_yl (Yl_move rfl rfl) rfl rfl ?_ | refine X_yl (Yl_nilCheck rfl rfl) rfl rfl ?_ | refine X_yl (Yl_fieldAddr0 rfl rfl rfl) rfl rfl ?_) | (refine C_id ?_; first | refine C_seq ?_ | refine C_region ?_ | refine C_block ?_ | refine C_skip ?_ | refine C_cond_t rfl ?_) | (refine E_id ?_; first | refine E_code ?_))
          refine C_ord (.s 0 (.s 1 (.s 2 (.s 3 (.s 4 (.s 5 (.s 6 (.s 7 (.s 8 (.s 9 (.s 10 (.s 11 (.s 12 .nil))))))))))))) mixed (by kernel_rfl) rfl ?_
          have hS := hS.drew
          repeat (first | (refine G_id ?_; first | refine G_nil ?_ | refine G_plain rfl rfl ?_ | refine G_yes rfl rfl rfl rfl ?_) | (refine X_id ?_; first | refine X_yl (Yl_move rfl rfl) rfl rfl ?_ | refine X_yl (Yl_assign rfl rfl) rfl rfl ?_ | refine X_yl (Yl_nilCheck rfl rfl) rfl rfl ?_ | refine X_yl (Yl_fieldAddr0 rfl rfl rfl) rfl rfl ?_ | refine X_yl (Yl_pick_f rfl rfl rfl) rfl rfl ?_ | refine X_yl (Yl_lss_f rfl rfl rfl (by omega)) rfl rfl ?_ | refine X_yl (Yl_gtr_f rfl rfl rfl (by omega)) rfl rfl ?_ | refine X_yl (Yl_add rfl rfl rfl (w64 (by omega) (by omega))) rfl rfl ?_ | refine X_yl (Yl_load rfl rfl hS.cell) rfl rfl ?_ | refine X_store rfl rfl rfl rfl hS (fun _ hS _ => ?_)) | (refine C_id ?_; first | refine C_seq ?_ | refine C_region ?_ | refine C_block ?_ | refine C_skip ?_ | refine C_cond_f rfl ?_) | (refine E_id ?_; first | refine E_code ?_ | refine E_blk_n ?_) | (refine GO_id ?_; first | refine GO_nil ?_ | refine GO_pure rfl rfl (fun _ => Yl_move rfl rfl) rfl rfl ?_ | refine GO_pure rfl rfl (fun _ => Yl_assign rfl rfl) rfl rfl ?_ | refine GO_pure rfl rfl (fun _ => Yl_nilCheck rfl rfl) rfl rfl ?_ | refine GO_pure rfl rfl (fun _ => Yl_fieldAddr0 rfl rfl rfl) rfl rfl ?_ | refine GO_pure rfl rfl (fun _ => Yl_indexAddr rfl rfl rfl (by omega) (by omega) (by first | assumption | exact ⟨_, _, rfl⟩)) rfl rfl ?_ | refine GO_read (fun w' => w'.cell? _ = some _) rfl rfl hS.cell (fun _ hc => Yl_load rfl rfl hc) rfl rfl ?_ | refine GO_read (fun w' => w'.cell? _ = some _) rfl rfl ((hb.rd hS).cellB' (by omega)) (fun _ hc => Yl_load rfl rfl hc) rfl rfl ?_))
          refine E_round (j + 1) ⟨rfl, rfl, trivial⟩ ⟨by omega, fun k c hk hc => ?_, hS⟩ (by omega)
          rcases Nat.lt_or_ge k j with h | h
          · exact hd k c h hc
          · obtain rfl : k = j := by omega
            rw [hx] at hc
            rw [← Option.some.inj hc]; exact hdx
        · have hT := hstop j hd (fun c hc => by
            rw [hx] at hc
            rw [← Option.some.inj hc]; simpa using hdx) hj
          rcases dig_f hdx with d1 | ⟨d1, d2⟩
          · rw [← hx2] at d1
            repeat (first | (refine G_id ?_; first | refine G_nil ?_ | refine G_plain rfl rfl ?_) | (refine X_id ?_; first | (refine X_callq 66 rfl rfl rfl rfl rfl hS (hm _ (hS.rd (List.mem_cons_self ..))) ?_; rintro _ _ rfl hS) | refine X_yl (Yl_move rfl rfl) rfl rfl ?_ | refine X_yl (Yl_nilCheck rfl rfl) rfl rfl ?_ | refine X_yl (Yl_fieldAddr0 rfl rfl rfl) rfl rfl ?_) | (refine C_id ?_; first | refine C_seq ?_ | refine C_region ?_ | refine C_block ?_ | refine C_skip ?_ | refine C_cond_t rfl ?_) | (refine E_id ?_; first | refine E_code ?_))
            refine C_ord (.s 0 (.s 1 (.s 2 (.s 3 (.s 4 (.s 5 (.s 6 (.s 7 (.s 8 (.s 9 (.s 10 (.s 11 (.s 12 .nil))))))))))))) mixed (by kernel_rfl) rfl ?_
            have hS := hS.drew
            repeat (first | (refine G_id ?_; first | refine G_nil ?_ | refine G_plain rfl rfl ?_ | refine G_no rfl rfl rfl rfl rfl rfl ?_) | (refine X_id ?_; first | refine X_yl (Yl_move rfl rfl) rfl rfl ?_ | refine X_yl (Yl_assign rfl rfl) rfl rfl ?_ | refine X_yl (Yl_pick_t rfl rfl rfl) rfl rfl ?_ | refine X_yl (Yl_lss_t rfl rfl rfl (by omega)) rfl rfl ?_) | (refine C_id ?_; first | refine C_seq ?_ | refine C_region ?_ | refine C_block ?_ | refine C_exit ?_ | refine C_cond_t rfl ?_) | (refine E_id ?_; first | refine E_code ?_ | refine E_then_exit ?_ | refine E_blk_same ?_ | refine E_blk_ne rfl ?_) | (refine GO_id ?_; first | refine GO_nil ?_ | refine GO_pure rfl rfl (fun _ => Yl_move rfl rfl) rfl rfl ?_ | refine GO_pure rfl rfl (fun _ => Yl_assign rfl rfl) rfl rfl ?_ | refine GO_pure rfl rfl (fun _ => Yl_nilCheck rfl rfl) rfl rfl ?_ | refine GO_pure rfl rfl (fun _ => Yl_fieldAddr0 rfl rfl rfl) rfl rfl ?_ | refine GO_pure rfl rfl (fun _ => Yl_indexAddr rfl rfl rfl (by omega) (by omega) (by first | assumption | exact ⟨_, _, rfl⟩)) rfl rfl ?_ | refine GO_read (fun w' => w'.cell? _ = some _) rfl rfl hS.cell (fun _ hc => Yl_load rfl rfl hc) rfl rfl ?_ | refine GO_read (fun w' => w'.cell? _ = some _) rfl rfl ((hb.rd hS).cellB' (by omega)) (fun _ hc => Yl_load rfl rfl hc) rfl rfl ?_))
            exact E_mid () ⟨rfl, rfl, trivial⟩ ⟨by omega, hS.conv (by rw [hT, Nat.add_assoc])⟩
          · rw [← hx2] at d1 d2
            repeat (first | (refine G_id ?_; first | refine G_nil ?_ | refine G_plain rfl rfl ?_) | (refine X_id ?_; first | (refine X_callq 66 rfl rfl rfl rfl rfl hS (hm _ (hS.rd (List.mem_cons_self ..))) ?_; rintro _ _ rfl hS) | refine X_yl (Yl_move rfl rfl) rfl rfl ?_ | refine X_yl (Yl_nilCheck rfl rfl) rfl rfl ?_ | refine X_yl (Yl_fieldAddr0 rfl rfl rfl) rfl rfl ?_) | (refine C_id ?_; first | refine C_seq ?_ | refine C_region ?_ | refine C_block ?_ | refine C_skip ?_ | refine C_cond_t rfl ?_) | (refine E_id ?_; first | refine E_code ?_))
            refine C_ord (.s 0 (.s 1 (.s 2 (.s 3 (.s 4 (.s 5 (.s 6 (.s 7 (.s 8 (.s 9 (.s 10 (.s 11 (.s 12 .nil))))))))))))) mixed (by kernel_rfl) rfl ?_
            have hS := hS.drew
            repeat (first | (refine G_id ?_; first | refine G_nil ?_ | refine G_plain rfl rfl ?_ | refine G_yes rfl rfl rfl rfl ?_) | (refine X_id ?_; first | refine X_yl (Yl_move rfl rfl) rfl rfl ?_ | refine X_yl (Yl_assign rfl rfl) rfl rfl ?_ | refine X_yl (Yl_pick_f rfl rfl rfl) rfl rfl ?_ | refine X_yl (Yl_lss_f rfl rfl rfl (by omega)) rfl rfl ?_ | refine X_yl (Yl_gtr_t rfl rfl rfl (by omega)) rfl rfl ?_) | (refine C_id ?_; first | refine C_seq ?_ | refine C_region ?_ | refine C_block ?_ | refine C_exit ?_ | refine C_cond_t rfl ?_) | (refine E_id ?_; first | refine E_code ?_ | refine E_then_exit ?_ | refine E_blk_same ?_ | refine E_blk_ne rfl ?_) | (refine GO_id ?_; first | refine GO_nil ?_ | refine GO_pure rfl rfl (fun _ => Yl_move rfl rfl) rfl rfl ?_ | refine GO_pure rfl rfl (fun _ => Yl_assign rfl rfl) rfl rfl ?_ | refine GO_pure rfl rfl (fun _ => Yl_nilCheck rfl rfl) rfl rfl ?_ | refine GO_pure rfl rfl (fun _ => Yl_fieldAddr0 rfl rfl rfl) rfl rfl ?_ | refine GO_pure rfl rfl (fun _ => Yl_indexAddr rfl rfl rfl (by omega) (by omega) (by first | assumption | exact ⟨_, _, rfl⟩)) rfl rfl ?_ | refine GO_read (fun w' => w'.cell? _ = some _) rfl rfl hS.cell (fun _ hc => Yl_load rfl rfl hc) rfl rfl ?_ | refine GO_read (fun w' => w'.cell? _ = some _) rfl rfl ((hb.rd hS).cellB' (by omega)) (fun _ hc => Yl_load rfl rfl hc) rfl rfl ?_))
            exact E_mid () ⟨rfl, rfl, trivial⟩ ⟨by omega, hS.conv (by rw [hT, Nat.add_assoc])⟩
      · have hm := hm (i + g + j) e
        simp only [decide_eq_false hlt] at hm
        have hT := hstop j hd (fun c hc => by rw [List.getElem?_eq_none (by omega)] at hc; cases hc) hj
        repeat (first | (refine G_id ?_; first | refine G_nil ?_ | refine G_plain rfl rfl ?_) | (refine X_id ?_; first | (refine X_callq 66 rfl rfl rfl rfl rfl hS (hm _ (hS.rd (List.mem_cons_self ..))) ?_; rintro _ _ rfl hS) | refine X_yl (Yl_move rfl rfl) rfl rfl ?_ | refine X_yl (Yl_nilCheck rfl rfl) rfl rfl ?_ | refine X_yl (Yl_fieldAddr0 rfl rfl rfl) rfl rfl ?_) | (refine C_id ?_; first | refine C_seq ?_ | refine C_region ?_ | refine C_exit ?_ | refine C_cond_f rfl ?_) | (refine E_id ?_; first | refine E_code ?_ | refine E_then_exit ?_ | refine E_blk_same ?_))
        exact E_mid () ⟨rfl, rfl, trivial⟩ ⟨by omega, hS.conv (by rw [hT, Nat.add_assoc])⟩
    · clear hS
      rintro _ w ⟨hT, hS⟩
      repeat (first | (refine C_id ?_; first | refine C_seq ?_))
      have hsb := hb.subBytes (l := i) (h := i + T.length) (c := c) (by omega) (by omega)
      rw [sub_take htk] at hsb
      refine C_ord (.s 0 (.s 1 (.s 2 (.s 3 (.s 4 (.s 5 (.s 6 (.s 7 (.s 8 (.s 9 (.s 10 (.s 11 (.s 12 (.s 13 .nil)))))))))))))) mixed (by kernel_rfl) rfl ?_
      have hS := hS.drew
      repeat (first | (refine GO_id ?_; first | refine GO_pure rfl rfl (fun _ => Yl_move rfl rfl) rfl rfl ?_ | refine GO_pure rfl rfl (fun _ => Yl_nilCheck rfl rfl) rfl rfl ?_ | refine GO_pure rfl rfl (fun _ => Yl_fieldAddr0 rfl rfl rfl) rfl rfl ?_ | refine GO_read (fun w' => w'.cell? _ = some _) rfl rfl hS.cell (fun _ hc => Yl_load rfl rfl hc) rfl rfl ?_))
      refine GO_pure rfl rfl (fun _ => Yl_slice (l := i) (h := i + T.length) rfl rfl rfl rfl (.inr ⟨_, _, rfl, by omega, by omega, by omega⟩) (.inr ⟨_, _, rfl, by omega, by omega, by omega⟩)) rfl rfl ?_
      refine GO_read (fun w' => Rd w' (bytes (sub a i 1 c) T)) rfl rfl (hsb.rd hS) (fun _ h => Yl_bytesStr rfl rfl h (by omega)) rfl rfl ?_
      repeat (first | (refine C_id ?_; first | refine C_ret ?_) | (refine E_id ?_; first | refine E_code ?_ | refine E_noGoto (fun _ h => by cases h) ?_ | refine E_ret1 rfl (Rv_tmp rfl) (Ret.mk ?_)) | (refine GO_id ?_; first | refine GO_nil ?_ | refine GO_pure rfl rfl (fun _ => Yl_assign rfl rfl) rfl rfl ?_))
      exact ⟨rfl, hS⟩
end Cr
