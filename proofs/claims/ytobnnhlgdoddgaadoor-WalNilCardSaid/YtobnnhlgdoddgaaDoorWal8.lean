/-
  Layer 4 (wal): entry.
-/
import Derived.Test.YtobnnhlgdoddgaaDoorWal7
namespace Cr
open Go Go.Proofs
set_option maxRecDepth 100000
set_option maxHeartbeats 4000000
attribute [local irreducible] Calls

/-- A write of the journal, as it lies. -/
structure Ent where
  no : Int
  b : List UInt8
  count : Int
  d : List UInt8
  ok : Bool
def Ent.none : Ent := ⟨0, [], 0, List.replicate 32 0, false⟩
def entOf (a b : List UInt8) (number at_ top : Int) : Ent :=
  ⟨smallN ((a.drop 16).take 4), b, smallN ((a.drop 12).take 4), (a.drop 20).take 32, decide (a = noteB number at_ (smallN ((a.drop 12).take 4)) (smallN ((a.drop 16).take 4)) ((a.drop 20).take 32)) && decide (smallN ((a.drop 16).take 4) < top)⟩
def entM (D : DiskM) (j : Nat) (number at_ : Int) : Ent :=
  if at_ < 0 ∨ (j : Int) / 2 ≤ at_ then Ent.none else
  if ¬ (D.read (1 + 2 * at_)).1 = 0 ∨ ¬ (D.read (1 + 2 * at_ + 1)).1 = 0 then Ent.none else
  entOf (D.read (1 + 2 * at_)).2 (D.read (1 + 2 * at_ + 1)).2 number at_ ((D.laid.length : Int) - 1 - j)
theorem read_64 {D : DiskM} (hok : D.ok) {no : Int} (h : (D.read no).1 = 0) : (D.read no).2.length = 64 := by
  unfold DiskM.read at h ⊢
  by_cases h1 : D.off = true
  · simp [h1] at h
  · rw [if_neg h1] at h ⊢
    by_cases h2 : inDisk D no = false
    · simp [h2] at h
    · rw [if_neg h2]
      have h2' : 0 ≤ no ∧ no < D.laid.length := by simpa [inDisk] using h2
      simp only [DiskM.find]
      split
      · rename_i x hx
        exact (hok.line64 x (by simpa using List.mem_of_find?_eq_some hx)).1
      · rw [List.getD_eq_getElem?_getD, List.getElem?_eq_getElem (show no.toNat < D.laid.length by omega)]
        exact hok.laid64 _ (List.getElem_mem _)
def Ent.val (e : Ent) (a : Option Addr) (c : Nat) : Value := .tuple #[.agg #[.int .i64 e.no, .slice a e.b.length c], .int .i64 e.count, .agg (bv e.d).toArray, .bool e.ok]
theorem small_sub (ab ao l n c : Nat) (s : List UInt8) (w : World) (hs : Rd w (bytes (some ⟨ab, ao, none⟩) s)) (h : l + n ≤ s.length) (hn : n ≤ 1048576) (hc : s.length ≤ c) (h0 : 0 < n) :
    Calls Tryd.prog 50 #[.slice (some ⟨ab, ao + l, none⟩) n (c - l)] w (Ret fun v w' => v = .int .i64 (smallN ((s.drop l).take n)) ∧ w = w') := by
  have h1 := hs.subBytes (l := l) (h := l + n) (c := c) (by omega) (by omega)
  rw [show sub (some ⟨ab, ao, none⟩) l 1 c = some ⟨ab, ao + l, none⟩ by unfold sub; rw [if_neg (by omega)]; simp [add_lit], show l + n - l = n by omega] at h1
  have hl : ((s.drop l).take n).length = n := by simp; omega
  have := small_ (some ⟨ab, ao + l, none⟩) (c - l) ((s.drop l).take n) w h1 (by omega)
  rw [hl] at this
  exact this
theorem entry_ (lp p : Nat) (o s m : Int) (j : Nat) (done : Int) (rdn : Bool) (D : DiskM) (number at_ : Int) (W : World) (hL : Rd W (logAt lp p o s m j done rdn)) (hD : Rd W (disk p D)) (hj : j ≤ 4096) (hline : D.line.length < 1073741824) (hat : at_ ≤ 1099511627776) :
    Calls Tryd.prog 52 #[.pointer (some ⟨lp, 0, none⟩), .int .i64 number, .int .i64 at_] W (Ret fun v w => ∃ a c, v = (entM D j number at_).val a c ∧ (entM D j number at_).b.length ≤ c ∧ St W noF [bytes a (entM D j number at_).b] w) := by
  have hS := St.start W
  have hc := hL.pts
  have hLo := hL.ro
  have hDo := hD.ro
  have hok := hD.disk.1
  have hl0 : LenO (bv (List.replicate 32 0)) 32 := inferInstance
  by_cases h1 : at_ < 0
  · have e : entM D j number at_ = Ent.none := by unfold entM; rw [if_pos (.inl h1)]
    refine calls_C Tryd.func52 rfl Tryd.ntmps52 rfl ?_
    repeat (first | (refine G_id ?_; first | refine G_nil ?_ | refine G_plain rfl rfl ?_ | refine G_no rfl rfl rfl rfl rfl rfl ?_) | (refine X_id ?_; first | refine X_yl (Yl_move rfl rfl) rfl rfl ?_ | refine X_yl (Yl_assign rfl rfl) rfl rfl ?_ | refine X_yl (Yl_pick_t rfl rfl rfl) rfl rfl ?_ | refine X_yl (Yl_lss_t rfl rfl rfl (by omega)) rfl rfl ?_ | refine X_alloc rfl rfl rfl hS (fun _ _ hS _ => ?_)) | (refine C_id ?_; first | refine C_seq ?_ | refine C_region ?_ | refine C_cond_t rfl ?_) | (refine E_id ?_; first | refine E_code ?_))
    rw [bv_rep] at hS
    refine C_ord [(0, true), (1, true), (2, false), (3, true), (4, false), (5, true)] mixed (by kernel_rfl) rfl ?_
    have hS := hS.drew
    repeat (first | (refine X_id ?_; first | refine X_store rfl rfl rfl rfl hS (fun _ hS _ => ?_) | refine X_storeAll rfl rfl rfl rfl hS (fun _ hS => ?_)) | (refine C_id ?_; first | refine C_ret ?_) | (refine E_id ?_; first | refine E_code ?_ | refine E_then_ret ?_ | refine E_ret4 rfl (by first | exact Rv_tmp rfl | exact Rv_cell rfl (run_load1 hS.cell) | exact Rv_cell rfl (run_loadN hS.cellsN)) (by first | exact Rv_tmp rfl | exact Rv_cell rfl (run_load1 hS.cell) | exact Rv_cell rfl (run_loadN hS.cellsN)) (by first | exact Rv_tmp rfl | exact Rv_cell rfl (run_load1 hS.cell) | exact Rv_cell rfl (run_loadN hS.cellsN)) (by first | exact Rv_tmp rfl | exact Rv_cell rfl (run_load1 hS.cell) | exact Rv_cell rfl (run_loadN hS.cellsN)) (Ret.mk ?_)) | (refine GO_id ?_; first | refine GO_nil ?_ | refine GO_pure rfl rfl (fun _ => Yl_assign rfl rfl) rfl rfl ?_ | refine GO_read (fun w' => CellsN w' _ _ _) rfl rfl hS.cellsN (fun _ hc => Yl_loadN rfl rfl hc) rfl rfl ?_ | refine GO_hard rfl rfl ?_) | (refine Keep_id ?_; first | refine And.intro (by repeat (first | exact trivial | refine And.intro (.inl (by decide +kernel)) ?_ | refine And.intro (.inr (by first | assumption | exact hS.cell | exact cell_at (by assumption) | exact hS.cellI (by omega) | exact hS.cellIP (by omega) | exact hS.cellsN | exact ((hr.rd hS).cellX (by omega) hx) | exact ((hr2.rd hS).cellX (by omega) hx2) | exact hS.cellB (by omega) | exact hS.cellBA (by omega) | exact (hb.rd hS).cellB' (by omega) | exact (hb2.rd hS).cellB' (by omega) | exact (hg.rd hS).cellI (by omega) | exact (hg2.rd hS).cellI (by omega) | exact ((hr.rd hS).cellF (by first | omega | (dsimp only; omega)) hx) | exact ((hr2.rd hS).cellF (by first | omega | (dsimp only; omega)) hx2))) ?_)) ?_))
    rw [e]
    exact ⟨none, 0, rfl, Nat.le_refl _, hS.drops.row_none⟩
  by_cases h2 : (j : Int) / 2 ≤ at_
  · have e : entM D j number at_ = Ent.none := by unfold entM; rw [if_pos (.inr h2)]
    refine calls_C Tryd.func52 rfl Tryd.ntmps52 rfl ?_
    repeat (first | (refine G_id ?_; first | refine G_nil ?_ | refine G_plain rfl rfl ?_ | refine G_yes rfl rfl rfl rfl ?_) | (refine X_id ?_; first | refine X_yl (Yl_move rfl rfl) rfl rfl ?_ | refine X_yl (Yl_assign rfl rfl) rfl rfl ?_ | refine X_yl (Yl_nilCheck rfl rfl) rfl rfl ?_ | refine X_yl (Yl_fieldAddr0 rfl rfl rfl) rfl rfl ?_ | refine X_yl (Yl_lss_f rfl rfl rfl (by omega)) rfl rfl ?_ | refine X_alloc rfl rfl rfl hS (fun _ _ hS _ => ?_)) | (refine C_id ?_; first | refine C_seq ?_ | refine C_region ?_) | (refine E_id ?_; first | refine E_code ?_))
    have hc := (hLo.rd hS).pts
    repeat (first | (refine G_id ?_; first | refine G_nil ?_ | refine G_plain rfl rfl ?_ | refine G_yes rfl rfl rfl rfl ?_) | (refine X_id ?_; first | refine X_yl (Yl_pick_f rfl rfl rfl) rfl rfl ?_ | refine X_yl (Yl_geq_t rfl rfl rfl (by omega)) rfl rfl ?_ | refine X_yl (Yl_quoE rfl rfl rfl (by omega) (by omega) (by omega)) rfl rfl ?_ | refine X_yl (Yl_load rfl rfl (cell_at (by assumption))) rfl rfl ?_) | (refine C_id ?_; first | refine C_seq ?_ | refine C_cond_t rfl ?_) | (refine E_id ?_; first | refine E_code ?_))
    rw [bv_rep] at hS
    refine C_ord [(0, true), (1, true), (2, false), (3, true), (4, false), (5, true)] mixed (by kernel_rfl) rfl ?_
    have hS := hS.drew
    repeat (first | (refine X_id ?_; first | refine X_store rfl rfl rfl rfl hS (fun _ hS _ => ?_) | refine X_storeAll rfl rfl rfl rfl hS (fun _ hS => ?_)) | (refine C_id ?_; first | refine C_ret ?_) | (refine E_id ?_; first | refine E_code ?_ | refine E_then_ret ?_ | refine E_ret4 rfl (by first | exact Rv_tmp rfl | exact Rv_cell rfl (run_load1 hS.cell) | exact Rv_cell rfl (run_loadN hS.cellsN)) (by first | exact Rv_tmp rfl | exact Rv_cell rfl (run_load1 hS.cell) | exact Rv_cell rfl (run_loadN hS.cellsN)) (by first | exact Rv_tmp rfl | exact Rv_cell rfl (run_load1 hS.cell) | exact Rv_cell rfl (run_loadN hS.cellsN)) (by first | exact Rv_tmp rfl | exact Rv_cell rfl (run_load1 hS.cell) | exact Rv_cell rfl (run_loadN hS.cellsN)) (Ret.mk ?_)) | (refine GO_id ?_; first | refine GO_nil ?_ | refine GO_pure rfl rfl (fun _ => Yl_assign rfl rfl) rfl rfl ?_ | refine GO_read (fun w' => CellsN w' _ _ _) rfl rfl hS.cellsN (fun _ hc => Yl_loadN rfl rfl hc) rfl rfl ?_ | refine GO_hard rfl rfl ?_) | (refine Keep_id ?_; first | refine And.intro (by repeat (first | exact trivial | refine And.intro (.inl (by decide +kernel)) ?_ | refine And.intro (.inr (by first | assumption | exact hS.cell | exact cell_at (by assumption) | exact hS.cellI (by omega) | exact hS.cellIP (by omega) | exact hS.cellsN | exact ((hr.rd hS).cellX (by omega) hx) | exact ((hr2.rd hS).cellX (by omega) hx2) | exact hS.cellB (by omega) | exact hS.cellBA (by omega) | exact (hb.rd hS).cellB' (by omega) | exact (hb2.rd hS).cellB' (by omega) | exact (hg.rd hS).cellI (by omega) | exact (hg2.rd hS).cellI (by omega) | exact ((hr.rd hS).cellF (by first | omega | (dsimp only; omega)) hx) | exact ((hr2.rd hS).cellF (by first | omega | (dsimp only; omega)) hx2))) ?_)) ?_))
    rw [e]
    exact ⟨none, 0, rfl, Nat.le_refl _, hS.drops.row_none⟩
  have e : entM D j number at_ = if ¬ (D.read (1 + 2 * at_)).1 = 0 ∨ ¬ (D.read (1 + 2 * at_ + 1)).1 = 0 then Ent.none else
      entOf (D.read (1 + 2 * at_)).2 (D.read (1 + 2 * at_ + 1)).2 number at_ ((D.laid.length : Int) - 1 - j) := by unfold entM; rw [if_neg (by omega)]
  have hra := fun (h : (D.read (1 + 2 * at_)).1 = 0) => read_64 hok h
  have hrb := fun (h : (D.read (1 + 2 * at_ + 1)).1 = 0) => read_64 hok h
  refine calls_C Tryd.func52 rfl Tryd.ntmps52 rfl ?_
  repeat (first | (refine G_id ?_; first | refine G_nil ?_ | refine G_plain rfl rfl ?_ | refine G_yes rfl rfl rfl rfl ?_) | (refine X_id ?_; first | refine X_yl (Yl_move rfl rfl) rfl rfl ?_ | refine X_yl (Yl_assign rfl rfl) rfl rfl ?_ | refine X_yl (Yl_nilCheck rfl rfl) rfl rfl ?_ | refine X_yl (Yl_fieldAddr0 rfl rfl rfl) rfl rfl ?_ | refine X_yl (Yl_lss_f rfl rfl rfl (by omega)) rfl rfl ?_ | refine X_alloc rfl rfl rfl hS (fun _ _ hS _ => ?_)) | (refine C_id ?_; first | refine C_seq ?_ | refine C_region ?_) | (refine E_id ?_; first | refine E_code ?_))
  have hc := (hLo.rd hS).pts
  repeat (first | (refine G_id ?_; first | refine G_nil ?_ | refine G_plain rfl rfl ?_ | refine G_yes rfl rfl rfl rfl ?_) | (refine X_id ?_; first | refine X_yl (Yl_move rfl rfl) rfl rfl ?_ | refine X_yl (Yl_nilCheck rfl rfl) rfl rfl ?_ | refine X_yl (Yl_fieldAddr0 rfl rfl rfl) rfl rfl ?_ | refine X_yl (Yl_pick_f rfl rfl rfl) rfl rfl ?_ | refine X_yl (Yl_geq_f rfl rfl rfl (by omega)) rfl rfl ?_ | refine X_yl (Yl_add rfl rfl rfl (w64 (by omega) (by omega))) rfl rfl ?_ | refine X_yl (Yl_mul rfl rfl rfl (w64 (by omega) (by omega))) rfl rfl ?_ | refine X_yl (Yl_quoE rfl rfl rfl (by omega) (by omega) (by omega)) rfl rfl ?_ | refine X_yl (Yl_load rfl rfl (cell_at (by assumption))) rfl rfl ?_) | (refine C_id ?_; first | refine C_seq ?_ | refine C_region ?_ | refine C_skip ?_ | refine C_cond_f rfl ?_) | (refine E_id ?_; first | refine E_code ?_))
  rename_i b6 _ _ _ b8 _ _
  rw [bv_rep] at hS
  refine X_callg _ rfl rfl rfl rfl rfl (read_ p D (1 + 2 * at_) _ (hDo.rd hS) hline) ?_
  rintro _ w ⟨a, ca, rfl, hca, hS'⟩
  replace hS := hS.plus hS'
  clear hS'
  have hc := (hLo.rd hS).pts
  repeat (first | (refine G_id ?_; first | refine G_nil ?_ | refine G_plain rfl rfl ?_) | (refine X_id ?_; first | refine X_yl (Yl_move rfl rfl) rfl rfl ?_ | refine X_yl (Yl_assign rfl rfl) rfl rfl ?_ | refine X_yl (Yl_nilCheck rfl rfl) rfl rfl ?_ | refine X_yl (Yl_fieldAddr0 rfl rfl rfl) rfl rfl ?_ | refine X_yl (Yl_extract rfl rfl) rfl rfl ?_ | refine X_yl (Yl_add rfl rfl rfl (w64 (by omega) (by omega))) rfl rfl ?_ | refine X_yl (Yl_mul rfl rfl rfl (w64 (by omega) (by omega))) rfl rfl ?_ | refine X_yl (Yl_load rfl rfl (cell_at (by assumption))) rfl rfl ?_) | (refine C_id ?_; first | refine C_seq ?_ | refine C_region ?_) | (refine E_id ?_; first | refine E_code ?_))
  refine X_callg _ rfl rfl rfl rfl rfl (read_ p D (1 + 2 * at_ + 1) _ (hDo.rd hS) hline) ?_
  rintro _ w ⟨b, cb, rfl, hcb, hS'⟩
  replace hS := hS.plus hS'
  clear hS'
  generalize D.read (1 + 2 * at_) = ra at hra hca hS e ⊢
  generalize D.read (1 + 2 * at_ + 1) = rb at hrb hcb hS e ⊢
  obtain ⟨ea, la⟩ := ra
  obtain ⟨eb, lb⟩ := rb
  simp only at hra hrb hca hcb hS e ⊢
  by_cases hea : ea = 0
  · by_cases heb : eb = 0
    · subst hea heb
      have hla := hra rfl
      have hlb := hrb rfl
      rw [if_neg (by simp)] at e
      rw [e]
      clear hra hrb
      obtain ⟨ab, ao, rfl⟩ := (hS.rd (List.mem_cons_of_mem _ (List.mem_cons_self ..))).base (by intro e; have := bv_length la; rw [e] at this; simp at this; omega)
      repeat (first | (refine G_id ?_; first | refine G_nil ?_ | refine G_plain rfl rfl ?_ | refine G_yes rfl rfl rfl rfl ?_) | (refine X_id ?_; first | refine X_yl (Yl_move rfl rfl) rfl rfl ?_ | refine X_yl (Yl_assign rfl rfl) rfl rfl ?_ | refine X_yl (Yl_extract rfl rfl) rfl rfl ?_ | refine X_yl (Yl_pick_f rfl rfl rfl) rfl rfl ?_ | refine X_yl (Yl_neq_f rfl rfl rfl (by omega)) rfl rfl ?_) | (refine C_id ?_; first | refine C_seq ?_ | refine C_region ?_ | refine C_skip ?_ | refine C_cond_f rfl ?_) | (refine E_id ?_; first | refine E_code ?_))
      refine C_ord [(0, true), (1, true), (3, true), (4, true), (6, true), (2, false), (5, false), (7, true), (8, true), (9, false)] mixed (by kernel_rfl) rfl ?_
      have hS := hS.drew
      repeat (first | (refine GO_id ?_; first | refine GO_pure rfl rfl (fun _ => Yl_move rfl rfl) rfl rfl ?_))
      refine GO_pure rfl rfl (fun _ => Yl_slice (l := 12) (h := 16) rfl rfl rfl rfl (.inr ⟨_, _, rfl, by omega, by omega, by omega⟩) (.inr ⟨_, _, rfl, by omega, by omega, by omega⟩)) rfl rfl ?_
      rw [show sub (some ⟨ab, ao, none⟩) 12 1 ca = some ⟨ab, ao + 12, none⟩ by unfold sub; rw [if_neg (by omega)]; simp [add_lit]]
      repeat (first | (refine GO_id ?_; first | refine GO_pure rfl rfl (fun _ => Yl_move rfl rfl) rfl rfl ?_))
      refine GO_pure rfl rfl (fun _ => Yl_slice (l := 16) (h := 20) rfl rfl rfl rfl (.inr ⟨_, _, rfl, by omega, by omega, by omega⟩) (.inr ⟨_, _, rfl, by omega, by omega, by omega⟩)) rfl rfl ?_
      rw [show sub (some ⟨ab, ao, none⟩) 16 1 ca = some ⟨ab, ao + 16, none⟩ by unfold sub; rw [if_neg (by omega)]; simp [add_lit]]
      repeat (first | (refine GO_id ?_; first | refine GO_pure rfl rfl (fun _ => Yl_move rfl rfl) rfl rfl ?_ | refine GO_hard rfl rfl ?_))
      refine X_callg _ rfl rfl rfl rfl rfl (small_sub ab ao 12 4 ca la _ (hS.rd (List.mem_cons_of_mem _ (List.mem_cons_self ..))) (by omega) (by omega) (by omega) (by omega)) ?_
      rintro _ _ ⟨rfl, rfl⟩
      repeat (first | (refine GO_id ?_; first | refine GO_hard rfl rfl ?_) | (refine Keep_id ?_; first | refine And.intro (by repeat (first | exact trivial | refine And.intro (.inl (by decide +kernel)) ?_ | refine And.intro (.inr (by first | assumption | exact hS.cell | exact cell_at (by assumption) | exact hS.cellI (by omega) | exact hS.cellIP (by omega) | exact hS.cellsN | exact ((hr.rd hS).cellX (by omega) hx) | exact ((hr2.rd hS).cellX (by omega) hx2) | exact hS.cellB (by omega) | exact hS.cellBA (by omega) | exact (hb.rd hS).cellB' (by omega) | exact (hb2.rd hS).cellB' (by omega) | exact (hg.rd hS).cellI (by omega) | exact (hg2.rd hS).cellI (by omega) | exact ((hr.rd hS).cellF (by first | omega | (dsimp only; omega)) hx) | exact ((hr2.rd hS).cellF (by first | omega | (dsimp only; omega)) hx2))) ?_)) ?_))
      refine X_callg _ rfl rfl rfl rfl rfl (small_sub ab ao 16 4 ca la _ (hS.rd (List.mem_cons_of_mem _ (List.mem_cons_self ..))) (by omega) (by omega) (by omega) (by omega)) ?_
      rintro _ _ ⟨rfl, rfl⟩
      repeat (first | (refine X_id ?_; first | refine X_store rfl rfl rfl rfl hS (fun _ hS _ => ?_)) | (refine C_id ?_; first | refine C_seq ?_) | (refine E_id ?_; first | refine E_code ?_) | (refine GO_id ?_; first | refine GO_nil ?_ | refine GO_pure rfl rfl (fun _ => Yl_assign rfl rfl) rfl rfl ?_ | refine GO_pure rfl rfl (fun _ => Yl_build rfl rfl rfl) rfl rfl ?_ | refine GO_hard rfl rfl ?_) | (refine Keep_id ?_; first | refine And.intro (by repeat (first | exact trivial | refine And.intro (.inl (by decide +kernel)) ?_ | refine And.intro (.inr (by first | assumption | exact hS.cell | exact cell_at (by assumption) | exact hS.cellI (by omega) | exact hS.cellIP (by omega) | exact hS.cellsN | exact ((hr.rd hS).cellX (by omega) hx) | exact ((hr2.rd hS).cellX (by omega) hx2) | exact hS.cellB (by omega) | exact hS.cellBA (by omega) | exact (hb.rd hS).cellB' (by omega) | exact (hb2.rd hS).cellB' (by omega) | exact (hg.rd hS).cellI (by omega) | exact (hg2.rd hS).cellI (by omega) | exact ((hr.rd hS).cellF (by first | omega | (dsimp only; omega)) hx) | exact ((hr2.rd hS).cellF (by first | omega | (dsimp only; omega)) hx2))) ?_)) ?_))
      refine C_ord [(0, true), (1, true), (2, true), (3, false)] mixed (by kernel_rfl) rfl ?_
      have hS := hS.drew
      repeat (first | (refine GO_id ?_; first | refine GO_pure rfl rfl (fun _ => Yl_move rfl rfl) rfl rfl ?_ | refine GO_pure rfl rfl (fun _ => Yl_slice_arr rfl rfl) rfl rfl ?_))
      refine GO_pure rfl rfl (fun _ => Yl_slice (l := 20) (h := la.length) rfl rfl rfl rfl (.inl ⟨rfl, rfl⟩) (.inr ⟨_, _, rfl, by omega, by omega, by omega⟩)) rfl rfl ?_
      rw [show sub (some ⟨ab, ao, none⟩) 20 1 ca = some ⟨ab, ao + 20, none⟩ by unfold sub; rw [if_neg (by omega)]; simp [add_lit]]
      repeat (first | (refine GO_id ?_; first | refine GO_hard rfl rfl ?_))
      have hla2 : Rd _ (bytes (some ⟨ab, ao, none⟩) la) := hS.rd (List.mem_cons_of_mem _ (List.mem_cons_self ..))
      have hla3 := hla2.subBytes (l := 20) (h := la.length) (c := ca) (by omega) (by omega)
      rw [show sub (some ⟨ab, ao, none⟩) 20 1 ca = some ⟨ab, ao + 20, none⟩ by unfold sub; rw [if_neg (by omega)]; simp [add_lit]] at hla3
      refine X_copy rfl rfl rfl rfl rfl hS hla3 (by simp) bv_one (by simp) (fun w hS => ?_)
      clear hla2 hla3
      obtain ⟨d, hde⟩ : ∃ d, d = (la.drop 20).take 32 := ⟨_, rfl⟩
      have hd32 : d.length = 32 := by rw [hde]; simp; omega
      rw [show splice (bv (List.replicate 32 0)) 0 ((bv ((la.drop 20).take (la.length - 20))).take 32) = bv d by
        rw [← bv_take, List.take_take, show min 32 (la.length - 20) = 32 by omega, ← hde]
        exact splice_all (by simp [hd32])] at hS
      have hl32 : LenO (bv d) 32 := ⟨by simp [hd32]⟩
      repeat (first | (refine C_id ?_; first | refine C_seq ?_) | (refine E_id ?_; first | refine E_code ?_) | (refine GO_id ?_; first | refine GO_nil ?_) | (refine Keep_id ?_; first | refine And.intro (by repeat (first | exact trivial | refine And.intro (.inl (by decide +kernel)) ?_ | refine And.intro (.inr (by first | assumption | exact hS.cell | exact cell_at (by assumption) | exact hS.cellI (by omega) | exact hS.cellIP (by omega) | exact hS.cellsN | exact ((hr.rd hS).cellX (by omega) hx) | exact ((hr2.rd hS).cellX (by omega) hx2) | exact hS.cellB (by omega) | exact hS.cellBA (by omega) | exact (hb.rd hS).cellB' (by omega) | exact (hb2.rd hS).cellB' (by omega) | exact (hg.rd hS).cellI (by omega) | exact (hg2.rd hS).cellI (by omega) | exact ((hr.rd hS).cellF (by first | omega | (dsimp only; omega)) hx) | exact ((hr2.rd hS).cellF (by first | omega | (dsimp only; omega)) hx2))) ?_)) ?_))
      obtain ⟨no, hno⟩ : ∃ no, no = smallN ((la.drop 16).take 4) := ⟨_, rfl⟩
      obtain ⟨cnt, hcnt⟩ : ∃ cnt, cnt = smallN ((la.drop 12).take 4) := ⟨_, rfl⟩
      unfold entOf
      rw [← hno, ← hcnt, ← hde]
      rw [← hno] at hS
      refine C_ord [(0, true), (1, true), (2, true), (3, true), (4, true), (5, true), (6, true), (7, true), (8, true), (9, true), (10, false), (11, false), (12, true), (13, true), (14, true), (15, true), (16, false), (17, true), (18, true), (19, false), (20, true), (21, false), (22, true)] mixed (by kernel_rfl) rfl ?_
      have hS := hS.drew
      repeat (first | (refine GO_id ?_; first | refine GO_pure rfl rfl (fun _ => Yl_move rfl rfl) rfl rfl ?_ | refine GO_pure rfl rfl (fun _ => Yl_fieldAddr0 rfl rfl rfl) rfl rfl ?_ | refine GO_read (fun w' => w'.cell? _ = some _) rfl rfl hS.cell (fun _ hc => Yl_load rfl rfl hc) rfl rfl ?_ | refine GO_read (fun w' => CellsN w' _ _ _) rfl rfl hS.cellsN (fun _ hc => Yl_loadN rfl rfl hc) rfl rfl ?_ | refine GO_hard rfl rfl ?_))
      refine X_callg _ rfl rfl rfl rfl rfl (note_ number at_ cnt no d hd32 _) ?_
      rintro _ w ⟨q, k, rfl, hS'⟩
      replace hS := hS.plus hS'
      clear hS'
      repeat (first | (refine GO_id ?_; first | refine GO_hard rfl rfl ?_) | (refine Keep_id ?_; first | refine And.intro (by repeat (first | exact trivial | refine And.intro (.inl (by decide +kernel)) ?_ | refine And.intro (.inr (by first | assumption | exact hS.cell | exact cell_at (by assumption) | exact hS.cellI (by omega) | exact hS.cellIP (by omega) | exact hS.cellsN | exact ((hr.rd hS).cellX (by omega) hx) | exact ((hr2.rd hS).cellX (by omega) hx2) | exact hS.cellB (by omega) | exact hS.cellBA (by omega) | exact (hb.rd hS).cellB' (by omega) | exact (hb2.rd hS).cellB' (by omega) | exact (hg.rd hS).cellI (by omega) | exact (hg2.rd hS).cellI (by omega) | exact ((hr.rd hS).cellF (by first | omega | (dsimp only; omega)) hx) | exact ((hr2.rd hS).cellF (by first | omega | (dsimp only; omega)) hx2))) ?_)) ?_))
      refine X_callg _ rfl rfl rfl rfl rfl (equal_ _ _ _ _ _ _ la (noteB number at_ cnt no d) _ (hS.rd (List.mem_cons_of_mem _ (List.mem_cons_of_mem _ (List.mem_cons_self ..)))) (hS.rd (List.mem_cons_self ..)) rfl (noteB_length ..)) ?_
      rintro _ _ ⟨rfl, rfl⟩
      by_cases hq : la = noteB number at_ cnt no d
      · rw [decide_eq_true hq]
        repeat (first | (refine X_id ?_; first | (refine X_callq 14 rfl rfl rfl rfl rfl hS (wsectors_ lp p o s m j done rdn D _ (hLo.rd hS) (hDo.rd hS) hj) ?_; rintro _ _ rfl hS) | refine X_store rfl rfl rfl rfl hS (fun _ hS _ => ?_) | refine X_storeAll rfl rfl rfl rfl hS (fun _ hS => ?_)) | (refine C_id ?_; first | refine C_ret ?_) | (refine E_id ?_; first | refine E_code ?_ | refine E_ret4 rfl (by first | exact Rv_tmp rfl | exact Rv_cell rfl (run_load1 hS.cell) | exact Rv_cell rfl (run_loadN hS.cellsN)) (by first | exact Rv_tmp rfl | exact Rv_cell rfl (run_load1 hS.cell) | exact Rv_cell rfl (run_loadN hS.cellsN)) (by first | exact Rv_tmp rfl | exact Rv_cell rfl (run_load1 hS.cell) | exact Rv_cell rfl (run_loadN hS.cellsN)) (by first | exact Rv_tmp rfl | exact Rv_cell rfl (run_load1 hS.cell) | exact Rv_cell rfl (run_loadN hS.cellsN)) (Ret.mk ?_)) | (refine GO_id ?_; first | refine GO_nil ?_ | refine GO_pure rfl rfl (fun _ => Yl_move rfl rfl) rfl rfl ?_ | refine GO_pure rfl rfl (fun _ => Yl_assign rfl rfl) rfl rfl ?_ | refine GO_pure rfl rfl (fun _ => Yl_pick_t rfl rfl rfl) rfl rfl ?_ | refine GO_hard rfl rfl ?_ | refine GO_yes rfl rfl rfl rfl (fun _ => Yl_move rfl rfl) rfl rfl ?_ | refine GO_yes rfl rfl rfl rfl (fun _ => Yl_fieldAddr0 rfl rfl rfl) rfl rfl ?_ | refine GO_yes rfl rfl rfl rfl (fun _ => Yl_lss rfl rfl rfl) rfl rfl ?_ | refine GO_hard_yes rfl rfl rfl rfl ?_ | refine GO_yes_read (fun w' => w'.cell? _ = some _) rfl rfl rfl rfl hS.cell (fun _ hc => Yl_load rfl rfl hc) rfl rfl ?_) | (refine Keep_id ?_; first | refine And.intro (by repeat (first | exact trivial | refine And.intro (.inl (by decide +kernel)) ?_ | refine And.intro (.inr (by first | assumption | exact hS.cell | exact cell_at (by assumption) | exact hS.cellI (by omega) | exact hS.cellIP (by omega) | exact hS.cellsN | exact ((hr.rd hS).cellX (by omega) hx) | exact ((hr2.rd hS).cellX (by omega) hx2) | exact hS.cellB (by omega) | exact hS.cellBA (by omega) | exact (hb.rd hS).cellB' (by omega) | exact (hb2.rd hS).cellB' (by omega) | exact (hg.rd hS).cellI (by omega) | exact (hg2.rd hS).cellI (by omega) | exact ((hr.rd hS).cellF (by first | omega | (dsimp only; omega)) hx) | exact ((hr2.rd hS).cellF (by first | omega | (dsimp only; omega)) hx2))) ?_)) ?_))
        exact ⟨b, cb, rfl, hcb, hS.pick [1]⟩
      · rw [decide_eq_false hq]
        repeat (first | (refine X_id ?_; first | refine X_store rfl rfl rfl rfl hS (fun _ hS _ => ?_) | refine X_storeAll rfl rfl rfl rfl hS (fun _ hS => ?_)) | (refine C_id ?_; first | refine C_ret ?_) | (refine E_id ?_; first | refine E_code ?_ | refine E_ret4 rfl (by first | exact Rv_tmp rfl | exact Rv_cell rfl (run_load1 hS.cell) | exact Rv_cell rfl (run_loadN hS.cellsN)) (by first | exact Rv_tmp rfl | exact Rv_cell rfl (run_load1 hS.cell) | exact Rv_cell rfl (run_loadN hS.cellsN)) (by first | exact Rv_tmp rfl | exact Rv_cell rfl (run_load1 hS.cell) | exact Rv_cell rfl (run_loadN hS.cellsN)) (by first | exact Rv_tmp rfl | exact Rv_cell rfl (run_load1 hS.cell) | exact Rv_cell rfl (run_loadN hS.cellsN)) (Ret.mk ?_)) | (refine GO_id ?_; first | refine GO_nil ?_ | refine GO_pure rfl rfl (fun _ => Yl_move rfl rfl) rfl rfl ?_ | refine GO_pure rfl rfl (fun _ => Yl_assign rfl rfl) rfl rfl ?_ | refine GO_pure rfl rfl (fun _ => Yl_pick_f rfl rfl rfl) rfl rfl ?_ | refine GO_hard rfl rfl ?_ | refine GO_hard_no rfl rfl rfl rfl rfl rfl rfl ?_ | refine GO_no rfl rfl rfl rfl rfl rfl rfl ?_) | (refine Keep_id ?_; first | refine And.intro (by repeat (first | exact trivial | refine And.intro (.inl (by decide +kernel)) ?_ | refine And.intro (.inr (by first | assumption | exact hS.cell | exact cell_at (by assumption) | exact hS.cellI (by omega) | exact hS.cellIP (by omega) | exact hS.cellsN | exact ((hr.rd hS).cellX (by omega) hx) | exact ((hr2.rd hS).cellX (by omega) hx2) | exact hS.cellB (by omega) | exact hS.cellBA (by omega) | exact (hb.rd hS).cellB' (by omega) | exact (hb2.rd hS).cellB' (by omega) | exact (hg.rd hS).cellI (by omega) | exact (hg2.rd hS).cellI (by omega) | exact ((hr.rd hS).cellF (by first | omega | (dsimp only; omega)) hx) | exact ((hr2.rd hS).cellF (by first | omega | (dsimp only; omega)) hx2))) ?_)) ?_))
        exact ⟨b, cb, rfl, hcb, hS.pick [1]⟩
    · rw [if_pos (.inr heb)] at e
      repeat (first | (refine G_id ?_; first | refine G_nil ?_ | refine G_plain rfl rfl ?_ | refine G_yes rfl rfl rfl rfl ?_) | (refine X_id ?_; first | refine X_yl (Yl_move rfl rfl) rfl rfl ?_ | refine X_yl (Yl_assign rfl rfl) rfl rfl ?_ | refine X_yl (Yl_extract rfl rfl) rfl rfl ?_ | refine X_yl (Yl_pick_f rfl rfl rfl) rfl rfl ?_ | refine X_yl (Yl_neq_t rfl rfl rfl (by omega)) rfl rfl ?_ | refine X_yl (Yl_neq_f rfl rfl rfl (by omega)) rfl rfl ?_) | (refine C_id ?_; first | refine C_seq ?_ | refine C_region ?_ | refine C_cond_t rfl ?_) | (refine E_id ?_; first | refine E_code ?_))
      refine C_ord [(0, true), (1, true), (2, false), (3, true), (4, false), (5, true)] mixed (by kernel_rfl) rfl ?_
      have hS := hS.drew
      repeat (first | (refine X_id ?_; first | refine X_store rfl rfl rfl rfl hS (fun _ hS _ => ?_) | refine X_storeAll rfl rfl rfl rfl hS (fun _ hS => ?_)) | (refine C_id ?_; first | refine C_ret ?_) | (refine E_id ?_; first | refine E_code ?_ | refine E_then_ret ?_ | refine E_ret4 rfl (by first | exact Rv_tmp rfl | exact Rv_cell rfl (run_load1 hS.cell) | exact Rv_cell rfl (run_loadN hS.cellsN)) (by first | exact Rv_tmp rfl | exact Rv_cell rfl (run_load1 hS.cell) | exact Rv_cell rfl (run_loadN hS.cellsN)) (by first | exact Rv_tmp rfl | exact Rv_cell rfl (run_load1 hS.cell) | exact Rv_cell rfl (run_loadN hS.cellsN)) (by first | exact Rv_tmp rfl | exact Rv_cell rfl (run_load1 hS.cell) | exact Rv_cell rfl (run_loadN hS.cellsN)) (Ret.mk ?_)) | (refine GO_id ?_; first | refine GO_nil ?_ | refine GO_pure rfl rfl (fun _ => Yl_assign rfl rfl) rfl rfl ?_ | refine GO_read (fun w' => CellsN w' _ _ _) rfl rfl hS.cellsN (fun _ hc => Yl_loadN rfl rfl hc) rfl rfl ?_ | refine GO_hard rfl rfl ?_) | (refine Keep_id ?_; first | refine And.intro (by repeat (first | exact trivial | refine And.intro (.inl (by decide +kernel)) ?_ | refine And.intro (.inr (by first | assumption | exact hS.cell | exact cell_at (by assumption) | exact hS.cellI (by omega) | exact hS.cellIP (by omega) | exact hS.cellsN | exact ((hr.rd hS).cellX (by omega) hx) | exact ((hr2.rd hS).cellX (by omega) hx2) | exact hS.cellB (by omega) | exact hS.cellBA (by omega) | exact (hb.rd hS).cellB' (by omega) | exact (hb2.rd hS).cellB' (by omega) | exact (hg.rd hS).cellI (by omega) | exact (hg2.rd hS).cellI (by omega) | exact ((hr.rd hS).cellF (by first | omega | (dsimp only; omega)) hx) | exact ((hr2.rd hS).cellF (by first | omega | (dsimp only; omega)) hx2))) ?_)) ?_))
      rw [e]
      exact ⟨none, 0, rfl, Nat.le_refl _, hS.drops.row_none⟩
  · rw [if_pos (.inl hea)] at e
    repeat (first | (refine G_id ?_; first | refine G_nil ?_ | refine G_plain rfl rfl ?_ | refine G_no rfl rfl rfl rfl rfl rfl ?_) | (refine X_id ?_; first | refine X_yl (Yl_move rfl rfl) rfl rfl ?_ | refine X_yl (Yl_assign rfl rfl) rfl rfl ?_ | refine X_yl (Yl_extract rfl rfl) rfl rfl ?_ | refine X_yl (Yl_pick_t rfl rfl rfl) rfl rfl ?_ | refine X_yl (Yl_neq_t rfl rfl rfl (by omega)) rfl rfl ?_) | (refine C_id ?_; first | refine C_seq ?_ | refine C_region ?_ | refine C_cond_t rfl ?_) | (refine E_id ?_; first | refine E_code ?_))
    refine C_ord [(0, true), (1, true), (2, false), (3, true), (4, false), (5, true)] mixed (by kernel_rfl) rfl ?_
    have hS := hS.drew
    repeat (first | (refine X_id ?_; first | refine X_store rfl rfl rfl rfl hS (fun _ hS _ => ?_) | refine X_storeAll rfl rfl rfl rfl hS (fun _ hS => ?_)) | (refine C_id ?_; first | refine C_ret ?_) | (refine E_id ?_; first | refine E_code ?_ | refine E_then_ret ?_ | refine E_ret4 rfl (by first | exact Rv_tmp rfl | exact Rv_cell rfl (run_load1 hS.cell) | exact Rv_cell rfl (run_loadN hS.cellsN)) (by first | exact Rv_tmp rfl | exact Rv_cell rfl (run_load1 hS.cell) | exact Rv_cell rfl (run_loadN hS.cellsN)) (by first | exact Rv_tmp rfl | exact Rv_cell rfl (run_load1 hS.cell) | exact Rv_cell rfl (run_loadN hS.cellsN)) (by first | exact Rv_tmp rfl | exact Rv_cell rfl (run_load1 hS.cell) | exact Rv_cell rfl (run_loadN hS.cellsN)) (Ret.mk ?_)) | (refine GO_id ?_; first | refine GO_nil ?_ | refine GO_pure rfl rfl (fun _ => Yl_assign rfl rfl) rfl rfl ?_ | refine GO_read (fun w' => CellsN w' _ _ _) rfl rfl hS.cellsN (fun _ hc => Yl_loadN rfl rfl hc) rfl rfl ?_ | refine GO_hard rfl rfl ?_) | (refine Keep_id ?_; first | refine And.intro (by repeat (first | exact trivial | refine And.intro (.inl (by decide +kernel)) ?_ | refine And.intro (.inr (by first | assumption | exact hS.cell | exact cell_at (by assumption) | exact hS.cellI (by omega) | exact hS.cellIP (by omega) | exact hS.cellsN | exact ((hr.rd hS).cellX (by omega) hx) | exact ((hr2.rd hS).cellX (by omega) hx2) | exact hS.cellB (by omega) | exact hS.cellBA (by omega) | exact (hb.rd hS).cellB' (by omega) | exact (hb2.rd hS).cellB' (by omega) | exact (hg.rd hS).cellI (by omega) | exact (hg2.rd hS).cellI (by omega) | exact ((hr.rd hS).cellF (by first | omega | (dsimp only; omega)) hx) | exact ((hr2.rd hS).cellF (by first | omega | (dsimp only; omega)) hx2))) ?_)) ?_))
    rw [e]
    exact ⟨none, 0, rfl, Nat.le_refl _, hS.drops.row_none⟩
end Cr
