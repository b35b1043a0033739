/-
  Layer 4 (wal): lay.
-/
import Derived.Test.YtobnnhlgdoddgaaDoorWal6
namespace Cr
open Go Go.Proofs
set_option maxRecDepth 100000
set_option maxHeartbeats 4000000
attribute [local irreducible] Calls

theorem write_line (D : DiskM) (no : Int) (b : List UInt8) : (D.write no b).2.line.length ≤ D.line.length + 1 ∧ (D.write no b).2.laid.length = D.laid.length := by
  unfold DiskM.write
  split
  · simp
  · split
    · simp
    · split <;> simp [DiskM.used]
theorem flush_line (D : DiskM) : D.flush.2.line.length ≤ D.line.length ∧ D.flush.2.laid.length = D.laid.length := by
  unfold DiskM.flush
  split
  · simp
  · split <;> simp [DiskM.used, DiskM.flushed, layOn_length]
theorem stepW_line (x : Int × DiskM) (no : Int) (b : List UInt8) : (stepW x no b).2.line.length ≤ x.2.line.length + 1 ∧ (stepW x no b).2.laid.length = x.2.laid.length := by
  unfold stepW
  split
  · exact write_line x.2 no b
  · simp
theorem stepF_line (x : Int × DiskM) : (stepF x).2.line.length ≤ x.2.line.length ∧ (stepF x).2.laid.length = x.2.laid.length := by
  unfold stepF
  split
  · exact flush_line x.2
  · simp
/-- The data of some writes, laid behind each other. -/
def putsM (k : Int) (x : Int × DiskM) (l : List (Int × List UInt8)) : Int × DiskM := l.foldl (fun x v => stepW x (k + v.1) v.2) x
theorem putsM_snoc (k : Int) (x : Int × DiskM) {l : List (Int × List UInt8)} {i : Nat} {v : Int × List UInt8} (h : l[i]? = some v) : putsM k x (l.take (i + 1)) = stepW (putsM k x (l.take i)) (k + v.1) v.2 := by
  obtain ⟨hi, rfl⟩ := List.getElem?_eq_some_iff.1 h
  rw [List.take_succ_eq_append_getElem hi]
  unfold putsM
  rw [List.foldl_append]
  rfl
theorem putsM_line (k : Int) : ∀ (l : List (Int × List UInt8)) (x : Int × DiskM), (putsM k x l).2.line.length ≤ x.2.line.length + l.length ∧ (putsM k x l).2.laid.length = x.2.laid.length
  | [], x => by simp [putsM]
  | v :: l, x => by
    have h1 := stepW_line x (k + v.1) v.2
    have h2 := putsM_line k l (stepW x (k + v.1) v.2)
    simp only [putsM, List.foldl_cons, List.length_cons] at h2 ⊢
    exact ⟨by omega, by rw [h2.2, h1.2]⟩
def layM (rd fs : List Int) (j : Nat) (x : Int × DiskM) (number : Int) (l : List (Int × List UInt8)) : Int × DiskM := stepF (stepW (stepF (putsM (1 + j) x l)) 0 (frontB rd fs number))
theorem wlay_ (lp sp p : Nat) (o s m : Int) (j : Nat) (done : Int) (rdn : Bool) (x : Int × DiskM) (number : Int) (a : Option Addr) (c : Nat) (l : List Wr) (rd fs : List Int) (W : World) (F : Nat → Prop) (hG : Gl W F rd fs) (hW : Wrs W F a l)
    (hj : j ≤ 4096) (hl : l.length ≤ 1048576) (hno : ∀ v ∈ l, -4611686018427387904 ≤ v.no ∧ v.no ≤ 4611686018427387904) (hline : x.2.line.length + l.length + 1 < 1073741824) (hS : St W F [logAt lp p o s m j done rdn, stepAt sp p x.1, disk p x.2] W) :
    Calls Tryd.prog 30 #[.pointer (some ⟨lp, 0, none⟩), .pointer (some ⟨sp, 0, none⟩), .int .i64 number, .slice a l.length c] W (Ret fun v w => v = .int .i64 (layM rd fs j x number (l.map Wr.data)).1 ∧
      St W F [logAt lp p o s m j (if (layM rd fs j x number (l.map Wr.data)).1 = 0 then number else done) rdn, stepAt sp p (layM rd fs j x number (l.map Wr.data)).1, disk p (layM rd fs j x number (l.map Wr.data)).2] w) := by
  obtain ⟨d, hd⟩ : ∃ d, d = l.map Wr.data := ⟨_, rfl⟩
  have hdl : d.length = l.length := by rw [hd]; simp
  rw [← hd]
  refine calls_C Tryd.func30 rfl Tryd.ntmps30 rfl ?_
  repeat (first | (refine G_id ?_; first | refine G_nil ?_ | refine G_plain rfl rfl ?_) | (refine X_id ?_; first | refine X_yl (Yl_move rfl rfl) rfl rfl ?_ | refine X_yl (Yl_assign rfl rfl) rfl rfl ?_ | refine X_yl (Yl_len rfl rfl) rfl rfl ?_) | (refine C_id ?_; first | refine C_seq ?_ | refine C_region ?_ | refine C_block ?_) | (refine E_id ?_; first | refine E_code ?_))
  refine C_loop (α := Nat) (fun i => [(0, .pointer (some ⟨lp, 0, none⟩)), (1, .pointer (some ⟨sp, 0, none⟩)), (2, .int .i64 number), (11, .slice a l.length c), (12, .int .i64 (l.length : Nat)), (13, .int .i64 (i : Nat))])
    (fun i w => i ≤ l.length ∧ St W F [logAt lp p o s m j done rdn, stepAt sp p (putsM (1 + j) x (d.take i)).1, disk p (putsM (1 + j) x (d.take i)).2] w) (fun i => l.length - i) 0 ⟨rfl, rfl, rfl, rfl, rfl, rfl, trivial⟩ ⟨Nat.zero_le _, hS⟩ ?_
  clear hS
  rintro i w ⟨hi, hS⟩
  have hlt1 := putsM_line (1 + j) (d.take i) x
  rw [List.length_take] at hlt1
  by_cases hlt : i < l.length
  · have hx0 : l[i]? = some l[i] := List.getElem?_eq_getElem hlt
    generalize l[i] = v at hx0
    have hvm := List.mem_of_getElem? hx0
    have hdi : d[i]? = some (v.no, v.x.s) := by rw [hd]; simp [hx0, Wr.data]
    have hsn := putsM_snoc (1 + j) x hdi
    have hv := hno v hvm
    have hv1 := hv.1
    have hv2 := hv.2
    have hr := hW.row
    have hxs : ((l.flatMap Wr.cells).drop (i * 2)).take 2 = [.int .i64 v.no, .slice v.x.a v.x.s.length v.x.c] := wr_seg hx0
    obtain ⟨ab, ao, rfl⟩ := (hW.row.rd hS).base (by intro e; rw [e] at hxs; simp at hxs)
    obtain ⟨X, hX⟩ : ∃ X, X = putsM (1 + j) x (d.take i) := ⟨_, rfl⟩
    rw [← hX] at hS hlt1 hsn
    repeat (first | (refine G_id ?_; first | refine G_nil ?_ | refine G_plain rfl rfl ?_) | (refine X_id ?_; first | refine X_yl (Yl_lss_t rfl rfl rfl (by omega)) rfl rfl ?_ | refine X_yl (Yl_indexAddr rfl rfl rfl (by omega) (by omega) (by first | assumption | exact ⟨_, _, rfl⟩)) rfl rfl ?_ | refine X_yl (Yl_loadN rfl rfl ((hr.rd hS).cellsX (by omega) hxs rfl)) rfl rfl ?_ | refine X_store rfl rfl rfl rfl hS (fun _ hS _ => ?_) | refine X_alloc rfl rfl rfl hS (fun _ _ hS _ => ?_)) | (refine C_id ?_; first | refine C_seq ?_ | refine C_region ?_ | refine C_block ?_ | refine C_skip ?_ | refine C_cond_t rfl ?_) | (refine E_id ?_; first | refine E_code ?_))
    refine C_ord [(0, true), (1, true), (2, true), (3, true), (4, true), (5, true), (6, true), (7, true), (8, true), (9, true), (10, true), (11, false)] mixed (by kernel_rfl) rfl ?_
    have hS := hS.drew
    repeat (first | (refine GO_id ?_; first | refine GO_pure rfl rfl (fun _ => Yl_move rfl rfl) rfl rfl ?_ | refine GO_pure rfl rfl (fun _ => Yl_nilCheck rfl rfl) rfl rfl ?_ | refine GO_pure rfl rfl (fun _ => Yl_fieldAddr0 rfl rfl rfl) rfl rfl ?_ | refine GO_pure rfl rfl (fun _ => Yl_add rfl rfl rfl (w64 (by omega) (by omega))) rfl rfl ?_ | refine GO_read (fun w' => w'.cell? _ = some _) rfl rfl hS.cell (fun _ hc => Yl_load rfl rfl hc) rfl rfl ?_ | refine GO_hard rfl rfl ?_))
    obtain ⟨_, hc, hr, hw, hbk⟩ := hS.call [false, false, true, true]
    refine X_callg _ rfl rfl rfl rfl rfl (swrite_ sp p X _ _ _ _ v.x.s _ _ hc (hw _ (hW.all v hvm)) rfl (by omega)) ?_
    rintro _ w ⟨_, hS⟩
    replace hS := hbk hS
    clear hc hr hw hbk
    repeat (first | (refine G_id ?_; first | refine G_nil ?_ | refine G_plain rfl rfl ?_) | (refine X_id ?_; first | refine X_yl (Yl_move rfl rfl) rfl rfl ?_ | refine X_yl (Yl_add rfl rfl rfl (w64 (by omega) (by omega))) rfl rfl ?_) | (refine C_id ?_; first | refine C_region ?_) | (refine E_id ?_; first | refine E_code ?_ | refine E_blk_n ?_) | (refine GO_id ?_; first | refine GO_nil ?_) | (refine Keep_id ?_; first | refine And.intro (by repeat (first | exact trivial | refine And.intro (.inl (by decide +kernel)) ?_ | refine And.intro (.inr (by first | assumption | exact hS.cell | exact cell_at (by assumption) | exact hS.cellI (by omega) | exact hS.cellIP (by omega) | exact hS.cellsN | exact ((hr.rd hS).cellX (by omega) hx) | exact ((hr2.rd hS).cellX (by omega) hx2) | exact hS.cellB (by omega) | exact hS.cellBA (by omega) | exact (hb.rd hS).cellB' (by omega) | exact (hb2.rd hS).cellB' (by omega) | exact (hg.rd hS).cellI (by omega) | exact (hg2.rd hS).cellI (by omega) | exact ((hr.rd hS).cellF (by first | omega | (dsimp only; omega)) hx) | exact ((hr2.rd hS).cellF (by first | omega | (dsimp only; omega)) hx2))) ?_)) ?_))
    refine E_round (i + 1) ⟨rfl, rfl, rfl, rfl, rfl, rfl, trivial⟩ ⟨by omega, ?_⟩ (by omega)
    rw [hsn]
    have hS := hS.pick [3, 0, 0]
    exact hS
  · obtain rfl : i = l.length := by omega
    rw [List.take_of_length_le (by omega)] at hS hlt1
    obtain ⟨X, hX⟩ : ∃ X, X = putsM (1 + j) x d := ⟨_, rfl⟩
    rw [← hX] at hS hlt1
    have h2 := stepF_line X
    repeat (first | (refine G_id ?_; first | refine G_nil ?_ | refine G_plain rfl rfl ?_) | (refine X_id ?_; first | refine X_yl (Yl_move rfl rfl) rfl rfl ?_ | refine X_yl (Yl_lss_f rfl rfl rfl (by omega)) rfl rfl ?_) | (refine C_id ?_; first | refine C_seq ?_ | refine C_region ?_ | refine C_exit ?_ | refine C_cond_f rfl ?_) | (refine E_id ?_; first | refine E_code ?_ | refine E_then_exit ?_ | refine E_blk_same ?_))
    obtain ⟨_, hc, hr, hw, hbk⟩ := hS.call [false, true, true]
    refine X_callg _ rfl rfl rfl rfl rfl (sflush_ sp p X _ _ hc (by omega)) ?_
    rintro _ w ⟨_, hS⟩
    replace hS := hbk hS
    clear hc hr hw hbk
    repeat (first | (refine G_id ?_; first | refine G_nil ?_ | refine G_plain rfl rfl ?_) | (refine X_id ?_; first | refine X_yl (Yl_move rfl rfl) rfl rfl ?_) | (refine C_id ?_; first | refine C_seq ?_ | refine C_region ?_) | (refine E_id ?_; first | refine E_code ?_))
    refine X_callg _ rfl rfl rfl rfl rfl (front_ number rd fs _ (hG.mono fun r hr => (hr.rd hS).ro)) ?_
    rintro _ w ⟨r, k, rfl, hS'⟩
    replace hS := hS.plus hS'
    clear hS'
    repeat (first | (refine G_id ?_; first | refine G_plain rfl rfl ?_))
    have h3 := stepW_line (stepF X) 0 (frontB rd fs number)
    obtain ⟨_, hc, hr, hw, hbk⟩ := hS.call [false, true, true, false]
    refine X_callg _ rfl rfl rfl rfl rfl (swrite_ sp p (stepF X) 0 _ 64 k (frontB rd fs number) _ _ hc (hr _ (List.mem_cons_self ..)) (frontB_length ..) (by omega)) ?_
    rintro _ w ⟨_, hS⟩
    replace hS := hbk hS
    clear hc hr hw hbk
    repeat (first | (refine G_id ?_; first | refine G_nil ?_ | refine G_plain rfl rfl ?_) | (refine X_id ?_; first | refine X_yl (Yl_move rfl rfl) rfl rfl ?_) | (refine C_id ?_; first | refine C_seq ?_ | refine C_region ?_) | (refine E_id ?_; first | refine E_code ?_))
    obtain ⟨_, hc, hr, hw, hbk⟩ := hS.call [true, true, false, false]
    refine X_callg _ rfl rfl rfl rfl rfl (sflush_ sp p (stepW (stepF X) 0 (frontB rd fs number)) _ _ hc (by omega)) ?_
    rintro _ w ⟨_, hS⟩
    replace hS := hbk hS
    clear hc hr hw hbk
    have hlay : layM rd fs j x number d = stepF (stepW (stepF X) 0 (frontB rd fs number)) := by unfold layM; rw [← hX]
    obtain ⟨Y, hY⟩ : ∃ Y, Y = layM rd fs j x number d := ⟨_, rfl⟩
    rw [← hlay, ← hY] at hS
    rw [← hY]
    clear hlay
    obtain ⟨e, D⟩ := Y
    simp only at hS ⊢
    by_cases he : e = 0
    · subst he
      repeat (first | (refine G_id ?_; first | refine G_nil ?_ | refine G_plain rfl rfl ?_) | (refine X_id ?_; first | refine X_yl (Yl_move rfl rfl) rfl rfl ?_ | refine X_yl (Yl_assign rfl rfl) rfl rfl ?_ | refine X_yl (Yl_nilCheck rfl rfl) rfl rfl ?_ | refine X_yl (Yl_fieldAddr0 rfl rfl rfl) rfl rfl ?_ | refine X_yl (Yl_eql_t rfl rfl rfl (by omega)) rfl rfl ?_ | refine X_yl (Yl_load rfl rfl hS.cell) rfl rfl ?_ | refine X_store rfl rfl rfl rfl hS (fun _ hS _ => ?_)) | (refine C_id ?_; first | refine C_seq ?_ | refine C_region ?_ | refine C_ret ?_ | refine C_cond_t rfl ?_) | (refine E_id ?_; first | refine E_code ?_ | refine E_ret1 rfl (Rv_tmp rfl) (Ret.mk ?_)))
      refine ⟨rfl, ?_⟩
      rw [if_pos rfl]
      have hS := hS.pick [3, 0, 0]
      exact hS
    · repeat (first | (refine G_id ?_; first | refine G_nil ?_ | refine G_plain rfl rfl ?_) | (refine X_id ?_; first | refine X_yl (Yl_move rfl rfl) rfl rfl ?_ | refine X_yl (Yl_assign rfl rfl) rfl rfl ?_ | refine X_yl (Yl_nilCheck rfl rfl) rfl rfl ?_ | refine X_yl (Yl_fieldAddr0 rfl rfl rfl) rfl rfl ?_ | refine X_yl (Yl_eql_f rfl rfl rfl (by omega)) rfl rfl ?_ | refine X_yl (Yl_load rfl rfl hS.cell) rfl rfl ?_) | (refine C_id ?_; first | refine C_seq ?_ | refine C_region ?_ | refine C_ret ?_ | refine C_skip ?_ | refine C_cond_f rfl ?_) | (refine E_id ?_; first | refine E_code ?_ | refine E_ret1 rfl (Rv_tmp rfl) (Ret.mk ?_)))
      refine ⟨rfl, ?_⟩
      rw [if_neg he]
      have hS := hS.pick [3, 0, 0]
      exact hS
end Cr
