/-
  Layer 4 (wal): found.
-/
import Derived.Test.YtobnnhlgdoddgaaDoorWal9
import Derived.Test.YtobnnhlgdoddgaaDoorArr
namespace Cr
open Go Go.Proofs
set_option maxRecDepth 100000
set_option maxHeartbeats 8000000
attribute [local irreducible] Calls
instance : NoGuard Tryd.prog 78 := ⟨by kernel_rfl⟩

theorem entM_d (D : DiskM) (hok : D.ok) (j : Nat) (number at_ : Int) : (entM D j number at_).d.length = 32 := by
  unfold entM
  split
  · simp [Ent.none]
  · split
    · simp [Ent.none]
    · rename_i h
      have h1 : (D.read (1 + 2 * at_)).1 = 0 := Decidable.byContradiction fun e => h (.inl e)
      have := read_64 hok h1
      simp [entOf, this]
theorem entM_ok {D : DiskM} {j : Nat} {number at_ : Int} (h : (entM D j number at_).ok = true) : 0 ≤ at_ ∧ at_ < (j : Int) / 2 := by
  unfold entM at h
  split at h
  · simp [Ent.none] at h
  · rename_i h'; omega
theorem entM_b (D : DiskM) (hok : D.ok) (j : Nat) (number at_ : Int) : (entM D j number at_).b.length ≤ 64 := by
  unfold entM
  split
  · simp [Ent.none]
  · split
    · simp [Ent.none]
    · rename_i h
      have h1 : (D.read (1 + 2 * at_ + 1)).1 = 0 := Decidable.byContradiction fun e => h (.inr e)
      have := read_64 hok h1
      simp [entOf, this]
theorem framed_sum_le (number : Int) (d : List (Int × List UInt8)) (h : ∀ x ∈ d, x.2.length ≤ 64) : (framed (sumTexts number d)).length ≤ 20 + d.length * 76 := by
  have key : ∀ d : List (Int × List UInt8), (∀ x ∈ d, x.2.length ≤ 64) → (framed (d.flatMap fun v => [bigB v.1 4, v.2])).length ≤ d.length * 76 := by
    intro d
    induction d with
    | nil => intro _; simp [framed]
    | cons x d ih =>
      intro h
      have h1 := ih fun y hy => h y (List.mem_cons_of_mem _ hy)
      have h2 := h x (List.mem_cons_self ..)
      simp only [framed, List.flatMap_cons, List.cons_append, List.nil_append, List.length_append, frameB_length, bigB_length, List.length_cons] at h1 ⊢
      omega
  have h1 := key d h
  unfold framed at h1
  simp only [sumTexts, framed, List.flatMap_cons, List.cons_append, List.nil_append, List.length_append, frameB_length, bigB_length]
  omega
def entW (e : Ent) : Int × List UInt8 := (e.no, e.b)
def goodE (e0 e : Ent) : Bool := e.ok && decide (e.count = e0.count) && decide (e.d = e0.d)
def entList (D : DiskM) (j : Nat) (number : Int) (n : Nat) : List Ent := (List.range n).map fun i => entM D j number (i : Nat)
theorem entList_succ (D : DiskM) (j : Nat) (number : Int) (n : Nat) : entList D j number (n + 1) = entList D j number n ++ [entM D j number (n : Nat)] := by simp [entList, List.range_succ]
def foundL (D : DiskM) (j : Nat) (number : Int) : Option (List (Int × List UInt8)) :=
  if (entM D j number 0).ok = true ∧ 1 ≤ (entM D j number 0).count then
    if (entList D j number (entM D j number 0).count.toNat).all (goodE (entM D j number 0)) = true then some ((entList D j number (entM D j number 0).count.toNat).map entW) else none
  else none
def foundM (rd fs : List Int) (D : DiskM) (j : Nat) (number : Int) : List (Int × List UInt8) :=
  match foundL D j number with
  | none => []
  | some ws => if checkM ws = 0 ∧ sumB rd fs number ws = (entM D j number 0).d then ws else []
theorem all_entList {D : DiskM} {j : Nat} {number : Int} {e0 : Ent} {n i : Nat} (hi : i < n) (h : goodE e0 (entM D j number (i : Nat)) = false) : (entList D j number n).all (goodE e0) = false := by
  rw [List.all_eq_false]
  exact ⟨_, List.mem_map.2 ⟨i, List.mem_range.2 hi, rfl⟩, by simp [h]⟩
theorem found_ (lp p : Nat) (o s m : Int) (j : Nat) (done : Int) (rdn : Bool) (D : DiskM) (number : Int) (rd fs : List Int) (W : World) (hG : Gl W noF rd fs) (hL : Rd W (logAt lp p o s m j done rdn)) (hD : Rd W (disk p D)) (hj : j ≤ 4096) (hline : D.line.length < 1073741824) :
    Calls Tryd.prog 35 #[.pointer (some ⟨lp, 0, none⟩), .int .i64 number] W (Ret fun v w => ∃ a c ws O, v = .slice a ws.length c ∧ ws.map Wr.data = foundM rd fs D j number ∧ (a = none ↔ ws = []) ∧ (∀ v ∈ ws, v.x ∈ O) ∧
      St W noF [own 48 2 a c (ws.flatMap Wr.cells), rds O] w) := by
  have hS := St.start W
  have hLo := hL.ro
  have hDo := hD.ro
  have hok := hD.disk.1
  obtain ⟨e0, he0⟩ : ∃ e0, e0 = entM D j number 0 := ⟨_, rfl⟩
  have hd0 : e0.d.length = 32 := he0 ▸ entM_d D hok j number 0
  have hl0 : LenO (bv e0.d) 32 := ⟨by simp [hd0]⟩
  have hnil : ∀ w, St W noF [] w → foundM rd fs D j number = [] → ∃ a c ws O, (Value.slice none 0 0) = .slice a ws.length c ∧ ws.map Wr.data = foundM rd fs D j number ∧ (a = none ↔ ws = []) ∧ (∀ v ∈ ws, v.x ∈ O) ∧
      St W noF [own 48 2 a c (ws.flatMap Wr.cells), rds O] w := fun w h e => ⟨none, 0, [], [], rfl, by rw [e]; rfl, by simp, by simp, h.rdsNil.own_none _ _ _⟩
  refine calls_C Tryd.func35 rfl Tryd.ntmps35 rfl ?_
  repeat (first | (refine G_id ?_; first | refine G_nil ?_ | refine G_plain rfl rfl ?_) | (refine X_id ?_; first | refine X_yl (Yl_move rfl rfl) rfl rfl ?_ | refine X_yl (Yl_assign rfl rfl) rfl rfl ?_) | (refine C_id ?_; first | refine C_seq ?_ | refine C_scope rfl ?_ | refine C_region ?_) | (refine E_id ?_; first | refine E_code ?_))
  refine X_callg _ rfl rfl rfl rfl rfl (entry_ lp p o s m j done rdn D number 0 _ (hLo.rd hS) (hDo.rd hS) hj hline (by omega)) ?_
  rintro _ w ⟨a0, c0, rfl, hc0, hS'⟩
  replace hS := hS.plus hS'
  clear hS'
  rw [← he0] at hS hc0 ⊢
  have hfl : foundL D j number = if e0.ok = true ∧ 1 ≤ e0.count then if (entList D j number e0.count.toNat).all (goodE e0) = true then some ((entList D j number e0.count.toNat).map entW) else none else none := by unfold foundL; rw [← he0]
  obtain ⟨no0, b0, n0, d0, ok0⟩ := e0
  simp only at hd0 hl0 hfl hS hc0
  unfold Ent.val
  simp only
  cases ok0
  · repeat (first | (refine G_id ?_; first | refine G_nil ?_ | refine G_plain rfl rfl ?_ | refine G_no rfl rfl rfl rfl rfl rfl ?_) | (refine X_id ?_; first | refine X_yl (Yl_move rfl rfl) rfl rfl ?_ | refine X_yl (Yl_assign rfl rfl) rfl rfl ?_ | refine X_yl (Yl_extract rfl rfl) rfl rfl ?_ | refine X_yl (Yl_pick_t rfl rfl rfl) rfl rfl ?_ | refine X_yl (Yl_not_f rfl rfl) rfl rfl ?_ | refine X_store rfl rfl rfl rfl hS (fun _ hS _ => ?_) | refine X_alloc rfl rfl rfl hS (fun _ _ hS _ => ?_)) | (refine C_id ?_; first | refine C_seq ?_ | refine C_region ?_ | refine C_ret ?_ | refine C_cond_t rfl ?_) | (refine E_id ?_; first | refine E_code ?_ | refine E_then_ret ?_ | refine E_noGoto (fun _ h => by cases h) ?_ | refine E_ret1 rfl (Rv_tmp rfl) (Ret.mk ?_)))
    refine hnil _ hS.drops ?_
    unfold foundM
    rw [hfl, if_neg (by simp)]
  · by_cases h1 : n0 < 1
    · repeat (first | (refine G_id ?_; first | refine G_nil ?_ | refine G_plain rfl rfl ?_ | refine G_yes rfl rfl rfl rfl ?_) | (refine X_id ?_; first | refine X_yl (Yl_move rfl rfl) rfl rfl ?_ | refine X_yl (Yl_assign rfl rfl) rfl rfl ?_ | refine X_yl (Yl_extract rfl rfl) rfl rfl ?_ | refine X_yl (Yl_pick_f rfl rfl rfl) rfl rfl ?_ | refine X_yl (Yl_not_t rfl rfl) rfl rfl ?_ | refine X_yl (Yl_lss_t rfl rfl rfl (by omega)) rfl rfl ?_ | refine X_store rfl rfl rfl rfl hS (fun _ hS _ => ?_) | refine X_alloc rfl rfl rfl hS (fun _ _ hS _ => ?_)) | (refine C_id ?_; first | refine C_seq ?_ | refine C_region ?_ | refine C_ret ?_ | refine C_cond_t rfl ?_) | (refine E_id ?_; first | refine E_code ?_ | refine E_then_ret ?_ | refine E_noGoto (fun _ h => by cases h) ?_ | refine E_ret1 rfl (Rv_tmp rfl) (Ret.mk ?_)))
      refine hnil _ hS.drops ?_
      unfold foundM
      rw [hfl, if_neg (by omega)]
    · repeat (first | (refine G_id ?_; first | refine G_nil ?_ | refine G_plain rfl rfl ?_ | refine G_yes rfl rfl rfl rfl ?_) | (refine X_id ?_; first | refine X_yl (Yl_move rfl rfl) rfl rfl ?_ | refine X_yl (Yl_assign rfl rfl) rfl rfl ?_ | refine X_yl (Yl_extract rfl rfl) rfl rfl ?_ | refine X_yl (Yl_pick_f rfl rfl rfl) rfl rfl ?_ | refine X_yl (Yl_not_t rfl rfl) rfl rfl ?_ | refine X_yl (Yl_lss_f rfl rfl rfl (by omega)) rfl rfl ?_ | refine X_store rfl rfl rfl rfl hS (fun _ hS _ => ?_) | refine X_alloc rfl rfl rfl hS (fun _ _ hS _ => ?_)) | (refine C_id ?_; first | refine C_seq ?_ | refine C_label ?_ | refine C_region ?_ | refine C_block ?_ | refine C_skip ?_ | refine C_cond_f rfl ?_) | (refine E_id ?_; first | refine E_code ?_))
      rename_i b6 w6 _ _ b8 w8 _ _ w9 _ _ w10 _
      replace hS := (hS.pick [0]).rdsNil.own_none 48 2 none
      rw [if_pos ⟨rfl, by omega⟩] at hfl
      have hbad : ∀ i : Nat, i < n0.toNat → goodE ⟨no0, b0, n0, d0, true⟩ (entM D j number (i : Nat)) = false → foundM rd fs D j number = [] := fun i hi h => by
        unfold foundM
        rw [hfl, if_neg (by rw [all_entList hi h]; simp)]
      refine C_loop (α := Nat × Option Addr × Nat × List Wr × List Bs) (fun z => [(0, .pointer (some ⟨lp, 0, none⟩)), (1, .int .i64 number), (5, .slice z.2.1 z.2.2.2.1.length z.2.2.1), (7, .int .i64 n0), (8, .pointer (some ⟨b8, 0, none⟩)), (10, .int .i64 (z.1 : Nat))])
        (fun z w => (z.1 ≤ n0.toNat ∧ z.1 ≤ 2048 ∧ z.2.2.2.1.length = z.1 ∧ z.2.2.2.1.length ≤ z.2.2.1) ∧ (z.2.2.2.1.map Wr.data = (entList D j number z.1).map entW ∧ (entList D j number z.1).all (goodE ⟨no0, b0, n0, d0, true⟩) = true ∧ (z.2.1 = none ↔ z.1 = 0) ∧ (∀ v ∈ z.2.2.2.1, v.x ∈ z.2.2.2.2) ∧ (∀ v ∈ z.2.2.2.1, v.x.s.length ≤ 64)) ∧
          St W noF [own 48 2 z.2.1 z.2.2.1 (z.2.2.2.1.flatMap Wr.cells), rds z.2.2.2.2, pts b8 (.cells (bv d0).toArray 78)] w) (fun z => n0.toNat - z.1)
        (0, none, 0, [], []) ⟨rfl, rfl, rfl, rfl, rfl, rfl, trivial⟩ ⟨⟨Nat.zero_le _, Nat.zero_le _, rfl, Nat.le_refl _⟩, ⟨rfl, rfl, by simp, by simp, by simp⟩, hS⟩ ?_
      clear hS
      rintro ⟨i, a5, c5, ws, O⟩ w ⟨⟨hi, hi2, hwl, hwc⟩, ⟨hwd, hgood, hnone, hO, hw64⟩, hS⟩
      simp only at hi hi2 hwl hwc hwd hgood hnone hO hw64 hS ⊢
      by_cases hlt : i < n0.toNat
      · have hlt' : (i : Int) < n0 := by omega
        repeat (first | (refine G_id ?_; first | refine G_nil ?_ | refine G_plain rfl rfl ?_) | (refine X_id ?_; first | refine X_yl (Yl_move rfl rfl) rfl rfl ?_ | refine X_yl (Yl_lss_t rfl rfl rfl (by omega)) rfl rfl ?_) | (refine C_id ?_; first | refine C_seq ?_ | refine C_region ?_ | refine C_block ?_ | refine C_skip ?_ | refine C_cond_t rfl ?_) | (refine E_id ?_; first | refine E_code ?_))
        refine X_callg _ rfl rfl rfl rfl rfl (entry_ lp p o s m j done rdn D number (i : Nat) _ (hLo.rd hS) (hDo.rd hS) hj hline (by omega)) ?_
        rintro _ w ⟨a1, c1, rfl, hc1, hS'⟩
        replace hS := hS.plus hS'
        clear hS'
        have hok1 := fun h => (entM_ok (D := D) (j := j) (number := number) (at_ := (i : Nat)) h)
        have hsucc := entList_succ D j number i
        have hd1 := entM_d D hok j number (i : Nat)
        have hbadi := hbad i hlt
        have hb1 := entM_b D hok j number (i : Nat)
        generalize entM D j number (i : Nat) = e1 at hS hc1 hok1 hsucc hd1 hbadi hb1 ⊢
        obtain ⟨no1, b1, n1, d1, ok1⟩ := e1
        simp only at hd1 hS hc1 hok1 hb1
        have hl1 : LenO (bv d1) 32 := ⟨by simp [hd1]⟩
        unfold Ent.val
        simp only
        cases ok1
        · have hf := hbadi (by simp [goodE])
          repeat (first | (refine G_id ?_; first | refine G_nil ?_ | refine G_plain rfl rfl ?_ | refine G_no rfl rfl rfl rfl rfl rfl ?_) | (refine X_id ?_; first | refine X_yl (Yl_move rfl rfl) rfl rfl ?_ | refine X_yl (Yl_assign rfl rfl) rfl rfl ?_ | refine X_yl (Yl_extract rfl rfl) rfl rfl ?_ | refine X_yl (Yl_pick_t rfl rfl rfl) rfl rfl ?_ | refine X_yl (Yl_not_f rfl rfl) rfl rfl ?_ | refine X_store rfl rfl rfl rfl hS (fun _ hS _ => ?_) | refine X_alloc rfl rfl rfl hS (fun _ _ hS _ => ?_)) | (refine C_id ?_; first | refine C_seq ?_ | refine C_region ?_ | refine C_exit ?_ | refine C_cond_t rfl ?_) | (refine E_id ?_; first | refine E_code ?_ | refine E_then_exit ?_ | refine E_blk_same ?_ | refine E_blk_ne rfl ?_))
          refine C_ord [(0, true), (1, true), (2, true), (3, true), (4, false), (5, true), (6, true), (7, true), (8, true), (9, true), (11, true), (10, false), (12, true), (13, true)] mixed (by kernel_rfl) rfl ?_
          have hS := hS.drew
          repeat (first | (refine G_id ?_; first | refine G_nil ?_ | refine G_plain rfl rfl ?_) | (refine X_id ?_; first | refine X_yl (Yl_assign rfl rfl) rfl rfl ?_) | (refine C_id ?_; first | refine C_seq ?_ | refine C_region ?_ | refine C_ret ?_ | refine C_cond_t rfl ?_) | (refine E_id ?_; first | refine E_code ?_ | refine E_then_ret ?_ | refine E_noGoto (fun _ h => by cases h) ?_ | refine E_ret1 rfl (Rv_tmp rfl) (Ret.mk ?_)) | (refine GO_id ?_; first | refine GO_nil ?_ | refine GO_pure rfl rfl (fun _ => Yl_move rfl rfl) rfl rfl ?_ | refine GO_pure rfl rfl (fun _ => Yl_pick_t rfl rfl rfl) rfl rfl ?_ | refine GO_pure rfl rfl (fun _ => Yl_eqlNilSlice rfl rfl rfl) rfl rfl ?_ | refine GO_hard_no rfl rfl rfl rfl rfl rfl rfl ?_ | refine GO_no rfl rfl rfl rfl rfl rfl rfl ?_))
          exact hnil _ hS.drops hf
        · by_cases hn : n1 = n0
          · by_cases hd : d1 = d0
            · subst hn hd
              repeat (first | (refine G_id ?_; first | refine G_nil ?_ | refine G_plain rfl rfl ?_ | refine G_yes rfl rfl rfl rfl ?_) | (refine X_id ?_; first | refine X_yl (Yl_move rfl rfl) rfl rfl ?_ | refine X_yl (Yl_assign rfl rfl) rfl rfl ?_ | refine X_yl (Yl_extract rfl rfl) rfl rfl ?_ | refine X_yl (Yl_pick_f rfl rfl rfl) rfl rfl ?_ | refine X_yl (Yl_not_t rfl rfl) rfl rfl ?_ | refine X_yl (Yl_neq_f rfl rfl rfl (by omega)) rfl rfl ?_ | refine X_yl (Yl_loadN rfl rfl hS.cellsN) rfl rfl ?_ | refine X_store rfl rfl rfl rfl hS (fun _ hS _ => ?_) | refine X_alloc rfl rfl rfl hS (fun _ _ hS _ => ?_)) | (refine C_id ?_; first | refine C_seq ?_ | refine C_region ?_) | (refine E_id ?_; first | refine E_code ?_))
              refine X_yl (Yl_neqArr rfl rfl rfl hd1 hd0) rfl rfl ?_
              rw [decide_eq_false (not_not_intro rfl)]
              repeat (first | (refine G_id ?_; first | refine G_nil ?_ | refine G_plain rfl rfl ?_) | (refine X_id ?_; first | refine X_yl (Yl_move rfl rfl) rfl rfl ?_ | refine X_yl (Yl_pick_f rfl rfl rfl) rfl rfl ?_ | refine X_yl (Yl_loadN rfl rfl hS.cellsN) rfl rfl ?_ | refine X_buildSlice rfl rfl rfl rfl rfl rfl rfl rfl hS (fun _ _ hS _ => ?_)) | (refine C_id ?_; first | refine C_region ?_ | refine C_skip ?_ | refine C_cond_f rfl ?_) | (refine E_id ?_; first | refine E_code ?_))
              have hok2 := hok1 rfl
              refine X_append rfl rfl rfl rfl rfl hS (flatMap_len (f := Wr.cells) (n := 2) fun _ _ => rfl) hwc (hS.rd (List.mem_cons_self ..)).own_row rfl (fun u hu => by
                simp only [List.mem_cons, List.not_mem_nil, or_false] at hu
                rcases hu with rfl | rfl <;> rfl) (by omega) (by simp only [maxLen]; omega) (fun a' c' w hS hc' hnil' => ?_)
              repeat (first | (refine G_id ?_; first | refine G_nil ?_ | refine G_plain rfl rfl ?_) | (refine X_id ?_; first | refine X_yl (Yl_move rfl rfl) rfl rfl ?_ | refine X_yl (Yl_assign rfl rfl) rfl rfl ?_ | refine X_yl (Yl_add rfl rfl rfl (w64 (by omega) (by omega))) rfl rfl ?_) | (refine C_id ?_; first | refine C_region ?_) | (refine E_id ?_; first | refine E_code ?_ | refine E_blk_n ?_))
              refine E_round (z := (i, a5, c5, ws, O)) (i + 1, a', c', ws ++ [(⟨no1, ⟨a1, c1, b1⟩⟩ : Wr)], O ++ [(⟨a1, c1, b1⟩ : Bs)]) ⟨rfl, rfl, ?_, rfl, rfl, rfl, trivial⟩ ⟨⟨by simp only; omega, by simp only; omega, by simp; omega, by simp; omega⟩, ⟨?_, ?_, ?_, ?_, ?_⟩, ?_⟩ (by simp only; omega)
              · show some _ = some _
                simp
              · show (ws ++ _).map Wr.data = _
                rw [hsucc, List.map_append, List.map_append, hwd]
                rfl
              · show (entList D j number (i + 1)).all _ = true
                rw [hsucc, List.all_append, hgood]
                simp [goodE]
              · show a' = none ↔ i + 1 = 0
                rw [hnil']; simp
              · intro v hv
                simp only [List.mem_append, List.mem_singleton] at hv ⊢
                rcases hv with hv | rfl
                · exact .inl (hO v hv)
                · exact .inr rfl
              · intro v hv
                simp only [List.mem_append, List.mem_singleton] at hv
                rcases hv with hv | rfl
                · exact hw64 v hv
                · exact hb1
              · skip
                have hS := hS.pick [4, 4, 0, 3]
                replace hS := St.rdsCons (x := ⟨a1, c1, b1⟩) hS
                have hS := hS.pick [1, 0, 0]
                simpa [Wr.cells] using hS
            · have hf := hbadi (by simp [goodE, hd])
              repeat (first | (refine G_id ?_; first | refine G_nil ?_ | refine G_plain rfl rfl ?_ | refine G_yes rfl rfl rfl rfl ?_) | (refine X_id ?_; first | refine X_yl (Yl_move rfl rfl) rfl rfl ?_ | refine X_yl (Yl_assign rfl rfl) rfl rfl ?_ | refine X_yl (Yl_extract rfl rfl) rfl rfl ?_ | refine X_yl (Yl_pick_f rfl rfl rfl) rfl rfl ?_ | refine X_yl (Yl_not_t rfl rfl) rfl rfl ?_ | refine X_yl (Yl_neq_f rfl rfl rfl (by omega)) rfl rfl ?_ | refine X_yl (Yl_loadN rfl rfl hS.cellsN) rfl rfl ?_ | refine X_store rfl rfl rfl rfl hS (fun _ hS _ => ?_) | refine X_alloc rfl rfl rfl hS (fun _ _ hS _ => ?_)) | (refine C_id ?_; first | refine C_seq ?_ | refine C_region ?_) | (refine E_id ?_; first | refine E_code ?_))
              refine X_yl (Yl_neqArr rfl rfl rfl hd1 hd0) rfl rfl ?_
              rw [decide_eq_true hd]
              repeat (first | (refine G_id ?_; first | refine G_nil ?_ | refine G_plain rfl rfl ?_) | (refine X_id ?_; first | refine X_yl (Yl_assign rfl rfl) rfl rfl ?_ | refine X_yl (Yl_pick_f rfl rfl rfl) rfl rfl ?_) | (refine C_id ?_; first | refine C_seq ?_ | refine C_region ?_ | refine C_exit ?_ | refine C_cond_t rfl ?_) | (refine E_id ?_; first | refine E_code ?_ | refine E_then_exit ?_ | refine E_blk_same ?_ | refine E_blk_ne rfl ?_))
              refine C_ord [(0, true), (1, true), (2, true), (3, true), (4, false), (5, true), (6, true), (7, true), (8, true), (9, true), (11, true), (10, false), (12, true), (13, true)] mixed (by kernel_rfl) rfl ?_
              have hS := hS.drew
              repeat (first | (refine G_id ?_; first | refine G_nil ?_ | refine G_plain rfl rfl ?_) | (refine X_id ?_; first | refine X_yl (Yl_assign rfl rfl) rfl rfl ?_) | (refine C_id ?_; first | refine C_seq ?_ | refine C_region ?_ | refine C_ret ?_ | refine C_cond_t rfl ?_) | (refine E_id ?_; first | refine E_code ?_ | refine E_then_ret ?_ | refine E_noGoto (fun _ h => by cases h) ?_ | refine E_ret1 rfl (Rv_tmp rfl) (Ret.mk ?_)) | (refine GO_id ?_; first | refine GO_nil ?_ | refine GO_pure rfl rfl (fun _ => Yl_move rfl rfl) rfl rfl ?_ | refine GO_pure rfl rfl (fun _ => Yl_pick_t rfl rfl rfl) rfl rfl ?_ | refine GO_pure rfl rfl (fun _ => Yl_eqlNilSlice rfl rfl rfl) rfl rfl ?_ | refine GO_hard_no rfl rfl rfl rfl rfl rfl rfl ?_ | refine GO_no rfl rfl rfl rfl rfl rfl rfl ?_))
              exact hnil _ hS.drops hf
          · have hf := hbadi (by simp [goodE, hn])
            repeat (first | (refine G_id ?_; first | refine G_nil ?_ | refine G_plain rfl rfl ?_ | refine G_yes rfl rfl rfl rfl ?_ | refine G_no rfl rfl rfl rfl rfl rfl ?_) | (refine X_id ?_; first | refine X_yl (Yl_move rfl rfl) rfl rfl ?_ | refine X_yl (Yl_assign rfl rfl) rfl rfl ?_ | refine X_yl (Yl_extract rfl rfl) rfl rfl ?_ | refine X_yl (Yl_pick_t rfl rfl rfl) rfl rfl ?_ | refine X_yl (Yl_pick_f rfl rfl rfl) rfl rfl ?_ | refine X_yl (Yl_not_t rfl rfl) rfl rfl ?_ | refine X_yl (Yl_neq_t rfl rfl rfl (by omega)) rfl rfl ?_ | refine X_store rfl rfl rfl rfl hS (fun _ hS _ => ?_) | refine X_alloc rfl rfl rfl hS (fun _ _ hS _ => ?_)) | (refine C_id ?_; first | refine C_seq ?_ | refine C_region ?_ | refine C_exit ?_ | refine C_cond_t rfl ?_) | (refine E_id ?_; first | refine E_code ?_ | refine E_then_exit ?_ | refine E_blk_same ?_ | refine E_blk_ne rfl ?_))
            refine C_ord [(0, true), (1, true), (2, true), (3, true), (4, false), (5, true), (6, true), (7, true), (8, true), (9, true), (11, true), (10, false), (12, true), (13, true)] mixed (by kernel_rfl) rfl ?_
            have hS := hS.drew
            repeat (first | (refine G_id ?_; first | refine G_nil ?_ | refine G_plain rfl rfl ?_) | (refine X_id ?_; first | refine X_yl (Yl_assign rfl rfl) rfl rfl ?_) | (refine C_id ?_; first | refine C_seq ?_ | refine C_region ?_ | refine C_ret ?_ | refine C_cond_t rfl ?_) | (refine E_id ?_; first | refine E_code ?_ | refine E_then_ret ?_ | refine E_noGoto (fun _ h => by cases h) ?_ | refine E_ret1 rfl (Rv_tmp rfl) (Ret.mk ?_)) | (refine GO_id ?_; first | refine GO_nil ?_ | refine GO_pure rfl rfl (fun _ => Yl_move rfl rfl) rfl rfl ?_ | refine GO_pure rfl rfl (fun _ => Yl_pick_t rfl rfl rfl) rfl rfl ?_ | refine GO_pure rfl rfl (fun _ => Yl_eqlNilSlice rfl rfl rfl) rfl rfl ?_ | refine GO_hard_no rfl rfl rfl rfl rfl rfl rfl ?_ | refine GO_no rfl rfl rfl rfl rfl rfl rfl ?_))
            exact hnil _ hS.drops hf
      · obtain rfl : i = n0.toNat := by omega
        have hn0 : ((n0.toNat : Nat) : Int) = n0 := by omega
        obtain ⟨ad, rfl⟩ : ∃ ad, a5 = some ad := by
          cases a5 with
          | none => have := hnone.1 rfl; omega
          | some ad => exact ⟨ad, rfl⟩
        obtain ⟨d, hd⟩ : ∃ d, d = ws.map Wr.data := ⟨_, rfl⟩
        rw [if_pos hgood, ← hwd, ← hd] at hfl
        have hfm : foundM rd fs D j number = if checkM d = 0 ∧ sumB rd fs number d = d0 then d else [] := by
          unfold foundM
          rw [hfl, ← he0]
        have hdw : d.length = ws.length := by rw [hd]; simp
        have hfr := framed_sum_le number d (fun x hx => by
          rw [hd] at hx
          obtain ⟨v, hv, rfl⟩ := List.mem_map.1 hx
          exact hw64 v hv)
        have hWW : ∀ w rs, St W noF (own 48 2 (some ad) c5 (ws.flatMap Wr.cells) :: rds O :: rs) w → Wrs w noF (some ad) ws := fun w rs h => ⟨(h.rd (List.mem_cons_self ..)).own_row.ro, fun v hv => (h.rd (List.mem_cons_of_mem _ (List.mem_cons_self ..))).ro.rds _ (hO v hv)⟩
        repeat (first | (refine G_id ?_; first | refine G_nil ?_ | refine G_plain rfl rfl ?_) | (refine X_id ?_; first | refine X_yl (Yl_move rfl rfl) rfl rfl ?_ | refine X_yl (Yl_lss_f rfl rfl rfl (by omega)) rfl rfl ?_) | (refine C_id ?_; first | refine C_seq ?_ | refine C_region ?_ | refine C_exit ?_ | refine C_cond_f rfl ?_) | (refine E_id ?_; first | refine E_code ?_ | refine E_then_exit ?_ | refine E_blk_same ?_))
        refine C_ord [(0, true), (1, true), (2, true), (3, true), (4, false), (5, true), (6, true), (7, true), (8, true), (9, true), (11, true), (10, false), (12, true), (13, true)] mixed (by kernel_rfl) rfl ?_
        have hS := hS.drew
        repeat (first | (refine GO_id ?_; first | refine GO_pure rfl rfl (fun _ => Yl_move rfl rfl) rfl rfl ?_ | refine GO_pure rfl rfl (fun _ => Yl_eqlNilSlice rfl rfl rfl) rfl rfl ?_ | refine GO_yes rfl rfl rfl rfl (fun _ => Yl_move rfl rfl) rfl rfl ?_ | refine GO_hard_yes rfl rfl rfl rfl ?_))
        refine X_callq _ rfl rfl rfl rfl rfl hS (check_ (some ad) c5 ws _ (hWW _ _ hS) (by omega) (fun v hv => by have := hw64 v hv; omega)) ?_
        rintro _ w rfl hS
        rw [← hd]
        by_cases hck : checkM d = 0
        · repeat (first | (refine GO_id ?_; first | refine GO_pure rfl rfl (fun _ => Yl_move rfl rfl) rfl rfl ?_ | refine GO_pure rfl rfl (fun _ => Yl_pick_f rfl rfl rfl) rfl rfl ?_ | refine GO_yes rfl rfl rfl rfl (fun _ => Yl_move rfl rfl) rfl rfl ?_ | refine GO_yes rfl rfl rfl rfl (fun _ => Yl_neq_f rfl rfl rfl (by omega)) rfl rfl ?_ | refine GO_hard_yes rfl rfl rfl rfl ?_ | refine GO_yes_read (fun w' => CellsN w' _ _ _) rfl rfl rfl rfl hS.cellsN (fun _ hc => Yl_loadN rfl rfl hc) rfl rfl ?_) | (refine Keep_id ?_; first | refine And.intro (by repeat (first | exact trivial | refine And.intro (.inl (by decide +kernel)) ?_ | refine And.intro (.inr (by first | assumption | exact hS.cell | exact cell_at (by assumption) | exact hS.cellI (by omega) | exact hS.cellIP (by omega) | exact hS.cellsN | exact ((hr.rd hS).cellX (by omega) hx) | exact ((hr2.rd hS).cellX (by omega) hx2) | exact hS.cellB (by omega) | exact hS.cellBA (by omega) | exact (hb.rd hS).cellB' (by omega) | exact (hb2.rd hS).cellB' (by omega) | exact (hg.rd hS).cellI (by omega) | exact (hg2.rd hS).cellI (by omega) | exact ((hr.rd hS).cellF (by first | omega | (dsimp only; omega)) hx) | exact ((hr2.rd hS).cellF (by first | omega | (dsimp only; omega)) hx2))) ?_)) ?_))
          refine X_callq _ rfl rfl rfl rfl rfl hS (wsum_ number (some ad) c5 ws rd fs _ (hG.mono fun r hr => (hr.rd hS).ro) (hWW _ _ hS) (by omega) (by rw [← hd]; omega)) ?_
          rintro _ w rfl hS
          rw [← hd]
          repeat (first | (refine Keep_id ?_; first | refine And.intro (by repeat (first | exact trivial | refine And.intro (.inl (by decide +kernel)) ?_ | refine And.intro (.inr (by first | assumption | exact hS.cell | exact cell_at (by assumption) | exact hS.cellI (by omega) | exact hS.cellIP (by omega) | exact hS.cellsN | exact ((hr.rd hS).cellX (by omega) hx) | exact ((hr2.rd hS).cellX (by omega) hx2) | exact hS.cellB (by omega) | exact hS.cellBA (by omega) | exact (hb.rd hS).cellB' (by omega) | exact (hb2.rd hS).cellB' (by omega) | exact (hg.rd hS).cellI (by omega) | exact (hg2.rd hS).cellI (by omega) | exact ((hr.rd hS).cellF (by first | omega | (dsimp only; omega)) hx) | exact ((hr2.rd hS).cellF (by first | omega | (dsimp only; omega)) hx2))) ?_)) ?_))
          refine GO_yes rfl rfl rfl rfl (fun _ => Yl_neqArr rfl rfl rfl (sumB_length ..) hd0) rfl rfl ?_
          by_cases hsm : sumB rd fs number d = d0
          · rw [decide_eq_false (not_not_intro hsm)]
            repeat (first | (refine G_id ?_; first | refine G_nil ?_ | refine G_plain rfl rfl ?_) | (refine X_id ?_; first | refine X_yl (Yl_move rfl rfl) rfl rfl ?_ | refine X_yl (Yl_assign rfl rfl) rfl rfl ?_) | (refine C_id ?_; first | refine C_seq ?_ | refine C_region ?_ | refine C_ret ?_ | refine C_skip ?_ | refine C_cond_f rfl ?_) | (refine E_id ?_; first | refine E_code ?_ | refine E_noGoto (fun _ h => by cases h) ?_ | refine E_ret1 rfl (Rv_tmp rfl) (Ret.mk ?_)) | (refine GO_id ?_; first | refine GO_nil ?_ | refine GO_pure rfl rfl (fun _ => Yl_pick_f rfl rfl rfl) rfl rfl ?_))
            refine ⟨some ad, c5, ws, O, rfl, ?_, ?_, hO, hS.pick [0, 0]⟩
            · rw [hfm, if_pos ⟨hck, hsm⟩, hd]
            · constructor
              · intro h; cases h
              · intro h; rw [h] at hwl; simp at hwl; omega
          · rw [decide_eq_true hsm]
            repeat (first | (refine G_id ?_; first | refine G_nil ?_ | refine G_plain rfl rfl ?_) | (refine X_id ?_; first | refine X_yl (Yl_assign rfl rfl) rfl rfl ?_) | (refine C_id ?_; first | refine C_seq ?_ | refine C_region ?_ | refine C_ret ?_ | refine C_cond_t rfl ?_) | (refine E_id ?_; first | refine E_code ?_ | refine E_then_ret ?_ | refine E_noGoto (fun _ h => by cases h) ?_ | refine E_ret1 rfl (Rv_tmp rfl) (Ret.mk ?_)) | (refine GO_id ?_; first | refine GO_nil ?_ | refine GO_pure rfl rfl (fun _ => Yl_pick_f rfl rfl rfl) rfl rfl ?_))
            exact hnil _ hS.drops (by rw [hfm, if_neg (fun h => hsm h.2)])
        · repeat (first | (refine G_id ?_; first | refine G_nil ?_ | refine G_plain rfl rfl ?_) | (refine X_id ?_; first | refine X_yl (Yl_assign rfl rfl) rfl rfl ?_) | (refine C_id ?_; first | refine C_seq ?_ | refine C_region ?_ | refine C_ret ?_ | refine C_cond_t rfl ?_) | (refine E_id ?_; first | refine E_code ?_ | refine E_then_ret ?_ | refine E_noGoto (fun _ h => by cases h) ?_ | refine E_ret1 rfl (Rv_tmp rfl) (Ret.mk ?_)) | (refine GO_id ?_; first | refine GO_nil ?_ | refine GO_pure rfl rfl (fun _ => Yl_move rfl rfl) rfl rfl ?_ | refine GO_pure rfl rfl (fun _ => Yl_pick_t rfl rfl rfl) rfl rfl ?_ | refine GO_pure rfl rfl (fun _ => Yl_pick_f rfl rfl rfl) rfl rfl ?_ | refine GO_yes rfl rfl rfl rfl (fun _ => Yl_neq_t rfl rfl rfl (by omega)) rfl rfl ?_ | refine GO_hard_no rfl rfl rfl rfl rfl rfl rfl ?_ | refine GO_no rfl rfl rfl rfl rfl rfl rfl ?_) | (refine Keep_id ?_; first | refine And.intro (by repeat (first | exact trivial | refine And.intro (.inl (by decide +kernel)) ?_ | refine And.intro (.inr (by first | assumption | exact hS.cell | exact cell_at (by assumption) | exact hS.cellI (by omega) | exact hS.cellIP (by omega) | exact hS.cellsN | exact ((hr.rd hS).cellX (by omega) hx) | exact ((hr2.rd hS).cellX (by omega) hx2) | exact hS.cellB (by omega) | exact hS.cellBA (by omega) | exact (hb.rd hS).cellB' (by omega) | exact (hb2.rd hS).cellB' (by omega) | exact (hg.rd hS).cellI (by omega) | exact (hg2.rd hS).cellI (by omega) | exact ((hr.rd hS).cellF (by first | omega | (dsimp only; omega)) hx) | exact ((hr2.rd hS).cellF (by first | omega | (dsimp only; omega)) hx2))) ?_)) ?_))
          exact hnil _ hS.drops (by rw [hfm, if_neg (fun h => hck h.1)])
end Cr
