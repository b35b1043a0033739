/-
  creelref27.Check: what is wrong with a record (rchk), the document's.
  The document's numbers as text (creelref03.Number); a text and a number of layer 29; the law's cut.
  Package command in plain words: a command, its parts by its word, its leaves, what is read of leaves; the document's check says the same.
  Layer 29's text and number (the document's), and the law's cut.
  The document's bytes of a record (layer 27); the law's cut, To, Of.
  Package codec: values made: Text, Int, Of; a leaf copied.
  Package codec: what is wrong with a value: nothing, at leaves and lists of leaves.
  Package codec: a writer; leaves and lists of leaves are written as encL and encT say.
  Package codec: Encode of a list of leaves.
  audit.Bytes: the bytes of a record, or what is wrong with it.
-/
import Derived.Test.YtkdolbmcnekeoaaDoorAud4
import Derived.Test.YtkdolbmcnekeoaaDoorAud5
import Derived.Test.YtkdolbmcnekeoaaDoorAud3
import Derived.Test.YtkdolbmcnekeoaaDoorAud2
namespace Cr
open Go Go.Proofs
set_option maxRecDepth 100000
set_option maxHeartbeats 2000000
attribute [local irreducible] Calls

theorem words6_at {i : Nat} (h : i < 6) : ∃ s, words6[i]? = some s ∧ (words6.map sv)[i]? = some (.string (str s)) := by
  have h0 : words6[i]? = some words6[i] := List.getElem?_eq_getElem h
  exact ⟨_, h0, by rw [List.getElem?_map, h0]; rfl⟩
theorem rcheck_ (r : Rec) (W : World) : Calls Tryd.prog 20 #[.agg r.cells.toArray] W (Ret fun v w => v = .int .i64 (rchk r : Nat) ∧ St W noF [] w) := by
  have hS := St.start W
  have hN1 := rname_ r.pub
  have hN2 := rname_ r.pkg
  refine calls_C Tryd.func20 rfl Tryd.ntmps20 rfl ?_
  repeat (first | (refine G_id ?_; first | refine G_nil ?_ | refine G_plain rfl rfl ?_) | (refine X_id ?_; first | refine X_yl (Yl_assign rfl rfl) rfl rfl ?_ | refine X_store rfl rfl rfl rfl hS (fun _ hS _ => ?_) | refine X_box rfl rfl rfl rfl hS (fun _ _ hS _ => ?_) | refine X_alloc rfl rfl rfl hS (fun _ _ hS _ => ?_) | refine X_yl (Yl_buildArr rfl rfl rfl rfl rfl) rfl rfl ?_) | (refine C_id ?_; first | refine C_seq ?_ | refine C_region ?_ | refine C_block ?_) | (refine E_id ?_; first | refine E_code ?_))
  rename_i b1 _ _ _ b3 _ _ _ _ _
  replace hS : St W noF [pts b3 (.cells (words6.map sv).toArray 75 (0, 0)), pts b1 (.cells r.cells.toArray 46 (0, 0))] _ := hS
  replace hS := hS.head row_pts
  refine C_joinB (α := Unit) (fun _ => [(1, .pointer (some ⟨b1, 0, none⟩)), (4, .bool (decide (r.cmd ∈ words6)))]) (fun _ w => St W noF [pts b1 (.cells r.cells.toArray 46 (0, 0))] w) ?_ ?_
  · refine C_loop (α := Nat × Bool) (fun z => [(1, .pointer (some ⟨b1, 0, none⟩)), (3, .pointer (some ⟨b3, 0, none⟩)), (4, .bool z.2), (5, .int .i64 (z.1 : Nat))])
      (fun z w => z.1 ≤ 6 ∧ z.2 = decide (r.cmd ∈ words6.take z.1) ∧ St W noF [row (some ⟨b3, 0, none⟩) (words6.map sv), pts b1 (.cells r.cells.toArray 46 (0, 0))] w) (fun z => 6 - z.1) (0, false) ⟨rfl, rfl, rfl, rfl, trivial⟩ ⟨Nat.zero_le _, by simp, hS⟩ ?_
    clear hS
    rintro ⟨k, fd⟩ w ⟨hk, hfd, hS⟩
    simp only at hk hfd hS
    by_cases hkl : k < 6
    · obtain ⟨m, hm, hx⟩ := words6_at hkl
      have hnext : decide (r.cmd ∈ words6.take (k + 1)) = (fd || decide (m = r.cmd)) := by
        rw [hfd, List.take_add_one, hm]
        by_cases e1 : r.cmd ∈ words6.take k <;> by_cases e2 : m = r.cmd
        · simp [e1]
        · simp [e1]
        · simp [e2]
        · simp [e1, e2]; exact fun h => e2 h.symm
      cases fd with
      | true =>
        repeat (first | (refine G_id ?_; first | refine G_nil ?_ | refine G_plain rfl rfl ?_) | (refine X_id ?_; first | refine X_yl (Yl_move rfl rfl) rfl rfl ?_ | refine X_yl (Yl_lss_t rfl rfl rfl (by omega)) rfl rfl ?_) | (refine C_id ?_; first | refine C_seq ?_ | refine C_region ?_ | refine C_block ?_ | refine C_skip ?_ | refine C_cond_t rfl ?_) | (refine E_id ?_; first | refine E_code ?_))
        refine C_ord (.s 0 (.s 1 (.s 2 (.s 3 (.s 4 (.s 5 (.s 6 (.s 7 (.s 8 (.s 9 .nil)))))))))) mixed (by kernel_rfl) rfl ?_
        have hS := hS.drew
        repeat (first | (refine G_id ?_; first | refine G_nil ?_ | refine G_plain rfl rfl ?_) | (refine X_id ?_; first | refine X_yl (Yl_move rfl rfl) rfl rfl ?_ | refine X_yl (Yl_assign rfl rfl) rfl rfl ?_ | refine X_yl (Yl_add rfl rfl rfl (w64 (by omega) (by omega))) rfl rfl ?_) | (refine C_id ?_; first | refine C_region ?_) | (refine E_id ?_; first | refine E_code ?_ | refine E_blk_n ?_) | (refine GO_id ?_; first | refine GO_nil ?_ | refine GO_pure rfl rfl (fun _ => Yl_move rfl rfl) rfl rfl ?_ | refine GO_pure rfl rfl (fun _ => Yl_assign rfl rfl) rfl rfl ?_ | refine GO_pure rfl rfl (fun _ => Yl_pick_t rfl rfl rfl) rfl rfl ?_ | refine GO_no rfl rfl rfl rfl rfl rfl rfl ?_))
        exact E_round (z := (k, true)) (k + 1, true) ⟨rfl, rfl, rfl, rfl, trivial⟩ ⟨hkl, by rw [hnext]; rfl, hS⟩ (by dsimp only; omega)
      | false =>
        by_cases he : m = r.cmd
        · repeat (first | (refine G_id ?_; first | refine G_nil ?_ | refine G_plain rfl rfl ?_) | (refine X_id ?_; first | refine X_yl (Yl_move rfl rfl) rfl rfl ?_ | refine X_yl (Yl_lss_t rfl rfl rfl (by omega)) rfl rfl ?_) | (refine C_id ?_; first | refine C_seq ?_ | refine C_region ?_ | refine C_block ?_ | refine C_skip ?_ | refine C_cond_t rfl ?_) | (refine E_id ?_; first | refine E_code ?_))
          refine C_ord (.s 0 (.s 1 (.s 2 (.s 3 (.s 4 (.s 5 (.s 6 (.s 7 (.s 8 (.s 9 .nil)))))))))) mixed (by kernel_rfl) rfl ?_
          have hS := hS.drew
          have hcell := (hS.rd (r := row (some ⟨b3, 0, none⟩) (words6.map sv)) (by simp)).cellF (o' := 0 + ((k : Nat) : Int).toNat * 1) (by omega) hx
          repeat (first | (refine G_id ?_; first | refine G_nil ?_ | refine G_plain rfl rfl ?_) | (refine X_id ?_; first | refine X_yl (Yl_move rfl rfl) rfl rfl ?_ | refine X_yl (Yl_assign rfl rfl) rfl rfl ?_ | refine X_yl (Yl_add rfl rfl rfl (w64 (by omega) (by omega))) rfl rfl ?_) | (refine C_id ?_; first | refine C_region ?_) | (refine E_id ?_; first | refine E_code ?_ | refine E_blk_n ?_) | (refine GO_id ?_; first | refine GO_nil ?_ | refine GO_pure rfl rfl (fun _ => Yl_move rfl rfl) rfl rfl ?_ | refine GO_pure rfl rfl (fun _ => Yl_assign rfl rfl) rfl rfl ?_ | refine GO_pure rfl rfl (fun _ => Yl_pick_f rfl rfl rfl) rfl rfl ?_ | refine GO_yes rfl rfl rfl rfl (fun _ => Yl_move rfl rfl) rfl rfl ?_ | refine GO_yes rfl rfl rfl rfl (fun _ => Yl_fieldAddr0 rfl rfl rfl) rfl rfl ?_ | refine GO_yes rfl rfl rfl rfl (fun _ => Yl_indexAddr_arr rfl rfl rfl (by omega) (by omega)) rfl rfl ?_ | refine GO_yes_read (fun w' => w'.cell? _ = some _) rfl rfl rfl rfl hS.cell (fun _ hc => Yl_load rfl rfl hc) rfl rfl ?_ | refine GO_yes_read (fun w' => w'.cell? _ = some _) rfl rfl rfl rfl (by assumption) (fun _ hc => Yl_load rfl rfl hc) rfl rfl ?_ | refine GO_yes rfl rfl rfl rfl (fun _ => Yl_eqlStrT rfl rfl rfl (by assumption)) rfl rfl ?_))
          exact E_round (z := (k, false)) (k + 1, true) ⟨rfl, rfl, rfl, rfl, trivial⟩ ⟨hkl, by rw [hnext, decide_eq_true he]; rfl, hS⟩ (by dsimp only; omega)
        · repeat (first | (refine G_id ?_; first | refine G_nil ?_ | refine G_plain rfl rfl ?_) | (refine X_id ?_; first | refine X_yl (Yl_move rfl rfl) rfl rfl ?_ | refine X_yl (Yl_lss_t rfl rfl rfl (by omega)) rfl rfl ?_) | (refine C_id ?_; first | refine C_seq ?_ | refine C_region ?_ | refine C_block ?_ | refine C_skip ?_ | refine C_cond_t rfl ?_) | (refine E_id ?_; first | refine E_code ?_))
          refine C_ord (.s 0 (.s 1 (.s 2 (.s 3 (.s 4 (.s 5 (.s 6 (.s 7 (.s 8 (.s 9 .nil)))))))))) mixed (by kernel_rfl) rfl ?_
          have hS := hS.drew
          have hcell := (hS.rd (r := row (some ⟨b3, 0, none⟩) (words6.map sv)) (by simp)).cellF (o' := 0 + ((k : Nat) : Int).toNat * 1) (by omega) hx
          repeat (first | (refine G_id ?_; first | refine G_nil ?_ | refine G_plain rfl rfl ?_) | (refine X_id ?_; first | refine X_yl (Yl_move rfl rfl) rfl rfl ?_ | refine X_yl (Yl_assign rfl rfl) rfl rfl ?_ | refine X_yl (Yl_add rfl rfl rfl (w64 (by omega) (by omega))) rfl rfl ?_) | (refine C_id ?_; first | refine C_region ?_) | (refine E_id ?_; first | refine E_code ?_ | refine E_blk_n ?_) | (refine GO_id ?_; first | refine GO_nil ?_ | refine GO_pure rfl rfl (fun _ => Yl_move rfl rfl) rfl rfl ?_ | refine GO_pure rfl rfl (fun _ => Yl_assign rfl rfl) rfl rfl ?_ | refine GO_pure rfl rfl (fun _ => Yl_pick_f rfl rfl rfl) rfl rfl ?_ | refine GO_yes rfl rfl rfl rfl (fun _ => Yl_move rfl rfl) rfl rfl ?_ | refine GO_yes rfl rfl rfl rfl (fun _ => Yl_fieldAddr0 rfl rfl rfl) rfl rfl ?_ | refine GO_yes rfl rfl rfl rfl (fun _ => Yl_indexAddr_arr rfl rfl rfl (by omega) (by omega)) rfl rfl ?_ | refine GO_yes_read (fun w' => w'.cell? _ = some _) rfl rfl rfl rfl hS.cell (fun _ hc => Yl_load rfl rfl hc) rfl rfl ?_ | refine GO_yes_read (fun w' => w'.cell? _ = some _) rfl rfl rfl rfl (by assumption) (fun _ hc => Yl_load rfl rfl hc) rfl rfl ?_ | refine GO_yes rfl rfl rfl rfl (fun _ => Yl_eqlStrF rfl rfl rfl (by assumption)) rfl rfl ?_))
          exact E_round (z := (k, false)) (k + 1, false) ⟨rfl, rfl, rfl, rfl, trivial⟩ ⟨hkl, by rw [hnext, decide_eq_false he]; rfl, hS⟩ (by dsimp only; omega)
    · repeat (first | (refine G_id ?_; first | refine G_nil ?_ | refine G_plain rfl rfl ?_) | (refine X_id ?_; first | refine X_yl (Yl_move rfl rfl) rfl rfl ?_ | refine X_yl (Yl_lss_f rfl rfl rfl (by omega)) rfl rfl ?_) | (refine C_id ?_; first | refine C_seq ?_ | refine C_region ?_ | refine C_exit ?_ | refine C_cond_f rfl ?_) | (refine E_id ?_; first | refine E_code ?_ | refine E_then_exit ?_ | refine E_blk_same ?_))
      have e : words6.take k = words6 := List.take_of_length_le (by show 6 ≤ k; omega)
      rw [e] at hfd
      subst hfd
      exact E_mid () ⟨rfl, rfl, trivial⟩ (hS.pick [1])
  · clear hS
    rintro _ w hS
    by_cases h1 : r.cmd ∈ words6
    · rw [decide_eq_true h1]
      have c1 : r.pub = [] ∨ (¬ r.pub = [] ∧ nameOk r.pub) ∨ (¬ r.pub = [] ∧ ¬ nameOk r.pub) := by
        by_cases a : r.pub = []
        · exact .inl a
        · by_cases b : nameOk r.pub
          · exact .inr (.inl ⟨a, b⟩)
          · exact .inr (.inr ⟨a, b⟩)
      have c2 : r.pkg = [] ∨ (¬ r.pkg = [] ∧ nameOk r.pkg) ∨ (¬ r.pkg = [] ∧ ¬ nameOk r.pkg) := by
        by_cases a : r.pkg = []
        · exact .inl a
        · by_cases b : nameOk r.pkg
          · exact .inr (.inl ⟨a, b⟩)
          · exact .inr (.inr ⟨a, b⟩)
      have e : namedOk r.pub → namedOk r.pkg → rchk r = if 0 ≤ r.rev ∧ r.rev ≤ 999999 ∧ 0 ≤ r.out ∧ r.out ≤ 19 then 0 else 2 := fun p1 p2 => by unfold rchk; rw [if_pos h1, if_pos ⟨p1, p2⟩]
      rcases c1 with n1 | ⟨n1, q1⟩ | ⟨n1, q1⟩
      case inr.inr =>
        rw [decide_eq_false q1] at hN1
        rw [show rchk r = 10 by unfold rchk; rw [if_pos h1, if_neg (fun q => q.1.elim n1 q1)]]
        repeat (first | (refine G_id ?_; first | refine G_nil ?_ | refine G_plain rfl rfl ?_ | refine G_yes rfl rfl rfl rfl ?_ | refine G_no rfl rfl rfl rfl rfl rfl ?_ | refine G_no_undef rfl rfl rfl rfl rfl ?_) | (refine X_id ?_; first | (refine X_callq 39 rfl rfl rfl rfl rfl hS (hN1 _) ?_; rintro _ _ rfl hS) | refine X_yl (Yl_move rfl rfl) rfl rfl ?_ | refine X_yl (Yl_assign rfl rfl) rfl rfl ?_ | refine X_yl (Yl_fieldAddr0 rfl rfl rfl) rfl rfl ?_ | refine X_yl (Yl_pick_t rfl rfl rfl) rfl rfl ?_ | refine X_yl (Yl_not_t rfl rfl) rfl rfl ?_ | refine X_yl (Yl_not_f rfl rfl) rfl rfl ?_ | refine X_yl (Yl_load rfl rfl hS.cell) rfl rfl ?_ | refine X_yl (Yl_neqStrT rfl rfl rfl (by assumption)) rfl rfl ?_) | (refine C_id ?_; first | refine C_seq ?_ | refine C_region ?_ | refine C_ret ?_ | refine C_skip ?_ | refine C_cond_t rfl ?_ | refine C_cond_f rfl ?_) | (refine E_id ?_; first | refine E_code ?_ | refine E_then_ret ?_ | refine E_ret1 rfl (Rv_tmp rfl) (Ret.mk ?_)))
        exact ⟨rfl, hS.drops⟩
      case' inl => replace e := e (.inl n1)
      case' inr.inl =>
        replace e := e (.inr q1)
        rw [decide_eq_true q1] at hN1
      all_goals
        rcases c2 with n2 | ⟨n2, q2⟩ | ⟨n2, q2⟩
        · replace e := e (.inl n2)
          repeat' (first | (refine X_callq 39 rfl rfl rfl rfl rfl hS (hN1 _) ?_; rintro _ _ rfl hS) | (refine G_id ?_; first | refine G_nil ?_ | refine G_plain rfl rfl ?_ | refine G_yes rfl rfl rfl rfl ?_ | refine G_no rfl rfl rfl rfl rfl rfl ?_) | (refine X_id ?_; first | refine X_yl (Yl_move rfl rfl) rfl rfl ?_ | refine X_yl (Yl_assign rfl rfl) rfl rfl ?_ | refine X_yl (Yl_fieldAddr0 rfl rfl rfl) rfl rfl ?_ | refine X_yl (Yl_pick_t rfl rfl rfl) rfl rfl ?_ | refine X_yl (Yl_pick_f rfl rfl rfl) rfl rfl ?_ | refine X_yl (Yl_not_t rfl rfl) rfl rfl ?_ | refine X_yl (Yl_lss rfl rfl rfl) rfl rfl ?_ | refine X_yl (Yl_gtr rfl rfl rfl) rfl rfl ?_ | refine X_yl (Yl_load rfl rfl hS.cell) rfl rfl ?_ | refine X_yl (Yl_neqStrF rfl rfl rfl (by assumption)) rfl rfl ?_ | refine X_yl (Yl_neqStrT rfl rfl rfl (by assumption)) rfl rfl ?_) | (refine C_id ?_; first | refine C_seq ?_ | refine C_region ?_ | refine C_ret ?_ | refine C_skip ?_ | refine C_cond_t rfl ?_ | refine C_cond_f rfl ?_) | (refine E_id ?_; first | refine E_code ?_ | refine E_then_ret ?_ | refine E_ret1 rfl (Rv_tmp rfl) (Ret.mk ?_)) | (refine G_split (d := 45) rfl ?_ ?_ <;> intro hd) | (refine G_split (d := 50) rfl ?_ ?_ <;> intro hd) | (refine G_split (d := 55) rfl ?_ ?_ <;> intro hd) | (refine C_cond_dec rfl ?_ ?_ <;> intro hd))
          all_goals
            refine ⟨?_, hS.drops⟩
            rw [e]
            first | (rw [if_pos (by omega)]; rfl) | (rw [if_neg (by omega)]; rfl)
        · replace e := e (.inr q2)
          rw [decide_eq_true q2] at hN2
          repeat' (first | (refine X_callq 39 rfl rfl rfl rfl rfl hS (hN1 _) ?_; rintro _ _ rfl hS) | (refine X_callq 39 rfl rfl rfl rfl rfl hS (hN2 _) ?_; rintro _ _ rfl hS) | (refine G_id ?_; first | refine G_nil ?_ | refine G_plain rfl rfl ?_ | refine G_yes rfl rfl rfl rfl ?_ | refine G_no rfl rfl rfl rfl rfl rfl ?_) | (refine X_id ?_; first | refine X_yl (Yl_move rfl rfl) rfl rfl ?_ | refine X_yl (Yl_assign rfl rfl) rfl rfl ?_ | refine X_yl (Yl_fieldAddr0 rfl rfl rfl) rfl rfl ?_ | refine X_yl (Yl_pick_t rfl rfl rfl) rfl rfl ?_ | refine X_yl (Yl_pick_f rfl rfl rfl) rfl rfl ?_ | refine X_yl (Yl_not_t rfl rfl) rfl rfl ?_ | refine X_yl (Yl_lss rfl rfl rfl) rfl rfl ?_ | refine X_yl (Yl_gtr rfl rfl rfl) rfl rfl ?_ | refine X_yl (Yl_load rfl rfl hS.cell) rfl rfl ?_ | refine X_yl (Yl_neqStrF rfl rfl rfl (by assumption)) rfl rfl ?_ | refine X_yl (Yl_neqStrT rfl rfl rfl (by assumption)) rfl rfl ?_) | (refine C_id ?_; first | refine C_seq ?_ | refine C_region ?_ | refine C_ret ?_ | refine C_skip ?_ | refine C_cond_t rfl ?_ | refine C_cond_f rfl ?_) | (refine E_id ?_; first | refine E_code ?_ | refine E_then_ret ?_ | refine E_ret1 rfl (Rv_tmp rfl) (Ret.mk ?_)) | (refine G_split (d := 45) rfl ?_ ?_ <;> intro hd) | (refine G_split (d := 50) rfl ?_ ?_ <;> intro hd) | (refine G_split (d := 55) rfl ?_ ?_ <;> intro hd) | (refine C_cond_dec rfl ?_ ?_ <;> intro hd))
          all_goals
            refine ⟨?_, hS.drops⟩
            rw [e]
            first | (rw [if_pos (by omega)]; rfl) | (rw [if_neg (by omega)]; rfl)
        · rw [decide_eq_false q2] at hN2
          rw [show rchk r = 10 by unfold rchk; rw [if_pos h1, if_neg (fun q => q.2.elim n2 q2)]]
          repeat (first | (refine G_id ?_; first | refine G_nil ?_ | refine G_plain rfl rfl ?_ | refine G_yes rfl rfl rfl rfl ?_ | refine G_no rfl rfl rfl rfl rfl rfl ?_) | (refine X_id ?_; first | (refine X_callq 39 rfl rfl rfl rfl rfl hS (hN1 _) ?_; rintro _ _ rfl hS) | (refine X_callq 39 rfl rfl rfl rfl rfl hS (hN2 _) ?_; rintro _ _ rfl hS) | refine X_yl (Yl_move rfl rfl) rfl rfl ?_ | refine X_yl (Yl_assign rfl rfl) rfl rfl ?_ | refine X_yl (Yl_fieldAddr0 rfl rfl rfl) rfl rfl ?_ | refine X_yl (Yl_pick_t rfl rfl rfl) rfl rfl ?_ | refine X_yl (Yl_pick_f rfl rfl rfl) rfl rfl ?_ | refine X_yl (Yl_not_t rfl rfl) rfl rfl ?_ | refine X_yl (Yl_not_f rfl rfl) rfl rfl ?_ | refine X_yl (Yl_load rfl rfl hS.cell) rfl rfl ?_ | refine X_yl (Yl_neqStrF rfl rfl rfl (by assumption)) rfl rfl ?_ | refine X_yl (Yl_neqStrT rfl rfl rfl (by assumption)) rfl rfl ?_) | (refine C_id ?_; first | refine C_seq ?_ | refine C_region ?_ | refine C_ret ?_ | refine C_skip ?_ | refine C_cond_t rfl ?_ | refine C_cond_f rfl ?_) | (refine E_id ?_; first | refine E_code ?_ | refine E_then_ret ?_ | refine E_ret1 rfl (Rv_tmp rfl) (Ret.mk ?_)))
          exact ⟨rfl, hS.drops⟩
    · rw [decide_eq_false h1]
      rw [show rchk r = 1 from if_neg h1]
      repeat (first | (refine G_id ?_; first | refine G_nil ?_ | refine G_plain rfl rfl ?_) | (refine X_id ?_; first | refine X_yl (Yl_move rfl rfl) rfl rfl ?_ | refine X_yl (Yl_assign rfl rfl) rfl rfl ?_ | refine X_yl (Yl_not_f rfl rfl) rfl rfl ?_) | (refine C_id ?_; first | refine C_seq ?_ | refine C_region ?_ | refine C_ret ?_ | refine C_cond_t rfl ?_) | (refine E_id ?_; first | refine E_code ?_ | refine E_then_ret ?_ | refine E_ret1 rfl (Rv_tmp rfl) (Ret.mk ?_)))
      exact ⟨rfl, hS.drops⟩
end Cr
namespace Cr
open Go Go.Proofs
set_option maxRecDepth 100000
set_option maxHeartbeats 2000000
attribute [local irreducible] Calls

def tens : List UInt8 := [48, 49, 50, 51, 52, 53, 54, 55, 56, 57]
theorem tens_at : ∀ d : Fin 10, (tens.drop d.val).take (d.val + 1 - d.val) = [UInt8.ofNat (48 + d.val)] := by decide
theorem tens_at' {d : Nat} (h : d < 10) : (tens.drop d).take (d + 1 - d) = [UInt8.ofNat (48 + d)] := tens_at ⟨d, h⟩
theorem tmod_neg (m : Nat) : (-(m : Int)).tmod 10 = -((m % 10 : Nat) : Int) := by
  rw [Int.neg_tmod, Int.tmod_eq_emod_of_nonneg (by omega)]; omega
theorem tdiv_neg (m : Nat) : (-(m : Int)).tdiv 10 = -((m / 10 : Nat) : Int) := by
  rw [Int.neg_tdiv, Int.tdiv_eq_ediv_of_nonneg (by omega)]; omega
theorem dec_big {m : Nat} (h : ¬ m < 10) : Lib.decDigits m = Lib.decDigits (m / 10) ++ [UInt8.ofNat (48 + m % 10)] := by
  rw [Lib.decDigits, dif_neg h]
theorem dec_len (k : Nat) : ∀ m, m < 10 ^ (k + 1) → (Lib.decDigits m).length ≤ k + 1 := by
  induction k with
  | zero => intro m h; rw [Lib.decDigits_one (by omega)]; simp
  | succ k ih =>
    intro m h
    by_cases h10 : m < 10
    · rw [Lib.decDigits_one h10]; simp
    · rw [dec_big h10]
      have := ih (m / 10) (by rw [Nat.pow_succ] at h; omega)
      simp; omega
theorem itoa_len {n : Int} (h0 : -9223372036854775808 ≤ n) (h1 : n ≤ 9223372036854775807) : (Lib.itoa n).length ≤ 20 := by
  unfold Lib.itoa
  split
  · have := dec_len 18 n.natAbs (by rw [show (10 : Nat) ^ (18 + 1) = 10000000000000000000 from rfl]; omega)
    simp; omega
  · have := dec_len 18 n.toNat (by rw [show (10 : Nat) ^ (18 + 1) = 10000000000000000000 from rfl]; omega)
    omega
theorem Number_ (n : Int) (W : World) (h0 : -9223372036854775808 ≤ n) (h1 : n ≤ 9223372036854775807) : Calls Tryd.prog 44 #[.int .i64 n] W (Ret fun v w => v = .string (str (Lib.itoa n)) ∧ St W noF [] w) := by
  have hS := St.start W
  by_cases hn : n < 0
  · obtain ⟨M, hM⟩ : ∃ M : Nat, n = -(M : Int) := ⟨n.natAbs, by omega⟩
    have hM1 : 1 ≤ M := by omega
    have hfin : Lib.itoa n = [45] ++ Lib.decDigits M := by rw [hM, itoa_neg hM1]; rfl
    rw [hfin]
    have hlen : (Lib.decDigits M).length ≤ 19 := dec_len 18 M (by rw [show (10 : Nat) ^ (18 + 1) = 10000000000000000000 from rfl]; omega)
    subst hM
    refine calls_C Tryd.func44 rfl Tryd.ntmps44 rfl ?_
    repeat (first | (refine G_id ?_; first | refine G_nil ?_ | refine G_plain rfl rfl ?_) | (refine X_id ?_; first | refine X_yl (Yl_move rfl rfl) rfl rfl ?_ | refine X_yl (Yl_assign rfl rfl) rfl rfl ?_ | refine X_yl (Yl_lss_t rfl rfl rfl (by omega)) rfl rfl ?_) | (refine C_id ?_; first | refine C_seq ?_ | refine C_region ?_ | refine C_block ?_) | (refine E_id ?_; first | refine E_code ?_))
    refine C_joinB (α := Unit) (fun _ => [(3, .string (str (Lib.decDigits M))), (4, .bool true)]) (fun _ w => St W noF [] w) ?_ ?_
    · refine C_loop (α := Nat × List UInt8) (fun z => [(0, .int .i64 (-(z.1 : Nat) : Int)), (3, .string (str z.2)), (4, .bool true)])
        (fun z w => 1 ≤ z.1 ∧ z.1 ≤ M ∧ Lib.decDigits M = Lib.decDigits z.1 ++ z.2 ∧ St W noF [] w) (fun z => z.1) (M, []) ⟨rfl, rfl, rfl, trivial⟩ ⟨hM1, Nat.le_refl _, by simp, hS⟩ ?_
      clear hS
      rintro ⟨m, s⟩ w ⟨hm1, hmM, hs, hS⟩
      simp only at hm1 hmM hs hS
      have em := tmod_neg m
      have ed : IntKind.i64.wrap ((-(m : Int)).tdiv 10) = -((m / 10 : Nat) : Int) := by rw [tdiv_neg]; exact w64 (by omega) (by omega)
      have en : IntKind.i64.wrap (0 - -((m % 10 : Nat) : Int)) = ((m % 10 : Nat) : Int) := by rw [w64 (by omega) (by omega)]; omega
      have hsl := congrArg List.length hs
      rw [List.length_append] at hsl
      have ht := tens_at' (d := m % 10) (by omega)
      have hnew : Lib.decDigits M = (if m < 10 then [] else Lib.decDigits (m / 10)) ++ ([UInt8.ofNat (48 + m % 10)] ++ s) := by
        rw [hs]
        by_cases h : m < 10
        · rw [if_pos h, Lib.decDigits_one h, Nat.mod_eq_of_lt h]; rfl
        · rw [if_neg h, dec_big h, List.append_assoc]
      by_cases hz : m % 10 = 0
      case' pos =>
        repeat' (first | (refine X_yl (Yl_rem (v := -((m % 10 : Nat) : Int)) rfl rfl rfl (by omega) em) rfl rfl ?_) | (refine X_yl (Yl_neg (v := ((m % 10 : Nat) : Int)) rfl rfl en) rfl rfl ?_) | (refine X_yl (Yl_quo (v := -((m / 10 : Nat) : Int)) rfl rfl rfl (by omega) ed) rfl rfl ?_) | refine GO_alt ?_ ?_ | (refine G_id ?_; first | refine G_nil ?_ | refine G_plain rfl rfl ?_) | (refine X_id ?_; first | refine X_yl (Yl_move rfl rfl) rfl rfl ?_ | refine X_yl (Yl_assign rfl rfl) rfl rfl ?_ | refine X_yl (Yl_lss_f rfl rfl rfl (by omega)) rfl rfl ?_ | refine X_yl (Yl_add rfl rfl rfl (w64 (by omega) (by omega))) rfl rfl ?_) | (refine C_id ?_; first | refine C_seq ?_ | refine C_region ?_ | refine C_block ?_ | refine C_skip ?_ | refine C_cond_f rfl ?_) | (refine E_id ?_; first | refine E_code ?_))
        refine X_yl (Yl_sliceStr (s := tens) (l := m % 10) (h := m % 10 + 1) rfl rfl rfl rfl (.inr ⟨_, _, rfl, by omega, by omega, by show _ ≤ 10; omega⟩) (.inr ⟨_, _, rfl, by omega, by omega, by omega⟩)) rfl rfl ?_
        rw [ht]
      case' neg =>
        repeat' (first | (refine X_yl (Yl_rem (v := -((m % 10 : Nat) : Int)) rfl rfl rfl (by omega) em) rfl rfl ?_) | (refine X_yl (Yl_neg (v := ((m % 10 : Nat) : Int)) rfl rfl en) rfl rfl ?_) | (refine X_yl (Yl_quo (v := -((m / 10 : Nat) : Int)) rfl rfl rfl (by omega) ed) rfl rfl ?_) | refine GO_alt ?_ ?_ | (refine G_id ?_; first | refine G_nil ?_ | refine G_plain rfl rfl ?_) | (refine X_id ?_; first | refine X_yl (Yl_move rfl rfl) rfl rfl ?_ | refine X_yl (Yl_assign rfl rfl) rfl rfl ?_ | refine X_yl (Yl_lss_t rfl rfl rfl (by omega)) rfl rfl ?_ | refine X_yl (Yl_add rfl rfl rfl (w64 (by omega) (by omega))) rfl rfl ?_) | (refine C_id ?_; first | refine C_seq ?_ | refine C_region ?_ | refine C_block ?_ | refine C_cond_t rfl ?_) | (refine E_id ?_; first | refine E_code ?_))
        refine X_yl (Yl_sliceStr (s := tens) (l := m % 10) (h := m % 10 + 1) rfl rfl rfl rfl (.inr ⟨_, _, rfl, by omega, by omega, by show _ ≤ 10; omega⟩) (.inr ⟨_, _, rfl, by omega, by omega, by omega⟩)) rfl rfl ?_
        rw [ht]
      all_goals
        by_cases h : m < 10
        · rw [if_pos h] at hnew
          repeat' (first | (refine X_yl (Yl_rem (v := -((m % 10 : Nat) : Int)) rfl rfl rfl (by omega) em) rfl rfl ?_) | (refine X_yl (Yl_neg (v := ((m % 10 : Nat) : Int)) rfl rfl en) rfl rfl ?_) | (refine X_yl (Yl_quo (v := -((m / 10 : Nat) : Int)) rfl rfl rfl (by omega) ed) rfl rfl ?_) | refine GO_alt ?_ ?_ | (refine G_id ?_; first | refine G_nil ?_ | refine G_plain rfl rfl ?_) | (refine X_id ?_; first | refine X_yl (Yl_move rfl rfl) rfl rfl ?_ | refine X_yl (Yl_assign rfl rfl) rfl rfl ?_ | refine X_yl (Yl_eql_t rfl rfl rfl (by omega)) rfl rfl ?_ | refine X_yl (Yl_addStr rfl rfl rfl (by first | omega | (simp; omega))) rfl rfl ?_) | (refine C_id ?_; first | refine C_seq ?_ | refine C_region ?_ | refine C_exit ?_ | refine C_cond_t rfl ?_) | (refine E_id ?_; first | refine E_code ?_ | refine E_then_exit ?_ | refine E_blk_same ?_ | refine E_blk_ne rfl ?_))
          rw [List.nil_append] at hnew
          exact E_mid () ⟨by rw [hnew]; rfl, rfl, trivial⟩ hS
        · rw [if_neg h] at hnew
          repeat' (first | (refine X_yl (Yl_rem (v := -((m % 10 : Nat) : Int)) rfl rfl rfl (by omega) em) rfl rfl ?_) | (refine X_yl (Yl_neg (v := ((m % 10 : Nat) : Int)) rfl rfl en) rfl rfl ?_) | (refine X_yl (Yl_quo (v := -((m / 10 : Nat) : Int)) rfl rfl rfl (by omega) ed) rfl rfl ?_) | refine GO_alt ?_ ?_ | (refine G_id ?_; first | refine G_nil ?_ | refine G_plain rfl rfl ?_) | (refine X_id ?_; first | refine X_yl (Yl_move rfl rfl) rfl rfl ?_ | refine X_yl (Yl_assign rfl rfl) rfl rfl ?_ | refine X_yl (Yl_eql_f rfl rfl rfl (by omega)) rfl rfl ?_ | refine X_yl (Yl_addStr rfl rfl rfl (by first | omega | (simp; omega))) rfl rfl ?_) | (refine C_id ?_; first | refine C_seq ?_ | refine C_region ?_ | refine C_skip ?_ | refine C_cond_f rfl ?_) | (refine E_id ?_; first | refine E_code ?_ | refine E_blk_n ?_))
          exact E_round (z := (m, s)) (m / 10, [UInt8.ofNat (48 + m % 10)] ++ s) ⟨rfl, rfl, rfl, trivial⟩ ⟨by omega, by omega, hnew, hS⟩ (by dsimp only; omega)
    · clear hS
      rintro _ w hS
      repeat (first | (refine G_id ?_; first | refine G_nil ?_ | refine G_plain rfl rfl ?_) | (refine X_id ?_; first | refine X_yl (Yl_move rfl rfl) rfl rfl ?_ | refine X_yl (Yl_assign rfl rfl) rfl rfl ?_ | refine X_yl (Yl_addStr rfl rfl rfl (by first | omega | (simp; omega))) rfl rfl ?_) | (refine C_id ?_; first | refine C_seq ?_ | refine C_region ?_ | refine C_ret ?_ | refine C_cond_t rfl ?_) | (refine E_id ?_; first | refine E_code ?_ | refine E_ret1 rfl (Rv_tmp rfl) (Ret.mk ?_)))
      exact ⟨rfl, hS⟩
  · obtain ⟨M, hM⟩ : ∃ M : Nat, n = (M : Int) := ⟨n.toNat, by omega⟩
    have hfin : Lib.itoa n = Lib.decDigits M := by rw [hM, itoa_nat]
    rw [hfin]
    have hlen : (Lib.decDigits M).length ≤ 19 := dec_len 18 M (by rw [show (10 : Nat) ^ (18 + 1) = 10000000000000000000 from rfl]; omega)
    subst hM
    refine calls_C Tryd.func44 rfl Tryd.ntmps44 rfl ?_
    repeat (first | (refine G_id ?_; first | refine G_nil ?_ | refine G_plain rfl rfl ?_) | (refine X_id ?_; first | refine X_yl (Yl_move rfl rfl) rfl rfl ?_ | refine X_yl (Yl_assign rfl rfl) rfl rfl ?_ | refine X_yl (Yl_lss_f rfl rfl rfl (by omega)) rfl rfl ?_) | (refine C_id ?_; first | refine C_seq ?_ | refine C_region ?_ | refine C_block ?_) | (refine E_id ?_; first | refine E_code ?_))
    refine C_joinB (α := Unit) (fun _ => [(3, .string (str (Lib.decDigits M))), (4, .bool false)]) (fun _ w => St W noF [] w) ?_ ?_
    · refine C_loop (α := Nat × List UInt8) (fun z => [(0, .int .i64 (z.1 : Nat)), (3, .string (str z.2)), (4, .bool false)])
        (fun z w => z.1 ≤ M ∧ Lib.decDigits M = Lib.decDigits z.1 ++ z.2 ∧ St W noF [] w) (fun z => z.1) (M, []) ⟨rfl, rfl, rfl, trivial⟩ ⟨Nat.le_refl _, by simp, hS⟩ ?_
      clear hS
      rintro ⟨m, s⟩ w ⟨hmM, hs, hS⟩
      simp only at hmM hs hS
      have em : ((m : Nat) : Int).tmod 10 = ((m % 10 : Nat) : Int) := by rw [Int.tmod_eq_emod_of_nonneg (by omega)]; omega
      have ed : IntKind.i64.wrap (((m : Nat) : Int).tdiv 10) = ((m / 10 : Nat) : Int) := by
        rw [Int.tdiv_eq_ediv_of_nonneg (by omega), show ((m : Nat) : Int) / 10 = ((m / 10 : Nat) : Int) by omega]
        exact w64 (by omega) (by omega)
      have hsl := congrArg List.length hs
      rw [List.length_append] at hsl
      have ht := tens_at' (d := m % 10) (by omega)
      have hnew : Lib.decDigits M = (if m < 10 then [] else Lib.decDigits (m / 10)) ++ ([UInt8.ofNat (48 + m % 10)] ++ s) := by
        rw [hs]
        by_cases h : m < 10
        · rw [if_pos h, Lib.decDigits_one h, Nat.mod_eq_of_lt h]; rfl
        · rw [if_neg h, dec_big h, List.append_assoc]
      repeat' (first | (refine X_yl (Yl_rem (v := ((m % 10 : Nat) : Int)) rfl rfl rfl (by omega) em) rfl rfl ?_) | (refine X_yl (Yl_quo (v := ((m / 10 : Nat) : Int)) rfl rfl rfl (by omega) ed) rfl rfl ?_) | refine GO_alt ?_ ?_ | (refine G_id ?_; first | refine G_nil ?_ | refine G_plain rfl rfl ?_) | (refine X_id ?_; first | refine X_yl (Yl_move rfl rfl) rfl rfl ?_ | refine X_yl (Yl_assign rfl rfl) rfl rfl ?_ | refine X_yl (Yl_lss_f rfl rfl rfl (by omega)) rfl rfl ?_ | refine X_yl (Yl_add rfl rfl rfl (w64 (by omega) (by omega))) rfl rfl ?_) | (refine C_id ?_; first | refine C_seq ?_ | refine C_region ?_ | refine C_block ?_ | refine C_skip ?_ | refine C_cond_f rfl ?_) | (refine E_id ?_; first | refine E_code ?_))
      refine X_yl (Yl_sliceStr (s := tens) (l := m % 10) (h := m % 10 + 1) rfl rfl rfl rfl (.inr ⟨_, _, rfl, by omega, by omega, by show _ ≤ 10; omega⟩) (.inr ⟨_, _, rfl, by omega, by omega, by omega⟩)) rfl rfl ?_
      rw [ht]
      by_cases h : m < 10
      · rw [if_pos h] at hnew
        repeat' (first | (refine X_yl (Yl_rem (v := ((m % 10 : Nat) : Int)) rfl rfl rfl (by omega) em) rfl rfl ?_) | (refine X_yl (Yl_quo (v := ((m / 10 : Nat) : Int)) rfl rfl rfl (by omega) ed) rfl rfl ?_) | refine GO_alt ?_ ?_ | (refine G_id ?_; first | refine G_nil ?_ | refine G_plain rfl rfl ?_) | (refine X_id ?_; first | refine X_yl (Yl_move rfl rfl) rfl rfl ?_ | refine X_yl (Yl_assign rfl rfl) rfl rfl ?_ | refine X_yl (Yl_eql_t rfl rfl rfl (by omega)) rfl rfl ?_ | refine X_yl (Yl_addStr rfl rfl rfl (by first | omega | (simp; omega))) rfl rfl ?_) | (refine C_id ?_; first | refine C_seq ?_ | refine C_region ?_ | refine C_exit ?_ | refine C_cond_t rfl ?_) | (refine E_id ?_; first | refine E_code ?_ | refine E_then_exit ?_ | refine E_blk_same ?_ | refine E_blk_ne rfl ?_))
        rw [List.nil_append] at hnew
        exact E_mid () ⟨by rw [hnew]; rfl, rfl, trivial⟩ hS
      · rw [if_neg h] at hnew
        repeat' (first | (refine X_yl (Yl_rem (v := ((m % 10 : Nat) : Int)) rfl rfl rfl (by omega) em) rfl rfl ?_) | (refine X_yl (Yl_quo (v := ((m / 10 : Nat) : Int)) rfl rfl rfl (by omega) ed) rfl rfl ?_) | refine GO_alt ?_ ?_ | (refine G_id ?_; first | refine G_nil ?_ | refine G_plain rfl rfl ?_) | (refine X_id ?_; first | refine X_yl (Yl_move rfl rfl) rfl rfl ?_ | refine X_yl (Yl_assign rfl rfl) rfl rfl ?_ | refine X_yl (Yl_eql_f rfl rfl rfl (by omega)) rfl rfl ?_ | refine X_yl (Yl_addStr rfl rfl rfl (by first | omega | (simp; omega))) rfl rfl ?_) | (refine C_id ?_; first | refine C_seq ?_ | refine C_region ?_ | refine C_skip ?_ | refine C_cond_f rfl ?_) | (refine E_id ?_; first | refine E_code ?_ | refine E_blk_n ?_))
        exact E_round (z := (m, s)) (m / 10, [UInt8.ofNat (48 + m % 10)] ++ s) ⟨rfl, rfl, rfl, trivial⟩ ⟨by omega, hnew, hS⟩ (by dsimp only; omega)
    · clear hS
      rintro _ w hS
      repeat (first | (refine G_id ?_; first | refine G_nil ?_ | refine G_plain rfl rfl ?_) | (refine X_id ?_; first | refine X_yl (Yl_move rfl rfl) rfl rfl ?_ | refine X_yl (Yl_assign rfl rfl) rfl rfl ?_) | (refine C_id ?_; first | refine C_seq ?_ | refine C_region ?_ | refine C_ret ?_ | refine C_skip ?_ | refine C_cond_f rfl ?_) | (refine E_id ?_; first | refine E_code ?_ | refine E_ret1 rfl (Rv_tmp rfl) (Ret.mk ?_)))
      exact ⟨rfl, hS⟩
end Cr
namespace Cr
open Go

structure Cmd where
  word : List UInt8
  text : List UInt8
  name : List UInt8
  arch : List UInt8
  p0 : List UInt8
  p1 : List UInt8
  s0 : List UInt8
  s1 : List UInt8
  q0 : List UInt8
  q1 : List UInt8
  q2 : List UInt8
  rev : Int
  out : Int
  fuel : Int
def Cmd.blank (w : List UInt8) : Cmd := ⟨w, [], [], [], [], [], [], [], [], [], [], 0, 0, 0⟩

/-- The words, and which sort each is. -/
def sorts : List (List UInt8 × Nat) :=
  [([105, 110, 115, 116, 97, 108, 108], 0), ([114, 101, 102, 114, 101, 115, 104], 0), ([114, 101, 118, 101, 114, 116], 1), ([114, 101, 109, 111, 118, 101], 1), ([99, 111, 110, 110, 101, 99, 116], 2), ([100, 105, 115, 99, 111, 110, 110, 101, 99, 116], 2),
   ([105, 110, 102, 111], 3), ([99, 111, 110, 110, 115], 3), ([97, 117, 100, 105, 116], 4), ([108, 105, 115, 116], 5), ([118, 101, 114, 105, 102, 121], 5)]
def sort (w : List UInt8) : Option Nat := (sorts.find? fun p => p.1 == w).map (·.2)
theorem sort_lt {w : List UInt8} {k : Nat} (h : sort w = some k) : k ≤ 5 := by
  unfold sort at h
  cases hf : sorts.find? fun p => p.1 == w with
  | none => rw [hf] at h; cases h
  | some p =>
    rw [hf] at h
    have hm := List.mem_of_find?_eq_some hf
    obtain rfl : p.2 = k := by simpa using h
    simp only [sorts, List.mem_cons, List.not_mem_nil, or_false] at hm
    rcases hm with rfl | rfl | rfl | rfl | rfl | rfl | rfl | rfl | rfl | rfl | rfl <;> decide

/-- One of a command's parts: a text of its own (which cell), the archive's text, a number. -/
inductive Pt where
  | t (off : Nat)
  | b
  | n (off : Nat)
def parts : Nat → List Pt
  | 0 => [.t 1, .b, .n 13]
  | 1 => [.t 2, .n 13]
  | 2 => [.t 4, .t 5, .t 6, .t 7]
  | 3 => [.t 2]
  | 4 => [.t 8, .t 9, .t 10, .n 12]
  | _ => []
def partsW (w : List UInt8) : List Pt := match sort w with | some k => parts k | none => []
def Cmd.s (c : Cmd) : Nat → List UInt8
  | 1 => c.text | 2 => c.name | 4 => c.p0 | 5 => c.p1 | 6 => c.s0 | 7 => c.s1 | 8 => c.q0 | 9 => c.q1 | 10 => c.q2 | _ => []
def Cmd.n (c : Cmd) : Nat → Int
  | 12 => c.out | 13 => c.fuel | _ => 0
def Cmd.setS (c : Cmd) (v : List UInt8) : Nat → Cmd
  | 1 => { c with text := v } | 2 => { c with name := v } | 4 => { c with p0 := v } | 5 => { c with p1 := v } | 6 => { c with s0 := v } | 7 => { c with s1 := v }
  | 8 => { c with q0 := v } | 9 => { c with q1 := v } | 10 => { c with q2 := v } | _ => c
def Cmd.setN (c : Cmd) (v : Int) : Nat → Cmd
  | 12 => { c with out := v } | 13 => { c with fuel := v } | _ => c
def Pt.ok : Pt → Prop
  | .t o => o = 1 ∨ o = 2 ∨ o = 4 ∨ o = 5 ∨ o = 6 ∨ o = 7 ∨ o = 8 ∨ o = 9 ∨ o = 10
  | .b => True
  | .n o => o = 12 ∨ o = 13
theorem parts_ok {k : Nat} : ∀ p ∈ parts k, p.ok := by
  match k with
  | 0 | 1 | 2 | 3 | 4 => intro p hp; simp only [parts, List.mem_cons, List.not_mem_nil, or_false] at hp; rcases hp with rfl | rfl | rfl | rfl <;> simp [Pt.ok]
  | k + 5 => intro p hp; cases hp
/-- The command's cells. -/
abbrev Cmd.cells (c : Cmd) (ar : Value) : List Value :=
  [.string (str c.word), .string (str c.text), .string (str c.name), ar, .string (str c.p0), .string (str c.p1), .string (str c.s0), .string (str c.s1),
   .string (str c.q0), .string (str c.q1), .string (str c.q2), .int .i64 c.rev, .int .i64 c.out, .int .i64 c.fuel]
def Cmd.leaf (c : Cmd) : Pt → Leaf
  | .t o => .txt (c.s o)
  | .b => .txt c.arch
  | .n o => .num (c.n o)
def Cmd.leaves (c : Cmd) : List Leaf := .txt c.word :: (partsW c.word).map c.leaf
def Cmd.put (c : Cmd) : Pt → Leaf → Option Cmd
  | .t o, .txt v => some (c.setS v o)
  | .b, .txt v => some { c with arch := v }
  | .n o, .num v => some (c.setN v o)
  | _, _ => none
def Cmd.puts : Cmd → List Pt → List Leaf → Option Cmd
  | c, [], [] => some c
  | c, p :: ps, x :: xs => (c.put p x).bind fun d => d.puts ps xs
  | _, _, _ => none
/-- The command that leaves say. -/
def readC : List Leaf → Option Cmd
  | .txt w :: xs => match sort w with
    | some k => (Cmd.blank w).puts (parts k) xs
    | none => none
  | _ => none
def readT : Top → Option Cmd
  | .list l => readC l
  | .leaf _ => none

theorem puts_len : ∀ {ps : List Pt} {xs : List Leaf} {c d : Cmd}, c.puts ps xs = some d → xs.length = ps.length
  | [], [], _, _, _ => rfl
  | [], _ :: _, _, _, h => by simp [Cmd.puts] at h
  | _ :: _, [], _, _, h => by simp [Cmd.puts] at h
  | p :: ps, x :: xs, c, d, h => by
    simp only [Cmd.puts] at h
    cases hp : c.put p x with
    | none => rw [hp] at h; cases h
    | some e => rw [hp] at h; simp [puts_len h]

/-- What is right with a command: its parts alone are told. -/
def Cmd.own (c : Cmd) (k : Nat) : Cmd := match k with
  | 0 => { Cmd.blank c.word with text := c.text, arch := c.arch, fuel := c.fuel }
  | 1 => { Cmd.blank c.word with name := c.name, fuel := c.fuel }
  | 2 => { Cmd.blank c.word with p0 := c.p0, p1 := c.p1, s0 := c.s0, s1 := c.s1 }
  | 3 => { Cmd.blank c.word with name := c.name }
  | 4 => { Cmd.blank c.word with q0 := c.q0, q1 := c.q1, q2 := c.q2, out := c.out }
  | _ => Cmd.blank c.word
theorem readC_leaves {c : Cmd} {k : Nat} (h : sort c.word = some k) : readC c.leaves = some (c.own k) := by
  have hk := sort_lt h
  unfold Cmd.leaves readC partsW
  simp only [h]
  match k, hk with
  | 0, _ | 1, _ | 2, _ | 3, _ | 4, _ | 5, _ => rfl
instance : DecidableEq Cmd := fun a b => by
  obtain ⟨_, _, _, _, _, _, _, _, _, _, _, _, _, _⟩ := a
  obtain ⟨_, _, _, _, _, _, _, _, _, _, _, _, _, _⟩ := b
  rw [Cmd.mk.injEq]
  infer_instance
/-- The check: 1: no word of ours; 3: told more than its parts. -/
def chk (c : Cmd) : Nat := match sort c.word with
  | none => 1
  | some k => if c = c.own k then 0 else 3
theorem readC_spec {x : List Leaf} {c : Cmd} (h : readC x = some c) : c.leaves = x ∧ chk c = 0 ∧ sort c.word ≠ none := by
  unfold readC at h
  split at h
  · rename_i w xs
    split at h
    · rename_i k hk
      have h5 := sort_lt hk
      have hl := puts_len h
      have key : c.word = w ∧ c.leaves = .txt w :: (parts k).map c.leaf ∧ (parts k).map c.leaf = xs ∧ c = c.own k := by
        have aux : c.word = w → c.leaves = .txt w :: (parts k).map c.leaf := fun e => by unfold Cmd.leaves partsW; rw [e, hk]
        match k, h5 with
        | 0, _ =>
          obtain ⟨x0, x1, x2, rfl⟩ : ∃ x0 x1 x2, xs = [x0, x1, x2] := by
            match xs, hl with
            | [x0, x1, x2], _ => exact ⟨_, _, _, rfl⟩
          cases x0 <;> cases x1 <;> cases x2 <;> first | (exfalso; revert h; simp [Cmd.puts, Cmd.put, parts]; done) | skip
          simp only [Cmd.puts, Cmd.put, parts, Option.bind_some, Option.some.injEq] at h
          subst h
          exact ⟨rfl, aux rfl, rfl, rfl⟩
        | 1, _ =>
          obtain ⟨x0, x1, rfl⟩ : ∃ x0 x1, xs = [x0, x1] := by
            match xs, hl with
            | [x0, x1], _ => exact ⟨_, _, rfl⟩
          cases x0 <;> cases x1 <;> first | (exfalso; revert h; simp [Cmd.puts, Cmd.put, parts]; done) | skip
          simp only [Cmd.puts, Cmd.put, parts, Option.bind_some, Option.some.injEq] at h
          subst h
          exact ⟨rfl, aux rfl, rfl, rfl⟩
        | 2, _ =>
          obtain ⟨x0, x1, x2, x3, rfl⟩ : ∃ x0 x1 x2 x3, xs = [x0, x1, x2, x3] := by
            match xs, hl with
            | [x0, x1, x2, x3], _ => exact ⟨_, _, _, _, rfl⟩
          cases x0 <;> cases x1 <;> cases x2 <;> cases x3 <;> first | (exfalso; revert h; simp [Cmd.puts, Cmd.put, parts]; done) | skip
          simp only [Cmd.puts, Cmd.put, parts, Option.bind_some, Option.some.injEq] at h
          subst h
          exact ⟨rfl, aux rfl, rfl, rfl⟩
        | 3, _ =>
          obtain ⟨x0, rfl⟩ : ∃ x0, xs = [x0] := by
            match xs, hl with
            | [x0], _ => exact ⟨_, rfl⟩
          cases x0 <;> first | (exfalso; revert h; simp [Cmd.puts, Cmd.put, parts]; done) | skip
          simp only [Cmd.puts, Cmd.put, parts, Option.bind_some, Option.some.injEq] at h
          subst h
          exact ⟨rfl, aux rfl, rfl, rfl⟩
        | 4, _ =>
          obtain ⟨x0, x1, x2, x3, rfl⟩ : ∃ x0 x1 x2 x3, xs = [x0, x1, x2, x3] := by
            match xs, hl with
            | [x0, x1, x2, x3], _ => exact ⟨_, _, _, _, rfl⟩
          cases x0 <;> cases x1 <;> cases x2 <;> cases x3 <;> first | (exfalso; revert h; simp [Cmd.puts, Cmd.put, parts]; done) | skip
          simp only [Cmd.puts, Cmd.put, parts, Option.bind_some, Option.some.injEq] at h
          subst h
          exact ⟨rfl, aux rfl, rfl, rfl⟩
        | 5, _ =>
          obtain rfl : xs = [] := List.eq_nil_of_length_eq_zero hl
          simp only [Cmd.puts, parts, Option.some.injEq] at h
          subst h
          exact ⟨rfl, aux rfl, rfl, rfl⟩
      obtain ⟨h1, h2, h3, h4⟩ := key
      refine ⟨by rw [h2, h3], ?_, by rw [h1, hk]; simp⟩
      unfold chk
      rw [h1, hk]
      simp only
      rw [if_pos h4]
    · cases h
  · cases h
theorem readC_fits_ne {x : List Leaf} {c : Cmd} (h : readC x = some c) : Leaf.oth ∉ x := by
  obtain ⟨h1, _, _⟩ := readC_spec h
  rw [← h1]
  unfold Cmd.leaves
  rw [List.mem_cons, List.mem_map]
  rintro (h | ⟨p, _, h⟩)
  · cases h
  · cases p <;> cases h

/-! ### the document's words -/
def sortN (w : List UInt8) : Int := match sort w with | some k => (k : Int) | none => -1
/-- The document's check. -/
def refChk (c : Cmd) : Int :=
  let k := sortN c.word
  if k < 0 then 1
  else if (k ≠ 0 ∧ (¬ c.text = [] ∨ 0 < c.arch.length)) ∨ (k ≠ 1 ∧ k ≠ 3 ∧ ¬ c.name = []) ∨ (1 < k ∧ c.fuel ≠ 0) ∨ c.rev ≠ 0 then 3
  else if (k ≠ 2 ∧ (¬ (c.p0 = [] ∧ c.p1 = []) ∨ ¬ (c.s0 = [] ∧ c.s1 = []))) ∨ (k ≠ 4 ∧ (¬ (c.q0 = [] ∧ c.q1 = [] ∧ c.q2 = []) ∨ c.out ≠ 0)) then 3
  else 0
theorem two_ifs {A B C : Prop} [Decidable A] [Decidable B] [Decidable C] (h : C ↔ ¬ A ∧ ¬ B) : (if A then (3 : Int) else if B then 3 else 0) = ((if C then 0 else 3 : Nat) : Int) := by
  by_cases a : A
  · rw [if_pos a, if_neg (fun c => (h.1 c).1 a)]; rfl
  · by_cases b : B
    · rw [if_neg a, if_pos b, if_neg (fun c => (h.1 c).2 b)]; rfl
    · rw [if_neg a, if_neg b, if_pos (h.2 ⟨a, b⟩)]; rfl
theorem refChk_eq (c : Cmd) : refChk c = (chk c : Nat) := by
  unfold refChk chk sortN
  cases h : sort c.word with
  | none => simp
  | some k =>
    have h5 := sort_lt h
    obtain ⟨word, text, name, arch, p0, p1, s0, s1, q0, q1, q2, rev, out, fuel⟩ := c
    simp only at h ⊢
    rw [if_neg (by omega)]
    refine two_ifs ?_
    have e : 0 < arch.length ↔ ¬ arch = [] := by cases arch <;> simp
    rw [e]
    clear e h
    match k, h5 with
    | 0, _ | 1, _ | 2, _ | 3, _ | 4, _ | 5, _ =>
      simp only [Cmd.own, Cmd.blank, Cmd.mk.injEq]
      simp
      try grind
end Cr
namespace Cr
open Go Go.Proofs
set_option maxRecDepth 100000
set_option maxHeartbeats 2000000
attribute [local irreducible] Calls

theorem Yl_minC {P : Program} {o : Oper} {σ : Env} {w : World} {x y : Operand} {ts : Array TypeId} {m n T : Nat} (ho : o.op = .call { callee := .builtin .min, args := #[x, y], argTypes := ts }) (hx : ev σ x = some (.int .i64 (m : Nat))) (hy : ev σ y = some (.int .i64 (n : Nat))) (hT : min m n = T) : Yl P o σ w (.int .i64 (T : Nat)) := ⟨fun N ds a ha => by
  simp [execOp, ho, resolve, invoke, builtin, ha.eval hx, ha.eval hy, Builtin.min_, Builtin.min2]
  rw [← hT]
  split <;> omega⟩
theorem cut_ (s : List UInt8) (n : Nat) (W : World) : Calls Tryd.prog 26 #[.string (str s), .int .i64 (n : Nat)] W (Ret fun v w => v = .string (str (s.take n)) ∧ W = w) := by
  obtain ⟨T, hT⟩ : ∃ T, min s.length n = T := ⟨_, rfl⟩
  have hz := str_size s
  have hS := St.start W
  refine calls_C Tryd.func26 rfl Tryd.ntmps26 rfl ?_
  repeat (first | (refine G_id ?_; first | refine G_nil ?_ | refine G_plain rfl rfl ?_) | (refine X_id ?_; first | refine X_yl (Yl_move rfl rfl) rfl rfl ?_ | refine X_yl (Yl_assign rfl rfl) rfl rfl ?_ | refine X_yl (Yl_len_str rfl rfl) rfl rfl ?_) | (refine C_id ?_; first | refine C_seq ?_ | refine C_region ?_) | (refine E_id ?_; first | refine E_code ?_))
  refine X_yl (Yl_minC (m := (str s).size) (n := n) (T := T) rfl rfl rfl (by rw [hz]; exact hT)) rfl rfl ?_
  repeat (first | (refine G_id ?_; first | refine G_nil ?_ | refine G_plain rfl rfl ?_) | (refine X_id ?_; first | refine X_yl (Yl_assign rfl rfl) rfl rfl ?_ | refine X_yl (Yl_sliceStr rfl rfl rfl rfl (.inr ⟨_, _, rfl, by omega, rfl, by omega⟩) (.inl ⟨rfl, rfl⟩)) rfl rfl ?_) | (refine C_id ?_; first | refine C_ret ?_) | (refine E_id ?_; first | refine E_code ?_ | refine E_ret1 rfl (Rv_tmp rfl) (Ret.mk ?_)))
  refine ⟨?_, rfl⟩
  rw [List.drop_zero, Nat.sub_zero, Int.toNat_natCast, ← hT]
  congr 2
  rw [Nat.min_comm, ← List.take_eq_take_min]
theorem text29_ (s : List UInt8) (W : World) (hl : s.length ≤ 1099511627776) : Calls Tryd.prog 33 #[.string (str s)] W (Ret fun v w => v = .string (str (encL (.txt s))) ∧ St W noF [] w) := by
  have hS := St.start W
  have hz := str_size s
  have hi := itoa_len (n := (s.length : Nat)) (by omega) (by omega)
  have hN := fun W => Number_ (s.length : Nat) W (by omega) (by omega)
  refine calls_C Tryd.func33 rfl Tryd.ntmps33 rfl ?_
  repeat (first | (refine G_id ?_; first | refine G_nil ?_ | refine G_plain rfl rfl ?_) | (refine X_id ?_; first | refine X_yl (Yl_move rfl rfl) rfl rfl ?_ | refine X_yl (Yl_assign rfl rfl) rfl rfl ?_ | refine X_yl (Yl_len_str rfl rfl) rfl rfl ?_) | (refine C_id ?_; first | refine C_seq ?_ | refine C_region ?_) | (refine E_id ?_; first | refine E_code ?_))
  rw [hz]
  refine X_callq 44 rfl rfl rfl rfl rfl hS (hN _) ?_
  rintro _ w rfl hS
  repeat (first | (refine G_id ?_; first | refine G_nil ?_ | refine G_plain rfl rfl ?_) | (refine X_id ?_; first | refine X_yl (Yl_move rfl rfl) rfl rfl ?_ | refine X_yl (Yl_assign rfl rfl) rfl rfl ?_ | refine X_yl (Yl_addStr rfl rfl rfl (by first | omega | (simp; omega))) rfl rfl ?_) | (refine C_id ?_; first | refine C_ret ?_) | (refine E_id ?_; first | refine E_code ?_ | refine E_ret1 rfl (Rv_tmp rfl) (Ret.mk ?_)))
  refine ⟨?_, hS⟩
  simp [encL]
theorem number29_ (n : Int) (W : World) (h0 : -9223372036854775808 ≤ n) (h1 : n ≤ 9223372036854775807) : Calls Tryd.prog 34 #[.int .i64 n] W (Ret fun v w => v = .string (str (encL (.num n))) ∧ St W noF [] w) := by
  have hS := St.start W
  have hi := itoa_len h0 h1
  have hN := fun W => Number_ n W h0 h1
  refine calls_C Tryd.func34 rfl Tryd.ntmps34 rfl ?_
  repeat (first | (refine G_id ?_; first | refine G_nil ?_ | refine G_plain rfl rfl ?_) | (refine X_id ?_; first | (refine X_callq 44 rfl rfl rfl rfl rfl hS (hN _) ?_; rintro _ _ rfl hS) | refine X_yl (Yl_move rfl rfl) rfl rfl ?_ | refine X_yl (Yl_assign rfl rfl) rfl rfl ?_ | refine X_yl (Yl_addStr rfl rfl rfl (by first | omega | (simp; omega))) rfl rfl ?_) | (refine C_id ?_; first | refine C_seq ?_ | refine C_region ?_ | refine C_ret ?_) | (refine E_id ?_; first | refine E_code ?_ | refine E_ret1 rfl (Rv_tmp rfl) (Ret.mk ?_)))
  refine ⟨?_, hS⟩
  simp [encL]
theorem encL_len {y : Leaf} (hy : y.fits) : (encL y).length ≤ 30 + match y with | .txt b => b.length | _ => 0 := by
  cases y with
  | oth => exact hy.elim
  | num n => have := itoa_len hy.1 hy.2; simp [encL]; omega
  | txt b =>
    have hb : b.length ≤ 9223372036854775807 := hy
    have := itoa_len (n := (b.length : Nat)) (by omega) (by omega)
    simp [encL]; omega
end Cr
namespace Cr
open Go Go.Proofs
set_option maxRecDepth 100000
set_option maxHeartbeats 2000000
attribute [local irreducible] Calls

theorem cut27_ (s : List UInt8) (W : World) : Calls Tryd.prog 35 #[.string (str s)] W (Ret fun v w => v = .string (str (s.take 40)) ∧ St W noF [] w) := by
  obtain ⟨T, hT⟩ : ∃ T, min s.length 40 = T := ⟨_, rfl⟩
  have hz := str_size s
  have hS := St.start W
  refine calls_C Tryd.func35 rfl Tryd.ntmps35 rfl ?_
  repeat (first | (refine G_id ?_; first | refine G_nil ?_ | refine G_plain rfl rfl ?_) | (refine X_id ?_; first | refine X_yl (Yl_move rfl rfl) rfl rfl ?_ | refine X_yl (Yl_assign rfl rfl) rfl rfl ?_ | refine X_yl (Yl_len_str rfl rfl) rfl rfl ?_) | (refine C_id ?_; first | refine C_seq ?_ | refine C_region ?_) | (refine E_id ?_; first | refine E_code ?_))
  refine X_yl (Yl_minC (m := (str s).size) (n := 40) (T := T) rfl rfl rfl (by rw [hz]; exact hT)) rfl rfl ?_
  repeat (first | (refine G_id ?_; first | refine G_nil ?_ | refine G_plain rfl rfl ?_) | (refine X_id ?_; first | refine X_yl (Yl_assign rfl rfl) rfl rfl ?_ | refine X_yl (Yl_sliceStr rfl rfl rfl rfl (.inr ⟨_, _, rfl, by omega, rfl, by omega⟩) (.inl ⟨rfl, rfl⟩)) rfl rfl ?_) | (refine C_id ?_; first | refine C_ret ?_) | (refine E_id ?_; first | refine E_code ?_ | refine E_ret1 rfl (Rv_tmp rfl) (Ret.mk ?_)))
  refine ⟨?_, hS⟩
  rw [List.drop_zero, Nat.sub_zero, Int.toNat_natCast, ← hT]
  congr 2
  rw [Nat.min_comm, ← List.take_eq_take_min]
theorem text27_ (s : List UInt8) (W : World) (hl : s.length ≤ 1099511627776) : Calls Tryd.prog 43 #[.string (str s)] W (Ret fun v w => v = .string (str (encL (.txt s))) ∧ St W noF [] w) := by
  have hS := St.start W
  have hz := str_size s
  have hi := itoa_len (n := (s.length : Nat)) (by omega) (by omega)
  have hN := fun W => Number_ (s.length : Nat) W (by omega) (by omega)
  refine calls_C Tryd.func43 rfl Tryd.ntmps43 rfl ?_
  repeat (first | (refine G_id ?_; first | refine G_nil ?_ | refine G_plain rfl rfl ?_) | (refine X_id ?_; first | refine X_yl (Yl_move rfl rfl) rfl rfl ?_ | refine X_yl (Yl_assign rfl rfl) rfl rfl ?_ | refine X_yl (Yl_len_str rfl rfl) rfl rfl ?_) | (refine C_id ?_; first | refine C_seq ?_ | refine C_region ?_) | (refine E_id ?_; first | refine E_code ?_))
  rw [hz]
  refine X_callq 44 rfl rfl rfl rfl rfl hS (hN _) ?_
  rintro _ w rfl hS
  repeat (first | (refine G_id ?_; first | refine G_nil ?_ | refine G_plain rfl rfl ?_) | (refine X_id ?_; first | refine X_yl (Yl_move rfl rfl) rfl rfl ?_ | refine X_yl (Yl_assign rfl rfl) rfl rfl ?_ | refine X_yl (Yl_addStr rfl rfl rfl (by first | omega | (simp; omega))) rfl rfl ?_) | (refine C_id ?_; first | refine C_ret ?_) | (refine E_id ?_; first | refine E_code ?_ | refine E_ret1 rfl (Rv_tmp rfl) (Ret.mk ?_)))
  refine ⟨?_, hS⟩
  simp [encL]
theorem rec_txt {s : List UInt8} (h : s.length ≤ 1024) : (encL (.txt s)).length ≤ 1054 := by
  have := encL_len (y := .txt s) (show s.length ≤ 9223372036854775807 by omega)
  simp only at this; omega
theorem rec_num {n : Int} (h : -9223372036854775808 ≤ n ∧ n ≤ 9223372036854775807) : (encL (.num n)).length ≤ 30 := by
  have := encL_len (y := .num n) h
  simp only at this; omega
theorem rec_enc {r : Rec} (h : r.fits) : (encT r.leaves).length ≤ 4096 := by
  obtain ⟨h1, h2, h3, h4, h5⟩ := h
  have l1 := rec_txt h1
  have l2 := rec_txt h2
  have l3 := rec_txt h3
  have l4 := rec_num h4
  have l5 := rec_num h5
  simp [encT, Rec.leaves, encs]
  omega
theorem rbytes_ (r : Rec) (W : World) (hf : r.fits) : Calls Tryd.prog 24 #[.agg r.cells.toArray] W (Ret fun v w => ∃ b q, v = .slice b (encT r.leaves).length q ∧ St W noF [bytes b (encT r.leaves)] w) := by
  have hS := St.start W
  obtain ⟨h1, h2, h3, h4, h5⟩ := hf
  have l1 := rec_txt h1
  have l2 := rec_txt h2
  have l3 := rec_txt h3
  have l4 := itoa_len h4.1 h4.2
  have l5 := itoa_len h5.1 h5.2
  have T1 := fun W => text27_ r.cmd W (by omega)
  have T2 := fun W => text27_ r.pub W (by omega)
  have T3 := fun W => text27_ r.pkg W (by omega)
  have N1 := fun W => Number_ r.rev W h4.1 h4.2
  have N2 := fun W => Number_ r.out W h5.1 h5.2
  obtain ⟨bs, hbs⟩ : ∃ bs, bs = encT r.leaves := ⟨_, rfl⟩
  have hfin : ∀ x : List UInt8, x = bs → ∀ (b q' : _) (w : World), St W noF [bytes b x] w → ∃ b' q'', Value.slice b x.length q' = .slice b' bs.length q'' ∧ St W noF [bytes b' bs] w := fun x h b q' w hw => by
    subst h; exact ⟨b, q', rfl, hw⟩
  rw [← hbs]
  refine calls_C Tryd.func24 rfl Tryd.ntmps24 rfl ?_
  repeat (first | (refine G_id ?_; first | refine G_nil ?_ | refine G_plain rfl rfl ?_) | (refine X_id ?_; first | refine X_yl (Yl_assign rfl rfl) rfl rfl ?_ | refine X_box rfl rfl rfl rfl hS (fun _ _ hS _ => ?_)) | (refine C_id ?_; first | refine C_seq ?_ | refine C_region ?_) | (refine E_id ?_; first | refine E_code ?_))
  refine C_ord (.s 0 (.s 1 (.s 4 (.s 5 (.s 8 (.s 9 (.s 13 (.s 14 (.s 18 (.s 19 (.h 2 (.s 3 (.h 6 (.s 7 (.h 10 (.s 11 (.s 12 (.h 15 (.s 16 (.s 17 (.h 20 (.s 21 (.s 22 (.h 23 (.s 24 .nil) .no))) .no))) .no))) .no)) .no)) .no))))))))))) mixed (by kernel_rfl) rfl ?_
  have hS := hS.drew
  repeat (first | (refine X_id ?_; first | (refine X_callq 43 rfl rfl rfl rfl rfl hS (T1 _) ?_; rintro _ _ rfl hS) | (refine X_callq 43 rfl rfl rfl rfl rfl hS (T2 _) ?_; rintro _ _ rfl hS) | (refine X_callq 43 rfl rfl rfl rfl rfl hS (T3 _) ?_; rintro _ _ rfl hS) | (refine X_callq 44 rfl rfl rfl rfl rfl hS (N1 _) ?_; rintro _ _ rfl hS) | (refine X_callq 44 rfl rfl rfl rfl rfl hS (N2 _) ?_; rintro _ _ rfl hS) | refine X_strBytes rfl rfl rfl rfl hS (fun _ _ _ hS _ => ?_)) | (refine C_id ?_; first | refine C_ret ?_) | (refine E_id ?_; first | refine E_code ?_ | refine E_ret1 rfl (Rv_tmp rfl) (Ret.mk ?_)) | (refine GO_id ?_; first | refine GO_nil ?_ | refine GO_pure rfl rfl (fun _ => Yl_assign rfl rfl) rfl rfl ?_ | refine GO_pure rfl rfl (fun _ => Yl_fieldAddr0 rfl rfl rfl) rfl rfl ?_ | refine GO_read (fun w' => w'.cell? _ = some _) rfl rfl hS.cell (fun _ hc => Yl_load rfl rfl hc) rfl rfl ?_ | refine GO_hard rfl rfl ?_ | refine GO_pure rfl rfl (fun _ => Yl_addStr rfl rfl rfl (by first | omega | (simp; omega))) rfl rfl ?_) | (refine Keep_id ?_; first | refine And.intro (by repeat (first | exact trivial | refine And.intro (.inl (by decide +kernel)) ?_ | refine And.intro (.inr (by first | assumption | exact hS.cell | exact cell_at (by assumption) | exact hS.cellI (by omega) | exact hS.cellIP (by omega) | exact hS.cellsN | exact ((hr.rd hS).cellX (by omega) hx) | exact ((hr2.rd hS).cellX (by omega) hx2) | exact hS.cellB (by omega) | exact hS.cellBA (by omega) | exact (hb.rd hS).cellB' (by omega) | exact (hb2.rd hS).cellB' (by omega) | exact (hg.rd hS).cellI (by omega) | exact (hg2.rd hS).cellI (by omega) | exact ((hr.rd hS).cellF (by first | omega | (dsimp only; omega)) hx) | exact ((hr2.rd hS).cellF (by first | omega | (dsimp only; omega)) hx2) | exact hS.cellO 0 (by omega) | exact hS.cellO 1 (by omega) | exact hS.cellIA (by omega) | exact (hg.rd hS).cellIA (by omega) | exact (hg2.rd hS).cellIA (by omega) | exact cell_at (hc.rd hS).pts | exact hb.rd hS | exact hS.cellO 4 (by omega) | exact hS.cellO 5 (by omega) | exact hS.cellO 6 (by omega) | exact hS.cellO 7 (by omega) | exact hS.cellO 8 (by omega) | exact hS.cellO 9 (by omega) | exact hS.cellO 10 (by omega) | exact hS.cellO 11 (by omega) | exact hS.cellO 12 (by omega) | exact hS.cellO 13 (by omega))) ?_)) ?_))
  refine hfin _ ?_ _ _ _ (hS.pick [0])
  rw [hbs]
  simp [encT, encs, Rec.leaves, encL]
def Rec.cut (r : Rec) : Rec := ⟨r.cmd.take 40, r.pub.take 40, r.pkg.take 40, r.rev, r.out⟩
theorem to27_ (r : Rec) (W : World) : Calls Tryd.prog 17 #[.agg r.cells.toArray] W (Ret fun v w => v = .agg r.cut.cells.toArray ∧ St W noF [] w) := by
  have hS := St.start W
  have C1 := fun W => cut27_ r.cmd W
  have C2 := fun W => cut27_ r.pub W
  have C3 := fun W => cut27_ r.pkg W
  refine calls_C Tryd.func17 rfl Tryd.ntmps17 rfl ?_
  repeat (first | (refine G_id ?_; first | refine G_nil ?_ | refine G_plain rfl rfl ?_) | (refine X_id ?_; first | refine X_box rfl rfl rfl rfl hS (fun _ _ hS _ => ?_) | refine X_alloc rfl rfl rfl hS (fun _ _ hS _ => ?_)) | (refine C_id ?_; first | refine C_seq ?_ | refine C_region ?_) | (refine E_id ?_; first | refine E_code ?_))
  refine C_ord (.s 0 (.s 1 (.s 3 (.s 4 (.s 6 (.s 7 (.s 9 (.s 10 (.s 11 (.s 12 (.h 2 (.h 5 (.h 8 (.s 13 (.h 14 .nil .no)) .no) .no) .no))))))))))) mixed (by kernel_rfl) rfl ?_
  have hS := hS.drew
  repeat (first | (refine X_id ?_; first | (refine X_callq 35 rfl rfl rfl rfl rfl hS (C1 _) ?_; rintro _ _ rfl hS) | (refine X_callq 35 rfl rfl rfl rfl rfl hS (C2 _) ?_; rintro _ _ rfl hS) | (refine X_callq 35 rfl rfl rfl rfl rfl hS (C3 _) ?_; rintro _ _ rfl hS) | refine X_store rfl rfl rfl rfl hS (fun _ hS _ => ?_)) | (refine C_id ?_; first | refine C_ret ?_) | (refine E_id ?_; first | refine E_code ?_ | refine E_ret1 rfl (by first | exact Rv_tmp rfl | exact Rv_cell rfl (run_load1 hS.cell) | exact Rv_cell rfl (run_loadN hS.cellsN)) (Ret.mk ?_)) | (refine GO_id ?_; first | refine GO_nil ?_ | refine GO_pure rfl rfl (fun _ => Yl_fieldAddr0 rfl rfl rfl) rfl rfl ?_ | refine GO_pure rfl rfl (fun _ => Yl_build rfl rfl rfl) rfl rfl ?_ | refine GO_read (fun w' => w'.cell? _ = some _) rfl rfl hS.cell (fun _ hc => Yl_load rfl rfl hc) rfl rfl ?_ | refine GO_hard rfl rfl ?_) | (refine Keep_id ?_; first | refine And.intro (by repeat (first | exact trivial | refine And.intro (.inl (by decide +kernel)) ?_ | refine And.intro (.inr (by first | assumption | exact hS.cell | exact cell_at (by assumption) | exact hS.cellI (by omega) | exact hS.cellIP (by omega) | exact hS.cellsN | exact ((hr.rd hS).cellX (by omega) hx) | exact ((hr2.rd hS).cellX (by omega) hx2) | exact hS.cellB (by omega) | exact hS.cellBA (by omega) | exact (hb.rd hS).cellB' (by omega) | exact (hb2.rd hS).cellB' (by omega) | exact (hg.rd hS).cellI (by omega) | exact (hg2.rd hS).cellI (by omega) | exact ((hr.rd hS).cellF (by first | omega | (dsimp only; omega)) hx) | exact ((hr2.rd hS).cellF (by first | omega | (dsimp only; omega)) hx2) | exact hS.cellO 0 (by omega) | exact hS.cellO 1 (by omega) | exact hS.cellIA (by omega) | exact (hg.rd hS).cellIA (by omega) | exact (hg2.rd hS).cellIA (by omega) | exact cell_at (hc.rd hS).pts | exact hb.rd hS | exact hS.cellO 4 (by omega) | exact hS.cellO 5 (by omega) | exact hS.cellO 6 (by omega) | exact hS.cellO 7 (by omega) | exact hS.cellO 8 (by omega) | exact hS.cellO 9 (by omega) | exact hS.cellO 10 (by omega) | exact hS.cellO 11 (by omega) | exact hS.cellO 12 (by omega) | exact hS.cellO 13 (by omega))) ?_)) ?_))
  exact ⟨rfl, hS.drops⟩
theorem of27_ (r : Rec) (W : World) : Calls Tryd.prog 18 #[.agg r.cells.toArray] W (Ret fun v w => v = .agg r.cells.toArray ∧ St W noF [] w) := by
  have hS := St.start W
  refine calls_C Tryd.func18 rfl Tryd.ntmps18 rfl ?_
  repeat (first | (refine G_id ?_; first | refine G_nil ?_ | refine G_plain rfl rfl ?_) | (refine X_id ?_; first | refine X_yl (Yl_fieldAddr0 rfl rfl rfl) rfl rfl ?_ | refine X_yl (Yl_build rfl rfl rfl) rfl rfl ?_ | refine X_yl (Yl_load rfl rfl hS.cell) rfl rfl ?_ | refine X_store rfl rfl rfl rfl hS (fun _ hS _ => ?_) | refine X_box rfl rfl rfl rfl hS (fun _ _ hS _ => ?_) | refine X_alloc rfl rfl rfl hS (fun _ _ hS _ => ?_)) | (refine C_id ?_; first | refine C_seq ?_ | refine C_region ?_ | refine C_ret ?_) | (refine E_id ?_; first | refine E_code ?_ | refine E_ret1 rfl (by first | exact Rv_tmp rfl | exact Rv_cell rfl (run_load1 hS.cell) | exact Rv_cell rfl (run_loadN hS.cellsN)) (Ret.mk ?_)))
  exact ⟨rfl, hS.drops⟩
theorem cut_fits {r : Rec} (h : -9223372036854775808 ≤ r.rev ∧ r.rev ≤ 9223372036854775807) (h' : -9223372036854775808 ≤ r.out ∧ r.out ≤ 9223372036854775807) : r.cut.fits :=
  ⟨by simp [Rec.cut]; omega, by simp [Rec.cut]; omega, by simp [Rec.cut]; omega, h, h'⟩
end Cr
namespace Cr
open Go Go.Proofs
set_option maxRecDepth 100000
set_option maxHeartbeats 4000000
attribute [local irreducible] Calls

theorem Rd.cellsX {w : World} {a : Option Addr} {cs seg : List Value} {i' i n : Nat} (H : Rd w (Cr.row a cs)) (hi : i' = i) (h : (cs.drop i).take n = seg) (hn : seg.length = n) : CellsN w (adr a i') n seg := by
  subst hi; subst h
  exact ⟨H.seg _ _, hn⟩
theorem text_ (s : List UInt8) (W : World) : Calls Tryd.prog 37 #[.string (str s)] W (Ret fun v w => ∃ b c, v = .agg (List.toArray [.int .i64 1, .int .i64 0, .slice b s.length c, z0]) ∧ St W noF [leafR (.txt s) [.int .i64 1, .int .i64 0, .slice b s.length c, z0]] w) := by
  have hS := St.start W
  refine calls_C Tryd.func37 rfl Tryd.ntmps37 rfl ?_
  repeat (first | (refine G_id ?_; first | refine G_nil ?_ | refine G_plain rfl rfl ?_) | (refine X_id ?_; first | refine X_yl (Yl_move rfl rfl) rfl rfl ?_ | refine X_yl (Yl_build rfl rfl rfl) rfl rfl ?_ | refine X_store rfl rfl rfl rfl hS (fun _ hS _ => ?_) | refine X_alloc rfl rfl rfl hS (fun _ _ hS _ => ?_) | refine X_strBytes rfl rfl rfl rfl hS (fun _ _ _ hS _ => ?_)) | (refine C_id ?_; first | refine C_seq ?_ | refine C_region ?_ | refine C_ret ?_) | (refine E_id ?_; first | refine E_code ?_ | refine E_ret1 rfl (by first | exact Rv_tmp rfl | exact Rv_cell rfl (run_load1 hS.cell) | exact Rv_cell rfl (run_loadN hS.cellsN)) (Ret.mk ?_)))
  refine ⟨_, _, rfl, ?_⟩
  have hS := hS.pick [0]
  exact hS.head fun _ h => ⟨_, _, rfl, h⟩
theorem int_ (n : Int) (W : World) : Calls Tryd.prog 38 #[.int .i64 n] W (Ret fun v w => v = .agg (List.toArray [.int .i64 0, .int .i64 n, z0, z0]) ∧ St W noF [leafR (.num n) [.int .i64 0, .int .i64 n, z0, z0]] w) := by
  have hS := St.start W
  refine calls_C Tryd.func38 rfl Tryd.ntmps38 rfl ?_
  repeat (first | (refine G_id ?_; first | refine G_nil ?_ | refine G_plain rfl rfl ?_) | (refine X_id ?_; first | refine X_yl (Yl_move rfl rfl) rfl rfl ?_ | refine X_yl (Yl_build rfl rfl rfl) rfl rfl ?_ | refine X_store rfl rfl rfl rfl hS (fun _ hS _ => ?_) | refine X_alloc rfl rfl rfl hS (fun _ _ hS _ => ?_)) | (refine C_id ?_; first | refine C_seq ?_ | refine C_region ?_ | refine C_ret ?_) | (refine E_id ?_; first | refine E_code ?_ | refine E_ret1 rfl (by first | exact Rv_tmp rfl | exact Rv_cell rfl (run_load1 hS.cell) | exact Rv_cell rfl (run_loadN hS.cellsN)) (Ret.mk ?_)))
  refine ⟨rfl, ?_⟩
  have hS : St W noF [] _ := hS.took
  exact hS.imp fun _ h => Sep.shut_head (ps := []) (fun _ hg => ⟨rfl, hg⟩) h
theorem bclone_nil (W : World) : Calls Tryd.prog 62 #[.slice none 0 0] W (Ret fun v w => v = .slice none 0 0 ∧ St W noF [] w) := by
  have hS := St.start W
  refine calls_C Tryd.func62 rfl Tryd.ntmps62 rfl ?_
  repeat (first | (refine G_id ?_; first | refine G_nil ?_ | refine G_plain rfl rfl ?_) | (refine X_id ?_; first | refine X_yl (Yl_move rfl rfl) rfl rfl ?_ | refine X_yl (Yl_assign rfl rfl) rfl rfl ?_ | refine X_yl (Yl_eqlNilSlice rfl rfl rfl) rfl rfl ?_) | (refine C_id ?_; first | refine C_seq ?_ | refine C_region ?_ | refine C_ret ?_ | refine C_cond_t rfl ?_) | (refine E_id ?_; first | refine E_code ?_ | refine E_then_ret ?_ | refine E_ret1 rfl (Rv_tmp rfl) (Ret.mk ?_)))
  exact ⟨rfl, hS⟩
theorem LeafRo.lit {W : World} {F : Nat → Prop} {y : Leaf} {cs : List Value} (H : LeafRo W F y cs) : ∃ k n a1 n1 c1 a2 n2 c2, cs = [.int .i64 k, .int .i64 n, .slice a1 n1 c1, .slice a2 n2 c2] := by
  cases y with
  | num n => exact ⟨_, _, _, _, _, _, _, _, H⟩
  | txt b => obtain ⟨a, c, rfl, _⟩ := H; exact ⟨_, _, _, _, _, _, _, _, rfl⟩
  | oth => obtain ⟨a, n, c, rfl⟩ := H; exact ⟨_, _, _, _, _, _, _, _, rfl⟩
theorem leaf_lit {y : Leaf} {cs : List Value} {h : Frag} (H : leafR y cs h) : ∃ k n a1 n1 c1 a2 n2 c2, cs = [.int .i64 k, .int .i64 n, .slice a1 n1 c1, .slice a2 n2 c2] := by
  cases y with
  | num n => exact ⟨_, _, _, _, _, _, _, _, H.1⟩
  | txt b => obtain ⟨a, c, rfl, _⟩ := H; exact ⟨_, _, _, _, _, _, _, _, rfl⟩
  | oth => obtain ⟨a, n, c, rfl, _⟩ := H; exact ⟨_, _, _, _, _, _, _, _, rfl⟩
theorem St.leaf_lit {W : World} {F : Nat → Prop} {q : List Res} {w : World} {y : Leaf} {cs : List Value} (hS : St W F (leafR y cs :: q) w) : ∃ k n a1 n1 c1 a2 n2 c2, cs = [.int .i64 k, .int .i64 n, .slice a1 n1 c1, .slice a2 n2 c2] := by
  obtain ⟨_, ⟨h1, _, H, _⟩, _⟩ := hS
  exact Cr.leaf_lit H
theorem copied_ (y : Leaf) (cs : List Value) (W : World) (F : Nat → Prop) (hy : LeafRo W F y cs) (hne : y ≠ .oth) (hf : ∀ b, y = .txt b → b.length ≤ 1073741824) :
    Calls Tryd.prog 50 #[.agg (List.toArray cs), .int .i64 8] W (Ret fun v w => ∃ cs', v = .agg (List.toArray cs') ∧ St W noF [leafR y cs'] w) := by
  have hS := St.start W
  cases y with
  | oth => exact absurd rfl hne
  | num n =>
    obtain rfl := hy
    refine calls_C Tryd.func50 rfl Tryd.ntmps50 rfl ?_
    repeat (first | (refine G_id ?_; first | refine G_nil ?_ | refine G_plain rfl rfl ?_) | (refine X_id ?_; first | refine X_yl (Yl_fieldAddr0 rfl rfl rfl) rfl rfl ?_ | refine X_yl (Yl_load rfl rfl hS.cell) rfl rfl ?_ | refine X_box rfl rfl rfl rfl hS (fun _ _ hS _ => ?_) | refine X_alloc rfl rfl rfl hS (fun _ _ hS _ => ?_)) | (refine C_id ?_; first | refine C_seq ?_ | refine C_region ?_) | (refine E_id ?_; first | refine E_code ?_))
    rename_i b2 _ _ _ b4 _ _
    refine X_callq 62 rfl rfl rfl rfl rfl hS (bclone_nil _) ?_
    rintro _ w rfl hS
    repeat (first | (refine G_id ?_; first | refine G_nil ?_ | refine G_plain rfl rfl ?_) | (refine X_id ?_; first | refine X_yl (Yl_move rfl rfl) rfl rfl ?_ | refine X_yl (Yl_assign rfl rfl) rfl rfl ?_ | refine X_yl (Yl_fieldAddr0 rfl rfl rfl) rfl rfl ?_ | refine X_yl (Yl_len rfl rfl) rfl rfl ?_ | refine X_yl (Yl_gtr_t rfl rfl rfl (by omega)) rfl rfl ?_ | refine X_yl (Yl_load rfl rfl hS.cell) rfl rfl ?_ | refine X_store rfl rfl rfl rfl hS (fun _ hS _ => ?_)) | (refine C_id ?_; first | refine C_seq ?_ | refine C_region ?_ | refine C_block ?_ | refine C_cond_t rfl ?_) | (refine E_id ?_; first | refine E_code ?_))
    refine C_loop (α := Unit) (fun _ => [(2, .pointer (some ⟨b2, 0, none⟩)), (4, .pointer (some ⟨b4, 0, none⟩)), (18, .int .i64 0), (19, .int .i64 0)]) (fun _ w => St W noF [pts b4 (.cells (List.toArray [.int .i64 0, .int .i64 0, .slice none 0 0, .slice none 0 0]) 61 (0, 0)), pts b2 (.cells (List.toArray [.int .i64 0, .int .i64 n, .slice none 0 0, .slice none 0 0]) 61 (0, 0))] w) (fun _ => 0) () ⟨rfl, rfl, rfl, rfl, trivial⟩ hS ?_
    clear hS
    rintro _ w hS
    repeat (first | (refine G_id ?_; first | refine G_nil ?_ | refine G_plain rfl rfl ?_) | (refine X_id ?_; first | refine X_yl (Yl_lss_f rfl rfl rfl (by omega)) rfl rfl ?_ | refine X_yl (Yl_loadN rfl rfl hS.cellsN) rfl rfl ?_ | refine X_store rfl rfl rfl rfl hS (fun _ hS _ => ?_)) | (refine C_id ?_; first | refine C_seq ?_ | refine C_region ?_ | refine C_ret ?_ | refine C_exit ?_ | refine C_cond_f rfl ?_) | (refine E_id ?_; first | refine E_code ?_ | refine E_then_exit ?_ | refine E_blk_same ?_ | refine E_ret1 rfl (by first | exact Rv_tmp rfl | exact Rv_cell rfl (run_load1 hS.cell) | exact Rv_cell rfl (run_loadN hS.cellsN)) (Ret.mk ?_)))
    refine ⟨_, rfl, ?_⟩
    have hS : St W noF [] _ := hS.took
    exact hS.imp fun _ h => Sep.shut_head (ps := []) (fun _ hg => ⟨rfl, hg⟩) h
  | txt b =>
    obtain ⟨a, c, rfl, hb⟩ := hy
    have hbl := hf b rfl
    replace hb : Ro W noF (bytes a b) := hb.start.ro
    refine calls_C Tryd.func50 rfl Tryd.ntmps50 rfl ?_
    repeat (first | (refine G_id ?_; first | refine G_nil ?_ | refine G_plain rfl rfl ?_) | (refine X_id ?_; first | refine X_yl (Yl_fieldAddr0 rfl rfl rfl) rfl rfl ?_ | refine X_yl (Yl_load rfl rfl hS.cell) rfl rfl ?_ | refine X_box rfl rfl rfl rfl hS (fun _ _ hS _ => ?_) | refine X_alloc rfl rfl rfl hS (fun _ _ hS _ => ?_)) | (refine C_id ?_; first | refine C_seq ?_ | refine C_region ?_) | (refine E_id ?_; first | refine E_code ?_))
    rename_i b2 _ _ _ b4 _ _
    refine X_callg _ rfl rfl rfl rfl rfl (bclone_ _ _ _ b _ (hb.rd hS) rfl hbl) ?_
    rintro _ w ⟨a', c', rfl, _, _, hS'⟩
    replace hS := hS.plus hS'
    clear hS'
    repeat (first | (refine G_id ?_; first | refine G_nil ?_ | refine G_plain rfl rfl ?_) | (refine X_id ?_; first | refine X_yl (Yl_move rfl rfl) rfl rfl ?_ | refine X_yl (Yl_assign rfl rfl) rfl rfl ?_ | refine X_yl (Yl_fieldAddr0 rfl rfl rfl) rfl rfl ?_ | refine X_yl (Yl_len rfl rfl) rfl rfl ?_ | refine X_yl (Yl_gtr_t rfl rfl rfl (by omega)) rfl rfl ?_ | refine X_yl (Yl_load rfl rfl hS.cell) rfl rfl ?_ | refine X_store rfl rfl rfl rfl hS (fun _ hS _ => ?_)) | (refine C_id ?_; first | refine C_seq ?_ | refine C_region ?_ | refine C_block ?_ | refine C_cond_t rfl ?_) | (refine E_id ?_; first | refine E_code ?_))
    refine C_loop (α := Unit) (fun _ => [(2, .pointer (some ⟨b2, 0, none⟩)), (4, .pointer (some ⟨b4, 0, none⟩)), (18, .int .i64 0), (19, .int .i64 0)]) (fun _ w => St W noF [own 5 1 a' c' (bv b), pts b4 (.cells (List.toArray [.int .i64 0, .int .i64 0, .slice none 0 0, .slice none 0 0]) 61 (0, 0)), pts b2 (.cells (List.toArray [.int .i64 1, .int .i64 0, .slice a' b.length c', .slice none 0 0]) 61 (0, 0))] w) (fun _ => 0) () ⟨rfl, rfl, rfl, rfl, trivial⟩ hS ?_
    clear hS
    rintro _ w hS
    repeat (first | (refine G_id ?_; first | refine G_nil ?_ | refine G_plain rfl rfl ?_) | (refine X_id ?_; first | refine X_yl (Yl_lss_f rfl rfl rfl (by omega)) rfl rfl ?_ | refine X_yl (Yl_loadN rfl rfl hS.cellsN) rfl rfl ?_ | refine X_store rfl rfl rfl rfl hS (fun _ hS _ => ?_)) | (refine C_id ?_; first | refine C_seq ?_ | refine C_region ?_ | refine C_ret ?_ | refine C_exit ?_ | refine C_cond_f rfl ?_) | (refine E_id ?_; first | refine E_code ?_ | refine E_then_exit ?_ | refine E_blk_same ?_ | refine E_ret1 rfl (by first | exact Rv_tmp rfl | exact Rv_cell rfl (run_load1 hS.cell) | exact Rv_cell rfl (run_loadN hS.cellsN)) (Ret.mk ?_)))
    refine ⟨_, rfl, ?_⟩
    have hS := hS.pick [0]
    exact hS.head fun _ h => ⟨_, _, rfl, h.row⟩
theorem of_ (a : Option Addr) (x : List Leaf) (c : Nat) (rows : List (List Value)) (W : World) (hr : Ro W noF (row a rows.flatten)) (hx : Leaves W noF x rows) (hne : Leaf.oth ∉ x) (hf : ∀ b, Leaf.txt b ∈ x → b.length ≤ 1073741824) (hxl : x.length ≤ 1024) :
    Calls Tryd.prog 36 #[.slice a x.length c] W (Ret fun v w => ∃ b q rows', v = .agg (List.toArray [.int .i64 2, .int .i64 0, z0, .slice b x.length q]) ∧ x.length ≤ q ∧ rows'.flatten.length = x.length * 4 ∧ St W noF [own 61 4 b q rows'.flatten, leavesR x rows'] w) := by
  have hS := St.start W
  refine calls_C Tryd.func36 rfl Tryd.ntmps36 rfl ?_
  repeat (first | (refine G_id ?_; first | refine G_nil ?_ | refine G_plain rfl rfl ?_) | (refine X_id ?_; first | refine X_yl (Yl_move rfl rfl) rfl rfl ?_ | refine X_yl (Yl_len rfl rfl) rfl rfl ?_ | refine X_yl (Yl_build rfl rfl rfl) rfl rfl ?_ | refine X_store rfl rfl rfl rfl hS (fun _ hS _ => ?_) | refine X_alloc rfl rfl rfl hS (fun _ _ hS _ => ?_)) | (refine C_id ?_; first | refine C_seq ?_ | refine C_region ?_ | refine C_block ?_) | (refine E_id ?_; first | refine E_code ?_))
  rename_i b2 _ _ _ b3 _ _ _ _ _
  refine C_loop (α := Nat × Option Addr × Nat) (fun z => [(2, .pointer (some ⟨b2, 0, none⟩)), (3, .pointer (some ⟨b3, 0, none⟩)), (7, .slice a x.length c), (8, .int .i64 (x.length : Nat)), (9, .int .i64 (z.1 : Nat))])
    (fun z w => z.1 ≤ x.length ∧ z.1 ≤ z.2.2 ∧ ∃ rows', rows'.flatten.length = z.1 * 4 ∧ St W noF [own 61 4 z.2.1 z.2.2 rows'.flatten, leavesR (x.take z.1) rows', pts b3 (.cells (List.toArray [.int .i64 2, .int .i64 0, .slice none 0 0, .slice z.2.1 z.1 z.2.2]) 61 (0, 0)), pts b2 (.cells (List.toArray [.int .i64 0, .int .i64 0, .slice none 0 0, .slice none 0 0]) 61 (0, 0))] w)
    (fun z => x.length - z.1) (0, none, 0) ⟨rfl, rfl, rfl, rfl, rfl, trivial⟩ ⟨Nat.zero_le _, Nat.le_refl _, [], rfl, (hS.leaves_nil).own_none _ _ _⟩ ?_
  clear hS
  rintro ⟨i, b, q⟩ w ⟨hi, hiq, rows', hrl, hS⟩
  simp only at hi hiq hrl hS
  by_cases hlt : i < x.length
  · have hy0 : x[i]? = some x[i] := List.getElem?_eq_getElem hlt
    obtain ⟨y, hyx⟩ : ∃ y, y = x[i] := ⟨_, rfl⟩
    rw [← hyx] at hy0
    have hymem : y ∈ x := List.mem_of_getElem? hy0
    obtain ⟨cs, hxs, hy⟩ := hx.at_ hy0
    obtain ⟨k1, k2, a1, n1, c1, a2, n2, c2, rfl⟩ := hy.lit
    obtain ⟨ab, ao, rfl⟩ := hr.start.base (by
      intro e
      rw [e] at hxs
      simp at hxs)
    repeat (first | (refine G_id ?_; first | refine G_nil ?_ | refine G_plain rfl rfl ?_) | (refine X_id ?_; first | refine X_yl (Yl_lss_t rfl rfl rfl (by omega)) rfl rfl ?_ | refine X_yl (Yl_indexAddr rfl rfl rfl (by omega) (by omega) (by first | assumption | exact ⟨_, _, rfl⟩)) rfl rfl ?_ | refine X_yl (Yl_loadN rfl rfl ((hr.rd hS).cellsX (by omega) hxs rfl)) rfl rfl ?_ | refine X_store rfl rfl rfl rfl hS (fun _ hS _ => ?_) | refine X_alloc rfl rfl rfl hS (fun _ _ hS _ => ?_)) | (refine C_id ?_; first | refine C_seq ?_ | refine C_region ?_ | refine C_block ?_ | refine C_skip ?_ | refine C_cond_t rfl ?_) | (refine E_id ?_; first | refine E_code ?_))
    refine C_ord (.s 0 (.s 1 (.s 2 (.h 3 (.h 4 (.h 5 (.s 6 (.h 7 .nil .no)) .no) .no) .no)))) mixed (by kernel_rfl) rfl ?_
    have hS := hS.drew
    repeat (first | (refine GO_id ?_; first | refine GO_pure rfl rfl (fun _ => Yl_fieldAddr0 rfl rfl rfl) rfl rfl ?_ | refine GO_read (fun w' => w'.cell? _ = some _) rfl rfl hS.cell (fun _ hc => Yl_load rfl rfl hc) rfl rfl ?_ | refine GO_read (fun w' => CellsN w' _ _ _) rfl rfl hS.cellsN (fun _ hc => Yl_loadN rfl rfl hc) rfl rfl ?_ | refine GO_hard rfl rfl ?_))
    refine X_callg _ rfl rfl rfl rfl rfl (copied_ y _ _ noF (hy.mono fun r h => (h.rd hS).ro) (fun e => hne (e ▸ hymem)) (fun b e => hf b (e ▸ hymem))) ?_
    rintro _ w ⟨cs', rfl, hS'⟩
    replace hS := hS.plus hS'
    clear hS'
    obtain ⟨l1, l2, d1, m1, e1, d2, m2, e2, rfl⟩ := hS.leaf_lit
    repeat (first | (refine X_id ?_; first | refine X_buildSlice rfl rfl rfl rfl rfl rfl rfl rfl hS (fun _ _ hS _ => ?_)) | (refine GO_id ?_; first | refine GO_hard rfl rfl ?_) | (refine Keep_id ?_; first | refine And.intro (by repeat (first | exact trivial | refine And.intro (.inl (by decide +kernel)) ?_ | refine And.intro (.inr (by first | assumption | exact hS.cell | exact cell_at (by assumption) | exact hS.cellI (by omega) | exact hS.cellIP (by omega) | exact hS.cellsN | exact ((hr.rd hS).cellX (by omega) hx) | exact ((hr2.rd hS).cellX (by omega) hx2) | exact hS.cellB (by omega) | exact hS.cellBA (by omega) | exact (hb.rd hS).cellB' (by omega) | exact (hb2.rd hS).cellB' (by omega) | exact (hg.rd hS).cellI (by omega) | exact (hg2.rd hS).cellI (by omega) | exact ((hr.rd hS).cellF (by first | omega | (dsimp only; omega)) hx) | exact ((hr2.rd hS).cellF (by first | omega | (dsimp only; omega)) hx2) | exact hS.cellO 0 (by omega) | exact hS.cellO 1 (by omega) | exact hS.cellIA (by omega) | exact (hg.rd hS).cellIA (by omega) | exact (hg2.rd hS).cellIA (by omega) | exact cell_at (hc.rd hS).pts | exact hb.rd hS | exact hS.cellO 4 (by omega) | exact hS.cellO 5 (by omega) | exact hS.cellO 6 (by omega) | exact hS.cellO 7 (by omega) | exact hS.cellO 8 (by omega) | exact hS.cellO 9 (by omega) | exact hS.cellO 10 (by omega) | exact hS.cellO 11 (by omega) | exact hS.cellO 12 (by omega) | exact hS.cellO 13 (by omega))) ?_)) ?_))
    have hnw := (hS.rd (List.mem_cons_self ..)).own_row
    refine X_append rfl rfl rfl rfl rfl hS hrl hiq hnw rfl (by simp [Value.oneCell']) (by omega) (by simp only [maxLen]; omega) (fun b' q' w hS hq' _ => ?_)
    repeat (first | (refine G_id ?_; first | refine G_nil ?_ | refine G_plain rfl rfl ?_) | (refine X_id ?_; first | refine X_yl (Yl_move rfl rfl) rfl rfl ?_ | refine X_yl (Yl_add rfl rfl rfl (w64 (by omega) (by omega))) rfl rfl ?_ | refine X_store rfl rfl rfl rfl hS (fun _ hS _ => ?_)) | (refine C_id ?_; first | refine C_region ?_) | (refine E_id ?_; first | refine E_code ?_ | refine E_blk_n ?_) | (refine GO_id ?_; first | refine GO_nil ?_ | refine GO_pure rfl rfl (fun _ => Yl_fieldAddr0 rfl rfl rfl) rfl rfl ?_ | refine GO_hard rfl rfl ?_) | (refine Keep_id ?_; first | refine And.intro (by repeat (first | exact trivial | refine And.intro (.inl (by decide +kernel)) ?_ | refine And.intro (.inr (by first | assumption | exact hS.cell | exact cell_at (by assumption) | exact hS.cellI (by omega) | exact hS.cellIP (by omega) | exact hS.cellsN | exact ((hr.rd hS).cellX (by omega) hx) | exact ((hr2.rd hS).cellX (by omega) hx2) | exact hS.cellB (by omega) | exact hS.cellBA (by omega) | exact (hb.rd hS).cellB' (by omega) | exact (hb2.rd hS).cellB' (by omega) | exact (hg.rd hS).cellI (by omega) | exact (hg2.rd hS).cellI (by omega) | exact ((hr.rd hS).cellF (by first | omega | (dsimp only; omega)) hx) | exact ((hr2.rd hS).cellF (by first | omega | (dsimp only; omega)) hx2) | exact hS.cellO 0 (by omega) | exact hS.cellO 1 (by omega) | exact hS.cellIA (by omega) | exact (hg.rd hS).cellIA (by omega) | exact (hg2.rd hS).cellIA (by omega) | exact cell_at (hc.rd hS).pts | exact hb.rd hS | exact hS.cellO 4 (by omega) | exact hS.cellO 5 (by omega) | exact hS.cellO 6 (by omega) | exact hS.cellO 7 (by omega) | exact hS.cellO 8 (by omega) | exact hS.cellO 9 (by omega) | exact hS.cellO 10 (by omega) | exact hS.cellO 11 (by omega) | exact hS.cellO 12 (by omega) | exact hS.cellO 13 (by omega))) ?_)) ?_))
    refine E_round (z := (i, b, q)) (i + 1, b', q') ⟨rfl, rfl, rfl, rfl, rfl, trivial⟩ ⟨hlt, hq', rows' ++ [[.int .i64 l1, .int .i64 l2, .slice d1 m1 e1, .slice d2 m2 e2]], by simp [hrl]; omega, ?_⟩ (by dsimp only; omega)
    rw [List.take_succ_eq_append_getElem hlt, show x[i] = y by rw [List.getElem?_eq_getElem hlt] at hy0; exact Option.some.inj hy0]
    have hS : St W noF [leavesR (x.take i) rows', leafR y [.int .i64 l1, .int .i64 l2, .slice d1 m1 e1, .slice d2 m2 e2], own 61 4 b' q' (rows'.flatten ++ [.int .i64 l1, .int .i64 l2, .slice d1 m1 e1, .slice d2 m2 e2]),
      pts b3 (.cells (List.toArray [.int .i64 2, .int .i64 0, .slice none 0 0, .slice b' (i + 1) q']) 61 (0, 0)), pts b2 (.cells (List.toArray [.int .i64 0, .int .i64 0, .slice none 0 0, .slice none 0 0]) 61 (0, 0))] _ := hS.took
    have hS := hS.leaves_snoc
    rw [List.flatten_append]
    simpa using hS.took
  · obtain rfl : i = x.length := by omega
    repeat (first | (refine G_id ?_; first | refine G_nil ?_ | refine G_plain rfl rfl ?_) | (refine X_id ?_; first | refine X_yl (Yl_lss_f rfl rfl rfl (by omega)) rfl rfl ?_ | refine X_yl (Yl_loadN rfl rfl hS.cellsN) rfl rfl ?_ | refine X_store rfl rfl rfl rfl hS (fun _ hS _ => ?_)) | (refine C_id ?_; first | refine C_seq ?_ | refine C_region ?_ | refine C_ret ?_ | refine C_exit ?_ | refine C_cond_f rfl ?_) | (refine E_id ?_; first | refine E_code ?_ | refine E_then_exit ?_ | refine E_blk_same ?_ | refine E_ret1 rfl (by first | exact Rv_tmp rfl | exact Rv_cell rfl (run_load1 hS.cell) | exact Rv_cell rfl (run_loadN hS.cellsN)) (Ret.mk ?_)))
    rw [List.take_length] at hS
    exact ⟨b, q, rows', rfl, hiq, hrl, hS.took⟩
end Cr
namespace Cr
open Go Go.Proofs
set_option maxRecDepth 100000
set_option maxHeartbeats 4000000
attribute [local irreducible] Calls

theorem kind_ (k n : Int) (a1 a2 : Option Addr) (n1 c1 n2 c2 : Nat) (W : World) (h : (k = 0 ∧ n1 = 0 ∧ n2 = 0) ∨ (k = 1 ∧ n = 0 ∧ n2 = 0) ∨ (k = 2 ∧ n = 0 ∧ n1 = 0)) :
    Calls Tryd.prog 58 #[.agg (List.toArray [.int .i64 k, .int .i64 n, .slice a1 n1 c1, .slice a2 n2 c2])] W (Ret fun v w => v = .bool true ∧ St W noF [] w) := by
  have hS := St.start W
  rcases h with ⟨rfl, rfl, rfl⟩ | ⟨rfl, rfl, rfl⟩ | ⟨rfl, rfl, rfl⟩
  all_goals
    refine calls_C Tryd.func58 rfl Tryd.ntmps58 rfl ?_
    repeat (first | (refine G_id ?_; first | refine G_nil ?_ | refine G_plain rfl rfl ?_ | refine G_yes rfl rfl rfl rfl ?_) | (refine X_id ?_; first | refine X_yl (Yl_move rfl rfl) rfl rfl ?_ | refine X_yl (Yl_assign rfl rfl) rfl rfl ?_ | refine X_yl (Yl_fieldAddr0 rfl rfl rfl) rfl rfl ?_ | refine X_yl (Yl_pick_t rfl rfl rfl) rfl rfl ?_ | refine X_yl (Yl_len rfl rfl) rfl rfl ?_ | refine X_yl (Yl_eql_t rfl rfl rfl (by omega)) rfl rfl ?_ | refine X_yl (Yl_eql_f rfl rfl rfl (by omega)) rfl rfl ?_ | refine X_yl (Yl_load rfl rfl hS.cell) rfl rfl ?_ | refine X_box rfl rfl rfl rfl hS (fun _ _ hS _ => ?_)) | (refine C_id ?_; first | refine C_seq ?_ | refine C_region ?_ | refine C_block ?_ | refine C_ret ?_ | refine C_cond_t rfl ?_ | refine C_cond_f rfl ?_) | (refine E_id ?_; first | refine E_code ?_ | refine E_then_ret ?_ | refine E_blk_ret ?_ | refine E_ret1 rfl (Rv_tmp rfl) (Ret.mk ?_)))
    exact ⟨rfl, hS.drops⟩
theorem check_leaf (y : Leaf) (cs : List Value) (deep : Nat) (W : World) (F : Nat → Prop) (hy : LeafRo W F y cs) (hne : y ≠ .oth) :
    Calls Tryd.prog 47 #[.agg (List.toArray cs), .int .i64 (deep : Nat)] W (Ret fun v w => v = .int .i64 0 ∧ St W noF [] w) := by
  have hS := St.start W
  obtain ⟨k, n, a1, n1, c1, a2, c2, rfl, hk, hk2⟩ : ∃ k n a1 n1 c1 a2 c2, cs = [.int .i64 k, .int .i64 n, .slice a1 n1 c1, .slice a2 0 c2] ∧ ((k = 0 ∧ n1 = 0 ∧ 0 = 0) ∨ (k = 1 ∧ n = 0 ∧ 0 = 0) ∨ (k = 2 ∧ n = 0 ∧ n1 = 0)) ∧ k ≠ 2 := by
    cases y with
    | oth => exact absurd rfl hne
    | num n => exact ⟨0, n, none, 0, 0, none, 0, hy, .inl ⟨rfl, rfl, rfl⟩, by decide⟩
    | txt b =>
      obtain ⟨a, c, rfl, _⟩ := hy
      exact ⟨1, 0, a, b.length, c, none, 0, rfl, .inr (.inl ⟨rfl, rfl, rfl⟩), by decide⟩
  refine calls_C Tryd.func47 rfl Tryd.ntmps47 rfl ?_
  repeat (first | (refine G_id ?_; first | refine G_nil ?_ | refine G_plain rfl rfl ?_ | refine G_no rfl rfl rfl rfl rfl rfl ?_) | (refine X_id ?_; first | (refine X_callq 58 rfl rfl rfl rfl rfl hS (kind_ _ _ _ _ _ _ _ _ _ hk) ?_; rintro _ _ rfl hS) | refine X_yl (Yl_move rfl rfl) rfl rfl ?_ | refine X_yl (Yl_assign rfl rfl) rfl rfl ?_ | refine X_yl (Yl_fieldAddr0 rfl rfl rfl) rfl rfl ?_ | refine X_yl (Yl_pick_f rfl rfl rfl) rfl rfl ?_ | refine X_yl (Yl_not_t rfl rfl) rfl rfl ?_ | refine X_yl (Yl_len rfl rfl) rfl rfl ?_ | refine X_yl (Yl_eql_f rfl rfl rfl (by omega)) rfl rfl ?_ | refine X_yl (Yl_load rfl rfl hS.cell) rfl rfl ?_ | refine X_yl (Yl_loadN rfl rfl hS.cellsN) rfl rfl ?_ | refine X_box rfl rfl rfl rfl hS (fun _ _ hS _ => ?_)) | (refine C_id ?_; first | refine C_seq ?_ | refine C_region ?_ | refine C_block ?_ | refine C_skip ?_ | refine C_cond_f rfl ?_) | (refine E_id ?_; first | refine E_code ?_ | refine E_blk_n ?_))
  refine C_loop (α := Unit) (fun _ => [(22, .int .i64 0), (23, .int .i64 0)]) (fun _ w => St W noF [] w) (fun _ => 0) () ⟨rfl, rfl, trivial⟩ hS.drops ?_
  clear hS
  rintro _ w hS
  repeat (first | (refine G_id ?_; first | refine G_nil ?_ | refine G_plain rfl rfl ?_) | (refine X_id ?_; first | refine X_yl (Yl_assign rfl rfl) rfl rfl ?_ | refine X_yl (Yl_lss_f rfl rfl rfl (by omega)) rfl rfl ?_) | (refine C_id ?_; first | refine C_seq ?_ | refine C_region ?_ | refine C_ret ?_ | refine C_exit ?_ | refine C_cond_f rfl ?_) | (refine E_id ?_; first | refine E_code ?_ | refine E_then_exit ?_ | refine E_blk_same ?_ | refine E_ret1 rfl (Rv_tmp rfl) (Ret.mk ?_)))
  exact ⟨rfl, hS⟩
theorem check_list (a : Option Addr) (x : List Leaf) (c : Nat) (rows : List (List Value)) (W : World) (hr : Ro W noF (row a rows.flatten)) (hx : Leaves W noF x rows) (hne : Leaf.oth ∉ x) (hxl : x.length ≤ 1024) :
    Calls Tryd.prog 47 #[.agg (List.toArray [.int .i64 2, .int .i64 0, .slice none 0 0, .slice a x.length c]), .int .i64 1] W (Ret fun v w => v = .int .i64 0 ∧ St W noF [] w) := by
  have hS := St.start W
  have hk := fun W => kind_ 2 0 none a 0 0 x.length c W (.inr (.inr ⟨rfl, rfl, rfl⟩))
  refine calls_C Tryd.func47 rfl Tryd.ntmps47 rfl ?_
  repeat (first | (refine G_id ?_; first | refine G_nil ?_ | refine G_plain rfl rfl ?_ | refine G_yes rfl rfl rfl rfl ?_) | (refine X_id ?_; first | (refine X_callq 58 rfl rfl rfl rfl rfl hS (hk _) ?_; rintro _ _ rfl hS) | refine X_yl (Yl_move rfl rfl) rfl rfl ?_ | refine X_yl (Yl_assign rfl rfl) rfl rfl ?_ | refine X_yl (Yl_fieldAddr0 rfl rfl rfl) rfl rfl ?_ | refine X_yl (Yl_pick_t rfl rfl rfl) rfl rfl ?_ | refine X_yl (Yl_not_t rfl rfl) rfl rfl ?_ | refine X_yl (Yl_len rfl rfl) rfl rfl ?_ | refine X_yl (Yl_eql_t rfl rfl rfl (by omega)) rfl rfl ?_ | refine X_yl (Yl_gtr_f rfl rfl rfl (by omega)) rfl rfl ?_ | refine X_yl (Yl_load rfl rfl hS.cell) rfl rfl ?_ | refine X_yl (Yl_loadN rfl rfl hS.cellsN) rfl rfl ?_ | refine X_box rfl rfl rfl rfl hS (fun _ _ hS _ => ?_)) | (refine C_id ?_; first | refine C_seq ?_ | refine C_region ?_ | refine C_block ?_ | refine C_skip ?_ | refine C_cond_f rfl ?_) | (refine E_id ?_; first | refine E_code ?_ | refine E_blk_n ?_))
  refine C_loop (α := Nat) (fun i => [(1, .int .i64 1), (21, .slice a x.length c), (22, .int .i64 (x.length : Nat)), (23, .int .i64 (i : Nat))]) (fun i w => i ≤ x.length ∧ St W noF [] w) (fun i => x.length - i) 0 ⟨rfl, rfl, rfl, rfl, trivial⟩ ⟨Nat.zero_le _, hS.drops⟩ ?_
  clear hS
  rintro i w ⟨hi, hS2⟩
  by_cases hlt : i < x.length
  · obtain ⟨y, hyx⟩ : ∃ y, y = x[i] := ⟨_, rfl⟩
    have hy0 : x[i]? = some y := by rw [hyx]; exact List.getElem?_eq_getElem hlt
    have hymem : y ∈ x := List.mem_of_getElem? hy0
    obtain ⟨cs, hxs, hy⟩ := hx.at_ hy0
    obtain ⟨k1, k2, a1, n1, c1, a2, n2, c2, rfl⟩ := hy.lit
    obtain ⟨ab, ao, rfl⟩ := hr.start.base (by
      intro e
      rw [e] at hxs
      simp at hxs)
    have hS := hS2
    repeat (first | (refine G_id ?_; first | refine G_nil ?_ | refine G_plain rfl rfl ?_) | (refine X_id ?_; first | refine X_yl (Yl_move rfl rfl) rfl rfl ?_ | refine X_yl (Yl_lss_t rfl rfl rfl (by omega)) rfl rfl ?_ | refine X_yl (Yl_indexAddr rfl rfl rfl (by omega) (by omega) (by first | assumption | exact ⟨_, _, rfl⟩)) rfl rfl ?_ | refine X_yl (Yl_add rfl rfl rfl (w64 (by omega) (by omega))) rfl rfl ?_ | refine X_yl (Yl_loadN rfl rfl hS.cellsN) rfl rfl ?_ | refine X_yl (Yl_loadN rfl rfl ((hr.rd hS).cellsX (by omega) hxs rfl)) rfl rfl ?_ | refine X_store rfl rfl rfl rfl hS (fun _ hS _ => ?_) | refine X_alloc rfl rfl rfl hS (fun _ _ hS _ => ?_)) | (refine C_id ?_; first | refine C_seq ?_ | refine C_region ?_ | refine C_block ?_ | refine C_skip ?_ | refine C_cond_t rfl ?_) | (refine E_id ?_; first | refine E_code ?_))
    refine X_callq 47 rfl rfl rfl rfl rfl hS (check_leaf y _ 2 _ noF (hy.mono fun r h => (h.rd hS).ro) (fun e => hne (e ▸ hymem))) ?_
    rintro _ w rfl hS
    repeat (first | (refine G_id ?_; first | refine G_nil ?_ | refine G_plain rfl rfl ?_) | (refine X_id ?_; first | refine X_yl (Yl_move rfl rfl) rfl rfl ?_ | refine X_yl (Yl_assign rfl rfl) rfl rfl ?_ | refine X_yl (Yl_neq_f rfl rfl rfl (by omega)) rfl rfl ?_ | refine X_yl (Yl_add rfl rfl rfl (w64 (by omega) (by omega))) rfl rfl ?_) | (refine C_id ?_; first | refine C_seq ?_ | refine C_region ?_ | refine C_skip ?_ | refine C_cond_f rfl ?_) | (refine E_id ?_; first | refine E_code ?_ | refine E_blk_n ?_))
    exact E_round (i + 1) ⟨rfl, rfl, rfl, rfl, trivial⟩ ⟨hlt, hS.drops⟩ (by omega)
  · obtain rfl : i = x.length := by omega
    have hS := hS2
    repeat (first | (refine G_id ?_; first | refine G_nil ?_ | refine G_plain rfl rfl ?_) | (refine X_id ?_; first | refine X_yl (Yl_assign rfl rfl) rfl rfl ?_ | refine X_yl (Yl_lss_f rfl rfl rfl (by omega)) rfl rfl ?_) | (refine C_id ?_; first | refine C_seq ?_ | refine C_region ?_ | refine C_ret ?_ | refine C_exit ?_ | refine C_cond_f rfl ?_) | (refine E_id ?_; first | refine E_code ?_ | refine E_then_exit ?_ | refine E_blk_same ?_ | refine E_ret1 rfl (Rv_tmp rfl) (Ret.mk ?_)))
    exact ⟨rfl, hS⟩
end Cr
namespace Cr
open Go Go.Proofs
set_option maxRecDepth 100000
set_option maxHeartbeats 4000000
attribute [local irreducible] Calls

/-- A writer that has written s, with room. -/
abbrev Wt (p : Nat) (b : Option Addr) (q : Nat) (s : List UInt8) : List Res := [pts p (.cells (List.toArray [.slice b s.length q, .bool false]) 97 (0, 0)), own 5 1 b q (bv s)]
theorem put_ (p : Nat) (b : Option Addr) (q : Nat) (s : List UInt8) (a : Option Addr) (t : List UInt8) (c m : Nat) (W : World) (F : Nat → Prop) (hq : s.length ≤ q) (hm : t.length = m) (hS : St W F (Wt p b q s) W) (ht : Ro W F (bytes a t)) (hl : s.length + t.length ≤ 131072) :
    Calls Tryd.prog 59 #[.pointer (some ⟨p, 0, none⟩), .slice a m c] W (Ret fun v w => (v = .tuple #[] ∧ ∃ b' q', (s ++ t).length ≤ q' ∧ St W F (Wt p b' q' (s ++ t)) w)) := by
  subst hm
  refine calls_C Tryd.func59 rfl Tryd.ntmps59 rfl ?_
  repeat (first | (refine G_id ?_; first | refine G_nil ?_ | refine G_plain rfl rfl ?_ | refine G_yes rfl rfl rfl rfl ?_) | (refine X_id ?_; first | refine X_yl (Yl_move rfl rfl) rfl rfl ?_ | refine X_yl (Yl_nilCheck rfl rfl) rfl rfl ?_ | refine X_yl (Yl_fieldAddr0 rfl rfl rfl) rfl rfl ?_ | refine X_yl (Yl_pick_f rfl rfl rfl) rfl rfl ?_ | refine X_yl (Yl_not_f rfl rfl) rfl rfl ?_ | refine X_yl (Yl_len rfl rfl) rfl rfl ?_ | refine X_yl (Yl_gtr_f rfl rfl rfl (by omega)) rfl rfl ?_ | refine X_yl (Yl_add rfl rfl rfl (w64 (by omega) (by omega))) rfl rfl ?_ | refine X_yl (Yl_load rfl rfl hS.cell) rfl rfl ?_ | refine X_store rfl rfl rfl rfl hS (fun _ hS _ => ?_)) | (refine C_id ?_; first | refine C_seq ?_ | refine C_region ?_ | refine C_cond_t rfl ?_) | (refine E_id ?_; first | refine E_code ?_))
  refine X_append rfl rfl rfl rfl rfl hS (by simp) hq (ht.rd hS) (by simp) bv_one (by omega) (by simp only [maxLen]; omega) (fun b' q' w hS hq' _ => ?_)
  repeat (first | (refine G_id ?_; first | refine G_nil ?_ | refine G_plain rfl rfl ?_) | (refine X_id ?_; first | refine X_yl (Yl_nilCheck rfl rfl) rfl rfl ?_ | refine X_yl (Yl_fieldAddr0 rfl rfl rfl) rfl rfl ?_ | refine X_store rfl rfl rfl rfl hS (fun _ hS _ => ?_)) | (refine E_id ?_; first | refine E_end0 rfl (Ret.mk ?_)))
  refine ⟨rfl, b', q', by simpa using hq', ?_⟩
  exact St.conv (rs := [pts p (.cells (List.toArray [.slice b' ((s.length + t.length : Nat)) q', .bool false]) 97 (0, 0)), own 5 1 b' q' (bv s ++ bv t)]) hS.took (by show _ = [_, _]; rw [List.length_append, bv_append])
theorem wleaf_ (p : Nat) (b : Option Addr) (q : Nat) (s : List UInt8) (y : Leaf) (cs : List Value) (W : World) (F : Nat → Prop) (hq : s.length ≤ q) (hy : LeafRo W F y cs) (hfit : y.fits) (hS : St W F (Wt p b q s) W) (hl : s.length + (encL y).length ≤ 131072) (hG : Lg W F) :
    Calls Tryd.prog 48 #[.pointer (some ⟨p, 0, none⟩), .agg (List.toArray cs)] W (Ret fun v w => (v = .tuple #[] ∧ ∃ b' q', (s ++ encL y).length ≤ q' ∧ St W F (Wt p b' q' (s ++ encL y)) w)) := by
  cases y with
  | oth => exact hfit.elim
  | num n =>
    have hy : cs = [.int .i64 0, .int .i64 n, .slice none 0 0, .slice none 0 0] := hy
    subst hy
    have e : encL (.num n) = [105] ++ Lib.itoa n ++ [59] := by simp [encL]
    rw [e] at hl ⊢
    have hl2 := hl
    simp only [List.length_append, List.length_cons, List.length_nil] at hl2
    refine calls_C Tryd.func48 rfl Tryd.ntmps48 rfl ?_
    repeat (first | (refine G_id ?_; first | refine G_nil ?_ | refine G_plain rfl rfl ?_) | (refine X_id ?_; first | (refine X_callq 60 rfl rfl rfl rfl rfl hS (itoa_ n _ _ (hG.at_ hS) hfit.1 hfit.2) ?_; rintro _ _ rfl hS) | refine X_yl (Yl_move rfl rfl) rfl rfl ?_ | refine X_yl (Yl_assign rfl rfl) rfl rfl ?_ | refine X_yl (Yl_fieldAddr0 rfl rfl rfl) rfl rfl ?_ | refine X_yl (Yl_eql_t rfl rfl rfl (by omega)) rfl rfl ?_ | refine X_yl (Yl_load rfl rfl hS.cell) rfl rfl ?_ | refine X_box rfl rfl rfl rfl hS (fun _ _ hS _ => ?_) | refine X_yl (Yl_addStr rfl rfl rfl (by first | omega | (simp; omega))) rfl rfl ?_ | refine X_strBytes rfl rfl rfl rfl hS (fun _ _ _ hS _ => ?_)) | (refine C_id ?_; first | refine C_seq ?_ | refine C_region ?_ | refine C_block ?_ | refine C_cond_t rfl ?_) | (refine E_id ?_; first | refine E_code ?_))
    obtain ⟨_, hc, hr, hw, hbk⟩ := hS.call [false, false, true, true]
    refine X_callg _ rfl rfl rfl rfl rfl (put_ p b q s _ _ _ _ _ _ hq rfl hc (hr _ (List.mem_cons_self ..)) hl) ?_
    rintro _ w ⟨rfl, b', q', hq', hS⟩
    replace hS := hbk hS
    clear hc hr hw hbk
    repeat (first | (refine G_id ?_; first | refine G_nil ?_) | (refine E_id ?_; first | refine E_blk_n ?_ | refine E_end0 rfl (Ret.mk ?_)))
    exact ⟨rfl, b', q', hq', hS.took⟩
  | txt t =>
    obtain ⟨a, c, hy, hb⟩ := hy
    have hy : cs = [.int .i64 1, .int .i64 0, .slice a t.length c, .slice none 0 0] := hy
    subst hy
    have e : s ++ encL (.txt t) = (s ++ (Lib.itoa (t.length : Nat) ++ [58])) ++ t := by simp [encL]
    have hl2 := congrArg List.length e
    rw [List.length_append] at hl2
    rw [e]
    rw [hl2] at hl
    simp only [List.length_append, List.length_cons, List.length_nil] at hl
    refine calls_C Tryd.func48 rfl Tryd.ntmps48 rfl ?_
    repeat (first | (refine G_id ?_; first | refine G_nil ?_ | refine G_plain rfl rfl ?_) | (refine X_id ?_; first | (refine X_callq 60 rfl rfl rfl rfl rfl hS (itoa_ (t.length : Nat) _ _ (hG.at_ hS) (by omega) (by omega)) ?_; rintro _ _ rfl hS) | refine X_yl (Yl_move rfl rfl) rfl rfl ?_ | refine X_yl (Yl_assign rfl rfl) rfl rfl ?_ | refine X_yl (Yl_fieldAddr0 rfl rfl rfl) rfl rfl ?_ | refine X_yl (Yl_len rfl rfl) rfl rfl ?_ | refine X_yl (Yl_eql_t rfl rfl rfl (by omega)) rfl rfl ?_ | refine X_yl (Yl_eql_f rfl rfl rfl (by omega)) rfl rfl ?_ | refine X_yl (Yl_load rfl rfl hS.cell) rfl rfl ?_ | refine X_box rfl rfl rfl rfl hS (fun _ _ hS _ => ?_) | refine X_yl (Yl_addStr rfl rfl rfl (by first | omega | (simp; omega))) rfl rfl ?_ | refine X_strBytes rfl rfl rfl rfl hS (fun _ _ _ hS _ => ?_)) | (refine C_id ?_; first | refine C_seq ?_ | refine C_region ?_ | refine C_block ?_ | refine C_cond_t rfl ?_ | refine C_cond_f rfl ?_) | (refine E_id ?_; first | refine E_code ?_))
    obtain ⟨_, hc, hr, hw, hbk⟩ := hS.call [false, false, true, true]
    refine X_callg _ rfl rfl rfl rfl rfl (put_ p b q s _ _ _ _ _ _ hq rfl hc (hr _ (List.mem_cons_self ..)) (by simp; omega)) ?_
    rintro _ w ⟨rfl, b', q', hq', hS⟩
    replace hS := hbk hS
    clear hc hr hw hbk
    repeat (first | (refine G_id ?_; first | refine G_nil ?_ | refine G_plain rfl rfl ?_) | (refine X_id ?_; first | refine X_yl (Yl_move rfl rfl) rfl rfl ?_ | refine X_yl (Yl_fieldAddr0 rfl rfl rfl) rfl rfl ?_ | refine X_yl (Yl_load rfl rfl hS.cell) rfl rfl ?_) | (refine C_id ?_; first | refine C_region ?_) | (refine E_id ?_; first | refine E_code ?_))
    obtain ⟨_, hc, hr, hw, hbk⟩ := hS.call [true, true, false, false]
    refine X_callg _ rfl rfl rfl rfl rfl (put_ p b' q' _ a t c t.length _ _ hq' rfl hc (hw _ hb) (by simp; omega)) ?_
    rintro _ w ⟨rfl, b2, q2, hq2, hS⟩
    replace hS := hbk hS
    clear hc hr hw hbk
    repeat (first | (refine G_id ?_; first | refine G_nil ?_) | (refine E_id ?_; first | refine E_blk_n ?_ | refine E_end0 rfl (Ret.mk ?_)))
    exact ⟨rfl, b2, q2, hq2, hS.took⟩
theorem wlist_ (p : Nat) (b : Option Addr) (q : Nat) (s : List UInt8) (a : Option Addr) (x : List Leaf) (c : Nat) (rows : List (List Value)) (W : World) (F : Nat → Prop) (hq : s.length ≤ q) (hr0 : Ro W F (row a rows.flatten)) (hx : Leaves W F x rows) (hfit : ∀ y ∈ x, y.fits) (hxl : x.length ≤ 1024) (hS : St W F (Wt p b q s) W) (hl : s.length + (encT x).length ≤ 131072) (hG : Lg W F) :
    Calls Tryd.prog 48 #[.pointer (some ⟨p, 0, none⟩), .agg (List.toArray [.int .i64 2, .int .i64 0, .slice none 0 0, .slice a x.length c])] W (Ret fun v w => (v = .tuple #[] ∧ ∃ b' q', (s ++ encT x).length ≤ q' ∧ St W F (Wt p b' q' (s ++ encT x)) w)) := by
  have e : s ++ encT x = ((s ++ [40]) ++ encs x) ++ [41] := by simp [encT]
  have hl2 := congrArg List.length e
  rw [List.length_append] at hl2
  rw [e]
  rw [hl2] at hl
  simp only [List.length_append, List.length_cons, List.length_nil] at hl
  refine calls_C Tryd.func48 rfl Tryd.ntmps48 rfl ?_
  repeat (first | (refine G_id ?_; first | refine G_nil ?_ | refine G_plain rfl rfl ?_) | (refine X_id ?_; first | refine X_yl (Yl_move rfl rfl) rfl rfl ?_ | refine X_yl (Yl_assign rfl rfl) rfl rfl ?_ | refine X_yl (Yl_fieldAddr0 rfl rfl rfl) rfl rfl ?_ | refine X_yl (Yl_eql_t rfl rfl rfl (by omega)) rfl rfl ?_ | refine X_yl (Yl_eql_f rfl rfl rfl (by omega)) rfl rfl ?_ | refine X_yl (Yl_load rfl rfl hS.cell) rfl rfl ?_ | refine X_box rfl rfl rfl rfl hS (fun _ _ hS _ => ?_) | refine X_buildSlice rfl rfl rfl rfl rfl rfl rfl rfl hS (fun _ _ hS _ => ?_)) | (refine C_id ?_; first | refine C_seq ?_ | refine C_region ?_ | refine C_block ?_ | refine C_cond_t rfl ?_ | refine C_cond_f rfl ?_) | (refine E_id ?_; first | refine E_code ?_))
  obtain ⟨_, hc, hr, hw, hbk⟩ := hS.call [false, false, true, true]
  refine X_callg _ rfl rfl rfl rfl rfl (put_ p b q s _ [40] _ _ _ _ hq rfl hc (hr _ (List.mem_cons_self ..)).own_row (by simp; omega)) ?_
  rintro _ w ⟨rfl, b', q', hq', hS⟩
  replace hS := hbk hS
  clear hc hr hw hbk
  repeat (first | (refine G_id ?_; first | refine G_nil ?_ | refine G_plain rfl rfl ?_) | (refine X_id ?_; first | refine X_yl (Yl_move rfl rfl) rfl rfl ?_ | refine X_yl (Yl_fieldAddr0 rfl rfl rfl) rfl rfl ?_ | refine X_yl (Yl_len rfl rfl) rfl rfl ?_ | refine X_yl (Yl_load rfl rfl hS.cell) rfl rfl ?_) | (refine C_id ?_; first | refine C_seq ?_ | refine C_region ?_ | refine C_block ?_) | (refine E_id ?_; first | refine E_code ?_))
  refine C_loop (α := Nat × Option Addr × Nat) (fun z => [(0, .pointer (some ⟨p, 0, none⟩)), (38, .slice a x.length c), (39, .int .i64 (x.length : Nat)), (40, .int .i64 (z.1 : Nat))])
    (fun z w => z.1 ≤ x.length ∧ ((s ++ [40]) ++ encs (x.take z.1)).length ≤ z.2.2 ∧ St W F (Wt p z.2.1 z.2.2 ((s ++ [40]) ++ encs (x.take z.1))) w) (fun z => x.length - z.1) (0, b', q') ⟨rfl, rfl, rfl, rfl, trivial⟩ ⟨Nat.zero_le _, by simpa [encs_nil] using hq', by rw [List.take_zero, encs_nil, List.append_nil]; exact hS.took⟩ ?_
  clear hS
  rintro ⟨i, b2, q2⟩ w ⟨hi, hq2, hS2⟩
  simp only at hi hq2 hS2
  by_cases hlt : i < x.length
  · obtain ⟨y, hyx⟩ : ∃ y, y = x[i] := ⟨_, rfl⟩
    have hy0 : x[i]? = some y := by rw [hyx]; exact List.getElem?_eq_getElem hlt
    have hymem : y ∈ x := List.mem_of_getElem? hy0
    obtain ⟨cs, hxs, hy⟩ := hx.at_ hy0
    obtain ⟨k1, k2, a1, n1, c1, a2, n2, c2, rfl⟩ := hy.lit
    have hr := hr0
    obtain ⟨ab, ao, rfl⟩ := hr.start.base (by
      intro e
      rw [e] at hxs
      simp at hxs)
    have htk : encs (x.take (i + 1)) = encs (x.take i) ++ encL y := by
      rw [List.take_succ_eq_append_getElem hlt, ← hyx, encs_snoc]
    have hle : (encs (x.take (i + 1))).length ≤ (encs x).length := by
      have := congrArg List.length (congrArg encs (List.take_append_drop (i + 1) x))
      simp only [encs, List.map_append, List.flatten_append, List.length_append] at this ⊢
      omega
    rw [htk, List.length_append] at hle
    have hS := hS2
    repeat (first | (refine G_id ?_; first | refine G_nil ?_ | refine G_plain rfl rfl ?_) | (refine X_id ?_; first | refine X_yl (Yl_move rfl rfl) rfl rfl ?_ | refine X_yl (Yl_lss_t rfl rfl rfl (by omega)) rfl rfl ?_ | refine X_yl (Yl_indexAddr rfl rfl rfl (by omega) (by omega) (by first | assumption | exact ⟨_, _, rfl⟩)) rfl rfl ?_ | refine X_yl (Yl_loadN rfl rfl hS.cellsN) rfl rfl ?_ | refine X_yl (Yl_loadN rfl rfl ((hr.rd hS).cellsX (by omega) hxs rfl)) rfl rfl ?_ | refine X_store rfl rfl rfl rfl hS (fun _ hS _ => ?_) | refine X_alloc rfl rfl rfl hS (fun _ _ hS _ => ?_)) | (refine C_id ?_; first | refine C_seq ?_ | refine C_region ?_ | refine C_block ?_ | refine C_skip ?_ | refine C_cond_t rfl ?_) | (refine E_id ?_; first | refine E_code ?_))
    obtain ⟨_, hc, hr, hw, hbk⟩ := hS.call [false, true, true]
    refine X_callg _ rfl rfl rfl rfl rfl (wleaf_ p b2 q2 _ y _ _ _ hq2 (hy.mono hw) (hfit y hymem) hc (by simp; omega) (hG.mono hw)) ?_
    rintro _ w ⟨rfl, b3, q3, hq3, hS⟩
    replace hS := hbk hS
    clear hc hr hw hbk
    repeat (first | (refine G_id ?_; first | refine G_nil ?_ | refine G_plain rfl rfl ?_) | (refine X_id ?_; first | refine X_yl (Yl_move rfl rfl) rfl rfl ?_ | refine X_yl (Yl_add rfl rfl rfl (w64 (by omega) (by omega))) rfl rfl ?_) | (refine C_id ?_; first | refine C_region ?_) | (refine E_id ?_; first | refine E_code ?_ | refine E_blk_n ?_))
    refine E_round (z := (i, b2, q2)) (i + 1, b3, q3) ⟨rfl, rfl, rfl, rfl, trivial⟩ ⟨hlt, ?_, ?_⟩ (by dsimp only; omega)
    · rw [htk, ← List.append_assoc]; exact hq3
    · rw [htk, ← List.append_assoc]; exact hS.took
  · obtain rfl : i = x.length := by omega
    have hS := hS2
    rw [List.take_length] at hS hq2
    repeat (first | (refine G_id ?_; first | refine G_nil ?_ | refine G_plain rfl rfl ?_) | (refine X_id ?_; first | refine X_yl (Yl_move rfl rfl) rfl rfl ?_ | refine X_yl (Yl_lss_f rfl rfl rfl (by omega)) rfl rfl ?_ | refine X_buildSlice rfl rfl rfl rfl rfl rfl rfl rfl hS (fun _ _ hS _ => ?_)) | (refine C_id ?_; first | refine C_seq ?_ | refine C_region ?_ | refine C_exit ?_ | refine C_cond_f rfl ?_) | (refine E_id ?_; first | refine E_code ?_ | refine E_then_exit ?_ | refine E_blk_same ?_))
    obtain ⟨_, hc, hr, hw, hbk⟩ := hS.call [false, true, true]
    refine X_callg _ rfl rfl rfl rfl rfl (put_ p b2 q2 _ _ [41] _ _ _ _ hq2 rfl hc (hr _ (List.mem_cons_self ..)).own_row (by simp; omega)) ?_
    rintro _ w ⟨rfl, b3, q3, hq3, hS⟩
    replace hS := hbk hS
    clear hc hr hw hbk
    repeat (first | (refine G_id ?_; first | refine G_nil ?_) | (refine E_id ?_; first | refine E_blk_n ?_ | refine E_end0 rfl (Ret.mk ?_)))
    exact ⟨rfl, b3, q3, hq3, hS.took⟩
end Cr
namespace Cr
open Go Go.Proofs
set_option maxRecDepth 100000
set_option maxHeartbeats 4000000
attribute [local irreducible] Calls

theorem encode_ (a : Option Addr) (x : List Leaf) (c : Nat) (rows : List (List Value)) (W : World) (hr0 : Ro W noF (row a rows.flatten)) (hx : Leaves W noF x rows) (hfit : ∀ y ∈ x, y.fits) (hxl : x.length ≤ 1024) (hl : (encT x).length ≤ 131072) (hG : Lg W noF) :
    Calls Tryd.prog 28 #[.agg (List.toArray [.int .i64 2, .int .i64 0, .slice none 0 0, .slice a x.length c])] W (Ret fun v w => ∃ b q, v = .tuple #[.slice b (encT x).length q, .int .i64 0] ∧ (encT x).length ≤ q ∧ St W noF [own 5 1 b q (bv (encT x))] w) := by
  have hS := St.start W
  have hne : Leaf.oth ∉ x := fun h => hfit _ h
  have hck := fun W h1 h2 => check_list a x c rows W h1 h2 hne hxl
  refine calls_C Tryd.func28 rfl Tryd.ntmps28 rfl ?_
  repeat (first | (refine G_id ?_; first | refine G_nil ?_ | refine G_plain rfl rfl ?_) | (refine X_id ?_; first | (refine X_callq 47 rfl rfl rfl rfl rfl hS (hck _ (hr0.rd hS).ro (hx.mono fun r h => (h.rd hS).ro)) ?_; rintro _ _ rfl hS) | refine X_yl (Yl_move rfl rfl) rfl rfl ?_ | refine X_yl (Yl_assign rfl rfl) rfl rfl ?_ | refine X_yl (Yl_neq_f rfl rfl rfl (by omega)) rfl rfl ?_ | refine X_yl (Yl_build rfl rfl rfl) rfl rfl ?_ | refine X_yl (Yl_loadN rfl rfl hS.cellsN) rfl rfl ?_ | refine X_box rfl rfl rfl rfl hS (fun _ _ hS _ => ?_)) | (refine C_id ?_; first | refine C_seq ?_ | refine C_region ?_ | refine C_skip ?_ | refine C_cond_f rfl ?_) | (refine E_id ?_; first | refine E_code ?_))
  rename_i p _ _
  replace hS := hS.head (r' := pts p (.cells (List.toArray [.slice none 0 0, .bool false]) 97 (0, 0))) (fun _ h => h)
  replace hS := hS.own_none 5 1 none
  have hS := hS.pick [1, 0, 0]
  obtain ⟨_, hc, hr, hw, hbk⟩ := hS.call [true, true, false]
  refine X_callg _ rfl rfl rfl rfl rfl (wlist_ p none 0 [] a x c rows _ _ (Nat.le_refl _) (hw _ hr0) (hx.mono hw) hfit hxl hc (by simpa using hl) (hG.mono hw)) ?_
  rintro _ w ⟨rfl, b, q, hq, hS⟩
  replace hS := hbk hS
  clear hc hr hw hbk
  rw [List.nil_append] at hS hq
  repeat (first | (refine G_id ?_; first | refine G_nil ?_ | refine G_plain rfl rfl ?_) | (refine X_id ?_; first | refine X_yl (Yl_move rfl rfl) rfl rfl ?_ | refine X_yl (Yl_assign rfl rfl) rfl rfl ?_ | refine X_yl (Yl_nilCheck rfl rfl) rfl rfl ?_ | refine X_yl (Yl_fieldAddr0 rfl rfl rfl) rfl rfl ?_ | refine X_yl (Yl_load rfl rfl hS.cell) rfl rfl ?_) | (refine C_id ?_; first | refine C_seq ?_ | refine C_region ?_ | refine C_ret ?_ | refine C_skip ?_ | refine C_cond_f rfl ?_) | (refine E_id ?_; first | refine E_code ?_ | refine E_ret2 rfl (Rv_tmp rfl) (Rv_tmp rfl) (Ret.mk ?_)))
  refine ⟨b, q, rfl, hq, ?_⟩
  have hS := hS.pick [1]
  exact hS
end Cr
namespace Cr
open Go Go.Proofs
set_option maxRecDepth 100000
set_option maxHeartbeats 4000000
attribute [local irreducible] Calls

theorem abytes_bad (r : Rec) (W : World) (hT : Sp W noF) (hbad : rchk r ≠ 0) : Calls Tryd.prog 19 #[.agg r.cells.toArray] W (Ret fun v w => v = .tuple #[.slice none 0 0, .int .i64 (rchk r : Nat)] ∧ St W noF [] w) := by
  have hS := St.start W
  have hC := fun W h => check_ r W h
  generalize rchk r = n at hC hbad ⊢
  refine calls_C Tryd.func19 rfl Tryd.ntmps19 rfl ?_
  repeat (first | (refine G_id ?_; first | refine G_nil ?_ | refine G_plain rfl rfl ?_) | (refine X_id ?_; first | (refine X_callq 21 rfl rfl rfl rfl rfl hS (hC _ (hT.at_ hS)) ?_; rintro _ _ rfl hS) | refine X_yl (Yl_move rfl rfl) rfl rfl ?_ | refine X_yl (Yl_assign rfl rfl) rfl rfl ?_ | refine X_yl (Yl_neq_t rfl rfl rfl (by omega)) rfl rfl ?_ | refine X_yl (Yl_loadN rfl rfl hS.cellsN) rfl rfl ?_ | refine X_box rfl rfl rfl rfl hS (fun _ _ hS _ => ?_)) | (refine C_id ?_; first | refine C_seq ?_ | refine C_region ?_ | refine C_ret ?_ | refine C_cond_t rfl ?_) | (refine E_id ?_; first | refine E_code ?_ | refine E_then_ret ?_ | refine E_ret2 rfl (Rv_tmp rfl) (Rv_tmp rfl) (Ret.mk ?_)))
  exact ⟨rfl, hS.drops⟩
theorem leaves5 {W : World} {F : Nat → Prop} {y0 y1 y2 y3 y4 : Leaf} {c0 c1 c2 c3 c4 : List Value} (h0 : LeafRo W F y0 c0) (h1 : LeafRo W F y1 c1) (h2 : LeafRo W F y2 c2) (h3 : LeafRo W F y3 c3) (h4 : LeafRo W F y4 c4) : Leaves W F [y0, y1, y2, y3, y4] [c0, c1, c2, c3, c4] := by
  refine ⟨rfl, fun i y hy => ?_⟩
  have hi : i < 5 := (List.getElem?_eq_some_iff.1 hy).1
  have hc : i = 0 ∨ i = 1 ∨ i = 2 ∨ i = 3 ∨ i = 4 := by omega
  rcases hc with rfl | rfl | rfl | rfl | rfl
  · obtain rfl := Option.some.inj hy; exact ⟨_, rfl, h0⟩
  · obtain rfl := Option.some.inj hy; exact ⟨_, rfl, h1⟩
  · obtain rfl := Option.some.inj hy; exact ⟨_, rfl, h2⟩
  · obtain rfl := Option.some.inj hy; exact ⟨_, rfl, h3⟩
  · obtain rfl := Option.some.inj hy; exact ⟨_, rfl, h4⟩
theorem abytes_ok (r : Rec) (W : World) (hG : Lg W noF) (hT : Sp W noF) (hok : rchk r = 0) : Calls Tryd.prog 19 #[.agg r.cells.toArray] W (Ret fun v w => ∃ b q, v = .tuple #[.slice b (encT r.leaves).length q, .int .i64 0] ∧ (encT r.leaves).length ≤ q ∧ St W noF [own 5 1 b q (bv (encT r.leaves))] w) := by
  have hS := St.start W
  have hfit := rchk_fits hok
  have hC := fun W h => check_ r W h
  rw [hok] at hC
  have hlen := rec_enc hfit
  refine calls_C Tryd.func19 rfl Tryd.ntmps19 rfl ?_
  repeat (first | (refine G_id ?_; first | refine G_nil ?_ | refine G_plain rfl rfl ?_) | (refine X_id ?_; first | (refine X_callq 21 rfl rfl rfl rfl rfl hS (hC _ (hT.at_ hS)) ?_; rintro _ _ rfl hS) | refine X_yl (Yl_move rfl rfl) rfl rfl ?_ | refine X_yl (Yl_assign rfl rfl) rfl rfl ?_ | refine X_yl (Yl_neq_f rfl rfl rfl (by omega)) rfl rfl ?_ | refine X_yl (Yl_loadN rfl rfl hS.cellsN) rfl rfl ?_ | refine X_box rfl rfl rfl rfl hS (fun _ _ hS _ => ?_)) | (refine C_id ?_; first | refine C_seq ?_ | refine C_region ?_ | refine C_skip ?_ | refine C_cond_f rfl ?_) | (refine E_id ?_; first | refine E_code ?_))
  refine C_ord (.s 0 (.s 1 (.s 3 (.s 4 (.s 6 (.s 7 (.s 9 (.s 10 (.s 12 (.s 13 (.h 2 (.h 5 (.h 8 (.h 11 (.h 14 (.h 15 (.h 16 (.h 17 (.s 18 (.s 19 (.s 20 (.s 21 .nil)))) .no) .no) .no) .no) .no) .no) .no) .no))))))))))) mixed (by kernel_rfl) rfl ?_
  have hS := hS.drew
  repeat (first | (refine GO_id ?_; first | refine GO_pure rfl rfl (fun _ => Yl_fieldAddr0 rfl rfl rfl) rfl rfl ?_ | refine GO_read (fun w' => w'.cell? _ = some _) rfl rfl hS.cell (fun _ hc => Yl_load rfl rfl hc) rfl rfl ?_ | refine GO_hard rfl rfl ?_))
  refine X_callg _ rfl rfl rfl rfl rfl (text_ r.cmd _) ?_
  rintro _ w ⟨b1, q1, rfl, hS'⟩
  replace hS := hS.plus hS'
  clear hS'
  repeat (first | (refine GO_id ?_; first | refine GO_hard rfl rfl ?_) | (refine Keep_id ?_; first | refine And.intro (by repeat (first | exact trivial | refine And.intro (.inl (by decide +kernel)) ?_ | refine And.intro (.inr (by first | assumption | exact hS.cell | exact cell_at (by assumption) | exact hS.cellI (by omega) | exact hS.cellIP (by omega) | exact hS.cellsN | exact ((hr.rd hS).cellX (by omega) hx) | exact ((hr2.rd hS).cellX (by omega) hx2) | exact hS.cellB (by omega) | exact hS.cellBA (by omega) | exact (hb.rd hS).cellB' (by omega) | exact (hb2.rd hS).cellB' (by omega) | exact (hg.rd hS).cellI (by omega) | exact (hg2.rd hS).cellI (by omega) | exact ((hr.rd hS).cellF (by first | omega | (dsimp only; omega)) hx) | exact ((hr2.rd hS).cellF (by first | omega | (dsimp only; omega)) hx2) | exact hS.cellO 0 (by omega) | exact hS.cellO 1 (by omega) | exact hS.cellIA (by omega) | exact (hg.rd hS).cellIA (by omega) | exact (hg2.rd hS).cellIA (by omega) | exact cell_at (hc.rd hS).pts | exact hb.rd hS | exact hS.cellO 4 (by omega) | exact hS.cellO 5 (by omega) | exact hS.cellO 6 (by omega) | exact hS.cellO 7 (by omega) | exact hS.cellO 8 (by omega) | exact hS.cellO 9 (by omega) | exact hS.cellO 10 (by omega) | exact hS.cellO 11 (by omega) | exact hS.cellO 12 (by omega) | exact hS.cellO 13 (by omega))) ?_)) ?_))
  refine X_callg _ rfl rfl rfl rfl rfl (text_ r.pub _) ?_
  rintro _ w ⟨b2, q2, rfl, hS'⟩
  replace hS := hS.plus hS'
  clear hS'
  repeat (first | (refine GO_id ?_; first | refine GO_hard rfl rfl ?_) | (refine Keep_id ?_; first | refine And.intro (by repeat (first | exact trivial | refine And.intro (.inl (by decide +kernel)) ?_ | refine And.intro (.inr (by first | assumption | exact hS.cell | exact cell_at (by assumption) | exact hS.cellI (by omega) | exact hS.cellIP (by omega) | exact hS.cellsN | exact ((hr.rd hS).cellX (by omega) hx) | exact ((hr2.rd hS).cellX (by omega) hx2) | exact hS.cellB (by omega) | exact hS.cellBA (by omega) | exact (hb.rd hS).cellB' (by omega) | exact (hb2.rd hS).cellB' (by omega) | exact (hg.rd hS).cellI (by omega) | exact (hg2.rd hS).cellI (by omega) | exact ((hr.rd hS).cellF (by first | omega | (dsimp only; omega)) hx) | exact ((hr2.rd hS).cellF (by first | omega | (dsimp only; omega)) hx2) | exact hS.cellO 0 (by omega) | exact hS.cellO 1 (by omega) | exact hS.cellIA (by omega) | exact (hg.rd hS).cellIA (by omega) | exact (hg2.rd hS).cellIA (by omega) | exact cell_at (hc.rd hS).pts | exact hb.rd hS | exact hS.cellO 4 (by omega) | exact hS.cellO 5 (by omega) | exact hS.cellO 6 (by omega) | exact hS.cellO 7 (by omega) | exact hS.cellO 8 (by omega) | exact hS.cellO 9 (by omega) | exact hS.cellO 10 (by omega) | exact hS.cellO 11 (by omega) | exact hS.cellO 12 (by omega) | exact hS.cellO 13 (by omega))) ?_)) ?_))
  refine X_callg _ rfl rfl rfl rfl rfl (text_ r.pkg _) ?_
  rintro _ w ⟨b3, q3, rfl, hS'⟩
  replace hS := hS.plus hS'
  clear hS'
  repeat (first | (refine GO_id ?_; first | refine GO_hard rfl rfl ?_) | (refine Keep_id ?_; first | refine And.intro (by repeat (first | exact trivial | refine And.intro (.inl (by decide +kernel)) ?_ | refine And.intro (.inr (by first | assumption | exact hS.cell | exact cell_at (by assumption) | exact hS.cellI (by omega) | exact hS.cellIP (by omega) | exact hS.cellsN | exact ((hr.rd hS).cellX (by omega) hx) | exact ((hr2.rd hS).cellX (by omega) hx2) | exact hS.cellB (by omega) | exact hS.cellBA (by omega) | exact (hb.rd hS).cellB' (by omega) | exact (hb2.rd hS).cellB' (by omega) | exact (hg.rd hS).cellI (by omega) | exact (hg2.rd hS).cellI (by omega) | exact ((hr.rd hS).cellF (by first | omega | (dsimp only; omega)) hx) | exact ((hr2.rd hS).cellF (by first | omega | (dsimp only; omega)) hx2) | exact hS.cellO 0 (by omega) | exact hS.cellO 1 (by omega) | exact hS.cellIA (by omega) | exact (hg.rd hS).cellIA (by omega) | exact (hg2.rd hS).cellIA (by omega) | exact cell_at (hc.rd hS).pts | exact hb.rd hS | exact hS.cellO 4 (by omega) | exact hS.cellO 5 (by omega) | exact hS.cellO 6 (by omega) | exact hS.cellO 7 (by omega) | exact hS.cellO 8 (by omega) | exact hS.cellO 9 (by omega) | exact hS.cellO 10 (by omega) | exact hS.cellO 11 (by omega) | exact hS.cellO 12 (by omega) | exact hS.cellO 13 (by omega))) ?_)) ?_))
  refine X_callg _ rfl rfl rfl rfl rfl (int_ r.rev _) ?_
  rintro _ w ⟨rfl, hS'⟩
  replace hS := hS.plus hS'
  clear hS'
  repeat (first | (refine GO_id ?_; first | refine GO_hard rfl rfl ?_) | (refine Keep_id ?_; first | refine And.intro (by repeat (first | exact trivial | refine And.intro (.inl (by decide +kernel)) ?_ | refine And.intro (.inr (by first | assumption | exact hS.cell | exact cell_at (by assumption) | exact hS.cellI (by omega) | exact hS.cellIP (by omega) | exact hS.cellsN | exact ((hr.rd hS).cellX (by omega) hx) | exact ((hr2.rd hS).cellX (by omega) hx2) | exact hS.cellB (by omega) | exact hS.cellBA (by omega) | exact (hb.rd hS).cellB' (by omega) | exact (hb2.rd hS).cellB' (by omega) | exact (hg.rd hS).cellI (by omega) | exact (hg2.rd hS).cellI (by omega) | exact ((hr.rd hS).cellF (by first | omega | (dsimp only; omega)) hx) | exact ((hr2.rd hS).cellF (by first | omega | (dsimp only; omega)) hx2) | exact hS.cellO 0 (by omega) | exact hS.cellO 1 (by omega) | exact hS.cellIA (by omega) | exact (hg.rd hS).cellIA (by omega) | exact (hg2.rd hS).cellIA (by omega) | exact cell_at (hc.rd hS).pts | exact hb.rd hS | exact hS.cellO 4 (by omega) | exact hS.cellO 5 (by omega) | exact hS.cellO 6 (by omega) | exact hS.cellO 7 (by omega) | exact hS.cellO 8 (by omega) | exact hS.cellO 9 (by omega) | exact hS.cellO 10 (by omega) | exact hS.cellO 11 (by omega) | exact hS.cellO 12 (by omega) | exact hS.cellO 13 (by omega))) ?_)) ?_))
  refine X_callg _ rfl rfl rfl rfl rfl (int_ r.out _) ?_
  rintro _ w ⟨rfl, hS'⟩
  replace hS := hS.plus hS'
  clear hS'
  repeat (first | (refine X_id ?_; first | refine X_buildSlice rfl rfl rfl rfl rfl rfl rfl rfl hS (fun _ _ hS _ => ?_)) | (refine GO_id ?_; first | refine GO_hard rfl rfl ?_) | (refine Keep_id ?_; first | refine And.intro (by repeat (first | exact trivial | refine And.intro (.inl (by decide +kernel)) ?_ | refine And.intro (.inr (by first | assumption | exact hS.cell | exact cell_at (by assumption) | exact hS.cellI (by omega) | exact hS.cellIP (by omega) | exact hS.cellsN | exact ((hr.rd hS).cellX (by omega) hx) | exact ((hr2.rd hS).cellX (by omega) hx2) | exact hS.cellB (by omega) | exact hS.cellBA (by omega) | exact (hb.rd hS).cellB' (by omega) | exact (hb2.rd hS).cellB' (by omega) | exact (hg.rd hS).cellI (by omega) | exact (hg2.rd hS).cellI (by omega) | exact ((hr.rd hS).cellF (by first | omega | (dsimp only; omega)) hx) | exact ((hr2.rd hS).cellF (by first | omega | (dsimp only; omega)) hx2) | exact hS.cellO 0 (by omega) | exact hS.cellO 1 (by omega) | exact hS.cellIA (by omega) | exact (hg.rd hS).cellIA (by omega) | exact (hg2.rd hS).cellIA (by omega) | exact cell_at (hc.rd hS).pts | exact hb.rd hS | exact hS.cellO 4 (by omega) | exact hS.cellO 5 (by omega) | exact hS.cellO 6 (by omega) | exact hS.cellO 7 (by omega) | exact hS.cellO 8 (by omega) | exact hS.cellO 9 (by omega) | exact hS.cellO 10 (by omega) | exact hS.cellO 11 (by omega) | exact hS.cellO 12 (by omega) | exact hS.cellO 13 (by omega))) ?_)) ?_))
  have hrow := (hS.rd (List.mem_cons_self ..)).own_row.ro
  have hL := leaves5 (hS.rd (r := leafR (.txt r.cmd) [.int .i64 1, .int .i64 0, .slice b1 r.cmd.length q1, z0]) (by simp)).ro.leaf (hS.rd (r := leafR (.txt r.pub) [.int .i64 1, .int .i64 0, .slice b2 r.pub.length q2, z0]) (by simp)).ro.leaf (hS.rd (r := leafR (.txt r.pkg) [.int .i64 1, .int .i64 0, .slice b3 r.pkg.length q3, z0]) (by simp)).ro.leaf (hS.rd (r := leafR (.num r.rev) [.int .i64 0, .int .i64 r.rev, z0, z0]) (by simp)).ro.leaf (hS.rd (r := leafR (.num r.out) [.int .i64 0, .int .i64 r.out, z0, z0]) (by simp)).ro.leaf
  refine X_callg _ rfl rfl rfl rfl rfl (of_ _ r.leaves 5 [[.int .i64 1, .int .i64 0, .slice b1 r.cmd.length q1, z0], [.int .i64 1, .int .i64 0, .slice b2 r.pub.length q2, z0], [.int .i64 1, .int .i64 0, .slice b3 r.pkg.length q3, z0], [.int .i64 0, .int .i64 r.rev, z0, z0], [.int .i64 0, .int .i64 r.out, z0, z0]] _ hrow hL (by simp [Rec.leaves]) (fun b hb => by have := Rec.fits_leaves hfit _ hb; obtain ⟨f1, f2, f3, _⟩ := hfit; simp [Rec.leaves] at hb; rcases hb with rfl | rfl | rfl <;> omega) (by simp [Rec.leaves])) ?_
  rintro _ w ⟨b5, q5, rows, rfl, hq5, hrl, hS'⟩
  replace hS := hS.plus hS'
  clear hS' hrow hL
  have hrow := (hS.rd (r := own 61 4 b5 q5 rows.flatten) (by simp)).own_row.ro
  have hL := Ro.leaves (hS.rd (r := leavesR r.leaves rows) (by simp)).ro
  repeat (first | (refine GO_id ?_; first | refine GO_hard rfl rfl ?_) | (refine Keep_id ?_; first | refine And.intro (by repeat (first | exact trivial | refine And.intro (.inl (by decide +kernel)) ?_ | refine And.intro (.inr (by first | assumption | exact hS.cell | exact cell_at (by assumption) | exact hS.cellI (by omega) | exact hS.cellIP (by omega) | exact hS.cellsN | exact ((hr.rd hS).cellX (by omega) hx) | exact ((hr2.rd hS).cellX (by omega) hx2) | exact hS.cellB (by omega) | exact hS.cellBA (by omega) | exact (hb.rd hS).cellB' (by omega) | exact (hb2.rd hS).cellB' (by omega) | exact (hg.rd hS).cellI (by omega) | exact (hg2.rd hS).cellI (by omega) | exact ((hr.rd hS).cellF (by first | omega | (dsimp only; omega)) hx) | exact ((hr2.rd hS).cellF (by first | omega | (dsimp only; omega)) hx2) | exact hS.cellO 0 (by omega) | exact hS.cellO 1 (by omega) | exact hS.cellIA (by omega) | exact (hg.rd hS).cellIA (by omega) | exact (hg2.rd hS).cellIA (by omega) | exact cell_at (hc.rd hS).pts | exact hb.rd hS | exact hS.cellO 4 (by omega) | exact hS.cellO 5 (by omega) | exact hS.cellO 6 (by omega) | exact hS.cellO 7 (by omega) | exact hS.cellO 8 (by omega) | exact hS.cellO 9 (by omega) | exact hS.cellO 10 (by omega) | exact hS.cellO 11 (by omega) | exact hS.cellO 12 (by omega) | exact hS.cellO 13 (by omega))) ?_)) ?_))
  refine X_callg _ rfl rfl rfl rfl rfl (encode_ b5 r.leaves q5 rows _ hrow hL (Rec.fits_leaves hfit) (by simp [Rec.leaves]) (by omega) (hG.at_ hS)) ?_
  rintro _ w ⟨b6, q6, rfl, hq6, hS'⟩
  replace hS := hS.plus hS'
  clear hS' hrow hL
  repeat (first | (refine C_id ?_; first | refine C_ret ?_) | (refine E_id ?_; first | refine E_code ?_ | refine E_ret2 rfl (Rv_tmp rfl) (Rv_tmp rfl) (Ret.mk ?_)) | (refine GO_id ?_; first | refine GO_nil ?_ | refine GO_pure rfl rfl (fun _ => Yl_assign rfl rfl) rfl rfl ?_ | refine GO_pure rfl rfl (fun _ => Yl_extract rfl rfl) rfl rfl ?_) | (refine Keep_id ?_; first | refine And.intro (by repeat (first | exact trivial | refine And.intro (.inl (by decide +kernel)) ?_ | refine And.intro (.inr (by first | assumption | exact hS.cell | exact cell_at (by assumption) | exact hS.cellI (by omega) | exact hS.cellIP (by omega) | exact hS.cellsN | exact ((hr.rd hS).cellX (by omega) hx) | exact ((hr2.rd hS).cellX (by omega) hx2) | exact hS.cellB (by omega) | exact hS.cellBA (by omega) | exact (hb.rd hS).cellB' (by omega) | exact (hb2.rd hS).cellB' (by omega) | exact (hg.rd hS).cellI (by omega) | exact (hg2.rd hS).cellI (by omega) | exact ((hr.rd hS).cellF (by first | omega | (dsimp only; omega)) hx) | exact ((hr2.rd hS).cellF (by first | omega | (dsimp only; omega)) hx2) | exact hS.cellO 0 (by omega) | exact hS.cellO 1 (by omega) | exact hS.cellIA (by omega) | exact (hg.rd hS).cellIA (by omega) | exact (hg2.rd hS).cellIA (by omega) | exact cell_at (hc.rd hS).pts | exact hb.rd hS | exact hS.cellO 4 (by omega) | exact hS.cellO 5 (by omega) | exact hS.cellO 6 (by omega) | exact hS.cellO 7 (by omega) | exact hS.cellO 8 (by omega) | exact hS.cellO 9 (by omega) | exact hS.cellO 10 (by omega) | exact hS.cellO 11 (by omega) | exact hS.cellO 12 (by omega) | exact hS.cellO 13 (by omega))) ?_)) ?_))
  exact ⟨b6, q6, rfl, hq6, hS.pick [0]⟩
end Cr
