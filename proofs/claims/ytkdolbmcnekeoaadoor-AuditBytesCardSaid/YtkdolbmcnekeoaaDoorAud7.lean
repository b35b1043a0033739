/-
  audit.Read: the record that bytes say.
  The laws' helper Same: are bytes the same?
  Pairs of texts and records compared, as package command compares them.
  Layer 27's example (known), and the law AuditBytes: for every record it returns true.
  Layer 27's record as an argument, opened.
  The law AuditBytes holds: for every record it returns true, and what is handed reads as it did.
-/
import Derived.Test.YtkdolbmcnekeoaaDoorAud5
import Derived.Test.YtkdolbmcnekeoaaDoorAud6
import Derived.Test.YtkdolbmcnekeoaaDoorAud4
import Derived.Test.YtkdolbmcnekeoaaDoorAud3
import Derived.KernelRfl
import Derived.OpenShut
namespace Cr
open Go Go.Proofs
set_option maxRecDepth 100000
set_option maxHeartbeats 4000000
attribute [local irreducible] Calls

section
variable {P : Program} {o : Oper} {σ : Env} {w : World} {x y : Operand} {t ty : TypeId}
theorem Yl_neqBool {a b : Bool} (ho : o.op = .binOp .neq t x y ty) (hx : ev σ x = some (.bool a)) (hy : ev σ y = some (.bool b)) [h : Und P t .bool] : Yl P o σ w (.bool (!(a == b))) := ⟨fun N ds f ha => by
  have h2 := run_neq_bool (P := P) w t a b h.und
  simp [execOp, ho, ha.eval hx, ha.eval hy, eqGuard, h2]⟩
end
/-- What Read tells. -/
def ARes (W : World) (r : Option Rec) (v : Value) (w : World) : Prop :=
  match r with
  | some r => v = .tuple #[.agg r.cells.toArray, .int .i64 0] ∧ St W noF [] w
  | none => v = .tuple #[.agg zRec.cells.toArray, .int .i64 3] ∧ St W noF [] w
def kindOk (i : Nat) (y : Leaf) : Prop := if i < 3 then ∃ b, y = .txt b else ∃ n, y = .num n
theorem readR_bad {x : List Leaf} {i : Nat} {y : Leaf} (h : x[i]? = some y) (hi : i < 5) (hk : ¬ kindOk i y) : readR (.list x) = none := by
  unfold readR
  split
  · exfalso
    apply hk
    rename_i e
    injection e with e
    subst e
    have hc : i = 0 ∨ i = 1 ∨ i = 2 ∨ i = 3 ∨ i = 4 := by omega
    rcases hc with rfl | rfl | rfl | rfl | rfl
    · exact ⟨_, (Option.some.inj h).symm⟩
    · exact ⟨_, (Option.some.inj h).symm⟩
    · exact ⟨_, (Option.some.inj h).symm⟩
    · exact ⟨_, (Option.some.inj h).symm⟩
    · exact ⟨_, (Option.some.inj h).symm⟩
  · rfl
theorem readR_len {x : List Leaf} (h : x.length ≠ 5) : readR (.list x) = none := by
  unfold readR
  split
  · rename_i e
    injection e with e
    subst e
    exact absurd rfl h
  · rfl
theorem readR_ok {x : List Leaf} (h5 : x.length = 5) (h : ∀ i y, i < 5 → x[i]? = some y → kindOk i y) : ∃ c p k n o, x = [.txt c, .txt p, .txt k, .num n, .num o] := by
  match x, h5, h with
  | [y0, y1, y2, y3, y4], _, h =>
    obtain ⟨c, rfl⟩ := h 0 _ (by omega) rfl
    obtain ⟨p, rfl⟩ := h 1 _ (by omega) rfl
    obtain ⟨k, rfl⟩ := h 2 _ (by omega) rfl
    obtain ⟨n, rfl⟩ := h 3 _ (by omega) rfl
    obtain ⟨o, rfl⟩ := h 4 _ (by omega) rfl
    exact ⟨_, _, _, _, _, rfl⟩
theorem dec_leaf7 {s : List UInt8} {y : Leaf} (h : dec s = some (.leaf y)) : y ≠ .oth := by
  unfold dec at h
  split at h
  · rename_i t hp
    injection h with h
    subst h
    exact (pv_canon hp).2
  · cases h
theorem leaf_kind {W : World} {F : Nat → Prop} {y : Leaf} {cs : List Value} (H : LeafRo W F y cs) (hne : y ≠ .oth) : ∃ k n a1 n1 c1 a2 n2 c2, cs = [.int .i64 k, .int .i64 n, .slice a1 n1 c1, .slice a2 n2 c2] ∧ k ≠ 2 := by
  cases y with
  | oth => exact absurd rfl hne
  | num n => exact ⟨0, n, none, 0, 0, none, 0, 0, H, by decide⟩
  | txt b =>
    obtain ⟨a, c, rfl, _⟩ := H
    exact ⟨1, 0, a, b.length, c, none, 0, 0, rfl, by decide⟩
theorem list5 {α : Type} {l : List α} (h : l.length = 5) : ∃ a b c d e, l = [a, b, c, d, e] := by
  match l, h with
  | [a, b, c, d, e], _ => exact ⟨a, b, c, d, e, rfl⟩
theorem St.open_list {W : World} {F : Nat → Prop} {q : List Res} {w : World} {x : List Leaf} {cs : List Value} (hS : St W F (topR (.list x) cs :: q) w) : ∃ a c, cs = [.int .i64 2, .int .i64 0, .slice none 0 0, .slice a x.length c] ∧ St W F (listR a x :: q) w := by
  have h0 := hS
  obtain ⟨_, ⟨h1, _, ⟨a, c, rfl, _⟩, _⟩, _⟩ := h0
  refine ⟨a, c, rfl, hS.head fun _ h => ?_⟩
  obtain ⟨a', c', e, hl⟩ := h
  injection e with _ e
  injection e with _ e
  injection e with _ e
  injection e with e _
  injection e with e
  rw [e]
  exact hl
theorem aread_ (a : Option Addr) (s : List UInt8) (c : Nat) (hsc : s.length ≤ c) (hl : s.length ≤ 65536) (W : World) (hG : Lg W noF) (hT : Sp W noF) (hb : Ro W noF (bytes a s)) :
    Calls Tryd.prog 23 #[.slice a s.length c] W (Ret fun v w => ARes W ((dec s).bind readR) v w) := by
  have hS := St.start W
  have hD := decode_ a s c hsc (by omega)
  have hleaf := fun y h => dec_leaf7 (s := s) (y := y) h
  generalize dec s = res at hD hleaf ⊢
  refine calls_C Tryd.func23 rfl Tryd.ntmps23 rfl ?_
  repeat (first | (refine G_id ?_; first | refine G_nil ?_ | refine G_plain rfl rfl ?_) | (refine X_id ?_; first | refine X_yl (Yl_move rfl rfl) rfl rfl ?_ | refine X_yl (Yl_assign rfl rfl) rfl rfl ?_ | refine X_alloc rfl rfl rfl hS (fun _ _ hS _ => ?_)) | (refine C_id ?_; first | refine C_seq ?_ | refine C_region ?_) | (refine E_id ?_; first | refine E_code ?_))
  rename_i b2 _ _
  refine X_callg _ rfl rfl rfl rfl rfl (hD _ (hG.at_ hS) (hb.rd hS).ro) ?_
  rintro v w hV
  cases res with
  | none =>
    obtain ⟨e, rfl, he, hS'⟩ := hV
    replace hS := hS.plus hS'
    clear hS'
    repeat (first | (refine G_id ?_; first | refine G_nil ?_ | refine G_plain rfl rfl ?_ | refine G_no rfl rfl rfl rfl rfl rfl ?_) | (refine X_id ?_; first | refine X_yl (Yl_move rfl rfl) rfl rfl ?_ | refine X_yl (Yl_assign rfl rfl) rfl rfl ?_ | refine X_yl (Yl_extract rfl rfl) rfl rfl ?_ | refine X_yl (Yl_pick_t rfl rfl rfl) rfl rfl ?_ | refine X_yl (Yl_neq_t rfl rfl rfl (by omega)) rfl rfl ?_ | refine X_yl (Yl_build rfl rfl rfl) rfl rfl ?_ | refine X_store rfl rfl rfl rfl hS (fun _ hS _ => ?_) | refine X_alloc rfl rfl rfl hS (fun _ _ hS _ => ?_)) | (refine C_id ?_; first | refine C_seq ?_ | refine C_region ?_ | refine C_ret ?_ | refine C_cond_t rfl ?_) | (refine E_id ?_; first | refine E_code ?_ | refine E_then_ret ?_ | refine E_ret2 rfl (by first | exact Rv_tmp rfl | exact Rv_cell rfl (run_load1 hS.cell) | exact Rv_cell rfl (run_loadN hS.cellsN)) (by first | exact Rv_tmp rfl | exact Rv_cell rfl (run_load1 hS.cell) | exact Rv_cell rfl (run_loadN hS.cellsN)) (Ret.mk ?_)))
    exact ⟨rfl, hS.drops⟩
  | some t =>
    obtain ⟨cs, rfl, hS'⟩ := hV
    replace hS := hS.plus hS'
    clear hS'
    cases t with
    | leaf y =>
      have hro : Ro w noF (leafR y cs) := (hS.rd (r := topR (.leaf y) cs) (by simp)).ro
      obtain ⟨k, n, a1, n1, c1, a2, n2, c2, rfl, hk⟩ := leaf_kind hro.leaf (hleaf y rfl)
      clear hro
      repeat (first | (refine G_id ?_; first | refine G_nil ?_ | refine G_plain rfl rfl ?_ | refine G_yes rfl rfl rfl rfl ?_ | refine G_no rfl rfl rfl rfl rfl rfl ?_) | (refine X_id ?_; first | refine X_yl (Yl_move rfl rfl) rfl rfl ?_ | refine X_yl (Yl_assign rfl rfl) rfl rfl ?_ | refine X_yl (Yl_fieldAddr0 rfl rfl rfl) rfl rfl ?_ | refine X_yl (Yl_extract rfl rfl) rfl rfl ?_ | refine X_yl (Yl_pick_t rfl rfl rfl) rfl rfl ?_ | refine X_yl (Yl_pick_f rfl rfl rfl) rfl rfl ?_ | refine X_yl (Yl_neq_t rfl rfl rfl (by omega)) rfl rfl ?_ | refine X_yl (Yl_neq_f rfl rfl rfl (by omega)) rfl rfl ?_ | refine X_yl (Yl_build rfl rfl rfl) rfl rfl ?_ | refine X_yl (Yl_load rfl rfl hS.cell) rfl rfl ?_ | refine X_store rfl rfl rfl rfl hS (fun _ hS _ => ?_) | refine X_alloc rfl rfl rfl hS (fun _ _ hS _ => ?_)) | (refine C_id ?_; first | refine C_seq ?_ | refine C_region ?_ | refine C_ret ?_ | refine C_cond_t rfl ?_) | (refine E_id ?_; first | refine E_code ?_ | refine E_then_ret ?_ | refine E_ret2 rfl (by first | exact Rv_tmp rfl | exact Rv_cell rfl (run_load1 hS.cell) | exact Rv_cell rfl (run_loadN hS.cellsN)) (by first | exact Rv_tmp rfl | exact Rv_cell rfl (run_load1 hS.cell) | exact Rv_cell rfl (run_loadN hS.cellsN)) (Ret.mk ?_)))
      exact ⟨rfl, hS.drops⟩
    | list x =>
      obtain ⟨a2, c2, e2, hS1⟩ := hS.open_list
      subst e2
      clear hS
      have hS := hS1
      clear hS1
      simp only [Option.bind_some]
      by_cases h5 : x.length = 5
      case neg =>
        rw [readR_len h5]
        repeat (first | (refine G_id ?_; first | refine G_nil ?_ | refine G_plain rfl rfl ?_ | refine G_yes rfl rfl rfl rfl ?_) | (refine X_id ?_; first | refine X_yl (Yl_move rfl rfl) rfl rfl ?_ | refine X_yl (Yl_assign rfl rfl) rfl rfl ?_ | refine X_yl (Yl_fieldAddr0 rfl rfl rfl) rfl rfl ?_ | refine X_yl (Yl_extract rfl rfl) rfl rfl ?_ | refine X_yl (Yl_pick_f rfl rfl rfl) rfl rfl ?_ | refine X_yl (Yl_len rfl rfl) rfl rfl ?_ | refine X_yl (Yl_neq_t rfl rfl rfl (by omega)) rfl rfl ?_ | refine X_yl (Yl_neq_f rfl rfl rfl (by omega)) rfl rfl ?_ | refine X_yl (Yl_build rfl rfl rfl) rfl rfl ?_ | refine X_yl (Yl_load rfl rfl hS.cell) rfl rfl ?_ | refine X_store rfl rfl rfl rfl hS (fun _ hS _ => ?_) | refine X_alloc rfl rfl rfl hS (fun _ _ hS _ => ?_)) | (refine C_id ?_; first | refine C_seq ?_ | refine C_region ?_ | refine C_ret ?_ | refine C_cond_t rfl ?_) | (refine E_id ?_; first | refine E_code ?_ | refine E_then_ret ?_ | refine E_ret2 rfl (by first | exact Rv_tmp rfl | exact Rv_cell rfl (run_load1 hS.cell) | exact Rv_cell rfl (run_loadN hS.cellsN)) (by first | exact Rv_tmp rfl | exact Rv_cell rfl (run_load1 hS.cell) | exact Rv_cell rfl (run_loadN hS.cellsN)) (Ret.mk ?_)))
        exact ⟨rfl, hS.drops⟩
      case pos =>
        rw [h5]
        repeat (first | (refine G_id ?_; first | refine G_nil ?_ | refine G_plain rfl rfl ?_ | refine G_yes rfl rfl rfl rfl ?_) | (refine X_id ?_; first | refine X_yl (Yl_move rfl rfl) rfl rfl ?_ | refine X_yl (Yl_assign rfl rfl) rfl rfl ?_ | refine X_yl (Yl_fieldAddr0 rfl rfl rfl) rfl rfl ?_ | refine X_yl (Yl_extract rfl rfl) rfl rfl ?_ | refine X_yl (Yl_pick_f rfl rfl rfl) rfl rfl ?_ | refine X_yl (Yl_len rfl rfl) rfl rfl ?_ | refine X_yl (Yl_neq_f rfl rfl rfl (by omega)) rfl rfl ?_ | refine X_yl (Yl_load rfl rfl hS.cell) rfl rfl ?_ | refine X_store rfl rfl rfl rfl hS (fun _ hS _ => ?_) | refine X_alloc rfl rfl rfl hS (fun _ _ hS _ => ?_)) | (refine C_id ?_; first | refine C_seq ?_ | refine C_region ?_ | refine C_block ?_ | refine C_skip ?_ | refine C_cond_f rfl ?_) | (refine E_id ?_; first | refine E_code ?_))
        clear hD hleaf
        rename_i b4 _ _ _ w1 _
        obtain ⟨F2, hS2, hro, hw, hbk⟩ := hS.call [true, false, true]
        replace hT : Sp w1 F2 := hw _ hT
        obtain ⟨rows, hr, hL⟩ := (hro (listR a2 x) (by simp)).list
        clear hro hS
        have hS := hS2
        clear hS2
        refine C_joinB (α := Unit) (fun _ => [(2, .pointer (some ⟨b2, 0, none⟩)), (4, .pointer (some ⟨b4, 0, none⟩))]) (fun _ w => (∀ i y, i < 5 → x[i]? = some y → kindOk i y) ∧ St w1 F2 [pts b4 (.cells (List.toArray [.int .i64 2, .int .i64 0, .slice none 0 0, .slice a2 5 c2]) 61 (0, 0)), pts b2 (.cells (List.toArray [.string (str []), .string (str []), .string (str []), .int .i64 0, .int .i64 0]) 28 (0, 0))] w) ?_ ?_
        · refine C_loop (α := Nat) (fun i => [(2, .pointer (some ⟨b2, 0, none⟩)), (4, .pointer (some ⟨b4, 0, none⟩)), (29, .slice a2 5 c2), (30, .int .i64 (5 : Nat)), (31, .int .i64 (i : Nat))])
            (fun i w => i ≤ 5 ∧ (∀ j y, j < i → x[j]? = some y → kindOk j y) ∧ St w1 F2 [pts b4 (.cells (List.toArray [.int .i64 2, .int .i64 0, .slice none 0 0, .slice a2 5 c2]) 61 (0, 0)), pts b2 (.cells (List.toArray [.string (str []), .string (str []), .string (str []), .int .i64 0, .int .i64 0]) 28 (0, 0))] w)
            (fun i => 5 - i) 0 ⟨rfl, rfl, rfl, rfl, rfl, trivial⟩ ⟨Nat.zero_le _, fun j y hj => by omega, hS⟩ ?_
          clear hS
          rintro i w ⟨hi, hok, hS⟩
          by_cases hlt : i < 5
          · obtain ⟨y, hy0⟩ : ∃ y, x[i]? = some y := ⟨_, List.getElem?_eq_getElem (by omega)⟩
            obtain ⟨cs, hxs, hy⟩ := hL.at_ hy0
            have hnext : kindOk i y → ∀ j z, j < i + 1 → x[j]? = some z → kindOk j z := fun hk j z hj hz => by
              rcases Nat.lt_or_ge j i with h | h
              · exact hok j z h hz
              · obtain rfl : j = i := by omega
                rw [hy0] at hz
                obtain rfl := Option.some.inj hz
                exact hk
            have hbad : ¬ kindOk i y → readR (.list x) = none := fun hk => readR_bad hy0 hlt hk
            by_cases h3 : i < 3
            · cases y with
              | txt b =>
                obtain ⟨a1, c1, rfl, _⟩ := hy
                obtain ⟨ab, ao, rfl⟩ := hr.start.base (by
                  intro e
                  rw [e] at hxs
                  simp at hxs)
                simp only [z0] at hxs
                repeat (first | (refine G_id ?_; first | refine G_nil ?_ | refine G_plain rfl rfl ?_ | refine G_yes rfl rfl rfl rfl ?_) | (refine X_id ?_; first | refine X_yl (Yl_move rfl rfl) rfl rfl ?_ | refine X_yl (Yl_assign rfl rfl) rfl rfl ?_ | refine X_yl (Yl_fieldAddr0 rfl rfl rfl) rfl rfl ?_ | refine X_yl (Yl_pick_f rfl rfl rfl) rfl rfl ?_ | refine X_yl (Yl_eql_t rfl rfl rfl (by omega)) rfl rfl ?_ | refine X_yl (Yl_eql_f rfl rfl rfl (by omega)) rfl rfl ?_ | refine X_yl (Yl_lss_t rfl rfl rfl (by omega)) rfl rfl ?_ | refine X_yl (Yl_gtr_f rfl rfl rfl (by omega)) rfl rfl ?_ | refine X_yl (Yl_indexAddr rfl rfl rfl (by omega) (by omega) (by first | assumption | exact ⟨_, _, rfl⟩)) rfl rfl ?_ | refine X_yl (Yl_add rfl rfl rfl (w64 (by omega) (by omega))) rfl rfl ?_ | refine X_yl (Yl_load rfl rfl hS.cell) rfl rfl ?_ | refine X_yl (Yl_loadN rfl rfl ((hr.rd hS).cellsX (by omega) hxs rfl)) rfl rfl ?_ | refine X_store rfl rfl rfl rfl hS (fun _ hS _ => ?_) | refine X_alloc rfl rfl rfl hS (fun _ _ hS _ => ?_) | refine X_yl (Yl_neqBool rfl rfl rfl) rfl rfl ?_) | (refine C_id ?_; first | refine C_seq ?_ | refine C_region ?_ | refine C_block ?_ | refine C_skip ?_ | refine C_cond_t rfl ?_ | refine C_cond_f rfl ?_) | (refine E_id ?_; first | refine E_code ?_ | refine E_blk_n ?_))
                exact E_round (z := i) (i + 1) ⟨rfl, rfl, rfl, rfl, rfl, trivial⟩ ⟨hlt, hnext (by unfold kindOk; rw [if_pos h3]; exact ⟨_, rfl⟩), hS.took⟩ (by omega)
              | num n =>
                obtain rfl := hy
                obtain ⟨ab, ao, rfl⟩ := hr.start.base (by
                  intro e
                  rw [e] at hxs
                  simp at hxs)
                simp only [z0] at hxs
                rw [hbad (by unfold kindOk; rw [if_pos h3]; rintro ⟨_, h⟩; cases h)]
                repeat (first | (refine G_id ?_; first | refine G_nil ?_ | refine G_plain rfl rfl ?_ | refine G_no rfl rfl rfl rfl rfl rfl ?_) | (refine X_id ?_; first | refine X_yl (Yl_move rfl rfl) rfl rfl ?_ | refine X_yl (Yl_assign rfl rfl) rfl rfl ?_ | refine X_yl (Yl_fieldAddr0 rfl rfl rfl) rfl rfl ?_ | refine X_yl (Yl_pick_t rfl rfl rfl) rfl rfl ?_ | refine X_yl (Yl_eql_f rfl rfl rfl (by omega)) rfl rfl ?_ | refine X_yl (Yl_lss_t rfl rfl rfl (by omega)) rfl rfl ?_ | refine X_yl (Yl_build rfl rfl rfl) rfl rfl ?_ | refine X_yl (Yl_indexAddr rfl rfl rfl (by omega) (by omega) (by first | assumption | exact ⟨_, _, rfl⟩)) rfl rfl ?_ | refine X_yl (Yl_load rfl rfl hS.cell) rfl rfl ?_ | refine X_yl (Yl_loadN rfl rfl ((hr.rd hS).cellsX (by omega) hxs rfl)) rfl rfl ?_ | refine X_store rfl rfl rfl rfl hS (fun _ hS _ => ?_) | refine X_alloc rfl rfl rfl hS (fun _ _ hS _ => ?_) | refine X_yl (Yl_neqBool rfl rfl rfl) rfl rfl ?_) | (refine C_id ?_; first | refine C_seq ?_ | refine C_region ?_ | refine C_block ?_ | refine C_ret ?_ | refine C_skip ?_ | refine C_cond_t rfl ?_) | (refine E_id ?_; first | refine E_code ?_ | refine E_then_ret ?_ | refine E_blk_ret ?_ | refine E_ret2 rfl (by first | exact Rv_tmp rfl | exact Rv_cell rfl (run_load1 hS.cell) | exact Rv_cell rfl (run_loadN hS.cellsN)) (by first | exact Rv_tmp rfl | exact Rv_cell rfl (run_load1 hS.cell) | exact Rv_cell rfl (run_loadN hS.cellsN)) (Ret.mk ?_)))
                exact ⟨rfl, (hbk hS).drops⟩
              | oth =>
                obtain ⟨a1, n1, c1, rfl⟩ := hy
                obtain ⟨ab, ao, rfl⟩ := hr.start.base (by
                  intro e
                  rw [e] at hxs
                  simp at hxs)
                simp only [z0] at hxs
                rw [hbad (by unfold kindOk; rw [if_pos h3]; rintro ⟨_, h⟩; cases h)]
                repeat (first | (refine G_id ?_; first | refine G_nil ?_ | refine G_plain rfl rfl ?_ | refine G_no rfl rfl rfl rfl rfl rfl ?_) | (refine X_id ?_; first | refine X_yl (Yl_move rfl rfl) rfl rfl ?_ | refine X_yl (Yl_assign rfl rfl) rfl rfl ?_ | refine X_yl (Yl_fieldAddr0 rfl rfl rfl) rfl rfl ?_ | refine X_yl (Yl_pick_t rfl rfl rfl) rfl rfl ?_ | refine X_yl (Yl_eql_f rfl rfl rfl (by omega)) rfl rfl ?_ | refine X_yl (Yl_lss_t rfl rfl rfl (by omega)) rfl rfl ?_ | refine X_yl (Yl_build rfl rfl rfl) rfl rfl ?_ | refine X_yl (Yl_indexAddr rfl rfl rfl (by omega) (by omega) (by first | assumption | exact ⟨_, _, rfl⟩)) rfl rfl ?_ | refine X_yl (Yl_load rfl rfl hS.cell) rfl rfl ?_ | refine X_yl (Yl_loadN rfl rfl ((hr.rd hS).cellsX (by omega) hxs rfl)) rfl rfl ?_ | refine X_store rfl rfl rfl rfl hS (fun _ hS _ => ?_) | refine X_alloc rfl rfl rfl hS (fun _ _ hS _ => ?_) | refine X_yl (Yl_neqBool rfl rfl rfl) rfl rfl ?_) | (refine C_id ?_; first | refine C_seq ?_ | refine C_region ?_ | refine C_block ?_ | refine C_ret ?_ | refine C_skip ?_ | refine C_cond_t rfl ?_) | (refine E_id ?_; first | refine E_code ?_ | refine E_then_ret ?_ | refine E_blk_ret ?_ | refine E_ret2 rfl (by first | exact Rv_tmp rfl | exact Rv_cell rfl (run_load1 hS.cell) | exact Rv_cell rfl (run_loadN hS.cellsN)) (by first | exact Rv_tmp rfl | exact Rv_cell rfl (run_load1 hS.cell) | exact Rv_cell rfl (run_loadN hS.cellsN)) (Ret.mk ?_)))
                exact ⟨rfl, (hbk hS).drops⟩
            · cases y with
              | txt b =>
                obtain ⟨a1, c1, rfl, _⟩ := hy
                obtain ⟨ab, ao, rfl⟩ := hr.start.base (by
                  intro e
                  rw [e] at hxs
                  simp at hxs)
                simp only [z0] at hxs
                rw [hbad (by unfold kindOk; rw [if_neg h3]; rintro ⟨_, h⟩; cases h)]
                repeat (first | (refine G_id ?_; first | refine G_nil ?_ | refine G_plain rfl rfl ?_ | refine G_no rfl rfl rfl rfl rfl rfl ?_) | (refine X_id ?_; first | refine X_yl (Yl_move rfl rfl) rfl rfl ?_ | refine X_yl (Yl_assign rfl rfl) rfl rfl ?_ | refine X_yl (Yl_fieldAddr0 rfl rfl rfl) rfl rfl ?_ | refine X_yl (Yl_pick_t rfl rfl rfl) rfl rfl ?_ | refine X_yl (Yl_eql_t rfl rfl rfl (by omega)) rfl rfl ?_ | refine X_yl (Yl_lss_t rfl rfl rfl (by omega)) rfl rfl ?_ | refine X_yl (Yl_lss_f rfl rfl rfl (by omega)) rfl rfl ?_ | refine X_yl (Yl_build rfl rfl rfl) rfl rfl ?_ | refine X_yl (Yl_indexAddr rfl rfl rfl (by omega) (by omega) (by first | assumption | exact ⟨_, _, rfl⟩)) rfl rfl ?_ | refine X_yl (Yl_load rfl rfl hS.cell) rfl rfl ?_ | refine X_yl (Yl_loadN rfl rfl ((hr.rd hS).cellsX (by omega) hxs rfl)) rfl rfl ?_ | refine X_store rfl rfl rfl rfl hS (fun _ hS _ => ?_) | refine X_alloc rfl rfl rfl hS (fun _ _ hS _ => ?_) | refine X_yl (Yl_neqBool rfl rfl rfl) rfl rfl ?_) | (refine C_id ?_; first | refine C_seq ?_ | refine C_region ?_ | refine C_block ?_ | refine C_ret ?_ | refine C_skip ?_ | refine C_cond_t rfl ?_) | (refine E_id ?_; first | refine E_code ?_ | refine E_then_ret ?_ | refine E_blk_ret ?_ | refine E_ret2 rfl (by first | exact Rv_tmp rfl | exact Rv_cell rfl (run_load1 hS.cell) | exact Rv_cell rfl (run_loadN hS.cellsN)) (by first | exact Rv_tmp rfl | exact Rv_cell rfl (run_load1 hS.cell) | exact Rv_cell rfl (run_loadN hS.cellsN)) (Ret.mk ?_)))
                exact ⟨rfl, (hbk hS).drops⟩
              | num n =>
                obtain rfl := hy
                obtain ⟨ab, ao, rfl⟩ := hr.start.base (by
                  intro e
                  rw [e] at hxs
                  simp at hxs)
                simp only [z0] at hxs
                repeat (first | (refine G_id ?_; first | refine G_nil ?_ | refine G_plain rfl rfl ?_ | refine G_yes rfl rfl rfl rfl ?_) | (refine X_id ?_; first | refine X_yl (Yl_move rfl rfl) rfl rfl ?_ | refine X_yl (Yl_assign rfl rfl) rfl rfl ?_ | refine X_yl (Yl_fieldAddr0 rfl rfl rfl) rfl rfl ?_ | refine X_yl (Yl_pick_f rfl rfl rfl) rfl rfl ?_ | refine X_yl (Yl_eql_t rfl rfl rfl (by omega)) rfl rfl ?_ | refine X_yl (Yl_eql_f rfl rfl rfl (by omega)) rfl rfl ?_ | refine X_yl (Yl_lss_t rfl rfl rfl (by omega)) rfl rfl ?_ | refine X_yl (Yl_lss_f rfl rfl rfl (by omega)) rfl rfl ?_ | refine X_yl (Yl_gtr_t rfl rfl rfl (by omega)) rfl rfl ?_ | refine X_yl (Yl_indexAddr rfl rfl rfl (by omega) (by omega) (by first | assumption | exact ⟨_, _, rfl⟩)) rfl rfl ?_ | refine X_yl (Yl_add rfl rfl rfl (w64 (by omega) (by omega))) rfl rfl ?_ | refine X_yl (Yl_load rfl rfl hS.cell) rfl rfl ?_ | refine X_yl (Yl_loadN rfl rfl ((hr.rd hS).cellsX (by omega) hxs rfl)) rfl rfl ?_ | refine X_store rfl rfl rfl rfl hS (fun _ hS _ => ?_) | refine X_alloc rfl rfl rfl hS (fun _ _ hS _ => ?_) | refine X_yl (Yl_neqBool rfl rfl rfl) rfl rfl ?_) | (refine C_id ?_; first | refine C_seq ?_ | refine C_region ?_ | refine C_block ?_ | refine C_skip ?_ | refine C_cond_t rfl ?_ | refine C_cond_f rfl ?_) | (refine E_id ?_; first | refine E_code ?_ | refine E_blk_n ?_))
                exact E_round (z := i) (i + 1) ⟨rfl, rfl, rfl, rfl, rfl, trivial⟩ ⟨hlt, hnext (by unfold kindOk; rw [if_neg h3]; exact ⟨_, rfl⟩), hS.took⟩ (by omega)
              | oth =>
                obtain ⟨a1, n1, c1, rfl⟩ := hy
                obtain ⟨ab, ao, rfl⟩ := hr.start.base (by
                  intro e
                  rw [e] at hxs
                  simp at hxs)
                simp only [z0] at hxs
                rw [hbad (by unfold kindOk; rw [if_neg h3]; rintro ⟨_, h⟩; cases h)]
                repeat (first | (refine G_id ?_; first | refine G_nil ?_ | refine G_plain rfl rfl ?_ | refine G_yes rfl rfl rfl rfl ?_) | (refine X_id ?_; first | refine X_yl (Yl_move rfl rfl) rfl rfl ?_ | refine X_yl (Yl_assign rfl rfl) rfl rfl ?_ | refine X_yl (Yl_fieldAddr0 rfl rfl rfl) rfl rfl ?_ | refine X_yl (Yl_pick_f rfl rfl rfl) rfl rfl ?_ | refine X_yl (Yl_eql_f rfl rfl rfl (by omega)) rfl rfl ?_ | refine X_yl (Yl_lss_t rfl rfl rfl (by omega)) rfl rfl ?_ | refine X_yl (Yl_lss_f rfl rfl rfl (by omega)) rfl rfl ?_ | refine X_yl (Yl_gtr_t rfl rfl rfl (by omega)) rfl rfl ?_ | refine X_yl (Yl_build rfl rfl rfl) rfl rfl ?_ | refine X_yl (Yl_indexAddr rfl rfl rfl (by omega) (by omega) (by first | assumption | exact ⟨_, _, rfl⟩)) rfl rfl ?_ | refine X_yl (Yl_load rfl rfl hS.cell) rfl rfl ?_ | refine X_yl (Yl_loadN rfl rfl ((hr.rd hS).cellsX (by omega) hxs rfl)) rfl rfl ?_ | refine X_store rfl rfl rfl rfl hS (fun _ hS _ => ?_) | refine X_alloc rfl rfl rfl hS (fun _ _ hS _ => ?_) | refine X_yl (Yl_neqBool rfl rfl rfl) rfl rfl ?_) | (refine C_id ?_; first | refine C_seq ?_ | refine C_region ?_ | refine C_block ?_ | refine C_ret ?_ | refine C_skip ?_ | refine C_cond_t rfl ?_) | (refine E_id ?_; first | refine E_code ?_ | refine E_then_ret ?_ | refine E_blk_ret ?_ | refine E_ret2 rfl (by first | exact Rv_tmp rfl | exact Rv_cell rfl (run_load1 hS.cell) | exact Rv_cell rfl (run_loadN hS.cellsN)) (by first | exact Rv_tmp rfl | exact Rv_cell rfl (run_load1 hS.cell) | exact Rv_cell rfl (run_loadN hS.cellsN)) (Ret.mk ?_)))
                exact ⟨rfl, (hbk hS).drops⟩
          · obtain rfl : i = 5 := by omega
            repeat (first | (refine G_id ?_; first | refine G_nil ?_ | refine G_plain rfl rfl ?_) | (refine X_id ?_; first | refine X_yl (Yl_lss_f rfl rfl rfl (by omega)) rfl rfl ?_) | (refine C_id ?_; first | refine C_seq ?_ | refine C_region ?_ | refine C_exit ?_ | refine C_cond_f rfl ?_) | (refine E_id ?_; first | refine E_code ?_ | refine E_then_exit ?_ | refine E_blk_same ?_))
            exact E_mid () ⟨rfl, rfl, trivial⟩ ⟨hok, hS⟩
        · clear hS
          rintro _ w ⟨hok, hSn⟩
          obtain ⟨d0, d1, d2, n3, n4, rfl⟩ := readR_ok h5 hok
          obtain ⟨hrl, hL⟩ := hL
          obtain ⟨r0, r1, r2, r3, r4, rfl⟩ := list5 hrl
          obtain ⟨c0, e0, f0, g0, rfl, hb0⟩ := hL 0 _ rfl
          obtain ⟨c1, e1, f1, g1, rfl, hb1⟩ := hL 1 _ rfl
          obtain ⟨c2', e2, f2, g2, rfl, hb2⟩ := hL 2 _ rfl
          obtain ⟨c3, e3, rfl⟩ := hL 3 _ rfl
          obtain ⟨c4, e4, rfl⟩ := hL 4 _ rfl
          obtain rfl := Option.some.inj e0
          obtain rfl := Option.some.inj e1
          obtain rfl := Option.some.inj e2
          obtain rfl := Option.some.inj e3
          obtain rfl := Option.some.inj e4
          obtain ⟨ab, ao, rfl⟩ := hr.start.base (by simp)
          clear hL hrl e0 e1 e2 e3 e4 hok
          simp only [z0] at hr
          replace hr : Ro w1 F2 (row (some ⟨ab, ao, none⟩) [.int .i64 1, .int .i64 0, .slice f0 d0.length g0, .slice none 0 0, .int .i64 1, .int .i64 0, .slice f1 d1.length g1, .slice none 0 0, .int .i64 1, .int .i64 0, .slice f2 d2.length g2, .slice none 0 0, .int .i64 0, .int .i64 n3, .slice none 0 0, .slice none 0 0, .int .i64 0, .int .i64 n4, .slice none 0 0, .slice none 0 0]) := hr
          have hck := fun W h => check_ ⟨d0, d1, d2, n3, n4⟩ W h
          have hres : readR (.list [.txt d0, .txt d1, .txt d2, .num n3, .num n4]) = if rchk ⟨d0, d1, d2, n3, n4⟩ = 0 then some ⟨d0, d1, d2, n3, n4⟩ else none := rfl
          rw [hres]
          have hS := hSn
          clear hSn
          repeat (first | (refine C_id ?_; first | refine C_seq ?_))
          refine C_ord (.s 0 (.s 1 (.s 2 (.s 3 (.s 4 (.s 5 (.s 6 (.s 7 (.s 8 (.s 9 (.s 10 (.s 11 (.s 12 (.s 13 (.s 14 (.s 15 (.s 16 (.s 17 (.s 18 (.s 19 (.s 20 (.s 21 (.s 22 (.s 23 (.s 24 (.s 25 (.s 26 (.s 27 (.s 28 (.h 29 (.h 30 .nil .no) .no)))))))))))))))))))))))))))))) mixed (by kernel_rfl) rfl ?_
          have hS := hS.drew
          repeat' (first | (refine GO_read (fun w' => w'.cell? _ = some _) rfl rfl ((hr.rd hS).cellF (i := 2) (by first | omega | (dsimp only; omega)) rfl) (fun _ hc => Yl_load rfl rfl hc) rfl rfl ?_) | (refine GO_read (fun w' => w'.cell? _ = some _) rfl rfl ((hr.rd hS).cellF (i := 6) (by first | omega | (dsimp only; omega)) rfl) (fun _ hc => Yl_load rfl rfl hc) rfl rfl ?_) | (refine GO_read (fun w' => w'.cell? _ = some _) rfl rfl ((hr.rd hS).cellF (i := 10) (by first | omega | (dsimp only; omega)) rfl) (fun _ hc => Yl_load rfl rfl hc) rfl rfl ?_) | (refine GO_read (fun w' => w'.cell? _ = some _) rfl rfl ((hr.rd hS).cellF (i := 13) (by first | omega | (dsimp only; omega)) rfl) (fun _ hc => Yl_load rfl rfl hc) rfl rfl ?_) | (refine GO_read (fun w' => w'.cell? _ = some _) rfl rfl ((hr.rd hS).cellF (i := 17) (by first | omega | (dsimp only; omega)) rfl) (fun _ hc => Yl_load rfl rfl hc) rfl rfl ?_) | (refine GO_read (fun w' => Rd w' (bytes _ _)) rfl rfl (hb0.rd hS) (fun _ h => Yl_bytesStr rfl rfl h rfl) rfl rfl ?_) | (refine GO_read (fun w' => Rd w' (bytes _ _)) rfl rfl (hb1.rd hS) (fun _ h => Yl_bytesStr rfl rfl h rfl) rfl rfl ?_) | (refine GO_read (fun w' => Rd w' (bytes _ _)) rfl rfl (hb2.rd hS) (fun _ h => Yl_bytesStr rfl rfl h rfl) rfl rfl ?_) | (refine And.intro (by repeat (first | exact trivial | refine And.intro (.inl (by decide +kernel)) ?_ | refine And.intro (.inr (by first | exact hS.cell | exact (hr.rd hS).cellF (i := 2) (by first | omega | (dsimp only; omega)) rfl | exact (hr.rd hS).cellF (i := 6) (by first | omega | (dsimp only; omega)) rfl | exact (hr.rd hS).cellF (i := 10) (by first | omega | (dsimp only; omega)) rfl | exact (hr.rd hS).cellF (i := 13) (by first | omega | (dsimp only; omega)) rfl | exact (hr.rd hS).cellF (i := 17) (by first | omega | (dsimp only; omega)) rfl | exact hb0.rd hS | exact hb1.rd hS | exact hb2.rd hS)) ?_)) ?_) | refine GO_alt ?_ ?_ | (refine G_id ?_; first | refine G_plain rfl rfl ?_) | (refine X_id ?_; first | refine X_yl (Yl_loadN rfl rfl hS.cellsN) rfl rfl ?_ | refine X_store rfl rfl rfl rfl hS (fun _ hS _ => ?_) | refine X_alloc rfl rfl rfl hS (fun _ _ hS _ => ?_)) | (refine C_id ?_; first | refine C_seq ?_ | refine C_region ?_) | (refine E_id ?_; first | refine E_code ?_) | (refine GO_id ?_; first | refine GO_nil ?_ | refine GO_pure rfl rfl (fun _ => Yl_fieldAddr0 rfl rfl rfl) rfl rfl ?_ | refine GO_pure rfl rfl (fun _ => Yl_fieldAddr rfl rfl rfl) rfl rfl ?_ | refine GO_pure rfl rfl (fun _ => Yl_build rfl rfl rfl) rfl rfl ?_ | refine GO_pure rfl rfl (fun _ => Yl_indexAddr rfl rfl rfl (by omega) (by omega) (by first | assumption | exact ⟨_, _, rfl⟩)) rfl rfl ?_ | refine GO_read (fun w' => w'.cell? _ = some _) rfl rfl hS.cell (fun _ hc => Yl_load rfl rfl hc) rfl rfl ?_ | refine GO_hard rfl rfl ?_))
          refine X_callq 21 rfl rfl rfl rfl rfl hS (hck _ (hT.at_ hS)) ?_
          rintro _ w3 rfl hS
          by_cases hok : rchk ⟨d0, d1, d2, n3, n4⟩ = 0
          · rw [hok, if_pos rfl]
            repeat (first | (refine G_id ?_; first | refine G_nil ?_ | refine G_plain rfl rfl ?_) | (refine X_id ?_; first | refine X_yl (Yl_assign rfl rfl) rfl rfl ?_ | refine X_yl (Yl_neq_f rfl rfl rfl (by omega)) rfl rfl ?_ | refine X_yl (Yl_loadN rfl rfl hS.cellsN) rfl rfl ?_ | refine X_store rfl rfl rfl rfl hS (fun _ hS _ => ?_)) | (refine C_id ?_; first | refine C_seq ?_ | refine C_region ?_ | refine C_ret ?_ | refine C_skip ?_ | refine C_cond_f rfl ?_) | (refine E_id ?_; first | refine E_code ?_ | refine E_ret2 rfl (by first | exact Rv_tmp rfl | exact Rv_cell rfl (run_load1 hS.cell) | exact Rv_cell rfl (run_loadN hS.cellsN)) (by first | exact Rv_tmp rfl | exact Rv_cell rfl (run_load1 hS.cell) | exact Rv_cell rfl (run_loadN hS.cellsN)) (Ret.mk ?_)))
            exact ⟨rfl, (hbk hS).drops⟩
          · rw [if_neg hok]
            generalize rchk ⟨d0, d1, d2, n3, n4⟩ = q at hok
            repeat (first | (refine G_id ?_; first | refine G_nil ?_ | refine G_plain rfl rfl ?_) | (refine X_id ?_; first | refine X_yl (Yl_assign rfl rfl) rfl rfl ?_ | refine X_yl (Yl_neq_t rfl rfl rfl (by omega)) rfl rfl ?_ | refine X_yl (Yl_build rfl rfl rfl) rfl rfl ?_ | refine X_store rfl rfl rfl rfl hS (fun _ hS _ => ?_)) | (refine C_id ?_; first | refine C_seq ?_ | refine C_region ?_ | refine C_ret ?_ | refine C_cond_t rfl ?_) | (refine E_id ?_; first | refine E_code ?_ | refine E_then_ret ?_ | refine E_ret2 rfl (by first | exact Rv_tmp rfl | exact Rv_cell rfl (run_load1 hS.cell) | exact Rv_cell rfl (run_loadN hS.cellsN)) (by first | exact Rv_tmp rfl | exact Rv_cell rfl (run_load1 hS.cell) | exact Rv_cell rfl (run_loadN hS.cellsN)) (Ret.mk ?_)))
            exact ⟨rfl, (hbk hS).drops⟩
end Cr
namespace Cr
open Go Go.Proofs
set_option maxRecDepth 100000
set_option maxHeartbeats 8000000
attribute [local irreducible] Calls

theorem same_ (a b : Option Addr) (c c' : Nat) (s t : List UInt8) (W : World) (ha : Rd W (bytes a s)) (hb : Rd W (bytes b t)) (hs : s.length ≤ 1099511627776) :
    Calls Tryd.prog 15 #[.slice a s.length c, .slice b t.length c'] W (Ret fun v w => v = .bool (decide (s = t)) ∧ St W noF [] w) := by
  have hS := St.start W
  by_cases hl : s.length = t.length
  · refine calls_C Tryd.func15 rfl Tryd.ntmps15 rfl ?_
    repeat (first | (refine G_id ?_; first | refine G_nil ?_ | refine G_plain rfl rfl ?_) | (refine X_id ?_; first | refine X_yl (Yl_move rfl rfl) rfl rfl ?_ | refine X_yl (Yl_assign rfl rfl) rfl rfl ?_ | refine X_yl (Yl_len rfl rfl) rfl rfl ?_ | refine X_yl (Yl_neq_f rfl rfl rfl (by omega)) rfl rfl ?_) | (refine C_id ?_; first | refine C_seq ?_ | refine C_region ?_ | refine C_block ?_ | refine C_skip ?_ | refine C_cond_f rfl ?_) | (refine E_id ?_; first | refine E_code ?_))
    refine C_loop (α := Nat) (fun i => [(0, .slice a s.length c), (1, .slice b t.length c'), (5, .int .i64 (i : Nat))])
      (fun i w => i ≤ s.length ∧ s.take i = t.take i ∧ St W noF [] w) (fun i => s.length - i) 0 ⟨rfl, rfl, rfl, trivial⟩ ⟨Nat.zero_le _, rfl, hS⟩ ?_
    clear hS
    rintro i w ⟨hi, htk, hS⟩
    by_cases hlt : i < s.length
    · obtain ⟨ab, ao, rfl⟩ := ha.base (by intro e; have := bv_length s; rw [e] at this; simp at this; omega)
      obtain ⟨bb, bo, rfl⟩ := hb.base (by intro e; have := bv_length t; rw [e] at this; simp at this; omega)
      have h1 := ha.ro
      have h2 := hb.ro
      clear ha hb
      have hb := h1
      have hb2 := h2
      have hlt2 : i < t.length := by omega
      have ei : (i : Int).toNat * 1 = i := by omega
      by_cases he : s.getD i 0 = t.getD i 0
      · have hq : ((s.getD ((i : Int).toNat * 1) 0).toNat : Int) = ((t.getD ((i : Int).toNat * 1) 0).toNat : Int) := by rw [ei, he]
        repeat (first | (refine G_id ?_; first | refine G_nil ?_ | refine G_plain rfl rfl ?_) | (refine X_id ?_; first | refine X_yl (Yl_move rfl rfl) rfl rfl ?_ | refine X_yl (Yl_len rfl rfl) rfl rfl ?_ | refine X_yl (Yl_lss_t rfl rfl rfl (by omega)) rfl rfl ?_) | (refine C_id ?_; first | refine C_seq ?_ | refine C_region ?_ | refine C_block ?_ | refine C_skip ?_ | refine C_cond_t rfl ?_) | (refine E_id ?_; first | refine E_code ?_))
        refine C_ord (.s 0 (.s 1 (.s 2 (.s 3 (.s 4 (.s 5 (.s 6 (.s 7 (.s 8 .nil))))))))) mixed (by kernel_rfl) rfl ?_
        have hS := hS.drew
        repeat (first | (refine G_id ?_; first | refine G_nil ?_ | refine G_plain rfl rfl ?_) | (refine X_id ?_; first | refine X_yl (Yl_move rfl rfl) rfl rfl ?_ | refine X_yl (Yl_assign rfl rfl) rfl rfl ?_ | refine X_yl (Yl_add rfl rfl rfl (w64 (by omega) (by omega))) rfl rfl ?_) | (refine C_id ?_; first | refine C_region ?_ | refine C_skip ?_ | refine C_cond_f rfl ?_) | (refine E_id ?_; first | refine E_code ?_ | refine E_blk_n ?_) | (refine GO_id ?_; first | refine GO_nil ?_ | refine GO_pure rfl rfl (fun _ => Yl_move rfl rfl) rfl rfl ?_ | refine GO_pure rfl rfl (fun _ => Yl_neq_f rfl rfl rfl (by omega)) rfl rfl ?_ | refine GO_pure rfl rfl (fun _ => Yl_indexAddr rfl rfl rfl (by omega) (by omega) (by first | assumption | exact ⟨_, _, rfl⟩)) rfl rfl ?_ | refine GO_read (fun w' => w'.cell? _ = some _) rfl rfl ((hb.rd hS).cellB' (by omega)) (fun _ hc => Yl_load rfl rfl hc) rfl rfl ?_ | refine GO_read (fun w' => w'.cell? _ = some _) rfl rfl ((hb2.rd hS).cellB' (by omega)) (fun _ hc => Yl_load rfl rfl hc) rfl rfl ?_))
        refine E_round (i + 1) ⟨rfl, rfl, rfl, trivial⟩ ⟨by omega, ?_, hS⟩ (by omega)
        rw [List.take_succ_eq_append_getElem hlt, List.take_succ_eq_append_getElem hlt2, htk]
        rw [List.getD_eq_getElem?_getD, List.getD_eq_getElem?_getD, List.getElem?_eq_getElem hlt, List.getElem?_eq_getElem hlt2] at he
        simp only [Option.getD_some] at he
        rw [he]
      · have hq : ¬ ((s.getD ((i : Int).toNat * 1) 0).toNat : Int) = ((t.getD ((i : Int).toNat * 1) 0).toNat : Int) := by
          rw [ei]; intro h; exact he (UInt8.toNat_inj.1 (by omega))
        repeat (first | (refine G_id ?_; first | refine G_nil ?_ | refine G_plain rfl rfl ?_) | (refine X_id ?_; first | refine X_yl (Yl_move rfl rfl) rfl rfl ?_ | refine X_yl (Yl_len rfl rfl) rfl rfl ?_ | refine X_yl (Yl_lss_t rfl rfl rfl (by omega)) rfl rfl ?_) | (refine C_id ?_; first | refine C_seq ?_ | refine C_region ?_ | refine C_block ?_ | refine C_skip ?_ | refine C_cond_t rfl ?_) | (refine E_id ?_; first | refine E_code ?_))
        refine C_ord (.s 0 (.s 1 (.s 2 (.s 3 (.s 4 (.s 5 (.s 6 (.s 7 (.s 8 .nil))))))))) mixed (by kernel_rfl) rfl ?_
        have hS := hS.drew
        repeat (first | (refine G_id ?_; first | refine G_nil ?_ | refine G_plain rfl rfl ?_) | (refine X_id ?_; first | refine X_yl (Yl_assign rfl rfl) rfl rfl ?_) | (refine C_id ?_; first | refine C_seq ?_ | refine C_region ?_ | refine C_ret ?_ | refine C_cond_t rfl ?_) | (refine E_id ?_; first | refine E_code ?_ | refine E_then_ret ?_ | refine E_blk_ret ?_ | refine E_ret1 rfl (Rv_tmp rfl) (Ret.mk ?_)) | (refine GO_id ?_; first | refine GO_nil ?_ | refine GO_pure rfl rfl (fun _ => Yl_move rfl rfl) rfl rfl ?_ | refine GO_pure rfl rfl (fun _ => Yl_neq_t rfl rfl rfl (by omega)) rfl rfl ?_ | refine GO_pure rfl rfl (fun _ => Yl_indexAddr rfl rfl rfl (by omega) (by omega) (by first | assumption | exact ⟨_, _, rfl⟩)) rfl rfl ?_ | refine GO_read (fun w' => w'.cell? _ = some _) rfl rfl ((hb.rd hS).cellB' (by omega)) (fun _ hc => Yl_load rfl rfl hc) rfl rfl ?_ | refine GO_read (fun w' => w'.cell? _ = some _) rfl rfl ((hb2.rd hS).cellB' (by omega)) (fun _ hc => Yl_load rfl rfl hc) rfl rfl ?_))
        refine ⟨?_, hS⟩
        rw [decide_eq_false (fun h => he (by rw [h]))]
    · obtain rfl : i = s.length := by omega
      repeat (first | (refine G_id ?_; first | refine G_nil ?_ | refine G_plain rfl rfl ?_) | (refine X_id ?_; first | refine X_yl (Yl_move rfl rfl) rfl rfl ?_ | refine X_yl (Yl_assign rfl rfl) rfl rfl ?_ | refine X_yl (Yl_len rfl rfl) rfl rfl ?_ | refine X_yl (Yl_lss_f rfl rfl rfl (by omega)) rfl rfl ?_) | (refine C_id ?_; first | refine C_seq ?_ | refine C_region ?_ | refine C_ret ?_ | refine C_exit ?_ | refine C_cond_f rfl ?_) | (refine E_id ?_; first | refine E_code ?_ | refine E_then_exit ?_ | refine E_blk_same ?_ | refine E_ret1 rfl (Rv_tmp rfl) (Ret.mk ?_)))
      refine ⟨?_, hS⟩
      rw [List.take_length, hl, List.take_length] at htk
      simp [htk]
  · refine calls_C Tryd.func15 rfl Tryd.ntmps15 rfl ?_
    repeat (first | (refine G_id ?_; first | refine G_nil ?_ | refine G_plain rfl rfl ?_) | (refine X_id ?_; first | refine X_yl (Yl_move rfl rfl) rfl rfl ?_ | refine X_yl (Yl_assign rfl rfl) rfl rfl ?_ | refine X_yl (Yl_len rfl rfl) rfl rfl ?_ | refine X_yl (Yl_neq_t rfl rfl rfl (by omega)) rfl rfl ?_) | (refine C_id ?_; first | refine C_seq ?_ | refine C_region ?_ | refine C_ret ?_ | refine C_cond_t rfl ?_) | (refine E_id ?_; first | refine E_code ?_ | refine E_then_ret ?_ | refine E_ret1 rfl (Rv_tmp rfl) (Ret.mk ?_)))
    exact ⟨by rw [decide_eq_false (fun h => hl (by rw [h]))], hS⟩
end Cr
namespace Cr
open Go Go.Proofs
set_option maxRecDepth 100000
section
variable {P : Program} {o : Oper} {σ : Env} {w : World} {x y : Operand} {t ty e : TypeId}
instance seg_zero (l : List Value) : Seg l 0 0 [] := ⟨by simp⟩
instance seg_cons (v : Value) (l cs : List Value) (n : Nat) [h : Seg l 0 n cs] : Seg (v :: l) 0 (n + 1) (v :: cs) := ⟨by have := h.seg; simp at this ⊢; exact this⟩
theorem Yl_eql2 {a0 a1 b0 b1 : List UInt8} (ho : o.op = .binOp .eql t x y ty) (hx : ev σ x = some (.agg (List.toArray [.string (str a0), .string (str a1)]))) (hy : ev σ y = some (.agg (List.toArray [.string (str b0), .string (str b1)]))) [h : Und P t (.array 2 e)] [he : Und P e .string] [hs : Siz P e 1] [h1 : One P e] [hg : NoGd P t] :
    Yl P o σ w (.bool (decide ([a0, a1] = [b0, b1]))) := Yl_eqlStrs (n := 2) [a0, a1] [b0, b1] ho hx hy rfl rfl rfl rfl
theorem Yl_neq2 {a0 a1 b0 b1 : List UInt8} (ho : o.op = .binOp .neq t x y ty) (hx : ev σ x = some (.agg (List.toArray [.string (str a0), .string (str a1)]))) (hy : ev σ y = some (.agg (List.toArray [.string (str b0), .string (str b1)]))) [h : Und P t (.array 2 e)] [he : Und P e .string] [hs : Siz P e 1] [h1 : One P e] [hg : NoGd P t] :
    Yl P o σ w (.bool (decide (¬ [a0, a1] = [b0, b1]))) := Yl_neqStrs (n := 2) [a0, a1] [b0, b1] ho hx hy rfl rfl rfl rfl
theorem Yl_neq3 {a0 a1 a2 b0 b1 b2 : List UInt8} (ho : o.op = .binOp .neq t x y ty) (hx : ev σ x = some (.agg (List.toArray [.string (str a0), .string (str a1), .string (str a2)]))) (hy : ev σ y = some (.agg (List.toArray [.string (str b0), .string (str b1), .string (str b2)]))) [h : Und P t (.array 3 e)] [he : Und P e .string] [hs : Siz P e 1] [h1 : One P e] [hg : NoGd P t] :
    Yl P o σ w (.bool (decide (¬ [a0, a1, a2] = [b0, b1, b2]))) := Yl_neqStrs (n := 3) [a0, a1, a2] [b0, b1, b2] ho hx hy rfl rfl rfl rfl
theorem Yl.toT {p : Prop} [Decidable p] (h : Yl P o σ w (.bool (decide p))) (hp : p) : Yl P o σ w (.bool true) := by rwa [decide_eq_true hp] at h
theorem Yl.toF {p : Prop} [Decidable p] (h : Yl P o σ w (.bool (decide p))) (hp : ¬ p) : Yl P o σ w (.bool false) := by rwa [decide_eq_false hp] at h
end
instance : NoGd Tryd.prog 23 := ⟨by kernel_rfl⟩
instance : NoGd Tryd.prog 24 := ⟨by kernel_rfl⟩
abbrev rcV (a b c : List UInt8) (m n : Int) : List Value := [.string (str a), .string (str b), .string (str c), .int .i64 m, .int .i64 n]
theorem run_eqRec (d : Nat) (w : World) (a0 a1 a2 b0 b1 b2 : List UInt8) (m0 m1 n0 n1 : Int) :
    (Op.equalIn (d + 2) 28 (.agg (rcV a0 a1 a2 m0 m1).toArray) (.agg (rcV b0 b1 b2 n0 n1).toArray)).run Tryd.prog w = .ok (decide (a0 = b0 ∧ a1 = b1 ∧ a2 = b2 ∧ m0 = n0 ∧ m1 = n1)) w := by
  have key : ∀ fs, Tryd.prog.underlying 28 = some (.struct fs) → Tryd.prog.fieldsOf 28 = fs := fun fs h => by unfold Program.fieldsOf; rw [h]
  have hu := Tryd.underlying28
  have hf := key _ hu
  rw [run_equalIn_struct w (d + 1) 28 _ _ (by rw [hf]; exact hu) (by kernel_rfl), hf]
  have hs := fun (a b : List UInt8) => run_strEq (P := Tryd.prog) (w := w) (e := 9) (d := d) a b
  have hi := fun (a b : Int) => run_equalIn_int (P := Tryd.prog) w d 3 .i64 .i64 a b Und.und
  have o1 : ∀ w, (isAgg 9).run Tryd.prog w = .ok false w := One.one
  have o2 : ∀ w, (isAgg 3).run Tryd.prog w = .ok false w := One.one
  have e1 : ∀ a b : Int, (a == b) = decide (a = b) := fun a b => by by_cases h : a = b <;> simp [h]
  simp [Op.eqFields, part, o1, o2, hs, hi, e1]
  by_cases h0 : a0 = b0 <;> by_cases h1 : a1 = b1 <;> by_cases h2 : a2 = b2 <;> by_cases h3 : m0 = n0 <;> by_cases h4 : m1 = n1 <;> simp [h0, h1, h2, h3, h4]
instance : NoGd Tryd.prog 28 := ⟨by kernel_rfl⟩
theorem Yl_eqlRec {o : Oper} {σ : Env} {w : World} {x y : Operand} {ty : TypeId} {a0 a1 a2 b0 b1 b2 : List UInt8} {m0 m1 n0 n1 : Int} (ho : o.op = .binOp .eql 28 x y ty) (hx : ev σ x = some (.agg (List.toArray [.string (str a0), .string (str a1), .string (str a2), .int .i64 m0, .int .i64 m1]))) (hy : ev σ y = some (.agg (List.toArray [.string (str b0), .string (str b1), .string (str b2), .int .i64 n0, .int .i64 n1]))) :
    Yl Tryd.prog o σ w (.bool (decide (a0 = b0 ∧ a1 = b1 ∧ a2 = b2 ∧ m0 = n0 ∧ m1 = n1))) := ⟨fun N ds f hf => by
  have h2 := run_eqGuard_agg (P := Tryd.prog) (w := w) .eql 28 x y (rcV a0 a1 a2 m0 m1).toArray (rcV b0 b1 b2 n0 n1).toArray (NoGd.no)
  have h3 := run_eql_struct (P := Tryd.prog) (w := w) 28 (rcV a0 a1 a2 m0 m1).toArray (rcV b0 b1 b2 n0 n1).toArray
  have h4 := run_eqRec 9998 w a0 a1 a2 b0 b1 b2 m0 m1 n0 n1
  simp only [execOp, ho, hf.eval hx, hf.eval hy, Sem.run_bind, h2, h3, h4, Result.andThen_ok]
  rfl⟩
end Cr
namespace Cr
open Go Go.Proofs
set_option maxRecDepth 100000
set_option maxHeartbeats 8000000
attribute [local irreducible] Calls

theorem itoa_dig7 {k : Nat} (h : k < 10) : Lib.itoa (k : Int) = [UInt8.ofNat (48 + k)] := by
  rw [itoa_nat, Lib.decDigits_one h]
def kA : Rec := ⟨[105, 110, 115, 116, 97, 108, 108], [97, 110, 110], [116, 111, 111, 108], 1, 0⟩
theorem ok_kA : rchk kA = 0 := by decide
theorem enc_kA : encT kA.leaves = [40, 55, 58, 105, 110, 115, 116, 97, 108, 108, 51, 58, 97, 110, 110, 52, 58, 116, 111, 111, 108, 105, 49, 59, 105, 48, 59, 41] := by
  have e : kA.leaves = [.txt [105, 110, 115, 116, 97, 108, 108], .txt [97, 110, 110], .txt [116, 111, 111, 108], .num 1, .num 0] := rfl
  rw [e]
  have h7 : Lib.itoa ((7 : Nat) : Int) = [55] := itoa_dig7 (k := 7) (by decide)
  have h3 : Lib.itoa ((3 : Nat) : Int) = [51] := itoa_dig7 (k := 3) (by decide)
  have h4 : Lib.itoa ((4 : Nat) : Int) = [52] := itoa_dig7 (k := 4) (by decide)
  have h1 : Lib.itoa ((1 : Nat) : Int) = [49] := itoa_dig7 (k := 1) (by decide)
  have h0 : Lib.itoa ((0 : Nat) : Int) = [48] := itoa_dig7 (k := 0) (by decide)
  have a1 : encL (.txt [105, 110, 115, 116, 97, 108, 108]) = [55, 58, 105, 110, 115, 116, 97, 108, 108] := by
    show Lib.itoa ((7 : Nat) : Int) ++ 58 :: _ = _
    rw [h7]; rfl
  have a2 : encL (.txt [97, 110, 110]) = [51, 58, 97, 110, 110] := by
    show Lib.itoa ((3 : Nat) : Int) ++ 58 :: _ = _
    rw [h3]; rfl
  have a3 : encL (.txt [116, 111, 111, 108]) = [52, 58, 116, 111, 111, 108] := by
    show Lib.itoa ((4 : Nat) : Int) ++ 58 :: _ = _
    rw [h4]; rfl
  have a4 : encL (.num 1) = [105, 49, 59] := by
    show 105 :: Lib.itoa ((1 : Nat) : Int) ++ [59] = _
    rw [h1]; rfl
  have a5 : encL (.num 0) = [105, 48, 59] := by
    show 105 :: Lib.itoa ((0 : Nat) : Int) ++ [59] = _
    rw [h0]; rfl
  simp [encT, encs, a1, a2, a3, a4, a5]
theorem known27_ (W : World) (hG : Lg W noF) (hT : Sp W noF) : Calls Tryd.prog 22 #[] W (Ret fun v w => v = .bool true ∧ St W noF [] w) := by
  have hS := St.start W
  have h1 := fun W h g => abytes_ok kA W h g ok_kA
  rw [enc_kA] at h1
  refine calls_C Tryd.func22 rfl Tryd.ntmps22 rfl ?_
  repeat (first | (refine G_id ?_; first | refine G_nil ?_ | refine G_plain rfl rfl ?_) | (refine X_id ?_; first | refine X_yl (Yl_assign rfl rfl) rfl rfl ?_ | refine X_yl (Yl_build rfl rfl rfl) rfl rfl ?_) | (refine C_id ?_; first | refine C_seq ?_ | refine C_region ?_) | (refine E_id ?_; first | refine E_code ?_))
  refine X_callg _ rfl rfl rfl rfl rfl (h1 _ (hG.at_ hS) (hT.at_ hS)) ?_
  rintro _ w ⟨b1, q1, rfl, _, hS'⟩
  replace hS := hS.plus hS'
  clear hS'
  have hy1 := (hS.rd (List.mem_cons_self ..)).own_row
  repeat (first | (refine G_id ?_; first | refine G_nil ?_ | refine G_plain rfl rfl ?_ | refine G_yes rfl rfl rfl rfl ?_) | (refine X_id ?_; first | refine X_yl (Yl_move rfl rfl) rfl rfl ?_ | refine X_yl (Yl_assign rfl rfl) rfl rfl ?_ | refine X_yl (Yl_extract rfl rfl) rfl rfl ?_ | refine X_yl (Yl_eql_t rfl rfl rfl (by omega)) rfl rfl ?_) | (refine C_id ?_; first | refine C_seq ?_ | refine C_region ?_) | (refine E_id ?_; first | refine E_code ?_))
  refine X_yl (Yl_bytesStr rfl rfl hy1 rfl) rfl rfl ?_
  repeat (first | (refine G_id ?_; first | refine G_nil ?_ | refine G_plain rfl rfl ?_ | refine G_yes rfl rfl rfl rfl ?_) | (refine X_id ?_; first | refine X_yl (Yl_assign rfl rfl) rfl rfl ?_ | refine X_yl (Yl_pick_t rfl rfl rfl) rfl rfl ?_ | refine X_yl (Yl_eqlStr rfl rfl rfl) rfl rfl ?_) | (refine C_id ?_; first | refine C_ret ?_) | (refine E_id ?_; first | refine E_code ?_ | refine E_ret1 rfl (Rv_tmp rfl) (Ret.mk ?_)))
  exact ⟨rfl, hS.drops⟩
theorem abytesL_ (r : Rec) (W : World) (hi1 : -9223372036854775808 ≤ r.rev ∧ r.rev ≤ 9223372036854775807) (hi2 : -9223372036854775808 ≤ r.out ∧ r.out ≤ 9223372036854775807) (hG : Lg W noF) (hT : Sp W noF) :
    Calls Tryd.prog 5 #[.agg r.cells.toArray] W (Ret fun v w => v = .bool true ∧ St W noF [] w) := by
  have hS := St.start W
  obtain ⟨x, hx⟩ : ∃ x, x = r.cut := ⟨_, rfl⟩
  have hfit := cut_fits hi1 hi2
  have hTo := fun W => to27_ r W
  rw [← hx] at hfit hTo
  have hO := fun W => of27_ x W
  have hR := fun W => rcheck_ x W
  have hC := fun W h => check_ x W h
  have hK := fun W h g => known27_ W h g
  clear hx
  by_cases hok : rchk x = 0
  case neg =>
    have hE := fun W h => abytes_bad x W h hok
    generalize rchk x = n at hE hC hR hok
    refine calls_C Tryd.func5 rfl Tryd.ntmps5 rfl ?_
    repeat (first | (refine G_id ?_; first | refine G_nil ?_ | refine G_plain rfl rfl ?_ | refine G_yes rfl rfl rfl rfl ?_) | (refine X_id ?_; first | (refine X_callq 17 rfl rfl rfl rfl rfl hS (hTo _) ?_; rintro _ _ rfl hS) | (refine X_callq 18 rfl rfl rfl rfl rfl hS (hO _) ?_; rintro _ _ rfl hS) | (refine X_callq 19 rfl rfl rfl rfl rfl hS (hE _ (hT.at_ hS)) ?_; rintro _ _ rfl hS) | (refine X_callq 20 rfl rfl rfl rfl rfl hS (hR _) ?_; rintro _ _ rfl hS) | (refine X_callq 21 rfl rfl rfl rfl rfl hS (hC _ (hT.at_ hS)) ?_; rintro _ _ rfl hS) | (refine X_callq 22 rfl rfl rfl rfl rfl hS (hK _ (hG.at_ hS) (hT.at_ hS)) ?_; rintro _ _ rfl hS) | refine X_yl (Yl_move rfl rfl) rfl rfl ?_ | refine X_yl (Yl_assign rfl rfl) rfl rfl ?_ | refine X_yl (Yl_extract rfl rfl) rfl rfl ?_ | refine X_yl (Yl_pick_t rfl rfl rfl) rfl rfl ?_ | refine X_yl (Yl_pick_f rfl rfl rfl) rfl rfl ?_ | refine X_yl (Yl_len rfl rfl) rfl rfl ?_ | refine X_yl (Yl_eql_t rfl rfl rfl (by omega)) rfl rfl ?_ | refine X_yl (Yl_neq_t rfl rfl rfl (by omega)) rfl rfl ?_ | refine X_yl (Yl_neq_f rfl rfl rfl (by omega)) rfl rfl ?_ | refine X_yl (Yl_loadN rfl rfl hS.cellsN) rfl rfl ?_ | refine X_store rfl rfl rfl rfl hS (fun _ hS _ => ?_) | refine X_box rfl rfl rfl rfl hS (fun _ _ hS _ => ?_) | refine X_alloc rfl rfl rfl hS (fun _ _ hS _ => ?_)) | (refine C_id ?_; first | refine C_seq ?_ | refine C_region ?_ | refine C_ret ?_ | refine C_skip ?_ | refine C_cond_t rfl ?_ | refine C_cond_f rfl ?_) | (refine E_id ?_; first | refine E_code ?_ | refine E_then_ret ?_ | refine E_ret1 rfl (Rv_tmp rfl) (Ret.mk ?_)))
    exact ⟨rfl, hS.drops⟩
  case pos =>
    have hE := fun W h g => abytes_ok x W h g hok
    have hlen := rec_enc hfit
    have hdec : (dec (encT x.leaves)).bind readR = some x := by
      rw [dec_enc (Rec.fits_leaves hfit)]
      exact readR_leaves hok
    have hRE := fun W => rbytes_ x W hfit
    rw [hok] at hC hR
    obtain ⟨s, hs⟩ : ∃ s, s = encT x.leaves := ⟨_, rfl⟩
    rw [← hs] at hE hdec hRE hlen
    have hD := fun (b2 : Option Addr) (q2 : Nat) (h : s.length ≤ q2) => aread_ b2 s q2 h (by omega)
    rw [hdec] at hD
    have hsame := fun (b2 b3 : Option Addr) (q2 q3 : Nat) => same_ b2 b3 q2 q3 s s
    simp only [decide_true] at hsame
    refine calls_C Tryd.func5 rfl Tryd.ntmps5 rfl ?_
    repeat (first | (refine G_id ?_; first | refine G_nil ?_ | refine G_plain rfl rfl ?_) | (refine X_id ?_; first | (refine X_callq 17 rfl rfl rfl rfl rfl hS (hTo _) ?_; rintro _ _ rfl hS) | (refine X_callq 18 rfl rfl rfl rfl rfl hS (hO _) ?_; rintro _ _ rfl hS) | refine X_yl (Yl_assign rfl rfl) rfl rfl ?_ | refine X_yl (Yl_loadN rfl rfl hS.cellsN) rfl rfl ?_ | refine X_store rfl rfl rfl rfl hS (fun _ hS _ => ?_) | refine X_box rfl rfl rfl rfl hS (fun _ _ hS _ => ?_) | refine X_alloc rfl rfl rfl hS (fun _ _ hS _ => ?_)) | (refine C_id ?_; first | refine C_seq ?_ | refine C_region ?_) | (refine E_id ?_; first | refine E_code ?_))
    refine X_callg _ rfl rfl rfl rfl rfl (hE _ (hG.at_ hS) (hT.at_ hS)) ?_
    rintro _ w ⟨b2, q2, rfl, hq2, hS'⟩
    replace hS := hS.plus hS'
    clear hS' hE
    replace hS := hS.head (r' := bytes b2 s) (fun _ h => h.row)
    repeat (first | (refine G_id ?_; first | refine G_nil ?_ | refine G_plain rfl rfl ?_ | refine G_yes rfl rfl rfl rfl ?_) | (refine X_id ?_; first | (refine X_callq 20 rfl rfl rfl rfl rfl hS (hR _) ?_; rintro _ _ rfl hS) | (refine X_callq 21 rfl rfl rfl rfl rfl hS (hC _ (hT.at_ hS)) ?_; rintro _ _ rfl hS) | refine X_yl (Yl_move rfl rfl) rfl rfl ?_ | refine X_yl (Yl_assign rfl rfl) rfl rfl ?_ | refine X_yl (Yl_extract rfl rfl) rfl rfl ?_ | refine X_yl (Yl_pick_f rfl rfl rfl) rfl rfl ?_ | refine X_yl (Yl_neq_f rfl rfl rfl (by omega)) rfl rfl ?_ | refine X_yl (Yl_loadN rfl rfl hS.cellsN) rfl rfl ?_) | (refine C_id ?_; first | refine C_seq ?_ | refine C_region ?_ | refine C_skip ?_ | refine C_cond_f rfl ?_) | (refine E_id ?_; first | refine E_code ?_))
    refine X_callg _ rfl rfl rfl rfl rfl (hD b2 q2 hq2 _ (hG.at_ hS) (hT.at_ hS) (hS.rd (r := bytes b2 s) (by simp)).ro) ?_
    rintro _ w ⟨rfl, hS'⟩
    replace hS := hS.plus hS'
    clear hS' hD
    repeat (first | (refine G_id ?_; first | refine G_nil ?_ | refine G_plain rfl rfl ?_ | refine G_yes rfl rfl rfl rfl ?_) | (refine X_id ?_; first | (refine X_callq 22 rfl rfl rfl rfl rfl hS (hK _ (hG.at_ hS) (hT.at_ hS)) ?_; rintro _ _ rfl hS) | refine X_yl (Yl_move rfl rfl) rfl rfl ?_ | refine X_yl (Yl_assign rfl rfl) rfl rfl ?_ | refine X_yl (Yl_extract rfl rfl) rfl rfl ?_ | refine X_yl (Yl_loadN rfl rfl hS.cellsN) rfl rfl ?_ | refine X_store rfl rfl rfl rfl hS (fun _ hS _ => ?_) | refine X_alloc rfl rfl rfl hS (fun _ _ hS _ => ?_)) | (refine C_id ?_; first | refine C_seq ?_ | refine C_region ?_) | (refine E_id ?_; first | refine E_code ?_))
    refine X_callg _ rfl rfl rfl rfl rfl (hRE _) ?_
    rintro _ w ⟨b4, q4, rfl, hS'⟩
    replace hS := hS.plus hS'
    clear hS' hRE
    repeat (first | (refine G_id ?_; first | refine G_plain rfl rfl ?_ | refine G_yes rfl rfl rfl rfl ?_) | (refine X_id ?_; first | (refine X_callq 15 rfl rfl rfl rfl rfl hS (hsame b2 b4 q2 q4 _ (hS.rd (r := bytes b2 s) (by simp)) (hS.rd (r := bytes b4 s) (by simp)) (by omega)) ?_; rintro _ _ rfl hS) | refine X_yl (Yl_move rfl rfl) rfl rfl ?_ | refine X_yl (Yl_pick_t rfl rfl rfl) rfl rfl ?_ | refine X_yl (Yl_eql_t rfl rfl rfl (by omega)) rfl rfl ?_ | refine X_yl (Yl_loadN rfl rfl hS.cellsN) rfl rfl ?_))
    refine X_yl ((Yl_eqlRec (a0 := x.cmd) (a1 := x.pub) (a2 := x.pkg) (m0 := x.rev) (m1 := x.out) (b0 := x.cmd) (b1 := x.pub) (b2 := x.pkg) (n0 := x.rev) (n1 := x.out) rfl rfl rfl).toT ⟨rfl, rfl, rfl, rfl, rfl⟩) rfl rfl ?_
    repeat (first | (refine G_id ?_; first | refine G_nil ?_ | refine G_plain rfl rfl ?_) | (refine X_id ?_; first | refine X_yl (Yl_assign rfl rfl) rfl rfl ?_ | refine X_yl (Yl_pick_t rfl rfl rfl) rfl rfl ?_) | (refine C_id ?_; first | refine C_ret ?_) | (refine E_id ?_; first | refine E_code ?_ | refine E_ret1 rfl (Rv_tmp rfl) (Ret.mk ?_)))
    exact ⟨rfl, hS.drops⟩
end Cr
namespace Cr
open Go Go.Proofs Go.ChangeShapes Go.WideShapes
set_option maxRecDepth 100000
section
variable {H : Type} {enc : TypeId × Value → H} {w : World} {base : Nat} {sp : Nat → Bool} {held : Bool}
theorem len5 {cs : List Value} (h : cs.length = 5) : ∃ a0 a1 a2 a3 a4, cs = [a0, a1, a2, a3, a4] := by
  match cs, h with
  | [a0, a1, a2, a3, a4], _ => exact ⟨_, _, _, _, _, rfl⟩
theorem one_str7 {n : Nat} {v : Value} {y : DataW H × List MemPlace} (h : DataW.trod enc Tryd.prog w base sp held n 9 [v] = some y) : ∃ s, v = .string (str s) := by
  obtain ⟨s, hs, _⟩ := DataW.trod_string Tryd.underlying9 h
  obtain ⟨l, rfl⟩ := str_of s
  exact ⟨l, by simpa using hs⟩
theorem one_int7 {n : Nat} {v : Value} {y : DataW H × List MemPlace} (h : DataW.trod enc Tryd.prog w base sp held n 3 [v] = some y) : ∃ k : Int, v = .int .i64 k ∧ -9223372036854775808 ≤ k ∧ k ≤ 9223372036854775807 := by
  obtain ⟨k, hk, _, hw⟩ := DataW.trod_int Tryd.underlying3 h
  simp only [Lit.wf, Bool.and_eq_true, decide_eq_true_eq] at hw
  exact ⟨k, by simpa using hk, hw.1, hw.2⟩
theorem cells_str7 : Tryd.prog.cellsOf 9 = 1 := by kernel_rfl
theorem cells_int7 : Tryd.prog.cellsOf 3 = 1 := by kernel_rfl
theorem cells_rr : Tryd.prog.cellsOf 46 = 5 := by kernel_rfl
theorem open_rec {fuel : Nat} {cs : List Value} {x : DataW H × List MemPlace} (h : DataW.trod enc Tryd.prog w base sp held fuel 46 cs = some x) :
    ∃ r : Rec, cs = r.cells ∧ (-9223372036854775808 ≤ r.rev ∧ r.rev ≤ 9223372036854775807) ∧ -9223372036854775808 ≤ r.out ∧ r.out ≤ 9223372036854775807 := by
  obtain ⟨xs, n, _, _, hl, hxl, hf⟩ := DataW.trod_struct Tryd.underlying46 h
  rw [cells_rr] at hl
  have hxl : xs.length = 5 := hxl
  obtain ⟨a0, a1, a2, a3, a4, rfl⟩ := len5 hl
  have f0 : DataW.trod enc Tryd.prog w base sp held n 9 [a0] = xs[0]? := by
    have h : DataW.trod enc Tryd.prog w base sp held n 9 ((List.drop 0 [a0, a1, a2, a3, a4]).take (Tryd.prog.cellsOf 9)) = xs[0]? := by
      have h0 := hf 0 _ rfl
      exact h0
    rw [cells_str7] at h
    exact h
  have f1 : DataW.trod enc Tryd.prog w base sp held n 9 [a1] = xs[1]? := by
    have h : DataW.trod enc Tryd.prog w base sp held n 9 ((List.drop 1 [a0, a1, a2, a3, a4]).take (Tryd.prog.cellsOf 9)) = xs[1]? := by
      have h0 := hf 1 _ rfl
      exact h0
    rw [cells_str7] at h
    exact h
  have f2 : DataW.trod enc Tryd.prog w base sp held n 9 [a2] = xs[2]? := by
    have h : DataW.trod enc Tryd.prog w base sp held n 9 ((List.drop 2 [a0, a1, a2, a3, a4]).take (Tryd.prog.cellsOf 9)) = xs[2]? := by
      have h0 := hf 2 _ rfl
      exact h0
    rw [cells_str7] at h
    exact h
  have f3 : DataW.trod enc Tryd.prog w base sp held n 3 [a3] = xs[3]? := by
    have h : DataW.trod enc Tryd.prog w base sp held n 3 ((List.drop 3 [a0, a1, a2, a3, a4]).take (Tryd.prog.cellsOf 3)) = xs[3]? := by
      have h0 := hf 3 _ rfl
      exact h0
    rw [cells_int7] at h
    exact h
  have f4 : DataW.trod enc Tryd.prog w base sp held n 3 [a4] = xs[4]? := by
    have h : DataW.trod enc Tryd.prog w base sp held n 3 ((List.drop 4 [a0, a1, a2, a3, a4]).take (Tryd.prog.cellsOf 3)) = xs[4]? := by
      have h0 := hf 4 _ rfl
      exact h0
    rw [cells_int7] at h
    exact h
  rw [List.getElem?_eq_getElem (by omega)] at f0 f1 f2 f3 f4
  obtain ⟨s0, rfl⟩ := one_str7 f0
  obtain ⟨s1, rfl⟩ := one_str7 f1
  obtain ⟨s2, rfl⟩ := one_str7 f2
  obtain ⟨n0, rfl, h1⟩ := one_int7 f3
  obtain ⟨n1, rfl, h2⟩ := one_int7 f4
  exact ⟨⟨s0, s1, s2, n0, n1⟩, rfl, h1, h2⟩
end
end Cr
namespace Go.Proofs.YtkdolbmcnekeoaaDoor
open Go.ChangeShapes Go.WideShapes Go.ChangeAt Go.RowKit
set_option maxRecDepth 100000

abbrev zRec7 : Value := .agg #[.string (Cr.str []), .string (Cr.str []), .string (Cr.str []), .int .i64 0, .int .i64 0]
theorem auditBytes_contract (H : Type) (enc : TypeId × Value → H) (W : World) (base : Nat) (args : Array Value) (ds gs : List (DataW H)) (before : List MemPlace)
    (hval : ∀ (j : Nat) t v, Tryd.f5.params[j]? = some t → args[j]? = some v → Value.okWide Tryd.prog W .any base t v)
    (hW : DataW.Whole enc Tryd.prog Tryd.f5.params.toList Rows.auditBytesSpec.vars false W args.toList ds gs before) (hL : laidMetH Tryd.prog Rows.auditBytesRow.laid W) :
    Calls Tryd.prog 5 args W fun e W' => ∃ v, e = .returned v ∧ Rows.auditBytesSpec.post enc Tryd.prog Tryd.f5 false true false false W args v W' := by
  have hW' := hW
  obtain ⟨p, q, hA0, hV, rfl, hfz, hnd⟩ := hW
  have hA : DataW.TrodAll enc Tryd.prog W 0 (fun _ => true) true Tryd.f5.params.toList args.toList ds p := hA0
  rw [Tryd.params5] at hA hval
  obtain ⟨rfl, rfl⟩ := trodVars_none hV
  have hAk := hA
  obtain ⟨v0, vs0, d0, ds0, p0, q0, hargs, rfl, rfl, h0, r0⟩ := trodAll_cons hA
  obtain ⟨rfl, rfl, rfl⟩ := trodAll_nil r0
  obtain rfl : args = #[v0] := by cases args; simp_all
  obtain ⟨cs, rfl, _⟩ := okWide_struct Tryd.underlying46 (hval 0 46 v0 rfl rfl)
  obtain ⟨fuel, hf⟩ := h0
  obtain ⟨r, e, hi1, hi2⟩ := Cr.open_rec hf
  have e : cs.toList = r.cells := e
  obtain rfl : cs = r.cells.toArray := by rw [← e]
  clear hA0
  simp only [List.append_nil] at hW' hAk
  refine (Cr.abytesL_ r W hi1 hi2 (lg_of_laid7 hL) (sp_of_laid7 hL)).mono fun e W' ⟨v, he, hv, hS⟩ => ?_
  subst he hv
  have hb := hS.toBelow
  exact ⟨_, rfl, post_of_law (pa := p0) (pv := []) hW' (fun _ _ _ => trodAll_cons_mk (shut_bool Tryd.underlying4 _) trodAll_mk0)
    (fun sp hsp => trodAll_stays lawLaid hb (fun t ht => by
      have ht : t ∈ [46] := ht
      simp only [List.mem_cons, List.not_mem_nil, or_false] at ht
      rcases ht with rfl
      exact ⟨by kernel_rfl, of_decide_eq_true (by kernel_rfl)⟩) hAk hW'.lt hsp) (fun _ _ => rfl) (by simp)
    (hb.frame _) (fun _ h => hb.frozen h) (ok_one (by kernel_rfl) rfl (okWide_bool_mk Tryd.underlying4 _))⟩
theorem auditBytes_laid (os : Os) : laidMet Tryd.prog Rows.auditBytesRow.laid ((lawWorld7 os).forCall (fun _ _ => 0) ⟨#[], #[zRec7], []⟩).memory :=
  laidMet_of_run' 8 (by kernel_rfl) (by kernel_rfl)
theorem auditBytes_reads (os : Os) {H : Type} (enc : TypeId × Value → H) : ∃ places, DataW.whole enc Tryd.prog ((lawWorld7 os).forCall (fun _ _ => 0) ⟨#[], #[zRec7], []⟩).memory Tryd.f5.params.toList Rows.auditBytesSpec.vars false #[zRec7].toList 8 = some ([.agg [.lit (.string []), .lit (.string []), .lit (.string []), .lit (.int .i64 0), .lit (.int .i64 0)]], [], places) :=
  ⟨[], by kernel_rfl⟩
theorem auditBytes_lifted (os : Os) (started : os.Started) (H : Type) (enc : TypeId × Value → H) (F : Stop.Interp) :
    ReturnsInHanded {} Tryd.checked os 5 .any ((OpenSpec.ofChange Rows.auditBytesSpec).preRow enc Tryd.prog Tryd.f5 Rows.auditBytesRow.domain false Rows.auditBytesRow.laid) (((OpenSpec.ofChange Rows.auditBytesSpec).at F).post enc Tryd.prog Tryd.f5 false true false false) := by
  obtain ⟨places, hx⟩ := auditBytes_reads os enc
  refine returnsInHanded_of_row (C := Tryd.checked) (s := OpenSpec.ofChange Rows.auditBytesSpec) lawOwn started (by kernel_rfl) Tryd.func5
    (witness_row_atRef (enc := enc) (C := Tryd.checked) false (lawWorld7 os) #[zRec7] rfl (by kernel_rfl) (by kernel_rfl) (by kernel_rfl)
      (OpenSpec.preRow_of_cond 8 hx (by kernel_rfl) (fun k hk => by cases hk) (by kernel_rfl) (auditBytes_laid os))) ?_
  intro W base args ds gs before hval hW _ _ _ hL _ _
  exact auditBytes_contract H enc W base args ds gs before hval hW hL
theorem auditBytes_said : Rows.AuditBytesSaid :=
  OpenClaim.holds_of_cond 5 Tryd.f5 rfl rfl rfl rfl rfl rfl rfl ⟨rfl, rfl, rfl, rfl, rfl⟩ rfl rfl rfl rfl rfl (by kernel_rfl) Tryd.func5 (by kernel_rfl)
    (of_decide_eq_true (by kernel_rfl)) (by unfold Func.isWrapper; first | (rw [if_pos (by decide +kernel)]; kernel_rfl) | (rw [if_neg (by decide +kernel)]; exact ⟨rfl, rfl⟩))
    (fun os started H enc _ F => by rw [OpenClaim.pre_eq_preRow]; exact auditBytes_lifted os started H enc F)
theorem auditBytes_plain (f : FuncId) (fn : Func) (hf : Tryd.pinned.checked.prog.funcNamed Rows.auditBytesRow.func = some f) (hfn : Tryd.pinned.checked.prog.funcs[f]? = some fn) :
    true = Tryd.pinned.checked.prog.looks [] ∧ ∀ (j : Nat) t, fn.params[j]? = some t → Tryd.pinned.checked.prog.wantsStandIn t = false := by
  obtain rfl : f = 5 := Option.some.inj ((show Tryd.prog.funcNamed Rows.auditBytesRow.func = some 5 by kernel_rfl).symm.trans hf) |>.symm
  obtain rfl : fn = Tryd.f5 := (Option.some.inj (Tryd.func5.symm.trans hfn)).symm
  refine ⟨by kernel_rfl, fun j t ht => ?_⟩
  rw [Tryd.params5] at ht
  have ht : t = 46 := by simpa using Array.mem_of_getElem? ht
  rcases ht with rfl
  exact (show Tryd.prog.wantsStandIn 46 = false by kernel_rfl)
theorem auditBytes_card : Rows.AuditBytesCardSaid :=
  Claim7.holds_tied_plain_at .later [] _ _ _ _ auditBytes_said (fun _ h => by cases h) (by kernel_rfl) (fun _ h => by cases h) auditBytes_row_tie rfl ⟨rfl, rfl⟩ (by kernel_rfl) rfl auditBytes_plain (by kernel_rfl)
end Go.Proofs.YtkdolbmcnekeoaaDoor
