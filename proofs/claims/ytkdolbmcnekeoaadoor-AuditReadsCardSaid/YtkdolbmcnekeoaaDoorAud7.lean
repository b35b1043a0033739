/-
  audit.Read: the record that bytes say.
  The laws' helper Same: are bytes the same?
  Pairs of texts and records compared, as package command compares them.
  Layer 27's example (known), and the law AuditBytes: for every record it returns true.
  Digits compared as text: what the document's reader of numbers (creelref03) does is what num says.
  creelref03.number: what it tells is what num says.
  creelref03.Read: the nodes of a value: what it tells is what pv says. Words and small laws.
-/
import Derived.Test.YtkdolbmcnekeoaaDoorAud5
import Derived.Test.YtkdolbmcnekeoaaDoorAud6
import Derived.Test.YtkdolbmcnekeoaaDoorAud4
import Derived.Test.YtkdolbmcnekeoaaDoorAud3
import Derived.KernelRfl
import Derived.Test.YtkdolbmcnekeoaaDoorAud2
namespace Cr
open Go Go.Proofs
set_option maxRecDepth 100000
set_option maxHeartbeats 4000000
attribute [local irreducible] Calls

section
variable {P : Program} {o : Oper} {σ : Env} {w : World} {x y : Operand} {t ty : TypeId}
theorem Yl_neqBool {a b : Bool} (ho : o.op = .binOp .neq t x y ty) (hx : ev σ x = some (.bool a)) (hy : ev σ y = some (.bool b)) [h : Und P t .bool] : Yl P o σ w (.bool (!(a == b))) := ⟨fun N ds f ha => by
  have h2 := run_neq_bool (P := P) w t a b h.und
  simp [execOp, ho, ha.eval hx, ha.eval hy, eqGuard, h2]⟩
end
/-- What Read tells. -/
def ARes (W : World) (r : Option Rec) (v : Value) (w : World) : Prop :=
  match r with
  | some r => v = .tuple #[.agg r.cells.toArray, .int .i64 0] ∧ St W noF [] w
  | none => v = .tuple #[.agg zRec.cells.toArray, .int .i64 3] ∧ St W noF [] w
def kindOk (i : Nat) (y : Leaf) : Prop := if i < 3 then ∃ b, y = .txt b else ∃ n, y = .num n
theorem readR_bad {x : List Leaf} {i : Nat} {y : Leaf} (h : x[i]? = some y) (hi : i < 5) (hk : ¬ kindOk i y) : readR (.list x) = none := by
  unfold readR
  split
  · exfalso
    apply hk
    rename_i e
    injection e with e
    subst e
    have hc : i = 0 ∨ i = 1 ∨ i = 2 ∨ i = 3 ∨ i = 4 := by omega
    rcases hc with rfl | rfl | rfl | rfl | rfl
    · exact ⟨_, (Option.some.inj h).symm⟩
    · exact ⟨_, (Option.some.inj h).symm⟩
    · exact ⟨_, (Option.some.inj h).symm⟩
    · exact ⟨_, (Option.some.inj h).symm⟩
    · exact ⟨_, (Option.some.inj h).symm⟩
  · rfl
theorem readR_len {x : List Leaf} (h : x.length ≠ 5) : readR (.list x) = none := by
  unfold readR
  split
  · rename_i e
    injection e with e
    subst e
    exact absurd rfl h
  · rfl
theorem readR_ok {x : List Leaf} (h5 : x.length = 5) (h : ∀ i y, i < 5 → x[i]? = some y → kindOk i y) : ∃ c p k n o, x = [.txt c, .txt p, .txt k, .num n, .num o] := by
  match x, h5, h with
  | [y0, y1, y2, y3, y4], _, h =>
    obtain ⟨c, rfl⟩ := h 0 _ (by omega) rfl
    obtain ⟨p, rfl⟩ := h 1 _ (by omega) rfl
    obtain ⟨k, rfl⟩ := h 2 _ (by omega) rfl
    obtain ⟨n, rfl⟩ := h 3 _ (by omega) rfl
    obtain ⟨o, rfl⟩ := h 4 _ (by omega) rfl
    exact ⟨_, _, _, _, _, rfl⟩
theorem dec_leaf7 {s : List UInt8} {y : Leaf} (h : dec s = some (.leaf y)) : y ≠ .oth := by
  unfold dec at h
  split at h
  · rename_i t hp
    injection h with h
    subst h
    exact (pv_canon hp).2
  · cases h
theorem leaf_kind {W : World} {F : Nat → Prop} {y : Leaf} {cs : List Value} (H : LeafRo W F y cs) (hne : y ≠ .oth) : ∃ k n a1 n1 c1 a2 n2 c2, cs = [.int .i64 k, .int .i64 n, .slice a1 n1 c1, .slice a2 n2 c2] ∧ k ≠ 2 := by
  cases y with
  | oth => exact absurd rfl hne
  | num n => exact ⟨0, n, none, 0, 0, none, 0, 0, H, by decide⟩
  | txt b =>
    obtain ⟨a, c, rfl, _⟩ := H
    exact ⟨1, 0, a, b.length, c, none, 0, 0, rfl, by decide⟩
theorem list5 {α : Type} {l : List α} (h : l.length = 5) : ∃ a b c d e, l = [a, b, c, d, e] := by
  match l, h with
  | [a, b, c, d, e], _ => exact ⟨a, b, c, d, e, rfl⟩
theorem St.open_list {W : World} {F : Nat → Prop} {q : List Res} {w : World} {x : List Leaf} {cs : List Value} (hS : St W F (topR (.list x) cs :: q) w) : ∃ a c, cs = [.int .i64 2, .int .i64 0, .slice none 0 0, .slice a x.length c] ∧ St W F (listR a x :: q) w := by
  have h0 := hS
  obtain ⟨_, ⟨h1, _, ⟨a, c, rfl, _⟩, _⟩, _⟩ := h0
  refine ⟨a, c, rfl, hS.head fun _ h => ?_⟩
  obtain ⟨a', c', e, hl⟩ := h
  injection e with _ e
  injection e with _ e
  injection e with _ e
  injection e with e _
  injection e with e
  rw [e]
  exact hl
theorem aread_ (a : Option Addr) (s : List UInt8) (c : Nat) (hsc : s.length ≤ c) (hl : s.length ≤ 65536) (W : World) (hG : Lg W noF) (hT : Sp W noF) (hb : Ro W noF (bytes a s)) :
    Calls Tryd.prog 23 #[.slice a s.length c] W (Ret fun v w => ARes W ((dec s).bind readR) v w) := by
  have hS := St.start W
  have hD := decode_ a s c hsc (by omega)
  have hleaf := fun y h => dec_leaf7 (s := s) (y := y) h
  generalize dec s = res at hD hleaf ⊢
  refine calls_C Tryd.func23 rfl Tryd.ntmps23 rfl ?_
  repeat (first | (refine G_id ?_; first | refine G_nil ?_ | refine G_plain rfl rfl ?_) | (refine X_id ?_; first | refine X_yl (Yl_move rfl rfl) rfl rfl ?_ | refine X_yl (Yl_assign rfl rfl) rfl rfl ?_ | refine X_alloc rfl rfl rfl hS (fun _ _ hS _ => ?_)) | (refine C_id ?_; first | refine C_seq ?_ | refine C_region ?_) | (refine E_id ?_; first | refine E_code ?_))
  rename_i b2 _ _
  refine X_callg _ rfl rfl rfl rfl rfl (hD _ (hG.at_ hS) (hb.rd hS).ro) ?_
  rintro v w hV
  cases res with
  | none =>
    obtain ⟨e, rfl, he, hS'⟩ := hV
    replace hS := hS.plus hS'
    clear hS'
    repeat (first | (refine G_id ?_; first | refine G_nil ?_ | refine G_plain rfl rfl ?_ | refine G_no rfl rfl rfl rfl rfl rfl ?_) | (refine X_id ?_; first | refine X_yl (Yl_move rfl rfl) rfl rfl ?_ | refine X_yl (Yl_assign rfl rfl) rfl rfl ?_ | refine X_yl (Yl_extract rfl rfl) rfl rfl ?_ | refine X_yl (Yl_pick_t rfl rfl rfl) rfl rfl ?_ | refine X_yl (Yl_neq_t rfl rfl rfl (by omega)) rfl rfl ?_ | refine X_yl (Yl_build rfl rfl rfl) rfl rfl ?_ | refine X_store rfl rfl rfl rfl hS (fun _ hS _ => ?_) | refine X_alloc rfl rfl rfl hS (fun _ _ hS _ => ?_)) | (refine C_id ?_; first | refine C_seq ?_ | refine C_region ?_ | refine C_ret ?_ | refine C_cond_t rfl ?_) | (refine E_id ?_; first | refine E_code ?_ | refine E_then_ret ?_ | refine E_ret2 rfl (by first | exact Rv_tmp rfl | exact Rv_cell rfl (run_load1 hS.cell) | exact Rv_cell rfl (run_loadN hS.cellsN)) (by first | exact Rv_tmp rfl | exact Rv_cell rfl (run_load1 hS.cell) | exact Rv_cell rfl (run_loadN hS.cellsN)) (Ret.mk ?_)))
    exact ⟨rfl, hS.drops⟩
  | some t =>
    obtain ⟨cs, rfl, hS'⟩ := hV
    replace hS := hS.plus hS'
    clear hS'
    cases t with
    | leaf y =>
      have hro : Ro w noF (leafR y cs) := (hS.rd (r := topR (.leaf y) cs) (by simp)).ro
      obtain ⟨k, n, a1, n1, c1, a2, n2, c2, rfl, hk⟩ := leaf_kind hro.leaf (hleaf y rfl)
      clear hro
      repeat (first | (refine G_id ?_; first | refine G_nil ?_ | refine G_plain rfl rfl ?_ | refine G_yes rfl rfl rfl rfl ?_ | refine G_no rfl rfl rfl rfl rfl rfl ?_) | (refine X_id ?_; first | refine X_yl (Yl_move rfl rfl) rfl rfl ?_ | refine X_yl (Yl_assign rfl rfl) rfl rfl ?_ | refine X_yl (Yl_fieldAddr0 rfl rfl rfl) rfl rfl ?_ | refine X_yl (Yl_extract rfl rfl) rfl rfl ?_ | refine X_yl (Yl_pick_t rfl rfl rfl) rfl rfl ?_ | refine X_yl (Yl_pick_f rfl rfl rfl) rfl rfl ?_ | refine X_yl (Yl_neq_t rfl rfl rfl (by omega)) rfl rfl ?_ | refine X_yl (Yl_neq_f rfl rfl rfl (by omega)) rfl rfl ?_ | refine X_yl (Yl_build rfl rfl rfl) rfl rfl ?_ | refine X_yl (Yl_load rfl rfl hS.cell) rfl rfl ?_ | refine X_store rfl rfl rfl rfl hS (fun _ hS _ => ?_) | refine X_alloc rfl rfl rfl hS (fun _ _ hS _ => ?_)) | (refine C_id ?_; first | refine C_seq ?_ | refine C_region ?_ | refine C_ret ?_ | refine C_cond_t rfl ?_) | (refine E_id ?_; first | refine E_code ?_ | refine E_then_ret ?_ | refine E_ret2 rfl (by first | exact Rv_tmp rfl | exact Rv_cell rfl (run_load1 hS.cell) | exact Rv_cell rfl (run_loadN hS.cellsN)) (by first | exact Rv_tmp rfl | exact Rv_cell rfl (run_load1 hS.cell) | exact Rv_cell rfl (run_loadN hS.cellsN)) (Ret.mk ?_)))
      exact ⟨rfl, hS.drops⟩
    | list x =>
      obtain ⟨a2, c2, e2, hS1⟩ := hS.open_list
      subst e2
      clear hS
      have hS := hS1
      clear hS1
      simp only [Option.bind_some]
      by_cases h5 : x.length = 5
      case neg =>
        rw [readR_len h5]
        repeat (first | (refine G_id ?_; first | refine G_nil ?_ | refine G_plain rfl rfl ?_ | refine G_yes rfl rfl rfl rfl ?_) | (refine X_id ?_; first | refine X_yl (Yl_move rfl rfl) rfl rfl ?_ | refine X_yl (Yl_assign rfl rfl) rfl rfl ?_ | refine X_yl (Yl_fieldAddr0 rfl rfl rfl) rfl rfl ?_ | refine X_yl (Yl_extract rfl rfl) rfl rfl ?_ | refine X_yl (Yl_pick_f rfl rfl rfl) rfl rfl ?_ | refine X_yl (Yl_len rfl rfl) rfl rfl ?_ | refine X_yl (Yl_neq_t rfl rfl rfl (by omega)) rfl rfl ?_ | refine X_yl (Yl_neq_f rfl rfl rfl (by omega)) rfl rfl ?_ | refine X_yl (Yl_build rfl rfl rfl) rfl rfl ?_ | refine X_yl (Yl_load rfl rfl hS.cell) rfl rfl ?_ | refine X_store rfl rfl rfl rfl hS (fun _ hS _ => ?_) | refine X_alloc rfl rfl rfl hS (fun _ _ hS _ => ?_)) | (refine C_id ?_; first | refine C_seq ?_ | refine C_region ?_ | refine C_ret ?_ | refine C_cond_t rfl ?_) | (refine E_id ?_; first | refine E_code ?_ | refine E_then_ret ?_ | refine E_ret2 rfl (by first | exact Rv_tmp rfl | exact Rv_cell rfl (run_load1 hS.cell) | exact Rv_cell rfl (run_loadN hS.cellsN)) (by first | exact Rv_tmp rfl | exact Rv_cell rfl (run_load1 hS.cell) | exact Rv_cell rfl (run_loadN hS.cellsN)) (Ret.mk ?_)))
        exact ⟨rfl, hS.drops⟩
      case pos =>
        rw [h5]
        repeat (first | (refine G_id ?_; first | refine G_nil ?_ | refine G_plain rfl rfl ?_ | refine G_yes rfl rfl rfl rfl ?_) | (refine X_id ?_; first | refine X_yl (Yl_move rfl rfl) rfl rfl ?_ | refine X_yl (Yl_assign rfl rfl) rfl rfl ?_ | refine X_yl (Yl_fieldAddr0 rfl rfl rfl) rfl rfl ?_ | refine X_yl (Yl_extract rfl rfl) rfl rfl ?_ | refine X_yl (Yl_pick_f rfl rfl rfl) rfl rfl ?_ | refine X_yl (Yl_len rfl rfl) rfl rfl ?_ | refine X_yl (Yl_neq_f rfl rfl rfl (by omega)) rfl rfl ?_ | refine X_yl (Yl_load rfl rfl hS.cell) rfl rfl ?_ | refine X_store rfl rfl rfl rfl hS (fun _ hS _ => ?_) | refine X_alloc rfl rfl rfl hS (fun _ _ hS _ => ?_)) | (refine C_id ?_; first | refine C_seq ?_ | refine C_region ?_ | refine C_block ?_ | refine C_skip ?_ | refine C_cond_f rfl ?_) | (refine E_id ?_; first | refine E_code ?_))
        clear hD hleaf
        rename_i b4 _ _ _ w1 _
        obtain ⟨F2, hS2, hro, hw, hbk⟩ := hS.call [true, false, true]
        replace hT : Sp w1 F2 := hw _ hT
        obtain ⟨rows, hr, hL⟩ := (hro (listR a2 x) (by simp)).list
        clear hro hS
        have hS := hS2
        clear hS2
        refine C_joinB (α := Unit) (fun _ => [(2, .pointer (some ⟨b2, 0, none⟩)), (4, .pointer (some ⟨b4, 0, none⟩))]) (fun _ w => (∀ i y, i < 5 → x[i]? = some y → kindOk i y) ∧ St w1 F2 [pts b4 (.cells (List.toArray [.int .i64 2, .int .i64 0, .slice none 0 0, .slice a2 5 c2]) 61 (0, 0)), pts b2 (.cells (List.toArray [.string (str []), .string (str []), .string (str []), .int .i64 0, .int .i64 0]) 28 (0, 0))] w) ?_ ?_
        · refine C_loop (α := Nat) (fun i => [(2, .pointer (some ⟨b2, 0, none⟩)), (4, .pointer (some ⟨b4, 0, none⟩)), (29, .slice a2 5 c2), (30, .int .i64 (5 : Nat)), (31, .int .i64 (i : Nat))])
            (fun i w => i ≤ 5 ∧ (∀ j y, j < i → x[j]? = some y → kindOk j y) ∧ St w1 F2 [pts b4 (.cells (List.toArray [.int .i64 2, .int .i64 0, .slice none 0 0, .slice a2 5 c2]) 61 (0, 0)), pts b2 (.cells (List.toArray [.string (str []), .string (str []), .string (str []), .int .i64 0, .int .i64 0]) 28 (0, 0))] w)
            (fun i => 5 - i) 0 ⟨rfl, rfl, rfl, rfl, rfl, trivial⟩ ⟨Nat.zero_le _, fun j y hj => by omega, hS⟩ ?_
          clear hS
          rintro i w ⟨hi, hok, hS⟩
          by_cases hlt : i < 5
          · obtain ⟨y, hy0⟩ : ∃ y, x[i]? = some y := ⟨_, List.getElem?_eq_getElem (by omega)⟩
            obtain ⟨cs, hxs, hy⟩ := hL.at_ hy0
            have hnext : kindOk i y → ∀ j z, j < i + 1 → x[j]? = some z → kindOk j z := fun hk j z hj hz => by
              rcases Nat.lt_or_ge j i with h | h
              · exact hok j z h hz
              · obtain rfl : j = i := by omega
                rw [hy0] at hz
                obtain rfl := Option.some.inj hz
                exact hk
            have hbad : ¬ kindOk i y → readR (.list x) = none := fun hk => readR_bad hy0 hlt hk
            by_cases h3 : i < 3
            · cases y with
              | txt b =>
                obtain ⟨a1, c1, rfl, _⟩ := hy
                obtain ⟨ab, ao, rfl⟩ := hr.start.base (by
                  intro e
                  rw [e] at hxs
                  simp at hxs)
                simp only [z0] at hxs
                repeat (first | (refine G_id ?_; first | refine G_nil ?_ | refine G_plain rfl rfl ?_ | refine G_yes rfl rfl rfl rfl ?_) | (refine X_id ?_; first | refine X_yl (Yl_move rfl rfl) rfl rfl ?_ | refine X_yl (Yl_assign rfl rfl) rfl rfl ?_ | refine X_yl (Yl_fieldAddr0 rfl rfl rfl) rfl rfl ?_ | refine X_yl (Yl_pick_f rfl rfl rfl) rfl rfl ?_ | refine X_yl (Yl_eql_t rfl rfl rfl (by omega)) rfl rfl ?_ | refine X_yl (Yl_eql_f rfl rfl rfl (by omega)) rfl rfl ?_ | refine X_yl (Yl_lss_t rfl rfl rfl (by omega)) rfl rfl ?_ | refine X_yl (Yl_gtr_f rfl rfl rfl (by omega)) rfl rfl ?_ | refine X_yl (Yl_indexAddr rfl rfl rfl (by omega) (by omega) (by first | assumption | exact ⟨_, _, rfl⟩)) rfl rfl ?_ | refine X_yl (Yl_add rfl rfl rfl (w64 (by omega) (by omega))) rfl rfl ?_ | refine X_yl (Yl_load rfl rfl hS.cell) rfl rfl ?_ | refine X_yl (Yl_loadN rfl rfl ((hr.rd hS).cellsX (by omega) hxs rfl)) rfl rfl ?_ | refine X_store rfl rfl rfl rfl hS (fun _ hS _ => ?_) | refine X_alloc rfl rfl rfl hS (fun _ _ hS _ => ?_) | refine X_yl (Yl_neqBool rfl rfl rfl) rfl rfl ?_) | (refine C_id ?_; first | refine C_seq ?_ | refine C_region ?_ | refine C_block ?_ | refine C_skip ?_ | refine C_cond_t rfl ?_ | refine C_cond_f rfl ?_) | (refine E_id ?_; first | refine E_code ?_ | refine E_blk_n ?_))
                exact E_round (z := i) (i + 1) ⟨rfl, rfl, rfl, rfl, rfl, trivial⟩ ⟨hlt, hnext (by unfold kindOk; rw [if_pos h3]; exact ⟨_, rfl⟩), hS.took⟩ (by omega)
              | num n =>
                obtain rfl := hy
                obtain ⟨ab, ao, rfl⟩ := hr.start.base (by
                  intro e
                  rw [e] at hxs
                  simp at hxs)
                simp only [z0] at hxs
                rw [hbad (by unfold kindOk; rw [if_pos h3]; rintro ⟨_, h⟩; cases h)]
                repeat (first | (refine G_id ?_; first | refine G_nil ?_ | refine G_plain rfl rfl ?_ | refine G_no rfl rfl rfl rfl rfl rfl ?_) | (refine X_id ?_; first | refine X_yl (Yl_move rfl rfl) rfl rfl ?_ | refine X_yl (Yl_assign rfl rfl) rfl rfl ?_ | refine X_yl (Yl_fieldAddr0 rfl rfl rfl) rfl rfl ?_ | refine X_yl (Yl_pick_t rfl rfl rfl) rfl rfl ?_ | refine X_yl (Yl_eql_f rfl rfl rfl (by omega)) rfl rfl ?_ | refine X_yl (Yl_lss_t rfl rfl rfl (by omega)) rfl rfl ?_ | refine X_yl (Yl_build rfl rfl rfl) rfl rfl ?_ | refine X_yl (Yl_indexAddr rfl rfl rfl (by omega) (by omega) (by first | assumption | exact ⟨_, _, rfl⟩)) rfl rfl ?_ | refine X_yl (Yl_load rfl rfl hS.cell) rfl rfl ?_ | refine X_yl (Yl_loadN rfl rfl ((hr.rd hS).cellsX (by omega) hxs rfl)) rfl rfl ?_ | refine X_store rfl rfl rfl rfl hS (fun _ hS _ => ?_) | refine X_alloc rfl rfl rfl hS (fun _ _ hS _ => ?_) | refine X_yl (Yl_neqBool rfl rfl rfl) rfl rfl ?_) | (refine C_id ?_; first | refine C_seq ?_ | refine C_region ?_ | refine C_block ?_ | refine C_ret ?_ | refine C_skip ?_ | refine C_cond_t rfl ?_) | (refine E_id ?_; first | refine E_code ?_ | refine E_then_ret ?_ | refine E_blk_ret ?_ | refine E_ret2 rfl (by first | exact Rv_tmp rfl | exact Rv_cell rfl (run_load1 hS.cell) | exact Rv_cell rfl (run_loadN hS.cellsN)) (by first | exact Rv_tmp rfl | exact Rv_cell rfl (run_load1 hS.cell) | exact Rv_cell rfl (run_loadN hS.cellsN)) (Ret.mk ?_)))
                exact ⟨rfl, (hbk hS).drops⟩
              | oth =>
                obtain ⟨a1, n1, c1, rfl⟩ := hy
                obtain ⟨ab, ao, rfl⟩ := hr.start.base (by
                  intro e
                  rw [e] at hxs
                  simp at hxs)
                simp only [z0] at hxs
                rw [hbad (by unfold kindOk; rw [if_pos h3]; rintro ⟨_, h⟩; cases h)]
                repeat (first | (refine G_id ?_; first | refine G_nil ?_ | refine G_plain rfl rfl ?_ | refine G_no rfl rfl rfl rfl rfl rfl ?_) | (refine X_id ?_; first | refine X_yl (Yl_move rfl rfl) rfl rfl ?_ | refine X_yl (Yl_assign rfl rfl) rfl rfl ?_ | refine X_yl (Yl_fieldAddr0 rfl rfl rfl) rfl rfl ?_ | refine X_yl (Yl_pick_t rfl rfl rfl) rfl rfl ?_ | refine X_yl (Yl_eql_f rfl rfl rfl (by omega)) rfl rfl ?_ | refine X_yl (Yl_lss_t rfl rfl rfl (by omega)) rfl rfl ?_ | refine X_yl (Yl_build rfl rfl rfl) rfl rfl ?_ | refine X_yl (Yl_indexAddr rfl rfl rfl (by omega) (by omega) (by first | assumption | exact ⟨_, _, rfl⟩)) rfl rfl ?_ | refine X_yl (Yl_load rfl rfl hS.cell) rfl rfl ?_ | refine X_yl (Yl_loadN rfl rfl ((hr.rd hS).cellsX (by omega) hxs rfl)) rfl rfl ?_ | refine X_store rfl rfl rfl rfl hS (fun _ hS _ => ?_) | refine X_alloc rfl rfl rfl hS (fun _ _ hS _ => ?_) | refine X_yl (Yl_neqBool rfl rfl rfl) rfl rfl ?_) | (refine C_id ?_; first | refine C_seq ?_ | refine C_region ?_ | refine C_block ?_ | refine C_ret ?_ | refine C_skip ?_ | refine C_cond_t rfl ?_) | (refine E_id ?_; first | refine E_code ?_ | refine E_then_ret ?_ | refine E_blk_ret ?_ | refine E_ret2 rfl (by first | exact Rv_tmp rfl | exact Rv_cell rfl (run_load1 hS.cell) | exact Rv_cell rfl (run_loadN hS.cellsN)) (by first | exact Rv_tmp rfl | exact Rv_cell rfl (run_load1 hS.cell) | exact Rv_cell rfl (run_loadN hS.cellsN)) (Ret.mk ?_)))
                exact ⟨rfl, (hbk hS).drops⟩
            · cases y with
              | txt b =>
                obtain ⟨a1, c1, rfl, _⟩ := hy
                obtain ⟨ab, ao, rfl⟩ := hr.start.base (by
                  intro e
                  rw [e] at hxs
                  simp at hxs)
                simp only [z0] at hxs
                rw [hbad (by unfold kindOk; rw [if_neg h3]; rintro ⟨_, h⟩; cases h)]
                repeat (first | (refine G_id ?_; first | refine G_nil ?_ | refine G_plain rfl rfl ?_ | refine G_no rfl rfl rfl rfl rfl rfl ?_) | (refine X_id ?_; first | refine X_yl (Yl_move rfl rfl) rfl rfl ?_ | refine X_yl (Yl_assign rfl rfl) rfl rfl ?_ | refine X_yl (Yl_fieldAddr0 rfl rfl rfl) rfl rfl ?_ | refine X_yl (Yl_pick_t rfl rfl rfl) rfl rfl ?_ | refine X_yl (Yl_eql_t rfl rfl rfl (by omega)) rfl rfl ?_ | refine X_yl (Yl_lss_t rfl rfl rfl (by omega)) rfl rfl ?_ | refine X_yl (Yl_lss_f rfl rfl rfl (by omega)) rfl rfl ?_ | refine X_yl (Yl_build rfl rfl rfl) rfl rfl ?_ | refine X_yl (Yl_indexAddr rfl rfl rfl (by omega) (by omega) (by first | assumption | exact ⟨_, _, rfl⟩)) rfl rfl ?_ | refine X_yl (Yl_load rfl rfl hS.cell) rfl rfl ?_ | refine X_yl (Yl_loadN rfl rfl ((hr.rd hS).cellsX (by omega) hxs rfl)) rfl rfl ?_ | refine X_store rfl rfl rfl rfl hS (fun _ hS _ => ?_) | refine X_alloc rfl rfl rfl hS (fun _ _ hS _ => ?_) | refine X_yl (Yl_neqBool rfl rfl rfl) rfl rfl ?_) | (refine C_id ?_; first | refine C_seq ?_ | refine C_region ?_ | refine C_block ?_ | refine C_ret ?_ | refine C_skip ?_ | refine C_cond_t rfl ?_) | (refine E_id ?_; first | refine E_code ?_ | refine E_then_ret ?_ | refine E_blk_ret ?_ | refine E_ret2 rfl (by first | exact Rv_tmp rfl | exact Rv_cell rfl (run_load1 hS.cell) | exact Rv_cell rfl (run_loadN hS.cellsN)) (by first | exact Rv_tmp rfl | exact Rv_cell rfl (run_load1 hS.cell) | exact Rv_cell rfl (run_loadN hS.cellsN)) (Ret.mk ?_)))
                exact ⟨rfl, (hbk hS).drops⟩
              | num n =>
                obtain rfl := hy
                obtain ⟨ab, ao, rfl⟩ := hr.start.base (by
                  intro e
                  rw [e] at hxs
                  simp at hxs)
                simp only [z0] at hxs
                repeat (first | (refine G_id ?_; first | refine G_nil ?_ | refine G_plain rfl rfl ?_ | refine G_yes rfl rfl rfl rfl ?_) | (refine X_id ?_; first | refine X_yl (Yl_move rfl rfl) rfl rfl ?_ | refine X_yl (Yl_assign rfl rfl) rfl rfl ?_ | refine X_yl (Yl_fieldAddr0 rfl rfl rfl) rfl rfl ?_ | refine X_yl (Yl_pick_f rfl rfl rfl) rfl rfl ?_ | refine X_yl (Yl_eql_t rfl rfl rfl (by omega)) rfl rfl ?_ | refine X_yl (Yl_eql_f rfl rfl rfl (by omega)) rfl rfl ?_ | refine X_yl (Yl_lss_t rfl rfl rfl (by omega)) rfl rfl ?_ | refine X_yl (Yl_lss_f rfl rfl rfl (by omega)) rfl rfl ?_ | refine X_yl (Yl_gtr_t rfl rfl rfl (by omega)) rfl rfl ?_ | refine X_yl (Yl_indexAddr rfl rfl rfl (by omega) (by omega) (by first | assumption | exact ⟨_, _, rfl⟩)) rfl rfl ?_ | refine X_yl (Yl_add rfl rfl rfl (w64 (by omega) (by omega))) rfl rfl ?_ | refine X_yl (Yl_load rfl rfl hS.cell) rfl rfl ?_ | refine X_yl (Yl_loadN rfl rfl ((hr.rd hS).cellsX (by omega) hxs rfl)) rfl rfl ?_ | refine X_store rfl rfl rfl rfl hS (fun _ hS _ => ?_) | refine X_alloc rfl rfl rfl hS (fun _ _ hS _ => ?_) | refine X_yl (Yl_neqBool rfl rfl rfl) rfl rfl ?_) | (refine C_id ?_; first | refine C_seq ?_ | refine C_region ?_ | refine C_block ?_ | refine C_skip ?_ | refine C_cond_t rfl ?_ | refine C_cond_f rfl ?_) | (refine E_id ?_; first | refine E_code ?_ | refine E_blk_n ?_))
                exact E_round (z := i) (i + 1) ⟨rfl, rfl, rfl, rfl, rfl, trivial⟩ ⟨hlt, hnext (by unfold kindOk; rw [if_neg h3]; exact ⟨_, rfl⟩), hS.took⟩ (by omega)
              | oth =>
                obtain ⟨a1, n1, c1, rfl⟩ := hy
                obtain ⟨ab, ao, rfl⟩ := hr.start.base (by
                  intro e
                  rw [e] at hxs
                  simp at hxs)
                simp only [z0] at hxs
                rw [hbad (by unfold kindOk; rw [if_neg h3]; rintro ⟨_, h⟩; cases h)]
                repeat (first | (refine G_id ?_; first | refine G_nil ?_ | refine G_plain rfl rfl ?_ | refine G_yes rfl rfl rfl rfl ?_) | (refine X_id ?_; first | refine X_yl (Yl_move rfl rfl) rfl rfl ?_ | refine X_yl (Yl_assign rfl rfl) rfl rfl ?_ | refine X_yl (Yl_fieldAddr0 rfl rfl rfl) rfl rfl ?_ | refine X_yl (Yl_pick_f rfl rfl rfl) rfl rfl ?_ | refine X_yl (Yl_eql_f rfl rfl rfl (by omega)) rfl rfl ?_ | refine X_yl (Yl_lss_t rfl rfl rfl (by omega)) rfl rfl ?_ | refine X_yl (Yl_lss_f rfl rfl rfl (by omega)) rfl rfl ?_ | refine X_yl (Yl_gtr_t rfl rfl rfl (by omega)) rfl rfl ?_ | refine X_yl (Yl_build rfl rfl rfl) rfl rfl ?_ | refine X_yl (Yl_indexAddr rfl rfl rfl (by omega) (by omega) (by first | assumption | exact ⟨_, _, rfl⟩)) rfl rfl ?_ | refine X_yl (Yl_load rfl rfl hS.cell) rfl rfl ?_ | refine X_yl (Yl_loadN rfl rfl ((hr.rd hS).cellsX (by omega) hxs rfl)) rfl rfl ?_ | refine X_store rfl rfl rfl rfl hS (fun _ hS _ => ?_) | refine X_alloc rfl rfl rfl hS (fun _ _ hS _ => ?_) | refine X_yl (Yl_neqBool rfl rfl rfl) rfl rfl ?_) | (refine C_id ?_; first | refine C_seq ?_ | refine C_region ?_ | refine C_block ?_ | refine C_ret ?_ | refine C_skip ?_ | refine C_cond_t rfl ?_) | (refine E_id ?_; first | refine E_code ?_ | refine E_then_ret ?_ | refine E_blk_ret ?_ | refine E_ret2 rfl (by first | exact Rv_tmp rfl | exact Rv_cell rfl (run_load1 hS.cell) | exact Rv_cell rfl (run_loadN hS.cellsN)) (by first | exact Rv_tmp rfl | exact Rv_cell rfl (run_load1 hS.cell) | exact Rv_cell rfl (run_loadN hS.cellsN)) (Ret.mk ?_)))
                exact ⟨rfl, (hbk hS).drops⟩
          · obtain rfl : i = 5 := by omega
            repeat (first | (refine G_id ?_; first | refine G_nil ?_ | refine G_plain rfl rfl ?_) | (refine X_id ?_; first | refine X_yl (Yl_lss_f rfl rfl rfl (by omega)) rfl rfl ?_) | (refine C_id ?_; first | refine C_seq ?_ | refine C_region ?_ | refine C_exit ?_ | refine C_cond_f rfl ?_) | (refine E_id ?_; first | refine E_code ?_ | refine E_then_exit ?_ | refine E_blk_same ?_))
            exact E_mid () ⟨rfl, rfl, trivial⟩ ⟨hok, hS⟩
        · clear hS
          rintro _ w ⟨hok, hSn⟩
          obtain ⟨d0, d1, d2, n3, n4, rfl⟩ := readR_ok h5 hok
          obtain ⟨hrl, hL⟩ := hL
          obtain ⟨r0, r1, r2, r3, r4, rfl⟩ := list5 hrl
          obtain ⟨c0, e0, f0, g0, rfl, hb0⟩ := hL 0 _ rfl
          obtain ⟨c1, e1, f1, g1, rfl, hb1⟩ := hL 1 _ rfl
          obtain ⟨c2', e2, f2, g2, rfl, hb2⟩ := hL 2 _ rfl
          obtain ⟨c3, e3, rfl⟩ := hL 3 _ rfl
          obtain ⟨c4, e4, rfl⟩ := hL 4 _ rfl
          obtain rfl := Option.some.inj e0
          obtain rfl := Option.some.inj e1
          obtain rfl := Option.some.inj e2
          obtain rfl := Option.some.inj e3
          obtain rfl := Option.some.inj e4
          obtain ⟨ab, ao, rfl⟩ := hr.start.base (by simp)
          clear hL hrl e0 e1 e2 e3 e4 hok
          simp only [z0] at hr
          replace hr : Ro w1 F2 (row (some ⟨ab, ao, none⟩) [.int .i64 1, .int .i64 0, .slice f0 d0.length g0, .slice none 0 0, .int .i64 1, .int .i64 0, .slice f1 d1.length g1, .slice none 0 0, .int .i64 1, .int .i64 0, .slice f2 d2.length g2, .slice none 0 0, .int .i64 0, .int .i64 n3, .slice none 0 0, .slice none 0 0, .int .i64 0, .int .i64 n4, .slice none 0 0, .slice none 0 0]) := hr
          have hck := fun W h => check_ ⟨d0, d1, d2, n3, n4⟩ W h
          have hres : readR (.list [.txt d0, .txt d1, .txt d2, .num n3, .num n4]) = if rchk ⟨d0, d1, d2, n3, n4⟩ = 0 then some ⟨d0, d1, d2, n3, n4⟩ else none := rfl
          rw [hres]
          have hS := hSn
          clear hSn
          repeat (first | (refine C_id ?_; first | refine C_seq ?_))
          refine C_ord (.s 0 (.s 1 (.s 2 (.s 3 (.s 4 (.s 5 (.s 6 (.s 7 (.s 8 (.s 9 (.s 10 (.s 11 (.s 12 (.s 13 (.s 14 (.s 15 (.s 16 (.s 17 (.s 18 (.s 19 (.s 20 (.s 21 (.s 22 (.s 23 (.s 24 (.s 25 (.s 26 (.s 27 (.s 28 (.h 29 (.h 30 .nil .no) .no)))))))))))))))))))))))))))))) mixed (by kernel_rfl) rfl ?_
          have hS := hS.drew
          repeat' (first | (refine GO_read (fun w' => w'.cell? _ = some _) rfl rfl ((hr.rd hS).cellF (i := 2) (by first | omega | (dsimp only; omega)) rfl) (fun _ hc => Yl_load rfl rfl hc) rfl rfl ?_) | (refine GO_read (fun w' => w'.cell? _ = some _) rfl rfl ((hr.rd hS).cellF (i := 6) (by first | omega | (dsimp only; omega)) rfl) (fun _ hc => Yl_load rfl rfl hc) rfl rfl ?_) | (refine GO_read (fun w' => w'.cell? _ = some _) rfl rfl ((hr.rd hS).cellF (i := 10) (by first | omega | (dsimp only; omega)) rfl) (fun _ hc => Yl_load rfl rfl hc) rfl rfl ?_) | (refine GO_read (fun w' => w'.cell? _ = some _) rfl rfl ((hr.rd hS).cellF (i := 13) (by first | omega | (dsimp only; omega)) rfl) (fun _ hc => Yl_load rfl rfl hc) rfl rfl ?_) | (refine GO_read (fun w' => w'.cell? _ = some _) rfl rfl ((hr.rd hS).cellF (i := 17) (by first | omega | (dsimp only; omega)) rfl) (fun _ hc => Yl_load rfl rfl hc) rfl rfl ?_) | (refine GO_read (fun w' => Rd w' (bytes _ _)) rfl rfl (hb0.rd hS) (fun _ h => Yl_bytesStr rfl rfl h rfl) rfl rfl ?_) | (refine GO_read (fun w' => Rd w' (bytes _ _)) rfl rfl (hb1.rd hS) (fun _ h => Yl_bytesStr rfl rfl h rfl) rfl rfl ?_) | (refine GO_read (fun w' => Rd w' (bytes _ _)) rfl rfl (hb2.rd hS) (fun _ h => Yl_bytesStr rfl rfl h rfl) rfl rfl ?_) | (refine And.intro (by repeat (first | exact trivial | refine And.intro (.inl (by decide +kernel)) ?_ | refine And.intro (.inr (by first | exact hS.cell | exact (hr.rd hS).cellF (i := 2) (by first | omega | (dsimp only; omega)) rfl | exact (hr.rd hS).cellF (i := 6) (by first | omega | (dsimp only; omega)) rfl | exact (hr.rd hS).cellF (i := 10) (by first | omega | (dsimp only; omega)) rfl | exact (hr.rd hS).cellF (i := 13) (by first | omega | (dsimp only; omega)) rfl | exact (hr.rd hS).cellF (i := 17) (by first | omega | (dsimp only; omega)) rfl | exact hb0.rd hS | exact hb1.rd hS | exact hb2.rd hS)) ?_)) ?_) | refine GO_alt ?_ ?_ | (refine G_id ?_; first | refine G_plain rfl rfl ?_) | (refine X_id ?_; first | refine X_yl (Yl_loadN rfl rfl hS.cellsN) rfl rfl ?_ | refine X_store rfl rfl rfl rfl hS (fun _ hS _ => ?_) | refine X_alloc rfl rfl rfl hS (fun _ _ hS _ => ?_)) | (refine C_id ?_; first | refine C_seq ?_ | refine C_region ?_) | (refine E_id ?_; first | refine E_code ?_) | (refine GO_id ?_; first | refine GO_nil ?_ | refine GO_pure rfl rfl (fun _ => Yl_fieldAddr0 rfl rfl rfl) rfl rfl ?_ | refine GO_pure rfl rfl (fun _ => Yl_fieldAddr rfl rfl rfl) rfl rfl ?_ | refine GO_pure rfl rfl (fun _ => Yl_build rfl rfl rfl) rfl rfl ?_ | refine GO_pure rfl rfl (fun _ => Yl_indexAddr rfl rfl rfl (by omega) (by omega) (by first | assumption | exact ⟨_, _, rfl⟩)) rfl rfl ?_ | refine GO_read (fun w' => w'.cell? _ = some _) rfl rfl hS.cell (fun _ hc => Yl_load rfl rfl hc) rfl rfl ?_ | refine GO_hard rfl rfl ?_))
          refine X_callq 21 rfl rfl rfl rfl rfl hS (hck _ (hT.at_ hS)) ?_
          rintro _ w3 rfl hS
          by_cases hok : rchk ⟨d0, d1, d2, n3, n4⟩ = 0
          · rw [hok, if_pos rfl]
            repeat (first | (refine G_id ?_; first | refine G_nil ?_ | refine G_plain rfl rfl ?_) | (refine X_id ?_; first | refine X_yl (Yl_assign rfl rfl) rfl rfl ?_ | refine X_yl (Yl_neq_f rfl rfl rfl (by omega)) rfl rfl ?_ | refine X_yl (Yl_loadN rfl rfl hS.cellsN) rfl rfl ?_ | refine X_store rfl rfl rfl rfl hS (fun _ hS _ => ?_)) | (refine C_id ?_; first | refine C_seq ?_ | refine C_region ?_ | refine C_ret ?_ | refine C_skip ?_ | refine C_cond_f rfl ?_) | (refine E_id ?_; first | refine E_code ?_ | refine E_ret2 rfl (by first | exact Rv_tmp rfl | exact Rv_cell rfl (run_load1 hS.cell) | exact Rv_cell rfl (run_loadN hS.cellsN)) (by first | exact Rv_tmp rfl | exact Rv_cell rfl (run_load1 hS.cell) | exact Rv_cell rfl (run_loadN hS.cellsN)) (Ret.mk ?_)))
            exact ⟨rfl, (hbk hS).drops⟩
          · rw [if_neg hok]
            generalize rchk ⟨d0, d1, d2, n3, n4⟩ = q at hok
            repeat (first | (refine G_id ?_; first | refine G_nil ?_ | refine G_plain rfl rfl ?_) | (refine X_id ?_; first | refine X_yl (Yl_assign rfl rfl) rfl rfl ?_ | refine X_yl (Yl_neq_t rfl rfl rfl (by omega)) rfl rfl ?_ | refine X_yl (Yl_build rfl rfl rfl) rfl rfl ?_ | refine X_store rfl rfl rfl rfl hS (fun _ hS _ => ?_)) | (refine C_id ?_; first | refine C_seq ?_ | refine C_region ?_ | refine C_ret ?_ | refine C_cond_t rfl ?_) | (refine E_id ?_; first | refine E_code ?_ | refine E_then_ret ?_ | refine E_ret2 rfl (by first | exact Rv_tmp rfl | exact Rv_cell rfl (run_load1 hS.cell) | exact Rv_cell rfl (run_loadN hS.cellsN)) (by first | exact Rv_tmp rfl | exact Rv_cell rfl (run_load1 hS.cell) | exact Rv_cell rfl (run_loadN hS.cellsN)) (Ret.mk ?_)))
            exact ⟨rfl, (hbk hS).drops⟩
end Cr
namespace Cr
open Go Go.Proofs
set_option maxRecDepth 100000
set_option maxHeartbeats 8000000
attribute [local irreducible] Calls

theorem same_ (a b : Option Addr) (c c' : Nat) (s t : List UInt8) (W : World) (ha : Rd W (bytes a s)) (hb : Rd W (bytes b t)) (hs : s.length ≤ 1099511627776) :
    Calls Tryd.prog 15 #[.slice a s.length c, .slice b t.length c'] W (Ret fun v w => v = .bool (decide (s = t)) ∧ St W noF [] w) := by
  have hS := St.start W
  by_cases hl : s.length = t.length
  · refine calls_C Tryd.func15 rfl Tryd.ntmps15 rfl ?_
    repeat (first | (refine G_id ?_; first | refine G_nil ?_ | refine G_plain rfl rfl ?_) | (refine X_id ?_; first | refine X_yl (Yl_move rfl rfl) rfl rfl ?_ | refine X_yl (Yl_assign rfl rfl) rfl rfl ?_ | refine X_yl (Yl_len rfl rfl) rfl rfl ?_ | refine X_yl (Yl_neq_f rfl rfl rfl (by omega)) rfl rfl ?_) | (refine C_id ?_; first | refine C_seq ?_ | refine C_region ?_ | refine C_block ?_ | refine C_skip ?_ | refine C_cond_f rfl ?_) | (refine E_id ?_; first | refine E_code ?_))
    refine C_loop (α := Nat) (fun i => [(0, .slice a s.length c), (1, .slice b t.length c'), (5, .int .i64 (i : Nat))])
      (fun i w => i ≤ s.length ∧ s.take i = t.take i ∧ St W noF [] w) (fun i => s.length - i) 0 ⟨rfl, rfl, rfl, trivial⟩ ⟨Nat.zero_le _, rfl, hS⟩ ?_
    clear hS
    rintro i w ⟨hi, htk, hS⟩
    by_cases hlt : i < s.length
    · obtain ⟨ab, ao, rfl⟩ := ha.base (by intro e; have := bv_length s; rw [e] at this; simp at this; omega)
      obtain ⟨bb, bo, rfl⟩ := hb.base (by intro e; have := bv_length t; rw [e] at this; simp at this; omega)
      have h1 := ha.ro
      have h2 := hb.ro
      clear ha hb
      have hb := h1
      have hb2 := h2
      have hlt2 : i < t.length := by omega
      have ei : (i : Int).toNat * 1 = i := by omega
      by_cases he : s.getD i 0 = t.getD i 0
      · have hq : ((s.getD ((i : Int).toNat * 1) 0).toNat : Int) = ((t.getD ((i : Int).toNat * 1) 0).toNat : Int) := by rw [ei, he]
        repeat (first | (refine G_id ?_; first | refine G_nil ?_ | refine G_plain rfl rfl ?_) | (refine X_id ?_; first | refine X_yl (Yl_move rfl rfl) rfl rfl ?_ | refine X_yl (Yl_len rfl rfl) rfl rfl ?_ | refine X_yl (Yl_lss_t rfl rfl rfl (by omega)) rfl rfl ?_) | (refine C_id ?_; first | refine C_seq ?_ | refine C_region ?_ | refine C_block ?_ | refine C_skip ?_ | refine C_cond_t rfl ?_) | (refine E_id ?_; first | refine E_code ?_))
        refine C_ord (.s 0 (.s 1 (.s 2 (.s 3 (.s 4 (.s 5 (.s 6 (.s 7 (.s 8 .nil))))))))) mixed (by kernel_rfl) rfl ?_
        have hS := hS.drew
        repeat (first | (refine G_id ?_; first | refine G_nil ?_ | refine G_plain rfl rfl ?_) | (refine X_id ?_; first | refine X_yl (Yl_move rfl rfl) rfl rfl ?_ | refine X_yl (Yl_assign rfl rfl) rfl rfl ?_ | refine X_yl (Yl_add rfl rfl rfl (w64 (by omega) (by omega))) rfl rfl ?_) | (refine C_id ?_; first | refine C_region ?_ | refine C_skip ?_ | refine C_cond_f rfl ?_) | (refine E_id ?_; first | refine E_code ?_ | refine E_blk_n ?_) | (refine GO_id ?_; first | refine GO_nil ?_ | refine GO_pure rfl rfl (fun _ => Yl_move rfl rfl) rfl rfl ?_ | refine GO_pure rfl rfl (fun _ => Yl_neq_f rfl rfl rfl (by omega)) rfl rfl ?_ | refine GO_pure rfl rfl (fun _ => Yl_indexAddr rfl rfl rfl (by omega) (by omega) (by first | assumption | exact ⟨_, _, rfl⟩)) rfl rfl ?_ | refine GO_read (fun w' => w'.cell? _ = some _) rfl rfl ((hb.rd hS).cellB' (by omega)) (fun _ hc => Yl_load rfl rfl hc) rfl rfl ?_ | refine GO_read (fun w' => w'.cell? _ = some _) rfl rfl ((hb2.rd hS).cellB' (by omega)) (fun _ hc => Yl_load rfl rfl hc) rfl rfl ?_))
        refine E_round (i + 1) ⟨rfl, rfl, rfl, trivial⟩ ⟨by omega, ?_, hS⟩ (by omega)
        rw [List.take_succ_eq_append_getElem hlt, List.take_succ_eq_append_getElem hlt2, htk]
        rw [List.getD_eq_getElem?_getD, List.getD_eq_getElem?_getD, List.getElem?_eq_getElem hlt, List.getElem?_eq_getElem hlt2] at he
        simp only [Option.getD_some] at he
        rw [he]
      · have hq : ¬ ((s.getD ((i : Int).toNat * 1) 0).toNat : Int) = ((t.getD ((i : Int).toNat * 1) 0).toNat : Int) := by
          rw [ei]; intro h; exact he (UInt8.toNat_inj.1 (by omega))
        repeat (first | (refine G_id ?_; first | refine G_nil ?_ | refine G_plain rfl rfl ?_) | (refine X_id ?_; first | refine X_yl (Yl_move rfl rfl) rfl rfl ?_ | refine X_yl (Yl_len rfl rfl) rfl rfl ?_ | refine X_yl (Yl_lss_t rfl rfl rfl (by omega)) rfl rfl ?_) | (refine C_id ?_; first | refine C_seq ?_ | refine C_region ?_ | refine C_block ?_ | refine C_skip ?_ | refine C_cond_t rfl ?_) | (refine E_id ?_; first | refine E_code ?_))
        refine C_ord (.s 0 (.s 1 (.s 2 (.s 3 (.s 4 (.s 5 (.s 6 (.s 7 (.s 8 .nil))))))))) mixed (by kernel_rfl) rfl ?_
        have hS := hS.drew
        repeat (first | (refine G_id ?_; first | refine G_nil ?_ | refine G_plain rfl rfl ?_) | (refine X_id ?_; first | refine X_yl (Yl_assign rfl rfl) rfl rfl ?_) | (refine C_id ?_; first | refine C_seq ?_ | refine C_region ?_ | refine C_ret ?_ | refine C_cond_t rfl ?_) | (refine E_id ?_; first | refine E_code ?_ | refine E_then_ret ?_ | refine E_blk_ret ?_ | refine E_ret1 rfl (Rv_tmp rfl) (Ret.mk ?_)) | (refine GO_id ?_; first | refine GO_nil ?_ | refine GO_pure rfl rfl (fun _ => Yl_move rfl rfl) rfl rfl ?_ | refine GO_pure rfl rfl (fun _ => Yl_neq_t rfl rfl rfl (by omega)) rfl rfl ?_ | refine GO_pure rfl rfl (fun _ => Yl_indexAddr rfl rfl rfl (by omega) (by omega) (by first | assumption | exact ⟨_, _, rfl⟩)) rfl rfl ?_ | refine GO_read (fun w' => w'.cell? _ = some _) rfl rfl ((hb.rd hS).cellB' (by omega)) (fun _ hc => Yl_load rfl rfl hc) rfl rfl ?_ | refine GO_read (fun w' => w'.cell? _ = some _) rfl rfl ((hb2.rd hS).cellB' (by omega)) (fun _ hc => Yl_load rfl rfl hc) rfl rfl ?_))
        refine ⟨?_, hS⟩
        rw [decide_eq_false (fun h => he (by rw [h]))]
    · obtain rfl : i = s.length := by omega
      repeat (first | (refine G_id ?_; first | refine G_nil ?_ | refine G_plain rfl rfl ?_) | (refine X_id ?_; first | refine X_yl (Yl_move rfl rfl) rfl rfl ?_ | refine X_yl (Yl_assign rfl rfl) rfl rfl ?_ | refine X_yl (Yl_len rfl rfl) rfl rfl ?_ | refine X_yl (Yl_lss_f rfl rfl rfl (by omega)) rfl rfl ?_) | (refine C_id ?_; first | refine C_seq ?_ | refine C_region ?_ | refine C_ret ?_ | refine C_exit ?_ | refine C_cond_f rfl ?_) | (refine E_id ?_; first | refine E_code ?_ | refine E_then_exit ?_ | refine E_blk_same ?_ | refine E_ret1 rfl (Rv_tmp rfl) (Ret.mk ?_)))
      refine ⟨?_, hS⟩
      rw [List.take_length, hl, List.take_length] at htk
      simp [htk]
  · refine calls_C Tryd.func15 rfl Tryd.ntmps15 rfl ?_
    repeat (first | (refine G_id ?_; first | refine G_nil ?_ | refine G_plain rfl rfl ?_) | (refine X_id ?_; first | refine X_yl (Yl_move rfl rfl) rfl rfl ?_ | refine X_yl (Yl_assign rfl rfl) rfl rfl ?_ | refine X_yl (Yl_len rfl rfl) rfl rfl ?_ | refine X_yl (Yl_neq_t rfl rfl rfl (by omega)) rfl rfl ?_) | (refine C_id ?_; first | refine C_seq ?_ | refine C_region ?_ | refine C_ret ?_ | refine C_cond_t rfl ?_) | (refine E_id ?_; first | refine E_code ?_ | refine E_then_ret ?_ | refine E_ret1 rfl (Rv_tmp rfl) (Ret.mk ?_)))
    exact ⟨by rw [decide_eq_false (fun h => hl (by rw [h]))], hS⟩
end Cr
namespace Cr
open Go Go.Proofs
set_option maxRecDepth 100000
section
variable {P : Program} {o : Oper} {σ : Env} {w : World} {x y : Operand} {t ty e : TypeId}
instance seg_zero (l : List Value) : Seg l 0 0 [] := ⟨by simp⟩
instance seg_cons (v : Value) (l cs : List Value) (n : Nat) [h : Seg l 0 n cs] : Seg (v :: l) 0 (n + 1) (v :: cs) := ⟨by have := h.seg; simp at this ⊢; exact this⟩
theorem Yl_eql2 {a0 a1 b0 b1 : List UInt8} (ho : o.op = .binOp .eql t x y ty) (hx : ev σ x = some (.agg (List.toArray [.string (str a0), .string (str a1)]))) (hy : ev σ y = some (.agg (List.toArray [.string (str b0), .string (str b1)]))) [h : Und P t (.array 2 e)] [he : Und P e .string] [hs : Siz P e 1] [h1 : One P e] [hg : NoGd P t] :
    Yl P o σ w (.bool (decide ([a0, a1] = [b0, b1]))) := Yl_eqlStrs (n := 2) [a0, a1] [b0, b1] ho hx hy rfl rfl rfl rfl
theorem Yl_neq2 {a0 a1 b0 b1 : List UInt8} (ho : o.op = .binOp .neq t x y ty) (hx : ev σ x = some (.agg (List.toArray [.string (str a0), .string (str a1)]))) (hy : ev σ y = some (.agg (List.toArray [.string (str b0), .string (str b1)]))) [h : Und P t (.array 2 e)] [he : Und P e .string] [hs : Siz P e 1] [h1 : One P e] [hg : NoGd P t] :
    Yl P o σ w (.bool (decide (¬ [a0, a1] = [b0, b1]))) := Yl_neqStrs (n := 2) [a0, a1] [b0, b1] ho hx hy rfl rfl rfl rfl
theorem Yl_neq3 {a0 a1 a2 b0 b1 b2 : List UInt8} (ho : o.op = .binOp .neq t x y ty) (hx : ev σ x = some (.agg (List.toArray [.string (str a0), .string (str a1), .string (str a2)]))) (hy : ev σ y = some (.agg (List.toArray [.string (str b0), .string (str b1), .string (str b2)]))) [h : Und P t (.array 3 e)] [he : Und P e .string] [hs : Siz P e 1] [h1 : One P e] [hg : NoGd P t] :
    Yl P o σ w (.bool (decide (¬ [a0, a1, a2] = [b0, b1, b2]))) := Yl_neqStrs (n := 3) [a0, a1, a2] [b0, b1, b2] ho hx hy rfl rfl rfl rfl
theorem Yl.toT {p : Prop} [Decidable p] (h : Yl P o σ w (.bool (decide p))) (hp : p) : Yl P o σ w (.bool true) := by rwa [decide_eq_true hp] at h
theorem Yl.toF {p : Prop} [Decidable p] (h : Yl P o σ w (.bool (decide p))) (hp : ¬ p) : Yl P o σ w (.bool false) := by rwa [decide_eq_false hp] at h
end
instance : NoGd Tryd.prog 23 := ⟨by kernel_rfl⟩
instance : NoGd Tryd.prog 24 := ⟨by kernel_rfl⟩
abbrev rcV (a b c : List UInt8) (m n : Int) : List Value := [.string (str a), .string (str b), .string (str c), .int .i64 m, .int .i64 n]
theorem run_eqRec (d : Nat) (w : World) (a0 a1 a2 b0 b1 b2 : List UInt8) (m0 m1 n0 n1 : Int) :
    (Op.equalIn (d + 2) 28 (.agg (rcV a0 a1 a2 m0 m1).toArray) (.agg (rcV b0 b1 b2 n0 n1).toArray)).run Tryd.prog w = .ok (decide (a0 = b0 ∧ a1 = b1 ∧ a2 = b2 ∧ m0 = n0 ∧ m1 = n1)) w := by
  have key : ∀ fs, Tryd.prog.underlying 28 = some (.struct fs) → Tryd.prog.fieldsOf 28 = fs := fun fs h => by unfold Program.fieldsOf; rw [h]
  have hu := Tryd.underlying28
  have hf := key _ hu
  rw [run_equalIn_struct w (d + 1) 28 _ _ (by rw [hf]; exact hu) (by kernel_rfl), hf]
  have hs := fun (a b : List UInt8) => run_strEq (P := Tryd.prog) (w := w) (e := 9) (d := d) a b
  have hi := fun (a b : Int) => run_equalIn_int (P := Tryd.prog) w d 3 .i64 .i64 a b Und.und
  have o1 : ∀ w, (isAgg 9).run Tryd.prog w = .ok false w := One.one
  have o2 : ∀ w, (isAgg 3).run Tryd.prog w = .ok false w := One.one
  have e1 : ∀ a b : Int, (a == b) = decide (a = b) := fun a b => by by_cases h : a = b <;> simp [h]
  simp [Op.eqFields, part, o1, o2, hs, hi, e1]
  by_cases h0 : a0 = b0 <;> by_cases h1 : a1 = b1 <;> by_cases h2 : a2 = b2 <;> by_cases h3 : m0 = n0 <;> by_cases h4 : m1 = n1 <;> simp [h0, h1, h2, h3, h4]
instance : NoGd Tryd.prog 28 := ⟨by kernel_rfl⟩
theorem Yl_eqlRec {o : Oper} {σ : Env} {w : World} {x y : Operand} {ty : TypeId} {a0 a1 a2 b0 b1 b2 : List UInt8} {m0 m1 n0 n1 : Int} (ho : o.op = .binOp .eql 28 x y ty) (hx : ev σ x = some (.agg (List.toArray [.string (str a0), .string (str a1), .string (str a2), .int .i64 m0, .int .i64 m1]))) (hy : ev σ y = some (.agg (List.toArray [.string (str b0), .string (str b1), .string (str b2), .int .i64 n0, .int .i64 n1]))) :
    Yl Tryd.prog o σ w (.bool (decide (a0 = b0 ∧ a1 = b1 ∧ a2 = b2 ∧ m0 = n0 ∧ m1 = n1))) := ⟨fun N ds f hf => by
  have h2 := run_eqGuard_agg (P := Tryd.prog) (w := w) .eql 28 x y (rcV a0 a1 a2 m0 m1).toArray (rcV b0 b1 b2 n0 n1).toArray (NoGd.no)
  have h3 := run_eql_struct (P := Tryd.prog) (w := w) 28 (rcV a0 a1 a2 m0 m1).toArray (rcV b0 b1 b2 n0 n1).toArray
  have h4 := run_eqRec 9998 w a0 a1 a2 b0 b1 b2 m0 m1 n0 n1
  simp only [execOp, ho, hf.eval hx, hf.eval hy, Sem.run_bind, h2, h3, h4, Result.andThen_ok]
  rfl⟩
end Cr
namespace Cr
open Go Go.Proofs
set_option maxRecDepth 100000
set_option maxHeartbeats 8000000
attribute [local irreducible] Calls

theorem itoa_dig7 {k : Nat} (h : k < 10) : Lib.itoa (k : Int) = [UInt8.ofNat (48 + k)] := by
  rw [itoa_nat, Lib.decDigits_one h]
def kA : Rec := ⟨[105, 110, 115, 116, 97, 108, 108], [97, 110, 110], [116, 111, 111, 108], 1, 0⟩
theorem ok_kA : rchk kA = 0 := by decide
theorem enc_kA : encT kA.leaves = [40, 55, 58, 105, 110, 115, 116, 97, 108, 108, 51, 58, 97, 110, 110, 52, 58, 116, 111, 111, 108, 105, 49, 59, 105, 48, 59, 41] := by
  have e : kA.leaves = [.txt [105, 110, 115, 116, 97, 108, 108], .txt [97, 110, 110], .txt [116, 111, 111, 108], .num 1, .num 0] := rfl
  rw [e]
  have h7 : Lib.itoa ((7 : Nat) : Int) = [55] := itoa_dig7 (k := 7) (by decide)
  have h3 : Lib.itoa ((3 : Nat) : Int) = [51] := itoa_dig7 (k := 3) (by decide)
  have h4 : Lib.itoa ((4 : Nat) : Int) = [52] := itoa_dig7 (k := 4) (by decide)
  have h1 : Lib.itoa ((1 : Nat) : Int) = [49] := itoa_dig7 (k := 1) (by decide)
  have h0 : Lib.itoa ((0 : Nat) : Int) = [48] := itoa_dig7 (k := 0) (by decide)
  have a1 : encL (.txt [105, 110, 115, 116, 97, 108, 108]) = [55, 58, 105, 110, 115, 116, 97, 108, 108] := by
    show Lib.itoa ((7 : Nat) : Int) ++ 58 :: _ = _
    rw [h7]; rfl
  have a2 : encL (.txt [97, 110, 110]) = [51, 58, 97, 110, 110] := by
    show Lib.itoa ((3 : Nat) : Int) ++ 58 :: _ = _
    rw [h3]; rfl
  have a3 : encL (.txt [116, 111, 111, 108]) = [52, 58, 116, 111, 111, 108] := by
    show Lib.itoa ((4 : Nat) : Int) ++ 58 :: _ = _
    rw [h4]; rfl
  have a4 : encL (.num 1) = [105, 49, 59] := by
    show 105 :: Lib.itoa ((1 : Nat) : Int) ++ [59] = _
    rw [h1]; rfl
  have a5 : encL (.num 0) = [105, 48, 59] := by
    show 105 :: Lib.itoa ((0 : Nat) : Int) ++ [59] = _
    rw [h0]; rfl
  simp [encT, encs, a1, a2, a3, a4, a5]
theorem known27_ (W : World) (hG : Lg W noF) (hT : Sp W noF) : Calls Tryd.prog 22 #[] W (Ret fun v w => v = .bool true ∧ St W noF [] w) := by
  have hS := St.start W
  have h1 := fun W h g => abytes_ok kA W h g ok_kA
  rw [enc_kA] at h1
  refine calls_C Tryd.func22 rfl Tryd.ntmps22 rfl ?_
  repeat (first | (refine G_id ?_; first | refine G_nil ?_ | refine G_plain rfl rfl ?_) | (refine X_id ?_; first | refine X_yl (Yl_assign rfl rfl) rfl rfl ?_ | refine X_yl (Yl_build rfl rfl rfl) rfl rfl ?_) | (refine C_id ?_; first | refine C_seq ?_ | refine C_region ?_) | (refine E_id ?_; first | refine E_code ?_))
  refine X_callg _ rfl rfl rfl rfl rfl (h1 _ (hG.at_ hS) (hT.at_ hS)) ?_
  rintro _ w ⟨b1, q1, rfl, _, hS'⟩
  replace hS := hS.plus hS'
  clear hS'
  have hy1 := (hS.rd (List.mem_cons_self ..)).own_row
  repeat (first | (refine G_id ?_; first | refine G_nil ?_ | refine G_plain rfl rfl ?_ | refine G_yes rfl rfl rfl rfl ?_) | (refine X_id ?_; first | refine X_yl (Yl_move rfl rfl) rfl rfl ?_ | refine X_yl (Yl_assign rfl rfl) rfl rfl ?_ | refine X_yl (Yl_extract rfl rfl) rfl rfl ?_ | refine X_yl (Yl_eql_t rfl rfl rfl (by omega)) rfl rfl ?_) | (refine C_id ?_; first | refine C_seq ?_ | refine C_region ?_) | (refine E_id ?_; first | refine E_code ?_))
  refine X_yl (Yl_bytesStr rfl rfl hy1 rfl) rfl rfl ?_
  repeat (first | (refine G_id ?_; first | refine G_nil ?_ | refine G_plain rfl rfl ?_ | refine G_yes rfl rfl rfl rfl ?_) | (refine X_id ?_; first | refine X_yl (Yl_assign rfl rfl) rfl rfl ?_ | refine X_yl (Yl_pick_t rfl rfl rfl) rfl rfl ?_ | refine X_yl (Yl_eqlStr rfl rfl rfl) rfl rfl ?_) | (refine C_id ?_; first | refine C_ret ?_) | (refine E_id ?_; first | refine E_code ?_ | refine E_ret1 rfl (Rv_tmp rfl) (Ret.mk ?_)))
  exact ⟨rfl, hS.drops⟩
theorem abytesL_ (r : Rec) (W : World) (hi1 : -9223372036854775808 ≤ r.rev ∧ r.rev ≤ 9223372036854775807) (hi2 : -9223372036854775808 ≤ r.out ∧ r.out ≤ 9223372036854775807) (hG : Lg W noF) (hT : Sp W noF) :
    Calls Tryd.prog 5 #[.agg r.cells.toArray] W (Ret fun v w => v = .bool true ∧ St W noF [] w) := by
  have hS := St.start W
  obtain ⟨x, hx⟩ : ∃ x, x = r.cut := ⟨_, rfl⟩
  have hfit := cut_fits hi1 hi2
  have hTo := fun W => to27_ r W
  rw [← hx] at hfit hTo
  have hO := fun W => of27_ x W
  have hR := fun W => rcheck_ x W
  have hC := fun W h => check_ x W h
  have hK := fun W h g => known27_ W h g
  clear hx
  by_cases hok : rchk x = 0
  case neg =>
    have hE := fun W h => abytes_bad x W h hok
    generalize rchk x = n at hE hC hR hok
    refine calls_C Tryd.func5 rfl Tryd.ntmps5 rfl ?_
    repeat (first | (refine G_id ?_; first | refine G_nil ?_ | refine G_plain rfl rfl ?_ | refine G_yes rfl rfl rfl rfl ?_) | (refine X_id ?_; first | (refine X_callq 17 rfl rfl rfl rfl rfl hS (hTo _) ?_; rintro _ _ rfl hS) | (refine X_callq 18 rfl rfl rfl rfl rfl hS (hO _) ?_; rintro _ _ rfl hS) | (refine X_callq 19 rfl rfl rfl rfl rfl hS (hE _ (hT.at_ hS)) ?_; rintro _ _ rfl hS) | (refine X_callq 20 rfl rfl rfl rfl rfl hS (hR _) ?_; rintro _ _ rfl hS) | (refine X_callq 21 rfl rfl rfl rfl rfl hS (hC _ (hT.at_ hS)) ?_; rintro _ _ rfl hS) | (refine X_callq 22 rfl rfl rfl rfl rfl hS (hK _ (hG.at_ hS) (hT.at_ hS)) ?_; rintro _ _ rfl hS) | refine X_yl (Yl_move rfl rfl) rfl rfl ?_ | refine X_yl (Yl_assign rfl rfl) rfl rfl ?_ | refine X_yl (Yl_extract rfl rfl) rfl rfl ?_ | refine X_yl (Yl_pick_t rfl rfl rfl) rfl rfl ?_ | refine X_yl (Yl_pick_f rfl rfl rfl) rfl rfl ?_ | refine X_yl (Yl_len rfl rfl) rfl rfl ?_ | refine X_yl (Yl_eql_t rfl rfl rfl (by omega)) rfl rfl ?_ | refine X_yl (Yl_neq_t rfl rfl rfl (by omega)) rfl rfl ?_ | refine X_yl (Yl_neq_f rfl rfl rfl (by omega)) rfl rfl ?_ | refine X_yl (Yl_loadN rfl rfl hS.cellsN) rfl rfl ?_ | refine X_store rfl rfl rfl rfl hS (fun _ hS _ => ?_) | refine X_box rfl rfl rfl rfl hS (fun _ _ hS _ => ?_) | refine X_alloc rfl rfl rfl hS (fun _ _ hS _ => ?_)) | (refine C_id ?_; first | refine C_seq ?_ | refine C_region ?_ | refine C_ret ?_ | refine C_skip ?_ | refine C_cond_t rfl ?_ | refine C_cond_f rfl ?_) | (refine E_id ?_; first | refine E_code ?_ | refine E_then_ret ?_ | refine E_ret1 rfl (Rv_tmp rfl) (Ret.mk ?_)))
    exact ⟨rfl, hS.drops⟩
  case pos =>
    have hE := fun W h g => abytes_ok x W h g hok
    have hlen := rec_enc hfit
    have hdec : (dec (encT x.leaves)).bind readR = some x := by
      rw [dec_enc (Rec.fits_leaves hfit)]
      exact readR_leaves hok
    have hRE := fun W => rbytes_ x W hfit
    rw [hok] at hC hR
    obtain ⟨s, hs⟩ : ∃ s, s = encT x.leaves := ⟨_, rfl⟩
    rw [← hs] at hE hdec hRE hlen
    have hD := fun (b2 : Option Addr) (q2 : Nat) (h : s.length ≤ q2) => aread_ b2 s q2 h (by omega)
    rw [hdec] at hD
    have hsame := fun (b2 b3 : Option Addr) (q2 q3 : Nat) => same_ b2 b3 q2 q3 s s
    simp only [decide_true] at hsame
    refine calls_C Tryd.func5 rfl Tryd.ntmps5 rfl ?_
    repeat (first | (refine G_id ?_; first | refine G_nil ?_ | refine G_plain rfl rfl ?_) | (refine X_id ?_; first | (refine X_callq 17 rfl rfl rfl rfl rfl hS (hTo _) ?_; rintro _ _ rfl hS) | (refine X_callq 18 rfl rfl rfl rfl rfl hS (hO _) ?_; rintro _ _ rfl hS) | refine X_yl (Yl_assign rfl rfl) rfl rfl ?_ | refine X_yl (Yl_loadN rfl rfl hS.cellsN) rfl rfl ?_ | refine X_store rfl rfl rfl rfl hS (fun _ hS _ => ?_) | refine X_box rfl rfl rfl rfl hS (fun _ _ hS _ => ?_) | refine X_alloc rfl rfl rfl hS (fun _ _ hS _ => ?_)) | (refine C_id ?_; first | refine C_seq ?_ | refine C_region ?_) | (refine E_id ?_; first | refine E_code ?_))
    refine X_callg _ rfl rfl rfl rfl rfl (hE _ (hG.at_ hS) (hT.at_ hS)) ?_
    rintro _ w ⟨b2, q2, rfl, hq2, hS'⟩
    replace hS := hS.plus hS'
    clear hS' hE
    replace hS := hS.head (r' := bytes b2 s) (fun _ h => h.row)
    repeat (first | (refine G_id ?_; first | refine G_nil ?_ | refine G_plain rfl rfl ?_ | refine G_yes rfl rfl rfl rfl ?_) | (refine X_id ?_; first | (refine X_callq 20 rfl rfl rfl rfl rfl hS (hR _) ?_; rintro _ _ rfl hS) | (refine X_callq 21 rfl rfl rfl rfl rfl hS (hC _ (hT.at_ hS)) ?_; rintro _ _ rfl hS) | refine X_yl (Yl_move rfl rfl) rfl rfl ?_ | refine X_yl (Yl_assign rfl rfl) rfl rfl ?_ | refine X_yl (Yl_extract rfl rfl) rfl rfl ?_ | refine X_yl (Yl_pick_f rfl rfl rfl) rfl rfl ?_ | refine X_yl (Yl_neq_f rfl rfl rfl (by omega)) rfl rfl ?_ | refine X_yl (Yl_loadN rfl rfl hS.cellsN) rfl rfl ?_) | (refine C_id ?_; first | refine C_seq ?_ | refine C_region ?_ | refine C_skip ?_ | refine C_cond_f rfl ?_) | (refine E_id ?_; first | refine E_code ?_))
    refine X_callg _ rfl rfl rfl rfl rfl (hD b2 q2 hq2 _ (hG.at_ hS) (hT.at_ hS) (hS.rd (r := bytes b2 s) (by simp)).ro) ?_
    rintro _ w ⟨rfl, hS'⟩
    replace hS := hS.plus hS'
    clear hS' hD
    repeat (first | (refine G_id ?_; first | refine G_nil ?_ | refine G_plain rfl rfl ?_ | refine G_yes rfl rfl rfl rfl ?_) | (refine X_id ?_; first | (refine X_callq 22 rfl rfl rfl rfl rfl hS (hK _ (hG.at_ hS) (hT.at_ hS)) ?_; rintro _ _ rfl hS) | refine X_yl (Yl_move rfl rfl) rfl rfl ?_ | refine X_yl (Yl_assign rfl rfl) rfl rfl ?_ | refine X_yl (Yl_extract rfl rfl) rfl rfl ?_ | refine X_yl (Yl_loadN rfl rfl hS.cellsN) rfl rfl ?_ | refine X_store rfl rfl rfl rfl hS (fun _ hS _ => ?_) | refine X_alloc rfl rfl rfl hS (fun _ _ hS _ => ?_)) | (refine C_id ?_; first | refine C_seq ?_ | refine C_region ?_) | (refine E_id ?_; first | refine E_code ?_))
    refine X_callg _ rfl rfl rfl rfl rfl (hRE _) ?_
    rintro _ w ⟨b4, q4, rfl, hS'⟩
    replace hS := hS.plus hS'
    clear hS' hRE
    repeat (first | (refine G_id ?_; first | refine G_plain rfl rfl ?_ | refine G_yes rfl rfl rfl rfl ?_) | (refine X_id ?_; first | (refine X_callq 15 rfl rfl rfl rfl rfl hS (hsame b2 b4 q2 q4 _ (hS.rd (r := bytes b2 s) (by simp)) (hS.rd (r := bytes b4 s) (by simp)) (by omega)) ?_; rintro _ _ rfl hS) | refine X_yl (Yl_move rfl rfl) rfl rfl ?_ | refine X_yl (Yl_pick_t rfl rfl rfl) rfl rfl ?_ | refine X_yl (Yl_eql_t rfl rfl rfl (by omega)) rfl rfl ?_ | refine X_yl (Yl_loadN rfl rfl hS.cellsN) rfl rfl ?_))
    refine X_yl ((Yl_eqlRec (a0 := x.cmd) (a1 := x.pub) (a2 := x.pkg) (m0 := x.rev) (m1 := x.out) (b0 := x.cmd) (b1 := x.pub) (b2 := x.pkg) (n0 := x.rev) (n1 := x.out) rfl rfl rfl).toT ⟨rfl, rfl, rfl, rfl, rfl⟩) rfl rfl ?_
    repeat (first | (refine G_id ?_; first | refine G_nil ?_ | refine G_plain rfl rfl ?_) | (refine X_id ?_; first | refine X_yl (Yl_assign rfl rfl) rfl rfl ?_ | refine X_yl (Yl_pick_t rfl rfl rfl) rfl rfl ?_) | (refine C_id ?_; first | refine C_ret ?_) | (refine E_id ?_; first | refine E_code ?_ | refine E_ret1 rfl (Rv_tmp rfl) (Ret.mk ?_)))
    exact ⟨rfl, hS.drops⟩
end Cr
namespace Cr
open Go
set_option maxRecDepth 100000

theorem val_acc (d : List UInt8) : ∀ a : Nat, val d a = a * 10 ^ d.length + val d 0 := by
  induction d with
  | nil => intro a; simp [val_nil]
  | cons c d ih =>
    intro a
    rw [val_cons, val_cons, ih, ih (0 * 10 + (c.toNat - 48)), List.length_cons, Nat.pow_succ, Nat.add_mul, Nat.mul_assoc, Nat.mul_comm 10 (10 ^ d.length)]
    simp [Nat.add_assoc]
theorem val_lt {d : List UInt8} (hd : ∀ c ∈ d, dig c = true) : val d 0 < 10 ^ d.length := by
  induction d with
  | nil => simp [val_nil]
  | cons c d ih =>
    have hc := dig_iff.1 (hd c (List.mem_cons_self ..))
    have h1 := ih fun x hx => hd x (List.mem_cons_of_mem _ hx)
    rw [val_cons, val_acc, List.length_cons, Nat.pow_succ]
    have h2 : c.toNat - 48 ≤ 9 := by omega
    have h3 : (0 * 10 + (c.toNat - 48)) * 10 ^ d.length ≤ 9 * 10 ^ d.length := Nat.mul_le_mul_right _ (by omega)
    omega
/-- Among digits, as many on both sides, the text's order is the number's. -/
theorem less_val : ∀ {a b : List UInt8}, a.length = b.length → (∀ c ∈ a, dig c = true) → (∀ c ∈ b, dig c = true) → (Op.bytesLess a b = true ↔ val a 0 < val b 0)
  | [], [], _, _, _ => by simp [Op.bytesLess]
  | x :: a, y :: b, hl, ha, hb => by
    have hl' : a.length = b.length := by simpa using hl
    have ih := less_val hl' (fun c hc => ha c (List.mem_cons_of_mem _ hc)) (fun c hc => hb c (List.mem_cons_of_mem _ hc))
    have hx := dig_iff.1 (ha x (List.mem_cons_self ..))
    have hy := dig_iff.1 (hb y (List.mem_cons_self ..))
    have la := val_lt (fun c hc => ha c (List.mem_cons_of_mem _ hc))
    have lb := val_lt (fun c hc => hb c (List.mem_cons_of_mem _ hc))
    rw [hl'] at la
    rw [val_cons, val_cons, val_acc a, val_acc b, hl']
    generalize 10 ^ b.length = m at la lb ⊢
    simp only [Op.bytesLess, Bool.or_eq_true, decide_eq_true_eq, Bool.and_eq_true, beq_iff_eq, UInt8.lt_iff_toNat_lt]
    rcases Nat.lt_trichotomy x.toNat y.toNat with h | h | h
    · refine ⟨fun _ => ?_, fun _ => .inl h⟩
      have : (0 * 10 + (x.toNat - 48) + 1) * m ≤ (0 * 10 + (y.toNat - 48)) * m := Nat.mul_le_mul_right _ (by omega)
      rw [Nat.add_mul] at this
      omega
    · have e : x = y := UInt8.toNat_inj.1 h
      rw [ih, h]
      refine ⟨fun q => ?_, fun q => .inr ⟨e, ?_⟩⟩
      · rcases q with q | q
        · omega
        · omega
      · omega
    · have hne : ¬ x = y := fun e => by rw [e] at h; omega
      refine ⟨fun q => ?_, fun q => ?_⟩
      · rcases q with q | q
        · omega
        · exact absurd q.1 hne
      · exfalso
        have : (0 * 10 + (y.toNat - 48) + 1) * m ≤ (0 * 10 + (x.toNat - 48)) * m := Nat.mul_le_mul_right _ (by omega)
        rw [Nat.add_mul] at this
        omega
def most7 : List UInt8 := [57, 50, 50, 51, 51, 55, 50, 48, 51, 54, 56, 53, 52, 55, 55, 53, 56, 48, 55]
def most8 : List UInt8 := [57, 50, 50, 51, 51, 55, 50, 48, 51, 54, 56, 53, 52, 55, 55, 53, 56, 48, 56]
def most (below : Bool) : List UInt8 := if below then most8 else most7
def lim (below : Bool) : Nat := if below then 9223372036854775808 else 9223372036854775807
theorem most_val (below : Bool) : val (most below) 0 = lim below := by cases below <;> rfl
theorem most_len (below : Bool) : (most below).length = 19 := by cases below <;> rfl
theorem most_dig (below : Bool) : ∀ c ∈ most below, dig c = true := by cases below <;> decide
/-- Too long, or too great. -/
def tooBig (below : Bool) (d : List UInt8) : Prop := 19 < d.length ∨ (d.length = 19 ∧ ¬ (Op.bytesLess d (most below) = true ∨ d = most below))
instance (below : Bool) (d : List UInt8) : Decidable (tooBig below d) := by unfold tooBig; infer_instance
theorem val_inj : ∀ {a b : List UInt8}, a.length = b.length → (∀ c ∈ a, dig c = true) → (∀ c ∈ b, dig c = true) → val a 0 = val b 0 → a = b
  | [], [], _, _, _, _ => rfl
  | x :: a, y :: b, hl, ha, hb, h => by
    have hl' : a.length = b.length := by simpa using hl
    have hx := dig_iff.1 (ha x (List.mem_cons_self ..))
    have hy := dig_iff.1 (hb y (List.mem_cons_self ..))
    have la := val_lt (fun c hc => ha c (List.mem_cons_of_mem _ hc))
    have lb := val_lt (fun c hc => hb c (List.mem_cons_of_mem _ hc))
    rw [hl'] at la
    rw [val_cons, val_cons, val_acc a, val_acc b, hl'] at h
    have key : x.toNat = y.toNat ∧ val a 0 = val b 0 := by
      generalize 10 ^ b.length = m at la lb h
      rcases Nat.lt_trichotomy x.toNat y.toNat with q | q | q
      · have : (0 * 10 + (x.toNat - 48) + 1) * m ≤ (0 * 10 + (y.toNat - 48)) * m := Nat.mul_le_mul_right _ (by omega)
        rw [Nat.add_mul] at this
        omega
      · rw [q] at h; exact ⟨q, by omega⟩
      · have : (0 * 10 + (y.toNat - 48) + 1) * m ≤ (0 * 10 + (x.toNat - 48)) * m := Nat.mul_le_mul_right _ (by omega)
        rw [Nat.add_mul] at this
        omega
    rw [UInt8.toNat_inj.1 key.1, val_inj hl' (fun c hc => ha c (List.mem_cons_of_mem _ hc)) (fun c hc => hb c (List.mem_cons_of_mem _ hc)) key.2]
theorem tooBig_iff {below : Bool} {d : List UInt8} (hd : ∀ c ∈ d, dig c = true) (h0 : d ≠ []) (h48 : d.head? ≠ some 48 ∨ d.length ≤ 1) : tooBig below d ↔ lim below < val d 0 := by
  unfold tooBig
  rcases Nat.lt_trichotomy d.length 19 with h | h | h
  · have h1 := val_lt hd
    have h2 : 10 ^ d.length ≤ 10 ^ 18 := Nat.pow_le_pow_right (by decide) (by omega)
    have h3 : (10 : Nat) ^ 18 = 1000000000000000000 := rfl
    have h4 : 1000000000000000000 ≤ lim below := by cases below <;> decide
    constructor
    · rintro (q | q) <;> omega
    · intro q; omega
  · have e : d.length = (most below).length := by rw [most_len, h]
    have h1 := less_val e hd (most_dig below)
    rw [most_val] at h1
    rw [h1]
    constructor
    · rintro (q | q)
      · omega
      · have h2 : val d 0 ≠ lim below := fun q2 => q.2 (.inr (val_inj e hd (most_dig below) (by rw [most_val, q2])))
        have := q.2
        rcases Nat.lt_trichotomy (val d 0) (lim below) with q3 | q3 | q3
        · exact absurd (.inl q3) this
        · exact absurd q3 h2
        · exact q3
    · intro q
      refine .inr ⟨h, ?_⟩
      rintro (q2 | q2)
      · omega
      · rw [q2, most_val] at q; omega
  · refine ⟨fun _ => ?_, fun _ => .inl h⟩
    cases d with
    | nil => exact absurd rfl h0
    | cons c d =>
      have hc := dig_iff.1 (hd c (List.mem_cons_self ..))
      have hn : c.toNat ≠ 48 := fun e => by
        rcases h48 with q | q
        · exact q (by rw [List.head?_cons, show c = 48 from UInt8.toNat_inj.1 e])
        · simp only [List.length_cons] at q h; omega
      rw [val_cons, val_acc]
      simp only [List.length_cons] at h
      have h2 : 10 ^ 19 ≤ 10 ^ d.length := Nat.pow_le_pow_right (by decide) (by omega)
      have h3 : (10 : Nat) ^ 19 = 10000000000000000000 := rfl
      have h4 : lim below < 10000000000000000000 := by cases below <;> decide
      have h5 : 1 * 10 ^ d.length ≤ (0 * 10 + (c.toNat - 48)) * 10 ^ d.length := Nat.mul_le_mul_right _ (by omega)
      omega
/-- What is wrong with digits behind a sign. -/
def badD (below : Bool) (d : List UInt8) : Prop := d = [] ∨ (d.head? = some 48 ∧ (1 < d.length ∨ below = true))
instance (below : Bool) (d : List UInt8) : Decidable (badD below d) := by unfold badD; infer_instance
theorem badN_iff {below : Bool} {d : List UInt8} (hd : ∀ c ∈ d, dig c = true) : badN ((if below then [45] else []) ++ d) ↔ badD below d := by
  have n45 : ∀ {c r}, d = c :: r → ¬ c = 45 := fun {c r} e q => by
    have := dig_iff.1 (hd c (by rw [e]; exact List.mem_cons_self ..))
    rw [q] at this
    exact absurd this.1 (by decide)
  unfold badN badD
  cases below with
  | true =>
    simp only [if_true, List.singleton_append, List.cons_ne_nil, List.cons.injEq, true_and, false_or, List.head?_cons, Option.some.injEq, List.length_cons, List.take_succ_cons]
    cases d with
    | nil => simp
    | cons c r =>
      cases r with
      | nil => simp
      | cons c' r => simp
  | false =>
    simp only [Bool.false_eq_true, if_false, List.nil_append, or_false]
    cases d with
    | nil => simp
    | cons c r =>
      have := n45 rfl
      simp [this]
/-- The number that the text is, if it is none too great. -/
theorem atoi_iff {below : Bool} {d : List UInt8} (hd : ∀ c ∈ d, dig c = true) (h0 : d ≠ []) :
    (val d 0 ≤ lim below → Lib.atoiAll ((if below then [45] else []) ++ d) = .ok (if below then -((val d 0 : Nat) : Int) else (val d 0 : Nat))) ∧ (lim below < val d 0 → ∀ v, Lib.atoiAll ((if below then [45] else []) ++ d) ≠ .ok v) := by
  cases below with
  | true =>
    simp only [if_true, List.singleton_append]
    constructor
    · intro h
      have h : val d 0 ≤ 9223372036854775808 := h
      unfold Lib.atoiAll
      simp only
      rw [if_pos (.inr rfl)]
      unfold Lib.parseMag
      rw [if_neg h0, pu_mk _ _ hd h]
      simp only
      rw [if_neg (by intro h; exact h.1 rfl), if_neg (by omega), if_pos (show UInt8.toNat 45 = 45 from rfl)]
    · intro h v hv
      have h : 9223372036854775808 < val d 0 := h
      obtain ⟨_, rfl⟩ := atoi_neg hv
      unfold Lib.atoiAll at hv
      simp only at hv
      rw [if_pos (.inr rfl)] at hv
      unfold Lib.parseMag at hv
      rw [if_neg h0] at hv
      rcases hp : Lib.parseUint10 0 d with u | _ | _
      · rw [hp] at hv
        have hu := (pu_ok _ _ _ hp).1
        simp only at hv
        rw [if_neg (by intro h; exact h.1 rfl), if_pos ⟨rfl, by omega⟩] at hv
        cases hv
      · rw [hp] at hv; cases hv
      · rw [hp] at hv; cases hv
  | false =>
    simp only [Bool.false_eq_true, if_false, List.nil_append]
    cases d with
    | nil => exact absurd rfl h0
    | cons c d =>
      have hc := not45 (hd c (List.mem_cons_self ..))
      constructor
      · intro h
        have h : val (c :: d) 0 ≤ 9223372036854775807 := h
        unfold Lib.atoiAll
        simp only
        rw [if_neg hc.2]
        unfold Lib.parseMag
        rw [if_neg h0, pu_mk _ _ hd (by omega)]
        simp only
        rw [if_neg (by omega), if_neg (by intro h; exact hc.1 h.1), if_neg hc.1]
      · intro h v hv
        have h : 9223372036854775807 < val (c :: d) 0 := h
        unfold Lib.atoiAll at hv
        simp only at hv
        rw [if_neg hc.2] at hv
        unfold Lib.parseMag at hv
        rw [if_neg h0] at hv
        rcases hp : Lib.parseUint10 0 (c :: d) with u | _ | _
        · rw [hp] at hv
          have hu := (pu_ok _ _ _ hp).1
          simp only at hv
          rw [if_pos ⟨hc.1, by omega⟩] at hv
          cases hv
        · rw [hp] at hv; cases hv
        · rw [hp] at hv; cases hv
end Cr
namespace Cr
open Go Go.Proofs
set_option maxRecDepth 100000
set_option maxHeartbeats 8000000
attribute [local irreducible] Calls

/-- num, place by place. -/
theorem num_place {minus bl : Bool} {e : UInt8} {s d : List UInt8} {i f k : Nat} (hbl : bl = (minus && decide (s[i]? = some 45))) (hf : f = i + (if bl then 1 else 0)) (hd : d = (s.drop f).takeWhile dig) (hk : k = f + d.length) :
    num minus e (s.drop i) = if s.length ≤ k then none else if badD bl d ∨ s[k]? ≠ some e then none else if tooBig bl d then none else some ((if bl then -((val d 0 : Nat) : Int) else (val d 0 : Nat)), s.drop (k + 1)) := by
  have hsg : sgn minus (s.drop i) = if bl then [45] else [] := by
    rw [sgn_head, hbl]
    cases minus <;> simp
  have hN : numS minus (s.drop i) = (if bl then [45] else []) ++ d := by
    unfold numS
    rw [hsg, hd, hf, List.drop_drop]
    cases bl <;> rfl
  have hdig : ∀ c ∈ d, dig c = true := fun c hc => by rw [hd] at hc; exact mem_takeWhile hc
  have hlen : i + (numS minus (s.drop i)).length = k := by
    rw [hN, hk, hf]
    cases bl <;> simp <;> omega
  obtain ⟨vv, hvv⟩ : ∃ vv : Int, vv = (if bl then -((val d 0 : Nat) : Int) else (val d 0 : Nat)) := ⟨_, rfl⟩
  have hB := badN_iff (below := bl) hdig
  have hA := fun h0 => atoi_iff (below := bl) hdig h0
  rw [← hvv] at hA ⊢
  generalize (if bl = true then [45] else ([] : List UInt8)) = sg at hN hB hA
  unfold num
  rw [List.drop_drop, hlen]
  by_cases h : s.length ≤ k
  · rw [if_pos h, List.drop_of_length_le h]
  · rw [if_neg h]
    have hkl : k < s.length := by omega
    have h0 : s[k]? = some s[k] := List.getElem?_eq_getElem hkl
    rw [List.drop_eq_getElem_cons hkl]
    simp only
    rw [hN, h0]
    by_cases hb : badD bl d ∨ s[k] ≠ e
    · rw [if_pos (hb.imp hB.2 id), if_pos (hb.imp id fun q q2 => q (Option.some.inj q2))]
    · have hnb : ¬ badD bl d := fun q => hb (.inl q)
      rw [if_neg (fun q => hb (q.imp hB.1 id)), if_neg (show ¬ (badD bl d ∨ some s[k] ≠ some e) from fun q => q.elim hnb fun q2 => q2 (congrArg some (Decidable.not_not.1 fun q3 => hb (.inr q3))))]
      have hd0 : d ≠ [] := fun q => hnb (.inl q)
      have h48 : d.head? ≠ some 48 ∨ d.length ≤ 1 := by
        by_cases q : d.head? = some 48
        · refine .inr ?_
          rcases Nat.lt_or_ge 1 d.length with q2 | q2
          · exact absurd (.inr ⟨q, .inl q2⟩) hnb
          · exact q2
        · exact .inl q
      obtain ⟨a1, a2⟩ := hA hd0
      by_cases hbig : tooBig bl d
      · rw [if_pos hbig]
        have := a2 ((tooBig_iff hdig hd0 h48).1 hbig)
        split
        · rename_i v hv
          exact absurd hv (this v)
        · rfl
      · rw [if_neg hbig]
        have hle : val d 0 ≤ lim bl := by
          rcases Nat.lt_or_ge (lim bl) (val d 0) with q | q
          · exact absurd ((tooBig_iff hdig hd0 h48).2 q) hbig
          · exact q
        rw [a1 hle]
theorem val_lim {bl : Bool} {d : List UInt8} (hdig : ∀ c ∈ d, dig c = true) (hnb : ¬ badD bl d) (hbig : ¬ tooBig bl d) : val d 0 ≤ lim bl := by
  have hd0 : d ≠ [] := fun q => hnb (.inl q)
  have h48 : d.head? ≠ some 48 ∨ d.length ≤ 1 := by
    by_cases q : d.head? = some 48
    · refine .inr ?_
      rcases Nat.lt_or_ge 1 d.length with q2 | q2
      · exact absurd (.inr ⟨q, .inl q2⟩) hnb
      · exact q2
    · exact .inl q
  rcases Nat.lt_or_ge (lim bl) (val d 0) with q | q
  · exact absurd ((tooBig_iff hdig hd0 h48).2 q) hbig
  · exact q
theorem val_take {d : List UInt8} {j : Nat} {x : UInt8} (hx : d[j]? = some x) : val (d.take (j + 1)) 0 = val (d.take j) 0 * 10 + (x.toNat - 48) := by
  rw [List.take_add_one, hx]
  exact val_snoc x (d.take j) 0
theorem val_mono (d : List UInt8) : ∀ (j a : Nat), val (d.take j) a ≤ val d a := by
  induction d with
  | nil => intro j a; simp [val_nil]
  | cons c d ih =>
    intro j a
    cases j with
    | zero => rw [List.take_zero, val_nil]; exact val_ge _ _
    | succ j => rw [List.take_succ_cons, val_cons, val_cons]; exact ih _ _
theorem not_big {bl : Bool} {d : List UInt8} (h1 : ¬ 19 < d.length) (h2 : d.length = 19 → (Op.bytesLess d (most bl) = true ∨ d = most bl)) : ¬ tooBig bl d := by
  rintro (q | q)
  · exact h1 q
  · exact q.2 (h2 q.1)
/-- What number tells. -/
def RNum (s : List UInt8) (W : World) (r : Option (Int × List UInt8)) (v : Value) (w : World) : Prop :=
  (match r with
   | some (n, t) => ∃ j : Nat, v = .tuple #[.int .i64 n, .int .i64 (j : Nat), .int .i64 0] ∧ j ≤ s.length ∧ s.drop j = t
   | none => ∃ j e : Int, v = .tuple #[.int .i64 0, .int .i64 j, .int .i64 e] ∧ e ≠ 0) ∧ St W noF [] w
section
variable {P : Program} {o : Oper} {σ : Env} {w : World} {x y : Operand} {t ty : TypeId}
theorem Yl_gtrStr {a b : List UInt8} (ho : o.op = .binOp .gtr t x y ty) (hx : ev σ x = some (.string (str a))) (hy : ev σ y = some (.string (str b))) : Yl P o σ w (.bool (decide (¬ (Op.bytesLess a b = true ∨ a = b)))) := ⟨fun N ds f ha => by
  simp only [execOp, ho, ha.eval hx, ha.eval hy, binOp, eqGuard, Op.stringOp, str_toList]
  have : (!(Op.bytesLess a b || a == b)) = decide (¬ (Op.bytesLess a b = true ∨ a = b)) := by
    by_cases h1 : Op.bytesLess a b = true <;> by_cases h2 : a = b <;> simp [h1, h2]
  rw [this]; rfl⟩
theorem Yl.toTn {p : Prop} [Decidable p] (h : Yl P o σ w (.bool (decide p))) (hp : p) : Yl P o σ w (.bool true) := by rwa [decide_eq_true hp] at h
theorem Yl.toFn {p : Prop} [Decidable p] (h : Yl P o σ w (.bool (decide p))) (hp : ¬ p) : Yl P o σ w (.bool false) := by rwa [decide_eq_false hp] at h
end
theorem rnumber_ (a : Option Addr) (s : List UInt8) (c i : Nat) (minus : Bool) (e : UInt8) (hsc : s.length ≤ c) (hl : s.length ≤ 1099511627776) (hi : i ≤ s.length) (W : World) (hb : Ro W noF (bytes a s)) :
    Calls Tryd.prog 55 #[.slice a s.length c, .int .i64 (i : Nat), .bool minus, .int .u8 (e.toNat : Int)] W (Ret fun v w => RNum s W (num minus e (s.drop i)) v w) := by
  have hS := St.start W
  obtain ⟨bl, hbl⟩ : ∃ bl, bl = (minus && decide (s[i]? = some 45)) := ⟨_, rfl⟩
  obtain ⟨f, hf⟩ : ∃ f, f = i + (if bl then 1 else 0) := ⟨_, rfl⟩
  obtain ⟨d, hd⟩ : ∃ d, d = (s.drop f).takeWhile dig := ⟨_, rfl⟩
  obtain ⟨k, hk⟩ : ∃ k, k = f + d.length := ⟨_, rfl⟩
  have hdig : ∀ c ∈ d, dig c = true := fun c hc => by rw [hd] at hc; exact mem_takeWhile hc
  have hnum := num_place (e := e) hbl hf hd hk
  rw [hnum]
  clear hnum
  have htk : (s.drop f).take d.length = d := by rw [hd]; exact take_takeWhile _
  have hstop := fun (j : Nat) h1 h2 h3 => takeWhile_stop (p := dig) (l := s.drop f) (j := j) h1 h2 h3
  rw [← hd] at hstop
  -- the sign
  have h3 : (minus = true ∧ i < s.length ∧ s[i]? = some 45 ∧ bl = true ∧ f = i + 1) ∨ (minus = true ∧ i < s.length ∧ ¬ s[i]? = some 45 ∧ bl = false ∧ f = i) ∨ (minus = true ∧ ¬ i < s.length ∧ bl = false ∧ f = i) ∨ (minus = false ∧ bl = false ∧ f = i) := by
    cases minus with
    | false => exact .inr (.inr (.inr ⟨rfl, by rw [hbl]; rfl, by rw [hf, hbl]; rfl⟩))
    | true =>
      by_cases hlt : i < s.length
      · by_cases q : s[i]? = some 45
        · have e1 : bl = true := by rw [hbl, decide_eq_true q]; rfl
          exact .inl ⟨rfl, hlt, q, e1, by rw [hf, e1]; rfl⟩
        · have e1 : bl = false := by rw [hbl, decide_eq_false q]; rfl
          exact .inr (.inl ⟨rfl, hlt, q, e1, by rw [hf, e1]; rfl⟩)
      · have e1 : bl = false := by rw [hbl, decide_eq_false (fun q => hlt (List.getElem?_eq_some_iff.1 q).1)]; rfl
        exact .inr (.inr (.inl ⟨rfl, hlt, e1, by rw [hf, e1]; rfl⟩))
  have hfl : f ≤ s.length := by rcases h3 with ⟨_, h, _, _, q⟩ | ⟨_, h, _, _, q⟩ | ⟨_, _, _, q⟩ | ⟨_, _, q⟩ <;> omega
  clear hbl hf hd
  have key : ∀ j, j < s.length → ∃ (ab ao : Nat), a = some ⟨ab, ao, none⟩ := fun j hj => by
    obtain ⟨ab, ao, h⟩ := hb.start.base (by intro e; have := bv_length s; rw [e] at this; simp at this; omega)
    exact ⟨ab, ao, h⟩
  have at_ : ∀ {j : Nat} {x : UInt8}, s[j]? = some x → s.getD ((((j : Nat) : Int)).toNat * 1) 0 = x := fun {j x} hx => by
    rw [List.getD_eq_getElem?_getD, show ((((j : Nat) : Int)).toNat * 1) = j by omega, hx]; rfl
  refine calls_C Tryd.func55 rfl Tryd.ntmps55 rfl ?_
  refine C_seq ?_
  refine C_region ?_
  refine G_plain rfl rfl ?_
  refine X_yl (Yl_assign rfl rfl) rfl rfl ?_
  refine G_plain rfl rfl ?_
  refine X_yl (Yl_assign rfl rfl) rfl rfl ?_
  refine G_plain rfl rfl ?_
  refine X_yl (Yl_assign rfl rfl) rfl rfl ?_
  refine G_nil ?_
  refine E_code ?_
  refine C_seq ?_
  refine C_region ?_
  refine G_plain rfl rfl ?_
  refine X_yl (Yl_move rfl rfl) rfl rfl ?_
  refine G_plain rfl rfl ?_
  refine X_yl (Yl_assign rfl rfl) rfl rfl ?_
  refine G_nil ?_
  refine E_code ?_
  refine C_mid (α := Unit) (fun _ => [(0, .slice a s.length c), (1, .int .i64 (i : Nat)), (3, .int .u8 (e.toNat : Int)), (11, .int .i64 (i : Nat)), (12, .bool bl)]) (fun _ w => St W noF [] w) ?_ ?_
  · rcases h3 with ⟨rfl, hlt, h45, hbl, hf⟩ | ⟨rfl, hlt, h45, hbl, hf⟩ | ⟨rfl, hlt, hbl, hf⟩ | ⟨rfl, hbl, hf⟩
    · obtain ⟨ab, ao, rfl⟩ := key i hlt
      have hx2 := at_ h45
      have hx3 : (s.getD ((((i : Nat) : Int)).toNat * 1) 0).toNat = 45 := by rw [hx2]; rfl
      repeat (first | (refine G_id ?_; first | refine G_nil ?_ | refine G_plain rfl rfl ?_ | refine G_yes rfl rfl rfl rfl ?_) | (refine X_id ?_; first | refine X_yl (Yl_move rfl rfl) rfl rfl ?_ | refine X_yl (Yl_assign rfl rfl) rfl rfl ?_ | refine X_yl (Yl_pick_t rfl rfl rfl) rfl rfl ?_ | refine X_yl (Yl_len rfl rfl) rfl rfl ?_ | refine X_yl (Yl_eql_t rfl rfl rfl (by omega)) rfl rfl ?_ | refine X_yl (Yl_lss_t rfl rfl rfl (by omega)) rfl rfl ?_ | refine X_yl (Yl_indexAddr rfl rfl rfl (by omega) (by omega) (by first | assumption | exact ⟨_, _, rfl⟩)) rfl rfl ?_ | refine X_yl (Yl_load rfl rfl ((hb.rd hS).cellB' (by omega))) rfl rfl ?_) | (refine C_id ?_; first | refine C_region ?_))
      exact E_mid () ⟨rfl, rfl, rfl, rfl, by rw [hbl]; rfl, trivial⟩ hS
    · obtain ⟨ab, ao, rfl⟩ := key i hlt
      obtain ⟨x, hx⟩ : ∃ x, s[i]? = some x := ⟨_, List.getElem?_eq_getElem hlt⟩
      have hx2 := at_ hx
      have hx3 : ¬ (s.getD ((((i : Nat) : Int)).toNat * 1) 0).toNat = 45 := by
        rw [hx2]
        intro q
        exact h45 (by rw [hx, show x = 45 from UInt8.toNat_inj.1 q])
      repeat (first | (refine G_id ?_; first | refine G_nil ?_ | refine G_plain rfl rfl ?_ | refine G_yes rfl rfl rfl rfl ?_) | (refine X_id ?_; first | refine X_yl (Yl_move rfl rfl) rfl rfl ?_ | refine X_yl (Yl_assign rfl rfl) rfl rfl ?_ | refine X_yl (Yl_pick_t rfl rfl rfl) rfl rfl ?_ | refine X_yl (Yl_len rfl rfl) rfl rfl ?_ | refine X_yl (Yl_eql_f rfl rfl rfl (by omega)) rfl rfl ?_ | refine X_yl (Yl_lss_t rfl rfl rfl (by omega)) rfl rfl ?_ | refine X_yl (Yl_indexAddr rfl rfl rfl (by omega) (by omega) (by first | assumption | exact ⟨_, _, rfl⟩)) rfl rfl ?_ | refine X_yl (Yl_load rfl rfl ((hb.rd hS).cellB' (by omega))) rfl rfl ?_) | (refine C_id ?_; first | refine C_region ?_))
      exact E_mid () ⟨rfl, rfl, rfl, rfl, by rw [hbl]; rfl, trivial⟩ hS
    · repeat (first | (refine G_id ?_; first | refine G_nil ?_ | refine G_plain rfl rfl ?_ | refine G_yes rfl rfl rfl rfl ?_ | refine G_no rfl rfl rfl rfl rfl rfl ?_) | (refine X_id ?_; first | refine X_yl (Yl_move rfl rfl) rfl rfl ?_ | refine X_yl (Yl_assign rfl rfl) rfl rfl ?_ | refine X_yl (Yl_pick_t rfl rfl rfl) rfl rfl ?_ | refine X_yl (Yl_pick_f rfl rfl rfl) rfl rfl ?_ | refine X_yl (Yl_len rfl rfl) rfl rfl ?_ | refine X_yl (Yl_lss_f rfl rfl rfl (by omega)) rfl rfl ?_) | (refine C_id ?_; first | refine C_region ?_))
      exact E_mid () ⟨rfl, rfl, rfl, rfl, by rw [hbl]; rfl, trivial⟩ hS
    · repeat (first | (refine G_id ?_; first | refine G_nil ?_ | refine G_plain rfl rfl ?_ | refine G_no rfl rfl rfl rfl rfl rfl ?_) | (refine X_id ?_; first | refine X_yl (Yl_move rfl rfl) rfl rfl ?_ | refine X_yl (Yl_assign rfl rfl) rfl rfl ?_ | refine X_yl (Yl_pick_f rfl rfl rfl) rfl rfl ?_) | (refine C_id ?_; first | refine C_region ?_))
      exact E_mid () ⟨rfl, rfl, rfl, rfl, by rw [hbl]; rfl, trivial⟩ hS
  clear hS
  rintro _ w hS
  have hf : f = i + (if bl then 1 else 0) := by
    rcases h3 with ⟨_, _, _, h, q⟩ | ⟨_, _, _, h, q⟩ | ⟨_, _, h, q⟩ | ⟨_, h, q⟩ <;> rw [h, q] <;> rfl
  clear h3
  refine C_mid (α := Unit) (fun _ => [(0, .slice a s.length c), (1, .int .i64 (f : Nat)), (3, .int .u8 (e.toNat : Int)), (11, .int .i64 (i : Nat)), (12, .bool bl)]) (fun _ w => St W noF [] w) ?_ ?_
  · cases bl with
    | true =>
      have hf : f = i + 1 := hf
      repeat (first | (refine G_id ?_; first | refine G_nil ?_ | refine G_plain rfl rfl ?_) | (refine X_id ?_; first | refine X_yl (Yl_move rfl rfl) rfl rfl ?_ | refine X_yl (Yl_assign rfl rfl) rfl rfl ?_ | refine X_yl (Yl_add rfl rfl rfl (w64 (by omega) (by omega))) rfl rfl ?_) | (refine C_id ?_; first | refine C_seq ?_ | refine C_region ?_ | refine C_cond_t rfl ?_) | (refine E_id ?_; first | refine E_code ?_))
      exact E_mid () ⟨rfl, by rw [hf]; rfl, rfl, rfl, rfl, trivial⟩ hS
    | false =>
      have hf : f = i := hf
      repeat (first | (refine G_id ?_; first | refine G_nil ?_ | refine G_plain rfl rfl ?_) | (refine X_id ?_; first | refine X_yl (Yl_move rfl rfl) rfl rfl ?_) | (refine C_id ?_; first | refine C_seq ?_ | refine C_region ?_ | refine C_skip ?_ | refine C_cond_f rfl ?_) | (refine E_id ?_; first | refine E_code ?_))
      exact E_mid () ⟨rfl, by rw [hf]; rfl, rfl, rfl, rfl, trivial⟩ hS
  clear hS
  rintro _ w hS
  have hif : i ≤ f := by rw [hf]; omega
  repeat (first | (refine G_id ?_; first | refine G_nil ?_ | refine G_plain rfl rfl ?_) | (refine X_id ?_; first | refine X_yl (Yl_move rfl rfl) rfl rfl ?_ | refine X_yl (Yl_assign rfl rfl) rfl rfl ?_) | (refine C_id ?_; first | refine C_seq ?_ | refine C_region ?_ | refine C_block ?_) | (refine E_id ?_; first | refine E_code ?_))
  refine C_joinB (α := Unit) (fun _ => [(0, .slice a s.length c), (1, .int .i64 (k : Nat)), (3, .int .u8 (e.toNat : Int)), (11, .int .i64 (i : Nat)), (12, .bool bl), (13, .int .i64 (f : Nat))]) (fun _ w => k ≤ s.length ∧ St W noF [] w) ?_ ?_
  · refine C_loop (α := Nat) (fun j => [(0, .slice a s.length c), (1, .int .i64 ((f + j : Nat) : Int)), (3, .int .u8 (e.toNat : Int)), (11, .int .i64 (i : Nat)), (12, .bool bl), (13, .int .i64 (f : Nat))])
      (fun j w => f + j ≤ s.length ∧ (∀ i c, i < j → (s.drop f)[i]? = some c → dig c = true) ∧ St W noF [] w) (fun j => s.length - (f + j)) 0 ⟨rfl, rfl, rfl, rfl, rfl, rfl, trivial⟩ ⟨hfl, fun i c h => by omega, hS⟩ ?_
    clear hS
    rintro j w ⟨hj, hdj, hS⟩
    by_cases hlt2 : f + j < s.length
    · obtain ⟨ab, ao, rfl⟩ := key (f + j) hlt2
      obtain ⟨x, hx⟩ : ∃ x, s[f + j]? = some x := ⟨_, List.getElem?_eq_getElem hlt2⟩
      have hx4 := at_ hx
      have hxd : (s.drop f)[j]? = some x := by rw [List.getElem?_drop]; exact hx
      by_cases hdx : dig x = true
      · obtain ⟨d1, d2⟩ := dig_t hdx
        rw [← hx4] at d1 d2
        repeat (first | (refine G_id ?_; first | refine G_nil ?_ | refine G_plain rfl rfl ?_ | refine G_yes rfl rfl rfl rfl ?_) | (refine X_id ?_; first | refine X_yl (Yl_move rfl rfl) rfl rfl ?_ | refine X_yl (Yl_assign rfl rfl) rfl rfl ?_ | refine X_yl (Yl_pick_t rfl rfl rfl) rfl rfl ?_ | refine X_yl (Yl_len rfl rfl) rfl rfl ?_ | refine X_yl (Yl_lss_t rfl rfl rfl (by omega)) rfl rfl ?_ | refine X_yl (Yl_leq_t rfl rfl rfl (by omega)) rfl rfl ?_ | refine X_yl (Yl_geq_t rfl rfl rfl (by omega)) rfl rfl ?_ | refine X_yl (Yl_indexAddr rfl rfl rfl (by omega) (by omega) (by first | assumption | exact ⟨_, _, rfl⟩)) rfl rfl ?_ | refine X_yl (Yl_add rfl rfl rfl (w64 (by omega) (by omega))) rfl rfl ?_ | refine X_yl (Yl_load rfl rfl ((hb.rd hS).cellB' (by omega))) rfl rfl ?_) | (refine C_id ?_; first | refine C_seq ?_ | refine C_region ?_ | refine C_block ?_ | refine C_skip ?_ | refine C_cond_t rfl ?_) | (refine E_id ?_; first | refine E_code ?_ | refine E_blk_n ?_))
        refine E_round (z := j) (j + 1) ⟨rfl, rfl, rfl, rfl, rfl, rfl, trivial⟩ ⟨by omega, fun i c hi hc => ?_, hS⟩ (by omega)
        rcases Nat.lt_or_ge i j with h | h
        · exact hdj i c h hc
        · obtain rfl : i = j := by omega
          rw [hxd] at hc
          rw [← Option.some.inj hc]; exact hdx
      · have hT := hstop j hdj (fun c hc => by
          rw [hxd] at hc
          rw [← Option.some.inj hc]; simpa using hdx) (by rw [List.length_drop]; omega)
        rcases dig_f hdx with d1 | ⟨d1, d2⟩
        · rw [← hx4] at d1
          repeat (first | (refine G_id ?_; first | refine G_nil ?_ | refine G_plain rfl rfl ?_ | refine G_yes rfl rfl rfl rfl ?_ | refine G_no rfl rfl rfl rfl rfl rfl ?_) | (refine X_id ?_; first | refine X_yl (Yl_move rfl rfl) rfl rfl ?_ | refine X_yl (Yl_pick_t rfl rfl rfl) rfl rfl ?_ | refine X_yl (Yl_pick_f rfl rfl rfl) rfl rfl ?_ | refine X_yl (Yl_len rfl rfl) rfl rfl ?_ | refine X_yl (Yl_lss_t rfl rfl rfl (by omega)) rfl rfl ?_ | refine X_yl (Yl_geq_f rfl rfl rfl (by omega)) rfl rfl ?_ | refine X_yl (Yl_indexAddr rfl rfl rfl (by omega) (by omega) (by first | assumption | exact ⟨_, _, rfl⟩)) rfl rfl ?_ | refine X_yl (Yl_load rfl rfl ((hb.rd hS).cellB' (by omega))) rfl rfl ?_) | (refine C_id ?_; first | refine C_seq ?_ | refine C_region ?_ | refine C_exit ?_ | refine C_cond_f rfl ?_) | (refine E_id ?_; first | refine E_code ?_ | refine E_then_exit ?_ | refine E_blk_same ?_))
          exact E_mid () ⟨rfl, by rw [hk, hT]; rfl, rfl, rfl, rfl, rfl, trivial⟩ ⟨by omega, hS⟩
        · rw [← hx4] at d1 d2
          repeat (first | (refine G_id ?_; first | refine G_nil ?_ | refine G_plain rfl rfl ?_ | refine G_yes rfl rfl rfl rfl ?_) | (refine X_id ?_; first | refine X_yl (Yl_move rfl rfl) rfl rfl ?_ | refine X_yl (Yl_pick_t rfl rfl rfl) rfl rfl ?_ | refine X_yl (Yl_len rfl rfl) rfl rfl ?_ | refine X_yl (Yl_lss_t rfl rfl rfl (by omega)) rfl rfl ?_ | refine X_yl (Yl_leq_f rfl rfl rfl (by omega)) rfl rfl ?_ | refine X_yl (Yl_geq_t rfl rfl rfl (by omega)) rfl rfl ?_ | refine X_yl (Yl_indexAddr rfl rfl rfl (by omega) (by omega) (by first | assumption | exact ⟨_, _, rfl⟩)) rfl rfl ?_ | refine X_yl (Yl_load rfl rfl ((hb.rd hS).cellB' (by omega))) rfl rfl ?_) | (refine C_id ?_; first | refine C_seq ?_ | refine C_region ?_ | refine C_exit ?_ | refine C_cond_f rfl ?_) | (refine E_id ?_; first | refine E_code ?_ | refine E_then_exit ?_ | refine E_blk_same ?_))
          exact E_mid () ⟨rfl, by rw [hk, hT]; rfl, rfl, rfl, rfl, rfl, trivial⟩ ⟨by omega, hS⟩
    · have hT := hstop j hdj (fun c hc => by rw [List.getElem?_eq_none (by rw [List.length_drop]; omega)] at hc; cases hc) (by rw [List.length_drop]; omega)
      repeat (first | (refine G_id ?_; first | refine G_nil ?_ | refine G_plain rfl rfl ?_ | refine G_no rfl rfl rfl rfl rfl rfl ?_) | (refine X_id ?_; first | refine X_yl (Yl_move rfl rfl) rfl rfl ?_ | refine X_yl (Yl_pick_f rfl rfl rfl) rfl rfl ?_ | refine X_yl (Yl_len rfl rfl) rfl rfl ?_ | refine X_yl (Yl_lss_f rfl rfl rfl (by omega)) rfl rfl ?_) | (refine C_id ?_; first | refine C_seq ?_ | refine C_region ?_ | refine C_exit ?_ | refine C_cond_f rfl ?_) | (refine E_id ?_; first | refine E_code ?_ | refine E_then_exit ?_ | refine E_blk_same ?_))
      exact E_mid () ⟨rfl, by rw [hk, hT]; rfl, rfl, rfl, rfl, rfl, trivial⟩ ⟨by omega, hS⟩
  clear hS
  rintro _ w ⟨hkl, hS⟩
  clear hstop
  by_cases hend : s.length ≤ k
  · rw [if_pos hend]
    repeat (first | (refine G_id ?_; first | refine G_nil ?_ | refine G_plain rfl rfl ?_) | (refine X_id ?_; first | refine X_yl (Yl_move rfl rfl) rfl rfl ?_ | refine X_yl (Yl_assign rfl rfl) rfl rfl ?_ | refine X_yl (Yl_len rfl rfl) rfl rfl ?_ | refine X_yl (Yl_geq_t rfl rfl rfl (by omega)) rfl rfl ?_) | (refine C_id ?_; first | refine C_seq ?_ | refine C_region ?_ | refine C_ret ?_ | refine C_cond_t rfl ?_) | (refine E_id ?_; first | refine E_code ?_ | refine E_then_ret ?_ | refine E_ret3 rfl (Rv_tmp rfl) (Rv_tmp rfl) (Rv_tmp rfl) (Ret.mk ?_)))
    exact ⟨⟨_, _, rfl, by decide⟩, hS⟩
  rw [if_neg hend]
  obtain ⟨ab, ao, rfl⟩ := key k (by omega)
  have hsb := hb.subBytes (l := f) (h := k) (c := c) (by omega) (by omega)
  rw [show k - f = d.length by omega, htk] at hsb
  have hzd := str_size d
  repeat (first | (refine G_id ?_; first | refine G_nil ?_ | refine G_plain rfl rfl ?_) | (refine X_id ?_; first | refine X_yl (Yl_move rfl rfl) rfl rfl ?_ | refine X_yl (Yl_len rfl rfl) rfl rfl ?_ | refine X_yl (Yl_geq_f rfl rfl rfl (by omega)) rfl rfl ?_) | (refine C_id ?_; first | refine C_seq ?_ | refine C_region ?_ | refine C_skip ?_ | refine C_cond_f rfl ?_) | (refine E_id ?_; first | refine E_code ?_))
  refine X_yl (Yl_slice (l := f) (h := k) rfl rfl rfl rfl (.inr ⟨_, _, rfl, by omega, by omega, by omega⟩) (.inr ⟨_, _, rfl, by omega, by omega, by omega⟩)) rfl rfl ?_
  repeat (first | (refine G_id ?_; first | refine G_plain rfl rfl ?_))
  refine X_yl (Yl_bytesStr rfl rfl (hsb.rd hS) (by omega)) rfl rfl ?_
  obtain ⟨x, hx⟩ : ∃ x, s[k]? = some x := ⟨_, List.getElem?_eq_getElem (by omega)⟩
  have hxk := at_ hx
  refine G_plain rfl rfl ?_
  refine X_yl (Yl_assign rfl rfl) rfl rfl ?_
  refine G_nil ?_
  refine E_code ?_
  refine C_seq ?_
  refine C_mid (α := Bool) (fun b => [(1, .int .i64 (k : Nat)), (11, .int .i64 (i : Nat)), (12, .bool bl), (14, .string (str d)), (90, .bool b)]) (fun b w => (b = true ↔ badD bl d ∨ x ≠ e) ∧ St W noF [] w) ?_ ?_
  · by_cases hd0 : d.length = 0
    · have hbad : badD bl d := .inl (List.length_eq_zero_iff.1 hd0)
      repeat (first | (refine G_id ?_; first | refine G_nil ?_ | refine G_plain rfl rfl ?_ | refine G_no rfl rfl rfl rfl rfl rfl ?_ | refine G_no_undef rfl rfl rfl rfl rfl ?_) | (refine X_id ?_; first | refine X_yl (Yl_move rfl rfl) rfl rfl ?_ | refine X_yl (Yl_pick_t rfl rfl rfl) rfl rfl ?_ | refine X_yl (Yl_len_str rfl rfl) rfl rfl ?_ | refine X_yl (Yl_eql_t rfl rfl rfl (by omega)) rfl rfl ?_) | (refine C_id ?_; first | refine C_region ?_))
      exact E_mid true ⟨rfl, rfl, rfl, rfl, rfl, trivial⟩ ⟨⟨fun _ => .inl hbad, fun _ => rfl⟩, hS⟩
    · obtain ⟨y, hy⟩ : ∃ y, d[((0 : Int)).toNat]? = some y := ⟨d[0], List.getElem?_eq_getElem (by omega)⟩
      have hh : d.head? = some y := by rw [List.head?_eq_getElem?]; exact hy
      have hne : d ≠ [] := fun q => hd0 (by rw [q]; rfl)
      by_cases hy48 : y.toNat = 48
      · have hh48 : d.head? = some 48 := by rw [hh, show y = 48 from UInt8.toNat_inj.1 hy48]
        by_cases h1 : 1 < d.length
        · repeat (first | (refine G_id ?_; first | refine G_nil ?_ | refine G_plain rfl rfl ?_ | refine G_yes rfl rfl rfl rfl ?_ | refine G_no rfl rfl rfl rfl rfl rfl ?_) | (refine X_id ?_; first | refine X_yl (Yl_move rfl rfl) rfl rfl ?_ | refine X_yl (Yl_pick_t rfl rfl rfl) rfl rfl ?_ | refine X_yl (Yl_pick_f rfl rfl rfl) rfl rfl ?_ | refine X_yl (Yl_len_str rfl rfl) rfl rfl ?_ | refine X_yl (Yl_eql_t rfl rfl rfl (by omega)) rfl rfl ?_ | refine X_yl (Yl_eql_f rfl rfl rfl (by omega)) rfl rfl ?_ | refine X_yl (Yl_gtr_t rfl rfl rfl (by omega)) rfl rfl ?_ | refine X_yl (Yl_indexStr rfl rfl rfl (by omega) (by assumption)) rfl rfl ?_) | (refine C_id ?_; first | refine C_region ?_))
          exact E_mid true ⟨rfl, rfl, rfl, rfl, rfl, trivial⟩ ⟨⟨fun _ => .inl (.inr ⟨hh48, .inl h1⟩), fun _ => rfl⟩, hS⟩
        · cases bl with
          | true =>
            repeat (first | (refine G_id ?_; first | refine G_nil ?_ | refine G_plain rfl rfl ?_ | refine G_yes rfl rfl rfl rfl ?_ | refine G_no rfl rfl rfl rfl rfl rfl ?_) | (refine X_id ?_; first | refine X_yl (Yl_move rfl rfl) rfl rfl ?_ | refine X_yl (Yl_pick_t rfl rfl rfl) rfl rfl ?_ | refine X_yl (Yl_pick_f rfl rfl rfl) rfl rfl ?_ | refine X_yl (Yl_len_str rfl rfl) rfl rfl ?_ | refine X_yl (Yl_eql_t rfl rfl rfl (by omega)) rfl rfl ?_ | refine X_yl (Yl_eql_f rfl rfl rfl (by omega)) rfl rfl ?_ | refine X_yl (Yl_gtr_f rfl rfl rfl (by omega)) rfl rfl ?_ | refine X_yl (Yl_indexStr rfl rfl rfl (by omega) (by assumption)) rfl rfl ?_) | (refine C_id ?_; first | refine C_region ?_))
            exact E_mid true ⟨rfl, rfl, rfl, rfl, rfl, trivial⟩ ⟨⟨fun _ => .inl (.inr ⟨hh48, .inr rfl⟩), fun _ => rfl⟩, hS⟩
          | false =>
            have hnb : ¬ badD false d := by
              rintro (q | ⟨_, q | q⟩)
              · exact hne q
              · exact h1 q
              · cases q
            by_cases hxe : x = e
            · have hxe' : (s.getD ((((k : Nat) : Int)).toNat * 1) 0).toNat = e.toNat := by rw [hxk, hxe]
              repeat (first | (refine G_id ?_; first | refine G_nil ?_ | refine G_plain rfl rfl ?_ | refine G_yes rfl rfl rfl rfl ?_) | (refine X_id ?_; first | refine X_yl (Yl_move rfl rfl) rfl rfl ?_ | refine X_yl (Yl_pick_t rfl rfl rfl) rfl rfl ?_ | refine X_yl (Yl_pick_f rfl rfl rfl) rfl rfl ?_ | refine X_yl (Yl_len_str rfl rfl) rfl rfl ?_ | refine X_yl (Yl_eql_t rfl rfl rfl (by omega)) rfl rfl ?_ | refine X_yl (Yl_eql_f rfl rfl rfl (by omega)) rfl rfl ?_ | refine X_yl (Yl_neq_f rfl rfl rfl (by omega)) rfl rfl ?_ | refine X_yl (Yl_gtr_f rfl rfl rfl (by omega)) rfl rfl ?_ | refine X_yl (Yl_indexAddr rfl rfl rfl (by omega) (by omega) (by first | assumption | exact ⟨_, _, rfl⟩)) rfl rfl ?_ | refine X_yl (Yl_load rfl rfl ((hb.rd hS).cellB' (by omega))) rfl rfl ?_ | refine X_yl (Yl_indexStr rfl rfl rfl (by omega) (by assumption)) rfl rfl ?_) | (refine C_id ?_; first | refine C_region ?_))
              exact E_mid false ⟨rfl, rfl, rfl, rfl, rfl, trivial⟩ ⟨⟨fun q => (by cases q), fun q => (q.elim hnb (fun q2 => q2 hxe)).elim⟩, hS⟩
            · have hxe' : ¬ (s.getD ((((k : Nat) : Int)).toNat * 1) 0).toNat = e.toNat := by rw [hxk]; exact fun q => hxe (UInt8.toNat_inj.1 q)
              repeat (first | (refine G_id ?_; first | refine G_nil ?_ | refine G_plain rfl rfl ?_ | refine G_yes rfl rfl rfl rfl ?_) | (refine X_id ?_; first | refine X_yl (Yl_move rfl rfl) rfl rfl ?_ | refine X_yl (Yl_pick_t rfl rfl rfl) rfl rfl ?_ | refine X_yl (Yl_pick_f rfl rfl rfl) rfl rfl ?_ | refine X_yl (Yl_len_str rfl rfl) rfl rfl ?_ | refine X_yl (Yl_eql_t rfl rfl rfl (by omega)) rfl rfl ?_ | refine X_yl (Yl_eql_f rfl rfl rfl (by omega)) rfl rfl ?_ | refine X_yl (Yl_neq_t rfl rfl rfl (by omega)) rfl rfl ?_ | refine X_yl (Yl_gtr_f rfl rfl rfl (by omega)) rfl rfl ?_ | refine X_yl (Yl_indexAddr rfl rfl rfl (by omega) (by omega) (by first | assumption | exact ⟨_, _, rfl⟩)) rfl rfl ?_ | refine X_yl (Yl_load rfl rfl ((hb.rd hS).cellB' (by omega))) rfl rfl ?_ | refine X_yl (Yl_indexStr rfl rfl rfl (by omega) (by assumption)) rfl rfl ?_) | (refine C_id ?_; first | refine C_region ?_))
              exact E_mid true ⟨rfl, rfl, rfl, rfl, rfl, trivial⟩ ⟨⟨fun _ => .inr hxe, fun _ => rfl⟩, hS⟩
      · have hnb : ¬ badD bl d := by
          rintro (q | ⟨q, _⟩)
          · exact hne q
          · rw [hh] at q
            exact hy48 (by rw [Option.some.inj q]; rfl)
        by_cases hxe : x = e
        · have hxe' : (s.getD ((((k : Nat) : Int)).toNat * 1) 0).toNat = e.toNat := by rw [hxk, hxe]
          repeat (first | (refine G_id ?_; first | refine G_nil ?_ | refine G_plain rfl rfl ?_ | refine G_yes rfl rfl rfl rfl ?_ | refine G_no rfl rfl rfl rfl rfl rfl ?_ | refine G_no_undef rfl rfl rfl rfl rfl ?_) | (refine X_id ?_; first | refine X_yl (Yl_move rfl rfl) rfl rfl ?_ | refine X_yl (Yl_pick_f rfl rfl rfl) rfl rfl ?_ | refine X_yl (Yl_len_str rfl rfl) rfl rfl ?_ | refine X_yl (Yl_eql_f rfl rfl rfl (by omega)) rfl rfl ?_ | refine X_yl (Yl_neq_f rfl rfl rfl (by omega)) rfl rfl ?_ | refine X_yl (Yl_indexAddr rfl rfl rfl (by omega) (by omega) (by first | assumption | exact ⟨_, _, rfl⟩)) rfl rfl ?_ | refine X_yl (Yl_load rfl rfl ((hb.rd hS).cellB' (by omega))) rfl rfl ?_ | refine X_yl (Yl_indexStr rfl rfl rfl (by omega) (by assumption)) rfl rfl ?_) | (refine C_id ?_; first | refine C_region ?_))
          exact E_mid false ⟨rfl, rfl, rfl, rfl, rfl, trivial⟩ ⟨⟨fun q => (by cases q), fun q => (q.elim hnb (fun q2 => q2 hxe)).elim⟩, hS⟩
        · have hxe' : ¬ (s.getD ((((k : Nat) : Int)).toNat * 1) 0).toNat = e.toNat := by rw [hxk]; exact fun q => hxe (UInt8.toNat_inj.1 q)
          repeat (first | (refine G_id ?_; first | refine G_nil ?_ | refine G_plain rfl rfl ?_ | refine G_yes rfl rfl rfl rfl ?_ | refine G_no rfl rfl rfl rfl rfl rfl ?_ | refine G_no_undef rfl rfl rfl rfl rfl ?_) | (refine X_id ?_; first | refine X_yl (Yl_move rfl rfl) rfl rfl ?_ | refine X_yl (Yl_pick_f rfl rfl rfl) rfl rfl ?_ | refine X_yl (Yl_len_str rfl rfl) rfl rfl ?_ | refine X_yl (Yl_eql_f rfl rfl rfl (by omega)) rfl rfl ?_ | refine X_yl (Yl_neq_t rfl rfl rfl (by omega)) rfl rfl ?_ | refine X_yl (Yl_indexAddr rfl rfl rfl (by omega) (by omega) (by first | assumption | exact ⟨_, _, rfl⟩)) rfl rfl ?_ | refine X_yl (Yl_load rfl rfl ((hb.rd hS).cellB' (by omega))) rfl rfl ?_ | refine X_yl (Yl_indexStr rfl rfl rfl (by omega) (by assumption)) rfl rfl ?_) | (refine C_id ?_; first | refine C_region ?_))
          exact E_mid true ⟨rfl, rfl, rfl, rfl, rfl, trivial⟩ ⟨⟨fun _ => .inr hxe, fun _ => rfl⟩, hS⟩
  clear hS
  rintro b w ⟨hbb, hS⟩
  cases b with
  | true =>
    rw [if_pos ((hbb.1 rfl).imp id fun q q2 => q (by rw [hx] at q2; exact Option.some.inj q2))]
    repeat (first | (refine G_id ?_; first | refine G_nil ?_ | refine G_plain rfl rfl ?_) | (refine X_id ?_; first | refine X_yl (Yl_move rfl rfl) rfl rfl ?_ | refine X_yl (Yl_assign rfl rfl) rfl rfl ?_) | (refine C_id ?_; first | refine C_seq ?_ | refine C_region ?_ | refine C_ret ?_ | refine C_cond_t rfl ?_) | (refine E_id ?_; first | refine E_code ?_ | refine E_then_ret ?_ | refine E_ret3 rfl (Rv_tmp rfl) (Rv_tmp rfl) (Rv_tmp rfl) (Ret.mk ?_)))
    exact ⟨⟨_, _, rfl, by decide⟩, hS⟩
  | false =>
    have hnb : ¬ badD bl d := fun q => by have := hbb.2 (.inl q); cases this
    have hxe : x = e := by
      by_cases q : x = e
      · exact q
      · have := hbb.2 (.inr q); cases this
    rw [if_neg (fun q => q.elim hnb (fun q2 => q2 (by rw [hx, hxe])))]
    clear hbb hsb hxk
    refine C_cond_f rfl ?_
    refine C_skip ?_
    refine E_code ?_
    refine C_seq ?_
    refine C_region ?_
    refine G_plain rfl rfl ?_
    refine X_yl (Yl_assign rfl rfl) rfl rfl ?_
    refine G_nil ?_
    refine E_code ?_
    refine C_mid (α := Unit) (fun _ => [(1, .int .i64 (k : Nat)), (11, .int .i64 (i : Nat)), (12, .bool bl), (14, .string (str d)), (15, .string (str (most bl)))]) (fun _ w => St W noF [] w) ?_ ?_
    · cases bl with
      | true =>
        repeat (first | (refine G_id ?_; first | refine G_nil ?_ | refine G_plain rfl rfl ?_) | (refine X_id ?_; first | refine X_yl (Yl_move rfl rfl) rfl rfl ?_ | refine X_yl (Yl_assign rfl rfl) rfl rfl ?_) | (refine C_id ?_; first | refine C_seq ?_ | refine C_region ?_ | refine C_cond_t rfl ?_) | (refine E_id ?_; first | refine E_code ?_))
        exact E_mid () ⟨rfl, rfl, rfl, rfl, rfl, trivial⟩ hS
      | false =>
        repeat (first | (refine G_id ?_; first | refine G_nil ?_ | refine G_plain rfl rfl ?_) | (refine X_id ?_; first | refine X_yl (Yl_move rfl rfl) rfl rfl ?_) | (refine C_id ?_; first | refine C_seq ?_ | refine C_region ?_ | refine C_skip ?_ | refine C_cond_f rfl ?_) | (refine E_id ?_; first | refine E_code ?_))
        exact E_mid () ⟨rfl, rfl, rfl, rfl, rfl, trivial⟩ hS
    clear hS
    rintro _ w hS
    refine C_seq ?_
    refine C_mid (α := Bool) (fun b => [(1, .int .i64 (k : Nat)), (11, .int .i64 (i : Nat)), (12, .bool bl), (14, .string (str d)), (105, .bool b)]) (fun b w => (b = true ↔ tooBig bl d) ∧ St W noF [] w) ?_ ?_
    · by_cases h1 : 19 < d.length
      · repeat (first | (refine G_id ?_; first | refine G_nil ?_ | refine G_plain rfl rfl ?_ | refine G_no rfl rfl rfl rfl rfl rfl ?_ | refine G_no_undef rfl rfl rfl rfl rfl ?_) | (refine X_id ?_; first | refine X_yl (Yl_move rfl rfl) rfl rfl ?_ | refine X_yl (Yl_pick_t rfl rfl rfl) rfl rfl ?_ | refine X_yl (Yl_len_str rfl rfl) rfl rfl ?_ | refine X_yl (Yl_gtr_t rfl rfl rfl (by omega)) rfl rfl ?_) | (refine C_id ?_; first | refine C_region ?_))
        exact E_mid true ⟨rfl, rfl, rfl, rfl, rfl, trivial⟩ ⟨⟨fun _ => .inl h1, fun _ => rfl⟩, hS⟩
      · by_cases h2 : d.length = 19
        · have hG := fun (o : Oper) σ (t ty : TypeId) (X Y : Operand) ho hx hy => Yl_gtrStr (P := Tryd.prog) (w := w) (o := o) (σ := σ) (t := t) (ty := ty) (x := X) (y := Y) (a := d) (b := most bl) ho hx hy
          by_cases h3 : Op.bytesLess d (most bl) = true ∨ d = most bl
          · repeat (first | (refine G_id ?_; first | refine G_plain rfl rfl ?_ | refine G_yes rfl rfl rfl rfl ?_) | (refine X_id ?_; first | refine X_yl (Yl_move rfl rfl) rfl rfl ?_ | refine X_yl (Yl_len_str rfl rfl) rfl rfl ?_ | refine X_yl (Yl_eql_t rfl rfl rfl (by omega)) rfl rfl ?_ | refine X_yl (Yl_gtr_f rfl rfl rfl (by omega)) rfl rfl ?_) | (refine C_id ?_; first | refine C_region ?_))
            refine X_yl ((Yl_gtrStr (a := d) (b := most bl) rfl rfl rfl).toFn (fun q => q h3)) rfl rfl ?_
            repeat (first | (refine G_id ?_; first | refine G_nil ?_ | refine G_plain rfl rfl ?_ | refine G_yes rfl rfl rfl rfl ?_) | (refine X_id ?_; first | refine X_yl (Yl_pick_t rfl rfl rfl) rfl rfl ?_ | refine X_yl (Yl_pick_f rfl rfl rfl) rfl rfl ?_))
            exact E_mid false ⟨rfl, rfl, rfl, rfl, rfl, trivial⟩ ⟨⟨fun q => (by cases q), fun q => absurd q (not_big h1 fun _ => h3)⟩, hS⟩
          · repeat (first | (refine G_id ?_; first | refine G_plain rfl rfl ?_ | refine G_yes rfl rfl rfl rfl ?_) | (refine X_id ?_; first | refine X_yl (Yl_move rfl rfl) rfl rfl ?_ | refine X_yl (Yl_len_str rfl rfl) rfl rfl ?_ | refine X_yl (Yl_eql_t rfl rfl rfl (by omega)) rfl rfl ?_ | refine X_yl (Yl_gtr_f rfl rfl rfl (by omega)) rfl rfl ?_) | (refine C_id ?_; first | refine C_region ?_))
            refine X_yl ((Yl_gtrStr (a := d) (b := most bl) rfl rfl rfl).toTn h3) rfl rfl ?_
            repeat (first | (refine G_id ?_; first | refine G_nil ?_ | refine G_plain rfl rfl ?_ | refine G_yes rfl rfl rfl rfl ?_) | (refine X_id ?_; first | refine X_yl (Yl_pick_t rfl rfl rfl) rfl rfl ?_ | refine X_yl (Yl_pick_f rfl rfl rfl) rfl rfl ?_))
            exact E_mid true ⟨rfl, rfl, rfl, rfl, rfl, trivial⟩ ⟨⟨fun _ => .inr ⟨h2, h3⟩, fun _ => rfl⟩, hS⟩
        · repeat (first | (refine G_id ?_; first | refine G_nil ?_ | refine G_plain rfl rfl ?_ | refine G_yes rfl rfl rfl rfl ?_ | refine G_no rfl rfl rfl rfl rfl rfl ?_) | (refine X_id ?_; first | refine X_yl (Yl_move rfl rfl) rfl rfl ?_ | refine X_yl (Yl_pick_f rfl rfl rfl) rfl rfl ?_ | refine X_yl (Yl_len_str rfl rfl) rfl rfl ?_ | refine X_yl (Yl_eql_f rfl rfl rfl (by omega)) rfl rfl ?_ | refine X_yl (Yl_gtr_f rfl rfl rfl (by omega)) rfl rfl ?_) | (refine C_id ?_; first | refine C_region ?_))
          exact E_mid false ⟨rfl, rfl, rfl, rfl, rfl, trivial⟩ ⟨⟨fun q => (by cases q), fun q => absurd q (not_big h1 fun q2 => absurd q2 h2)⟩, hS⟩
    clear hS
    rintro b w ⟨hbb, hS⟩
    cases b with
    | true =>
      rw [if_pos (hbb.1 rfl)]
      repeat (first | (refine G_id ?_; first | refine G_nil ?_ | refine G_plain rfl rfl ?_) | (refine X_id ?_; first | refine X_yl (Yl_move rfl rfl) rfl rfl ?_ | refine X_yl (Yl_assign rfl rfl) rfl rfl ?_) | (refine C_id ?_; first | refine C_seq ?_ | refine C_region ?_ | refine C_ret ?_ | refine C_cond_t rfl ?_) | (refine E_id ?_; first | refine E_code ?_ | refine E_then_ret ?_ | refine E_ret3 rfl (Rv_tmp rfl) (Rv_tmp rfl) (Rv_tmp rfl) (Ret.mk ?_)))
      exact ⟨⟨_, _, rfl, by decide⟩, hS⟩
    | false =>
      have hnbig : ¬ tooBig bl d := fun q => by have := hbb.2 q; cases this
      rw [if_neg hnbig]
      have hvl := val_lim hdig hnb hnbig
      have hlim : lim bl ≤ 9223372036854775808 := by cases bl <;> decide
      have hlim2 : bl = false → lim bl = 9223372036854775807 := fun q => by rw [q]; rfl
      repeat (first | (refine G_id ?_; first | refine G_nil ?_ | refine G_plain rfl rfl ?_) | (refine X_id ?_; first | refine X_yl (Yl_assign rfl rfl) rfl rfl ?_) | (refine C_id ?_; first | refine C_seq ?_ | refine C_region ?_ | refine C_block ?_ | refine C_skip ?_ | refine C_cond_f rfl ?_) | (refine E_id ?_; first | refine E_code ?_))
      refine C_joinB (α := Unit) (fun _ => [(1, .int .i64 (k : Nat)), (11, .int .i64 (i : Nat)), (12, .bool bl), (16, .int .i64 (-((val d 0 : Nat) : Int)))]) (fun _ w => St W noF [] w) ?_ ?_
      · refine C_loop (α := Nat) (fun j => [(1, .int .i64 (k : Nat)), (11, .int .i64 (i : Nat)), (12, .bool bl), (14, .string (str d)), (16, .int .i64 (-((val (d.take j) 0 : Nat) : Int))), (17, .int .i64 (j : Nat))]) (fun j w => j ≤ d.length ∧ St W noF [] w) (fun j => d.length - j) 0 ⟨rfl, rfl, rfl, rfl, rfl, rfl, trivial⟩ ⟨Nat.zero_le _, hS⟩ ?_
        clear hS
        rintro j w ⟨hj, hS⟩
        by_cases hjl : j < d.length
        · obtain ⟨y, hy0⟩ : ∃ y, d[j]? = some y := ⟨_, List.getElem?_eq_getElem hjl⟩
          have hy : d[((j : Nat) : Int).toNat]? = some y := hy0
          have hyd := dig_iff.1 (hdig y (List.mem_of_getElem? hy0))
          have hv1 := val_take hy0
          have hv2 := val_mono d (j + 1) 0
          have hval : 10 * -((val (d.take j) 0 : Nat) : Int) - ((y.toNat : Int) - 48) = -((val (d.take (j + 1)) 0 : Nat) : Int) := by omega
          repeat (first | (refine G_id ?_; first | refine G_nil ?_ | refine G_plain rfl rfl ?_) | (refine X_id ?_; first | refine X_yl (Yl_move rfl rfl) rfl rfl ?_ | refine X_yl (Yl_assign rfl rfl) rfl rfl ?_ | refine X_yl (Yl_len_str rfl rfl) rfl rfl ?_ | refine X_yl (Yl_lss_t rfl rfl rfl (by omega)) rfl rfl ?_ | refine X_yl (Yl_add rfl rfl rfl (w64 (by omega) (by omega))) rfl rfl ?_ | refine X_yl (Yl_sub rfl rfl rfl (w64 (by omega) (by omega))) rfl rfl ?_ | refine X_yl (Yl_mul rfl rfl rfl (w64 (by omega) (by omega))) rfl rfl ?_ | refine X_yl (Yl_convInt rfl rfl (w64 (by omega) (by omega))) rfl rfl ?_ | refine X_yl (Yl_indexStr rfl rfl rfl (by omega) (by assumption)) rfl rfl ?_) | (refine C_id ?_; first | refine C_seq ?_ | refine C_region ?_ | refine C_block ?_ | refine C_skip ?_ | refine C_cond_t rfl ?_) | (refine E_id ?_; first | refine E_code ?_ | refine E_blk_n ?_))
          exact E_round (z := j) (j + 1) ⟨rfl, rfl, rfl, rfl, by rw [← hval]; rfl, rfl, trivial⟩ ⟨hjl, hS⟩ (by omega)
        · obtain rfl : j = d.length := by omega
          rw [List.take_length] at *
          repeat (first | (refine G_id ?_; first | refine G_nil ?_ | refine G_plain rfl rfl ?_) | (refine X_id ?_; first | refine X_yl (Yl_move rfl rfl) rfl rfl ?_ | refine X_yl (Yl_len_str rfl rfl) rfl rfl ?_ | refine X_yl (Yl_lss_f rfl rfl rfl (by omega)) rfl rfl ?_) | (refine C_id ?_; first | refine C_seq ?_ | refine C_region ?_ | refine C_exit ?_ | refine C_cond_f rfl ?_) | (refine E_id ?_; first | refine E_code ?_ | refine E_then_exit ?_ | refine E_blk_same ?_))
          exact E_mid () ⟨rfl, rfl, rfl, rfl, trivial⟩ hS
      clear hS
      rintro _ w hS
      cases bl with
      | true =>
        repeat (first | (refine G_id ?_; first | refine G_nil ?_ | refine G_plain rfl rfl ?_) | (refine X_id ?_; first | refine X_yl (Yl_move rfl rfl) rfl rfl ?_ | refine X_yl (Yl_assign rfl rfl) rfl rfl ?_ | refine X_yl (Yl_not_t rfl rfl) rfl rfl ?_ | refine X_yl (Yl_gtr_f rfl rfl rfl (by omega)) rfl rfl ?_ | refine X_yl (Yl_add rfl rfl rfl (w64 (by omega) (by omega))) rfl rfl ?_) | (refine C_id ?_; first | refine C_seq ?_ | refine C_region ?_ | refine C_ret ?_ | refine C_skip ?_ | refine C_cond_f rfl ?_) | (refine E_id ?_; first | refine E_code ?_ | refine E_ret3 rfl (Rv_tmp rfl) (Rv_tmp rfl) (Rv_tmp rfl) (Ret.mk ?_)))
        exact ⟨⟨k + 1, rfl, by omega, rfl⟩, hS⟩
      | false =>
        have := hlim2 rfl
        have en : IntKind.i64.wrap (0 - -((val d 0 : Nat) : Int)) = ((val d 0 : Nat) : Int) := by rw [w64 (by omega) (by omega)]; omega
        repeat (first | (refine G_id ?_; first | refine G_nil ?_ | refine G_plain rfl rfl ?_) | (refine X_id ?_; first | refine X_yl (Yl_move rfl rfl) rfl rfl ?_ | refine X_yl (Yl_not_f rfl rfl) rfl rfl ?_) | (refine C_id ?_; first | refine C_seq ?_ | refine C_region ?_ | refine C_cond_t rfl ?_) | (refine E_id ?_; first | refine E_code ?_))
        refine X_yl (Yl_neg (v := ((val d 0 : Nat) : Int)) rfl rfl en) rfl rfl ?_
        repeat (first | (refine G_id ?_; first | refine G_nil ?_ | refine G_plain rfl rfl ?_) | (refine X_id ?_; first | refine X_yl (Yl_move rfl rfl) rfl rfl ?_ | refine X_yl (Yl_assign rfl rfl) rfl rfl ?_ | refine X_yl (Yl_gtr_f rfl rfl rfl (by omega)) rfl rfl ?_ | refine X_yl (Yl_add rfl rfl rfl (w64 (by omega) (by omega))) rfl rfl ?_) | (refine C_id ?_; first | refine C_seq ?_ | refine C_region ?_ | refine C_ret ?_ | refine C_skip ?_ | refine C_cond_f rfl ?_) | (refine E_id ?_; first | refine E_code ?_ | refine E_ret3 rfl (Rv_tmp rfl) (Rv_tmp rfl) (Rv_tmp rfl) (Ret.mk ?_)))
        exact ⟨⟨k + 1, rfl, by omega, rfl⟩, hS⟩
end Cr
namespace Cr
open Go Go.Proofs
set_option maxRecDepth 100000
set_option maxHeartbeats 8000000
attribute [local irreducible] Calls

/-- A node's cells; a text is a piece of the bytes that are read. -/
def NodeOk (a : Option Addr) (s : List UInt8) (c : Nat) : Leaf → List Value → Prop
  | .num n, cs => cs = [.int .i64 0, .int .i64 n, .slice none 0 0, .slice none 0 0]
  | .txt b, cs => ∃ j, j + b.length ≤ s.length ∧ cs = [.int .i64 1, .int .i64 0, .slice (Cr.sub a j 1 c) b.length (c - j), .slice none 0 0] ∧ (s.drop j).take b.length = b
  | .oth, cs => ∃ p n q, cs = [.int .i64 2, .int .i64 0, .slice none 0 0, .slice p n q]
theorem NodeOk.len {a : Option Addr} {s : List UInt8} {c : Nat} {y : Leaf} {cs : List Value} (H : NodeOk a s c y cs) : cs.length = 4 ∧ ∀ u ∈ cs, u.oneCell' = true := by
  cases y with
  | num n => obtain rfl := H; exact ⟨rfl, by simp [Value.oneCell']⟩
  | txt b => obtain ⟨j, _, rfl, _⟩ := H; exact ⟨rfl, by simp [Value.oneCell']⟩
  | oth => obtain ⟨p, n, q, rfl⟩ := H; exact ⟨rfl, by simp [Value.oneCell']⟩
def Nodes (a : Option Addr) (s : List UInt8) (c : Nat) (x : List Leaf) (rows : List (List Value)) : Prop := rows.length = x.length ∧ ∀ (i : Nat) (y : Leaf), x[i]? = some y → ∃ cs, rows[i]? = some cs ∧ NodeOk a s c y cs
theorem Nodes.nil {a : Option Addr} {s : List UInt8} {c : Nat} : Nodes a s c [] [] := ⟨rfl, fun _ _ h => by cases h⟩
theorem Nodes.snoc {a : Option Addr} {s : List UInt8} {c : Nat} {x : List Leaf} {rows : List (List Value)} {y : Leaf} {cs : List Value} (H : Nodes a s c x rows) (h : NodeOk a s c y cs) : Nodes a s c (x ++ [y]) (rows ++ [cs]) := by
  refine ⟨by simp [H.1], fun i z hz => ?_⟩
  rcases Nat.lt_or_ge i x.length with hi | hi
  · rw [List.getElem?_append_left hi] at hz
    obtain ⟨cs', h1, h2⟩ := H.2 i z hz
    exact ⟨cs', by rw [List.getElem?_append_left (by rw [H.1]; exact hi)]; exact h1, h2⟩
  · have hlt := (List.getElem?_eq_some_iff.1 hz).1
    simp only [List.length_append, List.length_singleton] at hlt
    obtain rfl : i = x.length := by omega
    rw [List.getElem?_append_right (Nat.le_refl _), Nat.sub_self] at hz
    obtain rfl := Option.some.inj hz
    exact ⟨cs, by rw [← H.1, List.getElem?_append_right (Nat.le_refl _), Nat.sub_self]; rfl, h⟩
theorem Nodes.all {a : Option Addr} {s : List UInt8} {c : Nat} {x : List Leaf} {rows : List (List Value)} (H : Nodes a s c x rows) : ∀ r ∈ rows, r.length = 4 ∧ ∀ u ∈ r, u.oneCell' = true := fun r hr => by
  obtain ⟨i, hi, he⟩ := List.mem_iff_getElem.1 hr
  have hix : i < x.length := by rw [← H.1]; exact hi
  obtain ⟨cs, h1, h2⟩ := H.2 i x[i] (List.getElem?_eq_getElem hix)
  have : rows[i]? = some r := by rw [List.getElem?_eq_getElem hi, he]
  rw [this] at h1
  obtain rfl := Option.some.inj h1
  exact h2.len
theorem Nodes.flat {a : Option Addr} {s : List UInt8} {c : Nat} {x : List Leaf} {rows : List (List Value)} (H : Nodes a s c x rows) : rows.flatten.length = x.length * 4 := by
  rw [flatten4_len (fun r hr => (H.all r hr).1), H.1]
theorem Nodes.one {a : Option Addr} {s : List UInt8} {c : Nat} {x : List Leaf} {rows : List (List Value)} (H : Nodes a s c x rows) : ∀ u ∈ rows.flatten, u.oneCell' = true := fun u hu => by
  obtain ⟨r, hr, hur⟩ := List.mem_flatten.1 hu
  exact (H.all r hr).2 u hur
def ixs (l : List Nat) : List Value := l.map fun i => .int .i64 (i : Nat)
/-- What is kept of the value read: of a list the places of its values. -/
def topX (t : Top) (nodes : List Leaf) (cs : List Value) : Res :=
  match t with
  | .leaf _ => emp
  | .list ys => fun h => ∃ (b : Option Addr) (q : Nat) (is : List Nat), cs = [.int .i64 2, .int .i64 0, .slice none 0 0, .slice b ys.length q] ∧ is.length = ys.length ∧ (∀ (j : Nat) (z : Leaf), ys[j]? = some z → ∃ i, is[j]? = some i ∧ nodes[i]? = some z) ∧ row b (ixs is) h
/-- A row of one's own, or one that can be read all the time. -/
def keepR (W : World) (a : Option Addr) (l : List Value) : Res := fun h => row a l h ∨ (emp h ∧ Ro W noF (row a l))
theorem St.keep {W : World} {a : Option Addr} {l : List Value} {q : List Res} {w : World} (hS : St W noF (keepR W a l :: q) w) : Rd w (row a l) := by
  have hS0 := hS
  obtain ⟨h, ⟨h1, h2, hk, hq, hd, hu⟩, hs⟩ := hS
  rcases hk with hk | ⟨_, hro⟩
  · have H : St W noF (row a l :: q) w := ⟨h, ⟨h1, h2, hk, hq, hd, hu⟩, hs⟩
    exact H.rd (List.mem_cons_self ..)
  · exact hro.rd hS0
theorem St.keepRo {W : World} {a : Option Addr} {l : List Value} {q : List Res} {w : World} (hS : St W noF q w) (h : Ro W noF (row a l)) : St W noF (keepR W a l :: q) w :=
  hS.imp fun _ H => Sep.shut_head (ps := []) (fun _ hg => .inr ⟨hg, h⟩) H
/-- What Read tells. -/
def RRes (a : Option Addr) (s : List UInt8) (c i : Nat) (x : List Leaf) (W : World) (r : Option (Top × List UInt8)) (v : Value) (w : World) : Prop :=
  match r with
  | some (t, l) => ∃ (al : Option Addr) (ql j : Nat) (y : List Leaf) (rows : List (List Value)) (cs : List Value), v = .tuple #[.slice al (y.length + 1) ql, .int .i64 (y.length : Nat), .int .i64 (j : Nat), .int .i64 0] ∧ j ≤ s.length ∧ s.drop j = l ∧
      y.length + 1 + i ≤ j + x.length ∧ Nodes a s c (y ++ [t.shut]) rows ∧ rows[y.length]? = some cs ∧ (∃ u, y = x ++ u) ∧ St W noF [row al rows.flatten, topX t y cs] w
  | none => ∃ (al : Option Addr) (n ql : Nat) (k j e : Int), v = .tuple #[.slice al n ql, .int .i64 k, .int .i64 j, .int .i64 e] ∧ e ≠ 0 ∧ St W noF [] w
def ReadOk (a : Option Addr) (s : List UInt8) (c : Nat) (f : Nat) : Prop :=
  ∀ (i deep : Nat) (W : World) (al : Option Addr) (ql : Nat) (x : List Leaf) (rows : List (List Value)), i ≤ s.length → deep ≤ 9 → 2 * (s.length - i) + 1 ≤ f → x.length ≤ i → Ro W noF (bytes a s) → Ro W noF (row al rows.flatten) → Nodes a s c x rows →
    Calls Tryd.prog 45 #[.slice al x.length ql, .slice a s.length c, .int .i64 (i : Nat), .int .i64 (deep : Nat)] W (Ret fun v w => RRes a s c i x W (pv f deep (s.drop i)) v w)
/-- How a list's loop ends. -/
def RFin (a : Option Addr) (s : List UInt8) (c i0 : Nat) (x : List Leaf) (res : Option (List Leaf × List UInt8)) (W : World) (z : Option Addr × Nat × Nat × Nat × Option Addr × Nat × Nat) (w : World) : Prop :=
  (s.length ≤ z.2.2.2.1 ∧ res = none ∧ St W noF [] w) ∨
  (∃ y rows ys is, z.2.1 = y.length ∧ z.2.2.2.2.2.1 = ys.length ∧ is.length = ys.length ∧ z.2.2.2.1 < s.length ∧ y.length + i0 + 1 ≤ z.2.2.2.1 + x.length ∧ (∃ u, y = x ++ u) ∧ Nodes a s c y rows ∧ (∀ (j : Nat) (q : Leaf), ys[j]? = some q → ∃ i, is[j]? = some i ∧ y[i]? = some q) ∧
    res = some (ys, s.drop (z.2.2.2.1 + 1)) ∧ St W noF [keepR W z.1 rows.flatten, own 3 1 z.2.2.2.2.1 z.2.2.2.2.2.2 (ixs is)] w)
/-- Where a list's loop stands. -/
def RInv (top : Nat) (a : Option Addr) (s : List UInt8) (c i0 deep : Nat) (x : List Leaf) (res : Option (List Leaf × List UInt8)) (W : World) (z : Option Addr × Nat × Nat × Nat × Option Addr × Nat × Nat) (w : World) : Prop :=
  ∃ g y rows ys is, z.2.1 = y.length ∧ z.2.2.2.2.2.1 = ys.length ∧ is.length = ys.length ∧ ys.length ≤ z.2.2.2.2.2.2 ∧ z.2.2.2.1 ≤ s.length ∧ y.length + i0 + 1 ≤ z.2.2.2.1 + x.length ∧ ys.length ≤ z.2.2.2.1 ∧ 2 * (s.length - z.2.2.2.1) + 2 ≤ g ∧ g ≤ top ∧ (∃ u, y = x ++ u) ∧ Nodes a s c y rows ∧
    (∀ (j : Nat) (q : Leaf), ys[j]? = some q → ∃ i, is[j]? = some i ∧ y[i]? = some q) ∧ res = (pl g deep (s.drop z.2.2.2.1)).map (fun q => (ys ++ q.1, q.2)) ∧ St W noF [keepR W z.1 rows.flatten, own 3 1 z.2.2.2.2.1 z.2.2.2.2.2.2 (ixs is)] w
end Cr
