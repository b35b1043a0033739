/-
  Arrays of strings, structs of strings and numbers, errors that may be nil: compared. Over any program.
  The document's answers of layer 7: how many blocks, what is wrong with changes, the room.
  The document's Check of changes.
  The base of a row of the run's own. Over any program.
  A list of rows of the run's own, as one resource. Over any program.
  The law InodePlays: Changes.
-/
import Derived.Test.YtpdhcfkjakbmfaaGreatDoorPly11
import Derived.Laws.StructEq
import Derived.KernelRfl
import Derived.Test.YtpdhcfkjakbmfaaGreatDoorPly4
import Derived.Test.YtpdhcfkjakbmfaaGreatDoorPly5
namespace Cr
open Go
set_option maxRecDepth 10000
section
variable {P : Program} {w : World} {t e : TypeId}
theorem run_strEq {d : Nat} (a b : List UInt8) [he : Und P e .string] : (Op.equalIn (d + 1) e (.string (str a)) (.string (str b))).run P w = .ok (decide (a = b)) w := by
  rw [run_equalIn_string w d e (str a) (str b) he.und, str_toList, str_toList]
  congr 1
  by_cases h : a = b <;> simp [h]
/-- Arrays, element by element. -/
theorem run_equalIn_arrG {α : Type} [DecidableEq α] (enc : α → Value) (d n : Nat) [h : Und P t (.array n e)] [hs : Siz P e 1] [h1 : One P e]
    (heq : ∀ (a b : α) (w : World), (Op.equalIn (d + 1) e (enc a) (enc b)).run P w = .ok (decide (a = b)) w) (a b : List α) (ha : a.length = n) (hb : b.length = n) :
    (Op.equalIn (d + 2) t (.agg (a.map enc).toArray) (.agg (b.map enc).toArray)).run P w = .ok (decide (a = b)) w := by
  unfold Op.equalIn
  simp only [Sem.run_bind, run_underlying h.und, Result.andThen_ok, run_sizeOf (n := 1), Nat.mul_one]
  simp only [Std.Legacy.Range.forIn_eq_forIn_range']
  have hp : ∀ (l : List α) (i : Nat) (hi : i < l.length), (part e (l.map enc).toArray i).run P w = .ok (enc l[i]) w := fun l i hi => by
    simp [part, h1.one, hi]
  have key : ∀ m s, s + m = n → (forIn (List.range' s m) (none, ()) (fun i (__s : Option Bool × Unit) => do
      let __do_lift ← part e (a.map enc).toArray i
      let __do_lift_1 ← part e (b.map enc).toArray i
      let __do_lift ← Op.equalIn (d + 1) e __do_lift __do_lift_1
      if (!__do_lift) = true then pure (ForInStep.done (some false, ())) else pure (ForInStep.yield (none, ()))) : Sem (Option Bool × Unit)).run P w = .ok (if a.drop s = b.drop s then none else some false, ()) w := by
    intro m
    induction m with
    | zero =>
      intro s hs
      rw [List.drop_of_length_le (by omega), List.drop_of_length_le (by omega)]
      simp
    | succ m ih =>
      intro s hs
      have hsa : s < a.length := by omega
      have hsb : s < b.length := by omega
      rw [List.range'_succ, List.forIn_cons]
      simp only [Sem.run_bind, hp a s hsa, hp b s hsb, Result.andThen_ok, heq]
      rw [List.drop_eq_getElem_cons hsa, List.drop_eq_getElem_cons hsb]
      by_cases hc : a[s] = b[s]
      · rw [decide_eq_true hc]
        simp only [Bool.not_true, Bool.false_eq_true, if_false, Sem.run_pure, Result.andThen_ok]
        rw [ih (s + 1) (by omega), hc]
        simp only [List.cons.injEq, true_and]
      · rw [decide_eq_false hc]
        simp only [Bool.not_false, if_true, Sem.run_pure, Result.andThen_ok]
        rw [if_neg (fun h => hc (List.cons.inj h).1)]
  have hz : [:n].size = n := by simp [Std.Legacy.Range.size]
  rw [hz, key n 0 (by omega)]
  by_cases hab : a = b <;> simp [hab]
end
section
variable {P : Program} {o : Oper} {σ : Env} {w : World} {x y : Operand} {t ty e : TypeId}
/-- Comparing values of this type asks no interface. -/
class NoGd (P : Program) (t : TypeId) : Prop where
  no : P.eqGuardType P.depth t = false
def sv (s : List UInt8) : Value := .string (str s)
theorem Yl_neqStrs {n : Nat} (a b : List (List UInt8)) {u v : Array Value} (ho : o.op = .binOp .neq t x y ty) (hx : ev σ x = some (.agg u)) (hy : ev σ y = some (.agg v)) (hu : u = (a.map sv).toArray) (hv : v = (b.map sv).toArray) [h : Und P t (.array n e)] [he : Und P e .string] [hs : Siz P e 1] [h1 : One P e] [hg : NoGd P t] (ha : a.length = n) (hb : b.length = n) :
    Yl P o σ w (.bool (decide (¬ a = b))) := ⟨fun N ds f hf => by
  subst hu hv
  have h2 := run_eqGuard_agg (P := P) (w := w) .neq t x y (a.map sv).toArray (b.map sv).toArray hg.no
  have h3 := run_neq_struct (P := P) (w := w) t (a.map sv).toArray (b.map sv).toArray
  have h4 := run_equalIn_arrG (P := P) (w := w) (t := t) (e := e) sv 9998 n (fun p q w => run_strEq p q) a b ha hb
  have e1 : (!(decide (a = b))) = decide (¬ a = b) := by by_cases q : a = b <;> simp [q]
  simp only [execOp, ho, hf.eval hx, hf.eval hy, Sem.run_bind, h2, h3, h4, Result.andThen_ok, e1]
  rfl⟩
theorem Yl_eqlStrs {n : Nat} (a b : List (List UInt8)) {u v : Array Value} (ho : o.op = .binOp .eql t x y ty) (hx : ev σ x = some (.agg u)) (hy : ev σ y = some (.agg v)) (hu : u = (a.map sv).toArray) (hv : v = (b.map sv).toArray) [h : Und P t (.array n e)] [he : Und P e .string] [hs : Siz P e 1] [h1 : One P e] [hg : NoGd P t] (ha : a.length = n) (hb : b.length = n) :
    Yl P o σ w (.bool (decide (a = b))) := ⟨fun N ds f hf => by
  subst hu hv
  have h2 := run_eqGuard_agg (P := P) (w := w) .eql t x y (a.map sv).toArray (b.map sv).toArray hg.no
  have h3 := run_eql_struct (P := P) (w := w) t (a.map sv).toArray (b.map sv).toArray
  have h4 := run_equalIn_arrG (P := P) (w := w) (t := t) (e := e) sv 9998 n (fun p q w => run_strEq p q) a b ha hb
  simp only [execOp, ho, hf.eval hx, hf.eval hy, Sem.run_bind, h2, h3, h4, Result.andThen_ok]
  rfl⟩
/-- Structs of strings and numbers. -/
inductive SF where
  | s (l : List UInt8)
  | n (k : Int)
def SF.v : SF → Value
  | .s l => .string (str l)
  | .n k => .int .i64 k
/-- A field, and what it holds on both sides. -/
def SFok (P : Program) (xs ys : Array Value) (f : Field) : SF × SF → Prop
  | (.s a, .s b) => P.underlying f.type = some .string ∧ xs[f.offset]? = some (.string (str a)) ∧ ys[f.offset]? = some (.string (str b)) ∧ (f.name == "_") = false
  | (.n a, .n b) => P.underlying f.type = some (.int .i64) ∧ xs[f.offset]? = some (.int .i64 a) ∧ ys[f.offset]? = some (.int .i64 b) ∧ (f.name == "_") = false
  | _ => False
def SFeq : List (SF × SF) → Prop
  | [] => True
  | (.s a, .s b) :: r => a = b ∧ SFeq r
  | (.n a, .n b) :: r => a = b ∧ SFeq r
  | _ :: _ => False
instance : (l : List (SF × SF)) → Decidable (SFeq l)
  | [] => .isTrue trivial
  | (.s a, .s b) :: r => @instDecidableAnd (a = b) (SFeq r) _ (instDecidableSFeq r)
  | (.n a, .n b) :: r => @instDecidableAnd (a = b) (SFeq r) _ (instDecidableSFeq r)
  | (.s _, .n _) :: _ => .isFalse id
  | (.n _, .s _) :: _ => .isFalse id
end
end Cr
namespace Cr
open Go Go.Proofs
set_option maxRecDepth 100000
set_option maxHeartbeats 16000000
attribute [local irreducible] Calls

theorem rblocks_ (n : Nat) (W : World) (hn : n ≤ 1099511627776) : Calls Tryz.prog 17 #[.int .i64 (n : Nat)] W (Ret fun v w => v = .int .i64 (nblk n : Nat) ∧ St W noF [] w) := by
  have hS := St.start W
  refine calls_C Tryz.func17 rfl Tryz.ntmps17 rfl ?_
  repeat (first | (refine G_id ?_; first | refine G_nil ?_ | refine G_plain rfl rfl ?_) | (refine X_id ?_; first | refine X_yl (Yl_assign rfl rfl) rfl rfl ?_) | (refine C_id ?_; first | refine C_seq ?_ | refine C_region ?_ | refine C_block ?_) | (refine E_id ?_; first | refine E_code ?_))
  refine C_loop (α := Nat) (fun k => [(0, .int .i64 (n : Nat)), (3, .int .i64 (k : Nat))]) (fun k w => k ≤ nblk n ∧ St W noF [] w) (fun k => nblk n - k) 0 ⟨rfl, rfl, trivial⟩ ⟨Nat.zero_le _, hS⟩ ?_
  clear hS
  rintro k w ⟨hk, hS⟩
  have hb : nblk n = (n + 63) / 64 := rfl
  by_cases hlt : 64 * k < n
  · repeat (first | (refine G_id ?_; first | refine G_nil ?_ | refine G_plain rfl rfl ?_) | (refine X_id ?_; first | refine X_yl (Yl_move rfl rfl) rfl rfl ?_ | refine X_yl (Yl_assign rfl rfl) rfl rfl ?_ | refine X_yl (Yl_lss_t rfl rfl rfl (by omega)) rfl rfl ?_ | refine X_yl (Yl_add rfl rfl rfl (w64 (by omega) (by omega))) rfl rfl ?_ | refine X_yl (Yl_mul rfl rfl rfl (w64 (by omega) (by omega))) rfl rfl ?_) | (refine C_id ?_; first | refine C_seq ?_ | refine C_region ?_ | refine C_block ?_ | refine C_skip ?_ | refine C_cond_t rfl ?_) | (refine E_id ?_; first | refine E_code ?_ | refine E_blk_n ?_))
    exact E_round (k + 1) ⟨rfl, rfl, trivial⟩ ⟨by omega, hS⟩ (by omega)
  · have e : nblk n = k := by omega
    rw [e]
    repeat (first | (refine G_id ?_; first | refine G_nil ?_ | refine G_plain rfl rfl ?_) | (refine X_id ?_; first | refine X_yl (Yl_move rfl rfl) rfl rfl ?_ | refine X_yl (Yl_assign rfl rfl) rfl rfl ?_ | refine X_yl (Yl_lss_f rfl rfl rfl (by omega)) rfl rfl ?_ | refine X_yl (Yl_mul rfl rfl rfl (w64 (by omega) (by omega))) rfl rfl ?_) | (refine C_id ?_; first | refine C_seq ?_ | refine C_region ?_ | refine C_ret ?_ | refine C_exit ?_ | refine C_cond_f rfl ?_) | (refine E_id ?_; first | refine E_code ?_ | refine E_then_exit ?_ | refine E_blk_same ?_ | refine E_ret1 rfl (Rv_tmp rfl) (Ret.mk ?_)))
    exact ⟨rfl, hS⟩
theorem r06check_ (s : StatM) (W : World) : Calls Tryz.prog 16 #[.agg (StatM.cells s).toArray] W (Ret fun v w => v = .int .i64 s.check ∧ St W noF [] w) := by
  have hS := St.start W
  by_cases h1 : s.kind < 0
  · rw [show s.check = 17 by unfold StatM.check; rw [if_pos (by omega)]]
    refine calls_C Tryz.func16 rfl Tryz.ntmps16 rfl ?_
    repeat (first | (refine G_id ?_; first | refine G_nil ?_ | refine G_plain rfl rfl ?_ | refine G_no rfl rfl rfl rfl rfl rfl ?_) | (refine X_id ?_; first | refine X_yl (Yl_move rfl rfl) rfl rfl ?_ | refine X_yl (Yl_assign rfl rfl) rfl rfl ?_ | refine X_yl (Yl_fieldAddr0 rfl rfl rfl) rfl rfl ?_ | refine X_yl (Yl_pick_t rfl rfl rfl) rfl rfl ?_ | refine X_yl (Yl_lss_t rfl rfl rfl (by omega)) rfl rfl ?_ | refine X_yl (Yl_load rfl rfl hS.cell) rfl rfl ?_ | refine X_box rfl rfl rfl rfl hS (fun _ _ hS _ => ?_)) | (refine C_id ?_; first | refine C_seq ?_ | refine C_region ?_ | refine C_ret ?_ | refine C_cond_t rfl ?_) | (refine E_id ?_; first | refine E_code ?_ | refine E_then_ret ?_ | refine E_ret1 rfl (Rv_tmp rfl) (Ret.mk ?_)))
    exact ⟨rfl, hS.drops⟩
  by_cases h2 : 4 < s.kind
  · rw [show s.check = 17 by unfold StatM.check; rw [if_pos (by omega)]]
    refine calls_C Tryz.func16 rfl Tryz.ntmps16 rfl ?_
    repeat (first | (refine G_id ?_; first | refine G_nil ?_ | refine G_plain rfl rfl ?_ | refine G_yes rfl rfl rfl rfl ?_) | (refine X_id ?_; first | refine X_yl (Yl_move rfl rfl) rfl rfl ?_ | refine X_yl (Yl_assign rfl rfl) rfl rfl ?_ | refine X_yl (Yl_fieldAddr0 rfl rfl rfl) rfl rfl ?_ | refine X_yl (Yl_pick_f rfl rfl rfl) rfl rfl ?_ | refine X_yl (Yl_lss_f rfl rfl rfl (by omega)) rfl rfl ?_ | refine X_yl (Yl_gtr_t rfl rfl rfl (by omega)) rfl rfl ?_ | refine X_yl (Yl_load rfl rfl hS.cell) rfl rfl ?_ | refine X_box rfl rfl rfl rfl hS (fun _ _ hS _ => ?_)) | (refine C_id ?_; first | refine C_seq ?_ | refine C_region ?_ | refine C_ret ?_ | refine C_cond_t rfl ?_) | (refine E_id ?_; first | refine E_code ?_ | refine E_then_ret ?_ | refine E_ret1 rfl (Rv_tmp rfl) (Ret.mk ?_)))
    exact ⟨rfl, hS.drops⟩
  by_cases h3 : s.mode < 0
  · rw [show s.check = 11 by unfold StatM.check; rw [if_neg (by omega), if_pos (by omega)]]
    refine calls_C Tryz.func16 rfl Tryz.ntmps16 rfl ?_
    repeat (first | (refine G_id ?_; first | refine G_nil ?_ | refine G_plain rfl rfl ?_ | refine G_yes rfl rfl rfl rfl ?_ | refine G_no rfl rfl rfl rfl rfl rfl ?_) | (refine X_id ?_; first | refine X_yl (Yl_move rfl rfl) rfl rfl ?_ | refine X_yl (Yl_assign rfl rfl) rfl rfl ?_ | refine X_yl (Yl_fieldAddr0 rfl rfl rfl) rfl rfl ?_ | refine X_yl (Yl_pick_t rfl rfl rfl) rfl rfl ?_ | refine X_yl (Yl_pick_f rfl rfl rfl) rfl rfl ?_ | refine X_yl (Yl_lss_t rfl rfl rfl (by omega)) rfl rfl ?_ | refine X_yl (Yl_lss_f rfl rfl rfl (by omega)) rfl rfl ?_ | refine X_yl (Yl_gtr_f rfl rfl rfl (by omega)) rfl rfl ?_ | refine X_yl (Yl_load rfl rfl hS.cell) rfl rfl ?_ | refine X_box rfl rfl rfl rfl hS (fun _ _ hS _ => ?_)) | (refine C_id ?_; first | refine C_seq ?_ | refine C_region ?_ | refine C_ret ?_ | refine C_skip ?_ | refine C_cond_t rfl ?_ | refine C_cond_f rfl ?_) | (refine E_id ?_; first | refine E_code ?_ | refine E_then_ret ?_ | refine E_ret1 rfl (Rv_tmp rfl) (Ret.mk ?_)))
    exact ⟨rfl, hS.drops⟩
  by_cases h4 : 4095 < s.mode
  · rw [show s.check = 11 by unfold StatM.check; rw [if_neg (by omega), if_pos (by omega)]]
    refine calls_C Tryz.func16 rfl Tryz.ntmps16 rfl ?_
    repeat (first | (refine G_id ?_; first | refine G_nil ?_ | refine G_plain rfl rfl ?_ | refine G_yes rfl rfl rfl rfl ?_) | (refine X_id ?_; first | refine X_yl (Yl_move rfl rfl) rfl rfl ?_ | refine X_yl (Yl_assign rfl rfl) rfl rfl ?_ | refine X_yl (Yl_fieldAddr0 rfl rfl rfl) rfl rfl ?_ | refine X_yl (Yl_pick_f rfl rfl rfl) rfl rfl ?_ | refine X_yl (Yl_lss_f rfl rfl rfl (by omega)) rfl rfl ?_ | refine X_yl (Yl_gtr_t rfl rfl rfl (by omega)) rfl rfl ?_ | refine X_yl (Yl_gtr_f rfl rfl rfl (by omega)) rfl rfl ?_ | refine X_yl (Yl_load rfl rfl hS.cell) rfl rfl ?_ | refine X_box rfl rfl rfl rfl hS (fun _ _ hS _ => ?_)) | (refine C_id ?_; first | refine C_seq ?_ | refine C_region ?_ | refine C_ret ?_ | refine C_skip ?_ | refine C_cond_t rfl ?_ | refine C_cond_f rfl ?_) | (refine E_id ?_; first | refine E_code ?_ | refine E_then_ret ?_ | refine E_ret1 rfl (Rv_tmp rfl) (Ret.mk ?_)))
    exact ⟨rfl, hS.drops⟩
  by_cases h5 : s.owner < 0
  · rw [show s.check = 1 by unfold StatM.check; rw [if_neg (by omega), if_neg (by omega), if_pos (by omega)]]
    refine calls_C Tryz.func16 rfl Tryz.ntmps16 rfl ?_
    repeat (first | (refine G_id ?_; first | refine G_nil ?_ | refine G_plain rfl rfl ?_ | refine G_yes rfl rfl rfl rfl ?_ | refine G_no rfl rfl rfl rfl rfl rfl ?_) | (refine X_id ?_; first | refine X_yl (Yl_move rfl rfl) rfl rfl ?_ | refine X_yl (Yl_assign rfl rfl) rfl rfl ?_ | refine X_yl (Yl_fieldAddr0 rfl rfl rfl) rfl rfl ?_ | refine X_yl (Yl_pick_t rfl rfl rfl) rfl rfl ?_ | refine X_yl (Yl_pick_f rfl rfl rfl) rfl rfl ?_ | refine X_yl (Yl_lss_t rfl rfl rfl (by omega)) rfl rfl ?_ | refine X_yl (Yl_lss_f rfl rfl rfl (by omega)) rfl rfl ?_ | refine X_yl (Yl_gtr_f rfl rfl rfl (by omega)) rfl rfl ?_ | refine X_yl (Yl_load rfl rfl hS.cell) rfl rfl ?_ | refine X_box rfl rfl rfl rfl hS (fun _ _ hS _ => ?_)) | (refine C_id ?_; first | refine C_seq ?_ | refine C_region ?_ | refine C_ret ?_ | refine C_skip ?_ | refine C_cond_t rfl ?_ | refine C_cond_f rfl ?_) | (refine E_id ?_; first | refine E_code ?_ | refine E_then_ret ?_ | refine E_ret1 rfl (Rv_tmp rfl) (Ret.mk ?_)))
    exact ⟨rfl, hS.drops⟩
  by_cases h6 : 65535 < s.owner
  · rw [show s.check = 1 by unfold StatM.check; rw [if_neg (by omega), if_neg (by omega), if_pos (by omega)]]
    refine calls_C Tryz.func16 rfl Tryz.ntmps16 rfl ?_
    repeat (first | (refine G_id ?_; first | refine G_nil ?_ | refine G_plain rfl rfl ?_ | refine G_yes rfl rfl rfl rfl ?_ | refine G_no rfl rfl rfl rfl rfl rfl ?_) | (refine X_id ?_; first | refine X_yl (Yl_move rfl rfl) rfl rfl ?_ | refine X_yl (Yl_assign rfl rfl) rfl rfl ?_ | refine X_yl (Yl_fieldAddr0 rfl rfl rfl) rfl rfl ?_ | refine X_yl (Yl_pick_t rfl rfl rfl) rfl rfl ?_ | refine X_yl (Yl_pick_f rfl rfl rfl) rfl rfl ?_ | refine X_yl (Yl_lss_f rfl rfl rfl (by omega)) rfl rfl ?_ | refine X_yl (Yl_gtr_t rfl rfl rfl (by omega)) rfl rfl ?_ | refine X_yl (Yl_gtr_f rfl rfl rfl (by omega)) rfl rfl ?_ | refine X_yl (Yl_load rfl rfl hS.cell) rfl rfl ?_ | refine X_box rfl rfl rfl rfl hS (fun _ _ hS _ => ?_)) | (refine C_id ?_; first | refine C_seq ?_ | refine C_region ?_ | refine C_ret ?_ | refine C_skip ?_ | refine C_cond_t rfl ?_ | refine C_cond_f rfl ?_) | (refine E_id ?_; first | refine E_code ?_ | refine E_then_ret ?_ | refine E_ret1 rfl (Rv_tmp rfl) (Ret.mk ?_)))
    exact ⟨rfl, hS.drops⟩
  by_cases h7 : s.group < 0
  · rw [show s.check = 1 by unfold StatM.check; rw [if_neg (by omega), if_neg (by omega), if_pos (by omega)]]
    refine calls_C Tryz.func16 rfl Tryz.ntmps16 rfl ?_
    repeat (first | (refine G_id ?_; first | refine G_nil ?_ | refine G_plain rfl rfl ?_ | refine G_yes rfl rfl rfl rfl ?_ | refine G_no rfl rfl rfl rfl rfl rfl ?_) | (refine X_id ?_; first | refine X_yl (Yl_move rfl rfl) rfl rfl ?_ | refine X_yl (Yl_assign rfl rfl) rfl rfl ?_ | refine X_yl (Yl_fieldAddr0 rfl rfl rfl) rfl rfl ?_ | refine X_yl (Yl_pick_t rfl rfl rfl) rfl rfl ?_ | refine X_yl (Yl_pick_f rfl rfl rfl) rfl rfl ?_ | refine X_yl (Yl_lss_t rfl rfl rfl (by omega)) rfl rfl ?_ | refine X_yl (Yl_lss_f rfl rfl rfl (by omega)) rfl rfl ?_ | refine X_yl (Yl_gtr_f rfl rfl rfl (by omega)) rfl rfl ?_ | refine X_yl (Yl_load rfl rfl hS.cell) rfl rfl ?_ | refine X_box rfl rfl rfl rfl hS (fun _ _ hS _ => ?_)) | (refine C_id ?_; first | refine C_seq ?_ | refine C_region ?_ | refine C_ret ?_ | refine C_skip ?_ | refine C_cond_t rfl ?_ | refine C_cond_f rfl ?_) | (refine E_id ?_; first | refine E_code ?_ | refine E_then_ret ?_ | refine E_ret1 rfl (Rv_tmp rfl) (Ret.mk ?_)))
    exact ⟨rfl, hS.drops⟩
  by_cases h8 : 65535 < s.group
  · rw [show s.check = 1 by unfold StatM.check; rw [if_neg (by omega), if_neg (by omega), if_pos (by omega)]]
    refine calls_C Tryz.func16 rfl Tryz.ntmps16 rfl ?_
    repeat (first | (refine G_id ?_; first | refine G_nil ?_ | refine G_plain rfl rfl ?_ | refine G_yes rfl rfl rfl rfl ?_) | (refine X_id ?_; first | refine X_yl (Yl_move rfl rfl) rfl rfl ?_ | refine X_yl (Yl_assign rfl rfl) rfl rfl ?_ | refine X_yl (Yl_fieldAddr0 rfl rfl rfl) rfl rfl ?_ | refine X_yl (Yl_pick_f rfl rfl rfl) rfl rfl ?_ | refine X_yl (Yl_lss_f rfl rfl rfl (by omega)) rfl rfl ?_ | refine X_yl (Yl_gtr_t rfl rfl rfl (by omega)) rfl rfl ?_ | refine X_yl (Yl_gtr_f rfl rfl rfl (by omega)) rfl rfl ?_ | refine X_yl (Yl_load rfl rfl hS.cell) rfl rfl ?_ | refine X_box rfl rfl rfl rfl hS (fun _ _ hS _ => ?_)) | (refine C_id ?_; first | refine C_seq ?_ | refine C_region ?_ | refine C_ret ?_ | refine C_skip ?_ | refine C_cond_t rfl ?_ | refine C_cond_f rfl ?_) | (refine E_id ?_; first | refine E_code ?_ | refine E_then_ret ?_ | refine E_ret1 rfl (Rv_tmp rfl) (Ret.mk ?_)))
    exact ⟨rfl, hS.drops⟩
  rw [show s.check = 0 by unfold StatM.check; rw [if_neg (by omega), if_neg (by omega), if_neg (by omega)]]
  refine calls_C Tryz.func16 rfl Tryz.ntmps16 rfl ?_
  repeat (first | (refine G_id ?_; first | refine G_nil ?_ | refine G_plain rfl rfl ?_ | refine G_yes rfl rfl rfl rfl ?_) | (refine X_id ?_; first | refine X_yl (Yl_move rfl rfl) rfl rfl ?_ | refine X_yl (Yl_assign rfl rfl) rfl rfl ?_ | refine X_yl (Yl_fieldAddr0 rfl rfl rfl) rfl rfl ?_ | refine X_yl (Yl_pick_f rfl rfl rfl) rfl rfl ?_ | refine X_yl (Yl_lss_f rfl rfl rfl (by omega)) rfl rfl ?_ | refine X_yl (Yl_gtr_f rfl rfl rfl (by omega)) rfl rfl ?_ | refine X_yl (Yl_load rfl rfl hS.cell) rfl rfl ?_ | refine X_box rfl rfl rfl rfl hS (fun _ _ hS _ => ?_)) | (refine C_id ?_; first | refine C_seq ?_ | refine C_region ?_ | refine C_ret ?_ | refine C_skip ?_ | refine C_cond_f rfl ?_) | (refine E_id ?_; first | refine E_code ?_ | refine E_ret1 rfl (Rv_tmp rfl) (Ret.mk ?_)))
  exact ⟨rfl, hS.drops⟩
theorem run_eqStatR (d : Nat) (w : World) (a b : StatM) :
    (Op.equalIn (d + 2) 60 (.agg (StatM.cells a).toArray) (.agg (StatM.cells b).toArray)).run Tryz.prog w = .ok (decide (a = b)) w := by
  have key : ∀ fs, Tryz.prog.underlying 60 = some (.struct fs) → Tryz.prog.fieldsOf 60 = fs := fun fs h => by unfold Program.fieldsOf; rw [h]
  have hu := Tryz.underlying60
  have hf := key _ hu
  rw [run_equalIn_struct w (d + 1) 60 _ _ (by rw [hf]; exact hu) (by kernel_rfl), hf]
  have hi := fun (a b : Int) => run_equalIn_int (P := Tryz.prog) w d 3 .i64 .i64 a b Und.und
  have o2 : ∀ w, (isAgg 3).run Tryz.prog w = .ok false w := One.one
  have e1 : ∀ a b : Int, (a == b) = decide (a = b) := fun a b => by by_cases h : a = b <;> simp [h]
  obtain ⟨a0, a1, a2, a3⟩ := a
  obtain ⟨b0, b1, b2, b3⟩ := b
  simp [Op.eqFields, part, o2, hi, e1, StatM.cells]
  by_cases h0 : a0 = b0 <;> by_cases h1 : a1 = b1 <;> by_cases h2 : a2 = b2 <;> by_cases h3 : a3 = b3 <;> simp [h0, h1, h2, h3]
instance : NoGd Tryz.prog 60 := ⟨by kernel_rfl⟩
theorem Yl_eqlStatR {o : Oper} {σ : Env} {w : World} {x y : Operand} {ty : TypeId} {a b : StatM} {u v : Array Value} (ho : o.op = .binOp .eql 60 x y ty) (hx : ev σ x = some (.agg u)) (hy : ev σ y = some (.agg v)) (hu : u = (StatM.cells a).toArray) (hv : v = (StatM.cells b).toArray) :
    Yl Tryz.prog o σ w (.bool (decide (a = b))) := ⟨fun N ds f hf => by
  subst hu hv
  have h2 := run_eqGuard_agg (P := Tryz.prog) (w := w) .eql 60 x y (StatM.cells a).toArray (StatM.cells b).toArray (NoGd.no)
  have h3 := run_eql_struct (P := Tryz.prog) (w := w) 60 (StatM.cells a).toArray (StatM.cells b).toArray
  have h4 := run_eqStatR 9998 w a b
  simp only [execOp, ho, hf.eval hx, hf.eval hy, Sem.run_bind, h2, h3, h4, Result.andThen_ok]
  rfl⟩
theorem rsame7_ (x y : Nd) (a b : Option Addr) (c c' : Nat) (W : World) (ha : Rd W (bytes a x.data)) (hb : Rd W (bytes b y.data)) (hlx : x.data.length ≤ 1048576) :
    Calls Tryz.prog 33 #[.agg (ndV x a c).toArray, .agg (ndV y b c').toArray] W (Ret fun v w => v = .bool (decide (x = y)) ∧ St W noF [] w) := by
  have hao := ha.ro
  have hbo := hb.ro
  have hS := St.start W
  have hxy : (x = y) ↔ (x.st = y.st ∧ x.data = y.data) := by cases x; cases y; simp
  by_cases h1 : x.st = y.st
  · have heq := fun w h1 h2 => same_ a b c c' x.data y.data w h1 h2 (by omega)
    rw [show decide (x = y) = decide (x.data = y.data) by simp [hxy, h1]]
    refine calls_C Tryz.func33 rfl Tryz.ntmps33 rfl ?_
    repeat (first | (refine G_id ?_; first | refine G_nil ?_ | refine G_plain rfl rfl ?_) | (refine X_id ?_; first | refine X_yl (Yl_assign rfl rfl) rfl rfl ?_ | refine X_yl (Yl_fieldAddr0 rfl rfl rfl) rfl rfl ?_ | refine X_yl (Yl_loadN rfl rfl hS.cellsN) rfl rfl ?_ | refine X_box rfl rfl rfl rfl hS (fun _ _ hS _ => ?_)) | (refine C_id ?_; first | refine C_seq ?_ | refine C_region ?_) | (refine E_id ?_; first | refine E_code ?_))
    refine X_yl ((Yl_eqlStatR (a := x.st) (b := y.st) rfl rfl rfl rfl rfl)) rfl rfl ?_
    rw [decide_eq_true h1]
    repeat (first | (refine G_id ?_; first | refine G_nil ?_ | refine G_plain rfl rfl ?_ | refine G_yes rfl rfl rfl rfl ?_) | (refine X_id ?_; first | (refine X_callq 67 rfl rfl rfl rfl rfl hS (heq _ (hao.rd hS) (hbo.rd hS)) ?_; rintro _ _ rfl hS) | refine X_yl (Yl_move rfl rfl) rfl rfl ?_ | refine X_yl (Yl_assign rfl rfl) rfl rfl ?_ | refine X_yl (Yl_fieldAddr0 rfl rfl rfl) rfl rfl ?_ | refine X_yl (Yl_pick_t rfl rfl rfl) rfl rfl ?_ | refine X_yl (Yl_load rfl rfl hS.cell) rfl rfl ?_) | (refine C_id ?_; first | refine C_ret ?_) | (refine E_id ?_; first | refine E_code ?_ | refine E_ret1 rfl (Rv_tmp rfl) (Ret.mk ?_)))
    exact ⟨rfl, hS.drops⟩
  · rw [show decide (x = y) = false by simp [hxy, h1]]
    refine calls_C Tryz.func33 rfl Tryz.ntmps33 rfl ?_
    repeat (first | (refine G_id ?_; first | refine G_nil ?_ | refine G_plain rfl rfl ?_) | (refine X_id ?_; first | refine X_yl (Yl_assign rfl rfl) rfl rfl ?_ | refine X_yl (Yl_fieldAddr0 rfl rfl rfl) rfl rfl ?_ | refine X_yl (Yl_loadN rfl rfl hS.cellsN) rfl rfl ?_ | refine X_box rfl rfl rfl rfl hS (fun _ _ hS _ => ?_)) | (refine C_id ?_; first | refine C_seq ?_ | refine C_region ?_) | (refine E_id ?_; first | refine E_code ?_))
    refine X_yl ((Yl_eqlStatR (a := x.st) (b := y.st) rfl rfl rfl rfl rfl)) rfl rfl ?_
    rw [decide_eq_false h1]
    repeat (first | (refine G_id ?_; first | refine G_nil ?_ | refine G_plain rfl rfl ?_ | refine G_no rfl rfl rfl rfl rfl rfl ?_) | (refine X_id ?_; first | refine X_yl (Yl_move rfl rfl) rfl rfl ?_ | refine X_yl (Yl_assign rfl rfl) rfl rfl ?_ | refine X_yl (Yl_pick_f rfl rfl rfl) rfl rfl ?_) | (refine C_id ?_; first | refine C_ret ?_) | (refine E_id ?_; first | refine E_code ?_ | refine E_ret1 rfl (Rv_tmp rfl) (Ret.mk ?_)))
    exact ⟨rfl, hS.drops⟩

/-- A document's node in memory. -/
structure RN where
  is_ : Bool
  nd : Nd
  a : Option Addr
  c : Nat
abbrev RN.cells (x : RN) : List Value := ndV x.nd x.a x.c
abbrev RN.isV (x : RN) : Value := .bool x.is_
def RN.tb (x : RN) : Option Nd := if x.is_ then some x.nd else none
def rtb (L : List RN) : Tb := L.map RN.tb
abbrev rtAt (b : Nat) (na : Option Addr) (n nc : Nat) (ia : Option Addr) (ic nb : Nat) : Res := pts b (.cells #[.slice na n nc, .slice ia n ic, .int .i64 (nb : Nat)] 58)
/-- The document's table, to be read. -/
structure RtRd (w : World) (b n nb : Nat) (L : List RN) (na : Option Addr) (nc : Nat) (ia : Option Addr) (ic : Nat) : Prop where
  t : Rd w (rtAt b na n nc ia ic nb)
  nr : Rd w (row na (L.flatMap RN.cells))
  ir : Rd w (row ia (L.map RN.isV))
  dr : ∀ x ∈ L, Rd w (bytes x.a x.nd.data)
  len : L.length = n
  small : ∀ x ∈ L, x.nd.data.length ≤ 512
  n4 : n ≤ 400
  nb4 : nb ≤ 1048576
  ncl : n ≤ nc
  icl : n ≤ ic
theorem rn_len (L : List RN) : (L.flatMap RN.cells).length = L.length * 5 := flatMap_len (fun _ _ => rfl)
theorem rn_get {L : List RN} {i : Nat} {x : RN} (h : L[i]? = some x) (k : Nat) (hk : k < 5) : (L.flatMap RN.cells)[i * 5 + k]? = (RN.cells x)[k]? := by
  have h1 := flatMap_seg (f := RN.cells) (n := 5) (fun _ _ => rfl) h
  have h2 := congrArg (fun q => q[k]?) h1
  simp only [List.getElem?_take, hk, if_true, List.getElem?_drop] at h2
  exact h2
theorem roomT_snoc (T : Tb) (x : Option Nd) (nb : Nat) : roomT (T ++ [x]) nb = match x with | some y => roomT T nb - (nblk y.data.length : Nat) | none => roomT T nb := by
  unfold roomT
  rw [List.foldl_append]
  rfl
theorem roomT_bounds {T : Tb} {nb : Nat} (h : ∀ x ∈ T, ∀ y, x = some y → y.data.length ≤ 512) : roomT T nb ≤ nb ∧ (nb : Int) - 8 * (T.length : Nat) ≤ roomT T nb := by
  have key : ∀ k, k ≤ T.length → roomT (T.take k) nb ≤ nb ∧ (nb : Int) - 8 * (k : Nat) ≤ roomT (T.take k) nb := by
    intro k
    induction k with
    | zero => intro _; simp [roomT]
    | succ k ih =>
      intro hk
      have ih := ih (by omega)
      rw [List.take_succ_eq_append_getElem (by omega), roomT_snoc]
      have hm : T[k] ∈ T := List.getElem_mem _
      generalize T[k] = x at hm
      cases x with
      | none => simp only; omega
      | some y =>
        have hy := h (some y) hm y rfl
        have := nblk_le (n := y.data.length) hy
        simp only; omega
  have := key T.length (Nat.le_refl _)
  rwa [List.take_length] at this
theorem rroom_ (b n nb : Nat) (L : List RN) (na : Option Addr) (nc : Nat) (ia : Option Addr) (ic : Nat) (W : World) (hR : RtRd W b n nb L na nc ia ic) :
    Calls Tryz.prog 18 #[.pointer (some ⟨b, 0, none⟩)] W (Ret fun v w => v = .int .i64 (roomT (rtb L) nb) ∧ St W noF [] w) := by
  have hc := hR.t.ro
  have hnr := hR.nr.ro
  have hir := hR.ir.ro
  have hlen := hR.len
  have hn4 := hR.n4
  have hnb4 := hR.nb4
  have hS := St.start W
  refine calls_C Tryz.func18 rfl Tryz.ntmps18 rfl ?_
  repeat (first | (refine G_id ?_; first | refine G_nil ?_ | refine G_plain rfl rfl ?_) | (refine X_id ?_; first | refine X_yl (Yl_move rfl rfl) rfl rfl ?_ | refine X_yl (Yl_assign rfl rfl) rfl rfl ?_ | refine X_yl (Yl_nilCheck rfl rfl) rfl rfl ?_ | refine X_yl (Yl_fieldAddr0 rfl rfl rfl) rfl rfl ?_ | refine X_yl (Yl_load rfl rfl (cell_at (hc.rd hS).pts)) rfl rfl ?_) | (refine C_id ?_; first | refine C_seq ?_ | refine C_region ?_ | refine C_block ?_) | (refine E_id ?_; first | refine E_code ?_))
  refine C_loop (α := Nat) (fun i => [(0, .pointer (some ⟨b, 0, none⟩)), (3, .int .i64 (roomT (rtb (L.take i)) nb)), (4, .int .i64 (i : Nat))]) (fun i w => i ≤ n ∧ St W noF [] w) (fun i => n - i) 0 ⟨rfl, rfl, rfl, trivial⟩ ⟨Nat.zero_le _, hS⟩ ?_
  clear hS
  rintro i w ⟨hi, hS⟩
  have hbd := roomT_bounds (T := rtb (L.take i)) (nb := nb) (fun x hx y hy => by
    obtain ⟨z, hz, rfl⟩ := List.mem_map.1 hx
    unfold RN.tb at hy
    split at hy
    · cases hy; exact hR.small z (List.mem_of_mem_take hz)
    · cases hy)
  have hlt' : (rtb (L.take i)).length = i := by simp [rtb]; omega
  by_cases hlt : i < n
  · have hx0 : L[i]? = some L[i] := List.getElem?_eq_getElem (by omega)
    have htk : L.take (i + 1) = L.take i ++ [L[i]] := List.take_succ_eq_append_getElem (by omega)
    generalize L[i] = x at hx0 htk
    have hsm := hR.small x (List.mem_of_getElem? hx0)
    have hnx := roomT_snoc (rtb (L.take i)) x.tb nb
    have e : rtb (L.take i) ++ [x.tb] = rtb (L.take (i + 1)) := by rw [htk]; simp [rtb]
    rw [e] at hnx
    have hr := hnr
    have hr2 := hir
    have hx : (L.flatMap RN.cells)[i * 5 + 4]? = some (.slice x.a x.nd.data.length x.c) := rn_get hx0 4 (by omega)
    have hx2 : (L.map RN.isV)[i]? = some (.bool x.is_) := by simp [hx0]
    obtain ⟨xb, xo, hxa⟩ := (hnr.rd hS).base (by intro e; rw [e] at hx; simp at hx)
    obtain ⟨yb, yo, hya⟩ := (hir.rd hS).base (by intro e; rw [e] at hx2; simp at hx2)
    rw [hxa] at hr hc
    rw [hya] at hr2 hc
    cases hb : x.is_ with
    | true =>
      rw [hb] at hx2
      simp only [RN.tb, hb, if_true] at hnx
      have hnk := nblk_le (n := x.nd.data.length) hsm
      repeat (first | (refine G_id ?_; first | refine G_nil ?_ | refine G_plain rfl rfl ?_) | (refine X_id ?_; first | (refine X_callq 17 rfl rfl rfl rfl rfl hS (rblocks_ x.nd.data.length _ (by omega)) ?_; rintro _ _ rfl hS) | refine X_yl (Yl_move rfl rfl) rfl rfl ?_ | refine X_yl (Yl_assign rfl rfl) rfl rfl ?_ | refine X_yl (Yl_nilCheck rfl rfl) rfl rfl ?_ | refine X_yl (Yl_fieldAddr0 rfl rfl rfl) rfl rfl ?_ | refine X_yl (Yl_fieldAddr rfl rfl rfl) rfl rfl ?_ | refine X_yl (Yl_len rfl rfl) rfl rfl ?_ | refine X_yl (Yl_lss_t rfl rfl rfl (by omega)) rfl rfl ?_ | refine X_yl (Yl_indexAddr rfl rfl rfl (by omega) (by omega) (by first | assumption | exact ⟨_, _, rfl⟩)) rfl rfl ?_ | refine X_yl (Yl_add rfl rfl rfl (w64 (by omega) (by omega))) rfl rfl ?_ | refine X_yl (Yl_sub rfl rfl rfl (w64 (by omega) (by omega))) rfl rfl ?_ | refine X_yl (Yl_load rfl rfl ((hr2.rd hS).cellX (by omega) hx2)) rfl rfl ?_ | refine X_yl (Yl_load rfl rfl ((hr.rd hS).cellF (by first | omega | (dsimp only; omega)) hx)) rfl rfl ?_ | refine X_yl (Yl_load rfl rfl (cell_at (hc.rd hS).pts)) rfl rfl ?_) | (refine C_id ?_; first | refine C_seq ?_ | refine C_region ?_ | refine C_block ?_ | refine C_skip ?_ | refine C_cond_t rfl ?_) | (refine E_id ?_; first | refine E_code ?_ | refine E_blk_n ?_))
      refine E_round (z := i) (i + 1) ⟨rfl, by rw [hnx]; rfl, rfl, trivial⟩ ⟨by omega, hS⟩ (by omega)
    | false =>
      rw [hb] at hx2
      simp only [RN.tb, hb, Bool.false_eq_true, if_false] at hnx
      repeat (first | (refine G_id ?_; first | refine G_nil ?_ | refine G_plain rfl rfl ?_) | (refine X_id ?_; first | refine X_yl (Yl_move rfl rfl) rfl rfl ?_ | refine X_yl (Yl_assign rfl rfl) rfl rfl ?_ | refine X_yl (Yl_nilCheck rfl rfl) rfl rfl ?_ | refine X_yl (Yl_fieldAddr0 rfl rfl rfl) rfl rfl ?_ | refine X_yl (Yl_len rfl rfl) rfl rfl ?_ | refine X_yl (Yl_lss_t rfl rfl rfl (by omega)) rfl rfl ?_ | refine X_yl (Yl_indexAddr rfl rfl rfl (by omega) (by omega) (by first | assumption | exact ⟨_, _, rfl⟩)) rfl rfl ?_ | refine X_yl (Yl_add rfl rfl rfl (w64 (by omega) (by omega))) rfl rfl ?_ | refine X_yl (Yl_load rfl rfl ((hr2.rd hS).cellX (by omega) hx2)) rfl rfl ?_ | refine X_yl (Yl_load rfl rfl (cell_at (hc.rd hS).pts)) rfl rfl ?_) | (refine C_id ?_; first | refine C_seq ?_ | refine C_region ?_ | refine C_block ?_ | refine C_skip ?_ | refine C_cond_t rfl ?_ | refine C_cond_f rfl ?_) | (refine E_id ?_; first | refine E_code ?_ | refine E_blk_n ?_))
      refine E_round (z := i) (i + 1) ⟨rfl, by rw [hnx]; rfl, rfl, trivial⟩ ⟨by omega, hS⟩ (by omega)
  · obtain rfl : i = n := by omega
    rw [List.take_of_length_le (by omega)]
    repeat (first | (refine G_id ?_; first | refine G_nil ?_ | refine G_plain rfl rfl ?_) | (refine X_id ?_; first | refine X_yl (Yl_move rfl rfl) rfl rfl ?_ | refine X_yl (Yl_assign rfl rfl) rfl rfl ?_ | refine X_yl (Yl_nilCheck rfl rfl) rfl rfl ?_ | refine X_yl (Yl_fieldAddr0 rfl rfl rfl) rfl rfl ?_ | refine X_yl (Yl_len rfl rfl) rfl rfl ?_ | refine X_yl (Yl_lss_f rfl rfl rfl (by omega)) rfl rfl ?_ | refine X_yl (Yl_load rfl rfl (cell_at (hc.rd hS).pts)) rfl rfl ?_) | (refine C_id ?_; first | refine C_seq ?_ | refine C_region ?_ | refine C_ret ?_ | refine C_exit ?_ | refine C_cond_f rfl ?_) | (refine E_id ?_; first | refine E_code ?_ | refine E_then_exit ?_ | refine E_blk_same ?_ | refine E_ret1 rfl (Rv_tmp rfl) (Ret.mk ?_)))
    exact ⟨rfl, hS⟩
end Cr
namespace Cr
open Go Go.Proofs
set_option maxRecDepth 100000
set_option maxHeartbeats 16000000
attribute [local irreducible] Calls

theorem Rd.cellsF7 {w : World} {b off o' i n : Nat} {cs seg : List Value} (H : Rd w (row (some ⟨b, off, none⟩) cs)) (hi : o' = off + i) (h : (cs.drop i).take n = seg) (hn : seg.length = n) : CellsN w ⟨b, o', none⟩ n seg := by
  subst hi; subst h
  exact ⟨H.seg _ _, hn⟩
theorem chg_get {l : List ChgA} {i : Nat} {x : ChgA} (h : l[i]? = some x) (k : Nat) (hk : k < 7) : (l.flatMap ChgA.cells)[i * 7 + k]? = (ChgA.cells x)[k]? := by
  have h1 := chg_seg h
  have h2 := congrArg (fun q => q[k]?) h1
  simp only [List.getElem?_take, hk, if_true, List.getElem?_drop] at h2
  exact h2
theorem chg_stat {l : List ChgA} {i : Nat} {x : ChgA} (h : l[i]? = some x) : ((l.flatMap ChgA.cells).drop (i * 7 + 1)).take 4 = StatM.cells x.c.nd.st := by
  have h1 := chg_seg h
  rw [← List.drop_drop]
  have h3 := congrArg (fun q => (q.drop 1).take 4) h1
  replace h3 : ((((l.flatMap ChgA.cells).drop (i * 7)).take 7).drop 1).take 4 = StatM.cells x.c.nd.st := h3
  rw [List.drop_take, List.take_take] at h3
  exact h3
theorem rcheck7_ (a : Option Addr) (c n : Nat) (l : List ChgA) (W : World) (hC : Chgs W noF a l) (hl : l.length ≤ 1048576) (_ : n ≤ 1048576) :
    Calls Tryz.prog 6 #[.slice a l.length c, .int .i64 (n : Nat)] W (Ret fun v w => v = .int .i64 (checkC (l.map ChgA.c) n) ∧ St W noF [] w) := by
  have hS := St.start W
  obtain ⟨cl, hcl⟩ : ∃ cl, cl = l.map ChgA.c := ⟨_, rfl⟩
  have hget : ∀ {i : Nat} {x : ChgA}, l[i]? = some x → cl[i]? = some x.c := fun {i x} h => by rw [hcl]; simp [h]
  rw [← hcl]
  refine calls_C Tryz.func6 rfl Tryz.ntmps6 rfl ?_
  repeat (first | (refine G_id ?_; first | refine G_nil ?_ | refine G_plain rfl rfl ?_) | (refine X_id ?_; first | refine X_yl (Yl_assign rfl rfl) rfl rfl ?_) | (refine C_id ?_; first | refine C_seq ?_ | refine C_region ?_ | refine C_block ?_) | (refine E_id ?_; first | refine E_code ?_))
  refine C_joinB (α := Unit) (fun _ => [(0, .slice a l.length c), (1, .int .i64 (n : Nat))]) (fun _ w => (∀ x ∈ cl, 0 ≤ x.no ∧ x.no < n) ∧ St W noF [] w) ?_ ?_
  · refine C_loop (α := Nat) (fun i => [(0, .slice a l.length c), (1, .int .i64 (n : Nat)), (5, .int .i64 (i : Nat))])
      (fun i w => i ≤ l.length ∧ (∀ x ∈ cl.take i, 0 ≤ x.no ∧ x.no < n) ∧ St W noF [] w) (fun i => l.length - i) 0 ⟨rfl, rfl, rfl, trivial⟩ ⟨Nat.zero_le _, by simp, hS⟩ ?_
    clear hS
    rintro i w ⟨hi, hall, hS⟩
    by_cases hlt : i < l.length
    · have hx0 : l[i]? = some l[i] := List.getElem?_eq_getElem (by omega)
      generalize l[i] = x at hx0
      have hr := hC.row
      have hx : (l.flatMap ChgA.cells)[i * 7 + 0]? = some (.int .i64 x.c.no) := chg_get hx0 0 (by omega)
      obtain ⟨xb, xo, hxa⟩ := (hr.rd hS).base (by intro e; rw [e] at hx; simp at hx)
      rw [hxa] at hr ⊢
      have hgx := hget hx0
      have hbad : (¬ (0 ≤ x.c.no ∧ x.c.no < n)) → checkC cl n = 1 := fun h => by
        unfold checkC
        rw [if_pos]
        refine List.any_eq_true.2 ⟨x.c, List.mem_of_getElem? hgx, ?_⟩
        simp; omega
      have htk : cl.take (i + 1) = cl.take i ++ [x.c] := by rw [List.take_add_one, hgx]; rfl
      by_cases h0 : x.c.no < 0
      · rw [hbad (by omega)]
        repeat (first | (refine G_id ?_; first | refine G_nil ?_ | refine G_plain rfl rfl ?_ | refine G_no rfl rfl rfl rfl rfl rfl ?_) | (refine X_id ?_; first | refine X_yl (Yl_move rfl rfl) rfl rfl ?_ | refine X_yl (Yl_assign rfl rfl) rfl rfl ?_ | refine X_yl (Yl_fieldAddr rfl rfl rfl) rfl rfl ?_ | refine X_yl (Yl_pick_t rfl rfl rfl) rfl rfl ?_ | refine X_yl (Yl_len rfl rfl) rfl rfl ?_ | refine X_yl (Yl_lss_t rfl rfl rfl (by omega)) rfl rfl ?_ | refine X_yl (Yl_indexAddr rfl rfl rfl (by omega) (by omega) (by first | assumption | exact ⟨_, _, rfl⟩)) rfl rfl ?_ | refine X_yl (Yl_load rfl rfl ((hr.rd hS).cellX (by omega) hx)) rfl rfl ?_) | (refine C_id ?_; first | refine C_seq ?_ | refine C_region ?_ | refine C_block ?_ | refine C_ret ?_ | refine C_skip ?_ | refine C_cond_t rfl ?_) | (refine E_id ?_; first | refine E_code ?_ | refine E_then_ret ?_ | refine E_blk_ret ?_ | refine E_ret1 rfl (Rv_tmp rfl) (Ret.mk ?_)))
        exact ⟨rfl, hS.drops⟩
      · by_cases h1 : (n : Int) ≤ x.c.no
        · rw [hbad (by omega)]
          repeat (first | (refine G_id ?_; first | refine G_nil ?_ | refine G_plain rfl rfl ?_ | refine G_yes rfl rfl rfl rfl ?_) | (refine X_id ?_; first | refine X_yl (Yl_move rfl rfl) rfl rfl ?_ | refine X_yl (Yl_assign rfl rfl) rfl rfl ?_ | refine X_yl (Yl_fieldAddr rfl rfl rfl) rfl rfl ?_ | refine X_yl (Yl_pick_f rfl rfl rfl) rfl rfl ?_ | refine X_yl (Yl_len rfl rfl) rfl rfl ?_ | refine X_yl (Yl_lss_t rfl rfl rfl (by omega)) rfl rfl ?_ | refine X_yl (Yl_lss_f rfl rfl rfl (by omega)) rfl rfl ?_ | refine X_yl (Yl_geq_t rfl rfl rfl (by omega)) rfl rfl ?_ | refine X_yl (Yl_indexAddr rfl rfl rfl (by omega) (by omega) (by first | assumption | exact ⟨_, _, rfl⟩)) rfl rfl ?_ | refine X_yl (Yl_load rfl rfl ((hr.rd hS).cellX (by omega) hx)) rfl rfl ?_) | (refine C_id ?_; first | refine C_seq ?_ | refine C_region ?_ | refine C_block ?_ | refine C_ret ?_ | refine C_skip ?_ | refine C_cond_t rfl ?_) | (refine E_id ?_; first | refine E_code ?_ | refine E_then_ret ?_ | refine E_blk_ret ?_ | refine E_ret1 rfl (Rv_tmp rfl) (Ret.mk ?_)))
          exact ⟨rfl, hS.drops⟩
        · repeat (first | (refine G_id ?_; first | refine G_nil ?_ | refine G_plain rfl rfl ?_ | refine G_yes rfl rfl rfl rfl ?_) | (refine X_id ?_; first | refine X_yl (Yl_move rfl rfl) rfl rfl ?_ | refine X_yl (Yl_assign rfl rfl) rfl rfl ?_ | refine X_yl (Yl_fieldAddr rfl rfl rfl) rfl rfl ?_ | refine X_yl (Yl_pick_f rfl rfl rfl) rfl rfl ?_ | refine X_yl (Yl_len rfl rfl) rfl rfl ?_ | refine X_yl (Yl_lss_t rfl rfl rfl (by omega)) rfl rfl ?_ | refine X_yl (Yl_lss_f rfl rfl rfl (by omega)) rfl rfl ?_ | refine X_yl (Yl_geq_f rfl rfl rfl (by omega)) rfl rfl ?_ | refine X_yl (Yl_indexAddr rfl rfl rfl (by omega) (by omega) (by first | assumption | exact ⟨_, _, rfl⟩)) rfl rfl ?_ | refine X_yl (Yl_add rfl rfl rfl (w64 (by omega) (by omega))) rfl rfl ?_ | refine X_yl (Yl_load rfl rfl ((hr.rd hS).cellX (by omega) hx)) rfl rfl ?_) | (refine C_id ?_; first | refine C_seq ?_ | refine C_region ?_ | refine C_block ?_ | refine C_skip ?_ | refine C_cond_t rfl ?_ | refine C_cond_f rfl ?_) | (refine E_id ?_; first | refine E_code ?_ | refine E_blk_n ?_))
          refine E_round (i + 1) ⟨rfl, rfl, rfl, trivial⟩ ⟨by omega, ?_, hS.drops⟩ (by omega)
          rw [htk]
          intro y hy
          rcases List.mem_append.1 hy with hy | hy
          · exact hall y hy
          · rw [List.mem_singleton] at hy; rw [hy]; omega
    · obtain rfl : i = l.length := by omega
      rw [List.take_of_length_le (by rw [hcl]; simp)] at hall
      repeat (first | (refine G_id ?_; first | refine G_nil ?_ | refine G_plain rfl rfl ?_) | (refine X_id ?_; first | refine X_yl (Yl_move rfl rfl) rfl rfl ?_ | refine X_yl (Yl_len rfl rfl) rfl rfl ?_ | refine X_yl (Yl_lss_f rfl rfl rfl (by omega)) rfl rfl ?_) | (refine C_id ?_; first | refine C_seq ?_ | refine C_region ?_ | refine C_exit ?_ | refine C_cond_f rfl ?_) | (refine E_id ?_; first | refine E_code ?_ | refine E_then_exit ?_ | refine E_blk_same ?_))
      exact E_mid () ⟨rfl, rfl, trivial⟩ ⟨hall, hS⟩
  clear hS
  rintro _ w ⟨hall, hS⟩
  have hany : ¬ (cl.any (fun c => decide (c.no < 0) || decide ((n : Int) ≤ c.no)) = true) := fun h => by
    obtain ⟨x, hx, hb⟩ := List.any_eq_true.1 h
    have := hall x hx
    simp at hb
    omega
  repeat (first | (refine G_id ?_; first | refine G_nil ?_ | refine G_plain rfl rfl ?_) | (refine X_id ?_; first | refine X_yl (Yl_assign rfl rfl) rfl rfl ?_) | (refine C_id ?_; first | refine C_seq ?_ | refine C_region ?_ | refine C_block ?_) | (refine E_id ?_; first | refine E_code ?_))
  have hcll : cl.length = l.length := by rw [hcl]; simp
  obtain ⟨tl, htl⟩ : ∃ tl : List (Int × List UInt8), tl = cl.map fun c => (c.no, []) := ⟨_, rfl⟩
  have htll : tl.length = l.length := by rw [htl]; simp [hcll]
  have htwC : twiceC cl = twiceTo tl l.length := by unfold twiceC; rw [← htl, hcll]
  have hmn : ∀ i, (tl.take i).map (·.1) = (l.take i).map (·.c.no) := fun i => by rw [htl, hcl]; simp [List.map_take, Function.comp_def]
  refine C_joinB (α := Unit) (fun _ => [(0, .slice a l.length c), (1, .int .i64 (n : Nat))]) (fun _ w => twiceC cl = false ∧ St W noF [] w) ?_ ?_
  · refine C_loop (α := Nat) (fun i => [(0, .slice a l.length c), (1, .int .i64 (n : Nat)), (6, .int .i64 (i : Nat))])
      (fun i w => i ≤ l.length ∧ twiceTo tl i = false ∧ St W noF [] w) (fun i => l.length - i) 0 ⟨rfl, rfl, rfl, trivial⟩ ⟨Nat.zero_le _, rfl, hS⟩ ?_
    clear hS
    rintro i w ⟨hi, htw, hS⟩
    by_cases hlt : i < l.length
    · have hx0 : l[i]? = some l[i] := List.getElem?_eq_getElem (by omega)
      generalize l[i] = x at hx0
      have hr := hC.row
      have hx : (l.flatMap ChgA.cells)[i * 7 + 0]? = some (.int .i64 x.c.no) := chg_get hx0 0 (by omega)
      have hgi : (tl.getD i (0, [])).1 = x.c.no := by rw [List.getD_eq_getElem?_getD, htl, List.getElem?_map, hget hx0]; rfl
      have hts : twiceTo tl (i + 1) = (twiceTo tl i || decide (x.c.no ∈ (l.take i).map (·.c.no))) := by rw [twiceTo, hgi, hmn]
      obtain ⟨xb, xo, hxa⟩ := (hr.rd hS).base (by intro e; rw [e] at hx; simp at hx)
      rw [hxa] at hr ⊢
      repeat (first | (refine G_id ?_; first | refine G_nil ?_ | refine G_plain rfl rfl ?_) | (refine X_id ?_; first | refine X_yl (Yl_move rfl rfl) rfl rfl ?_ | refine X_yl (Yl_assign rfl rfl) rfl rfl ?_ | refine X_yl (Yl_len rfl rfl) rfl rfl ?_ | refine X_yl (Yl_lss_t rfl rfl rfl (by omega)) rfl rfl ?_) | (refine C_id ?_; first | refine C_seq ?_ | refine C_region ?_ | refine C_block ?_ | refine C_skip ?_ | refine C_cond_t rfl ?_) | (refine E_id ?_; first | refine E_code ?_))
      refine C_loop (α := Nat) (fun k => [(0, .slice (some ⟨xb, xo, none⟩) l.length c), (1, .int .i64 (n : Nat)), (6, .int .i64 (i : Nat)), (7, .int .i64 (k : Nat))])
        (fun k w => k ≤ i ∧ x.c.no ∉ (l.take k).map (·.c.no) ∧ St W noF [] w) (fun k => i - k) 0 ⟨rfl, rfl, rfl, rfl, trivial⟩ ⟨Nat.zero_le _, by simp, hS⟩ ?_
      clear hS
      rintro k w ⟨hk, hne, hS⟩
      by_cases hki : k < i
      · have hy0 : l[k]? = some l[k] := List.getElem?_eq_getElem (by omega)
        generalize l[k] = y at hy0
        have hr2 := hr
        have hx2 : (l.flatMap ChgA.cells)[k * 7 + 0]? = some (.int .i64 y.c.no) := chg_get hy0 0 (by omega)
        have htk : (l.take (k + 1)).map (·.c.no) = (l.take k).map (·.c.no) ++ [y.c.no] := by rw [List.take_add_one, hy0]; simp
        by_cases hq : y.c.no = x.c.no
        · have hin : x.c.no ∈ (l.take i).map (·.c.no) := by
            have : x.c.no ∈ (l.take (k + 1)).map (·.c.no) := by rw [htk, hq]; simp
            exact (List.Sublist.map _ (List.take_sublist_take_left (by omega))).subset this
          rw [decide_eq_true hin] at hts
          have hone : checkC cl n = 8 := by
            unfold checkC
            rw [if_neg hany, if_pos]
            rw [htwC]
            cases hb : twiceTo tl l.length
            · exfalso
              have h1 := (twice_nodup tl l.length (by omega)).1 hb
              have h2 := (twice_nodup tl (i + 1) (by omega)).2 (h1.sublist ((List.take_sublist_take_left (by omega)).map _))
              rw [hts] at h2
              simp at h2
            · rfl
          rw [hone]
          repeat (first | (refine G_id ?_; first | refine G_nil ?_ | refine G_plain rfl rfl ?_) | (refine X_id ?_; first | refine X_yl (Yl_move rfl rfl) rfl rfl ?_ | refine X_yl (Yl_lss_t rfl rfl rfl (by omega)) rfl rfl ?_) | (refine C_id ?_; first | refine C_seq ?_ | refine C_region ?_ | refine C_block ?_ | refine C_skip ?_ | refine C_cond_t rfl ?_) | (refine E_id ?_; first | refine E_code ?_))
          refine C_ord (.s 0 (.s 1 (.s 2 (.s 3 (.s 4 (.s 5 (.s 6 (.s 7 (.s 8 (.s 9 (.s 10 .nil))))))))))) mixed (by kernel_rfl) rfl ?_
          have hS := hS.drew
          repeat (first | (refine G_id ?_; first | refine G_nil ?_ | refine G_plain rfl rfl ?_) | (refine X_id ?_; first | refine X_yl (Yl_assign rfl rfl) rfl rfl ?_) | (refine C_id ?_; first | refine C_seq ?_ | refine C_region ?_ | refine C_ret ?_ | refine C_cond_t rfl ?_) | (refine E_id ?_; first | refine E_code ?_ | refine E_then_ret ?_ | refine E_blk_ret ?_ | refine E_ret1 rfl (Rv_tmp rfl) (Ret.mk ?_)) | (refine GO_id ?_; first | refine GO_nil ?_ | refine GO_pure rfl rfl (fun _ => Yl_move rfl rfl) rfl rfl ?_ | refine GO_pure rfl rfl (fun _ => Yl_fieldAddr rfl rfl rfl) rfl rfl ?_ | refine GO_pure rfl rfl (fun _ => Yl_eql_t rfl rfl rfl (by omega)) rfl rfl ?_ | refine GO_pure rfl rfl (fun _ => Yl_indexAddr rfl rfl rfl (by omega) (by omega) (by first | assumption | exact ⟨_, _, rfl⟩)) rfl rfl ?_ | refine GO_read (fun w' => w'.cell? _ = some _) rfl rfl ((hr.rd hS).cellX (by omega) hx) (fun _ hc => Yl_load rfl rfl hc) rfl rfl ?_ | refine GO_read (fun w' => w'.cell? _ = some _) rfl rfl ((hr2.rd hS).cellX (by omega) hx2) (fun _ hc => Yl_load rfl rfl hc) rfl rfl ?_))
          exact ⟨rfl, hS.drops⟩
        · repeat (first | (refine G_id ?_; first | refine G_nil ?_ | refine G_plain rfl rfl ?_) | (refine X_id ?_; first | refine X_yl (Yl_move rfl rfl) rfl rfl ?_ | refine X_yl (Yl_lss_t rfl rfl rfl (by omega)) rfl rfl ?_) | (refine C_id ?_; first | refine C_seq ?_ | refine C_region ?_ | refine C_block ?_ | refine C_skip ?_ | refine C_cond_t rfl ?_) | (refine E_id ?_; first | refine E_code ?_))
          refine C_ord (.s 0 (.s 1 (.s 2 (.s 3 (.s 4 (.s 5 (.s 6 (.s 7 (.s 8 (.s 9 (.s 10 .nil))))))))))) mixed (by kernel_rfl) rfl ?_
          have hS := hS.drew
          repeat (first | (refine G_id ?_; first | refine G_nil ?_ | refine G_plain rfl rfl ?_) | (refine X_id ?_; first | refine X_yl (Yl_move rfl rfl) rfl rfl ?_ | refine X_yl (Yl_assign rfl rfl) rfl rfl ?_ | refine X_yl (Yl_add rfl rfl rfl (w64 (by omega) (by omega))) rfl rfl ?_) | (refine C_id ?_; first | refine C_region ?_ | refine C_skip ?_ | refine C_cond_f rfl ?_) | (refine E_id ?_; first | refine E_code ?_ | refine E_blk_n ?_) | (refine GO_id ?_; first | refine GO_nil ?_ | refine GO_pure rfl rfl (fun _ => Yl_move rfl rfl) rfl rfl ?_ | refine GO_pure rfl rfl (fun _ => Yl_fieldAddr rfl rfl rfl) rfl rfl ?_ | refine GO_pure rfl rfl (fun _ => Yl_eql_f rfl rfl rfl (by omega)) rfl rfl ?_ | refine GO_pure rfl rfl (fun _ => Yl_indexAddr rfl rfl rfl (by omega) (by omega) (by first | assumption | exact ⟨_, _, rfl⟩)) rfl rfl ?_ | refine GO_read (fun w' => w'.cell? _ = some _) rfl rfl ((hr.rd hS).cellX (by omega) hx) (fun _ hc => Yl_load rfl rfl hc) rfl rfl ?_ | refine GO_read (fun w' => w'.cell? _ = some _) rfl rfl ((hr2.rd hS).cellX (by omega) hx2) (fun _ hc => Yl_load rfl rfl hc) rfl rfl ?_))
          refine E_round (z := k) (k + 1) ⟨rfl, rfl, rfl, rfl, trivial⟩ ⟨by omega, ?_, hS.drops⟩ (by omega)
          rw [htk]
          simp only [List.mem_append, List.mem_singleton, not_or]
          exact ⟨hne, fun e => hq e.symm⟩
      · obtain rfl : k = i := by omega
        rw [decide_eq_false hne] at hts
        repeat (first | (refine G_id ?_; first | refine G_nil ?_ | refine G_plain rfl rfl ?_) | (refine X_id ?_; first | refine X_yl (Yl_move rfl rfl) rfl rfl ?_ | refine X_yl (Yl_assign rfl rfl) rfl rfl ?_ | refine X_yl (Yl_lss_f rfl rfl rfl (by omega)) rfl rfl ?_ | refine X_yl (Yl_add rfl rfl rfl (w64 (by omega) (by omega))) rfl rfl ?_) | (refine C_id ?_; first | refine C_seq ?_ | refine C_region ?_ | refine C_exit ?_ | refine C_cond_f rfl ?_) | (refine E_id ?_; first | refine E_code ?_ | refine E_then_exit ?_ | refine E_blk_same ?_ | refine E_blk_n ?_))
        exact E_round (z := k) (k + 1) ⟨rfl, rfl, rfl, trivial⟩ ⟨by omega, by rw [hts, htw]; rfl, hS.drops⟩ (by omega)
    · obtain rfl : i = l.length := by omega
      repeat (first | (refine G_id ?_; first | refine G_nil ?_ | refine G_plain rfl rfl ?_) | (refine X_id ?_; first | refine X_yl (Yl_move rfl rfl) rfl rfl ?_ | refine X_yl (Yl_len rfl rfl) rfl rfl ?_ | refine X_yl (Yl_lss_f rfl rfl rfl (by omega)) rfl rfl ?_) | (refine C_id ?_; first | refine C_seq ?_ | refine C_region ?_ | refine C_exit ?_ | refine C_cond_f rfl ?_) | (refine E_id ?_; first | refine E_code ?_ | refine E_then_exit ?_ | refine E_blk_same ?_))
      exact E_mid () ⟨rfl, rfl, trivial⟩ ⟨by rw [htwC]; exact htw, hS⟩
  clear hS
  rintro _ w ⟨htw, hS⟩
  have hcc : checkC cl n = badC cl := by unfold checkC; rw [if_neg hany, if_neg (by simp [htw])]
  rw [hcc]
  repeat (first | (refine G_id ?_; first | refine G_nil ?_ | refine G_plain rfl rfl ?_) | (refine X_id ?_; first | refine X_yl (Yl_assign rfl rfl) rfl rfl ?_) | (refine C_id ?_; first | refine C_seq ?_ | refine C_region ?_ | refine C_block ?_) | (refine E_id ?_; first | refine E_code ?_))
  refine C_loop (α := Nat) (fun i => [(0, .slice a l.length c), (1, .int .i64 (n : Nat)), (8, .int .i64 (i : Nat))])
    (fun i w => i ≤ l.length ∧ badC cl = badC (cl.drop i) ∧ St W noF [] w) (fun i => l.length - i) 0 ⟨rfl, rfl, rfl, trivial⟩ ⟨Nat.zero_le _, rfl, hS⟩ ?_
  clear hS
  rintro i w ⟨hi, hbe, hS⟩
  by_cases hlt : i < l.length
  · have hx0 : l[i]? = some l[i] := List.getElem?_eq_getElem (by omega)
    generalize l[i] = x at hx0
    have hr := hC.row
    have hr2 := hC.row
    have hx : (l.flatMap ChgA.cells)[i * 7 + 6]? = some (.bool x.c.drop) := chg_get hx0 6 (by omega)
    have hx2 : (l.flatMap ChgA.cells)[i * 7 + 5]? = some (.slice x.a x.c.nd.data.length x.k) := chg_get hx0 5 (by omega)
    have hst4 := chg_stat hx0
    have hdr : cl.drop i = x.c :: cl.drop (i + 1) := (List.drop_eq_getElem?_toList_append (l := cl) (i := i)).trans (by rw [hget hx0]; rfl)
    obtain ⟨xb, xo, hxa⟩ := (hr.rd hS).base (by intro e; rw [e] at hx; simp at hx)
    rw [hxa] at hr hr2 ⊢
    cases hdp : x.c.drop
    · have hb2 : badC cl = if ¬ x.c.nd.st.check = 0 then x.c.nd.st.check else if 512 < x.c.nd.data.length then 2 else badC (cl.drop (i + 1)) := by rw [hbe, hdr, badC, if_neg (by simp [hdp])]
      rw [hdp] at hx
      have hck := r06check_ x.c.nd.st
      by_cases hst : x.c.nd.st.check = 0
      · rw [if_neg (by simp [hst])] at hb2
        rw [hst] at hck
        by_cases h5 : 512 < x.c.nd.data.length
        · rw [hb2, if_pos h5]
          repeat (first | (refine G_id ?_; first | refine G_nil ?_ | refine G_plain rfl rfl ?_) | (refine X_id ?_; first | refine X_yl (Yl_move rfl rfl) rfl rfl ?_ | refine X_yl (Yl_fieldAddr rfl rfl rfl) rfl rfl ?_ | refine X_yl (Yl_len rfl rfl) rfl rfl ?_ | refine X_yl (Yl_lss_t rfl rfl rfl (by omega)) rfl rfl ?_ | refine X_yl (Yl_indexAddr rfl rfl rfl (by omega) (by omega) (by first | assumption | exact ⟨_, _, rfl⟩)) rfl rfl ?_ | refine X_yl (Yl_load rfl rfl ((hr.rd hS).cellF (by first | omega | (dsimp only; omega)) hx)) rfl rfl ?_) | (refine C_id ?_; first | refine C_seq ?_ | refine C_region ?_ | refine C_block ?_ | refine C_skip ?_ | refine C_cond_t rfl ?_ | refine C_cond_f rfl ?_) | (refine E_id ?_; first | refine E_code ?_))
          refine X_yl (Yl_loadN rfl rfl ((hr.rd hS).cellsF7 (by first | omega | (dsimp only; omega)) hst4 rfl)) rfl rfl ?_
          repeat (first | (refine G_id ?_; first | refine G_nil ?_ | refine G_plain rfl rfl ?_) | (refine X_id ?_; first | (refine X_callq 16 rfl rfl rfl rfl rfl hS (hck _) ?_; rintro _ _ rfl hS) | refine X_yl (Yl_move rfl rfl) rfl rfl ?_ | refine X_yl (Yl_assign rfl rfl) rfl rfl ?_ | refine X_yl (Yl_fieldAddr rfl rfl rfl) rfl rfl ?_ | refine X_yl (Yl_len rfl rfl) rfl rfl ?_ | refine X_yl (Yl_neq_f rfl rfl rfl (by omega)) rfl rfl ?_ | refine X_yl (Yl_gtr_t rfl rfl rfl (by omega)) rfl rfl ?_ | refine X_yl (Yl_indexAddr rfl rfl rfl (by omega) (by omega) (by first | assumption | exact ⟨_, _, rfl⟩)) rfl rfl ?_ | refine X_yl (Yl_load rfl rfl ((hr2.rd hS).cellF (by first | omega | (dsimp only; omega)) hx2)) rfl rfl ?_) | (refine C_id ?_; first | refine C_seq ?_ | refine C_region ?_ | refine C_ret ?_ | refine C_skip ?_ | refine C_cond_t rfl ?_ | refine C_cond_f rfl ?_) | (refine E_id ?_; first | refine E_code ?_ | refine E_then_ret ?_ | refine E_blk_ret ?_ | refine E_ret1 rfl (Rv_tmp rfl) (Ret.mk ?_)))
          exact ⟨rfl, hS.drops⟩
        · rw [if_neg h5] at hb2
          repeat (first | (refine G_id ?_; first | refine G_nil ?_ | refine G_plain rfl rfl ?_) | (refine X_id ?_; first | refine X_yl (Yl_move rfl rfl) rfl rfl ?_ | refine X_yl (Yl_fieldAddr rfl rfl rfl) rfl rfl ?_ | refine X_yl (Yl_len rfl rfl) rfl rfl ?_ | refine X_yl (Yl_lss_t rfl rfl rfl (by omega)) rfl rfl ?_ | refine X_yl (Yl_indexAddr rfl rfl rfl (by omega) (by omega) (by first | assumption | exact ⟨_, _, rfl⟩)) rfl rfl ?_ | refine X_yl (Yl_load rfl rfl ((hr.rd hS).cellF (by first | omega | (dsimp only; omega)) hx)) rfl rfl ?_) | (refine C_id ?_; first | refine C_seq ?_ | refine C_region ?_ | refine C_block ?_ | refine C_skip ?_ | refine C_cond_t rfl ?_ | refine C_cond_f rfl ?_) | (refine E_id ?_; first | refine E_code ?_))
          refine X_yl (Yl_loadN rfl rfl ((hr.rd hS).cellsF7 (by first | omega | (dsimp only; omega)) hst4 rfl)) rfl rfl ?_
          repeat (first | (refine G_id ?_; first | refine G_nil ?_ | refine G_plain rfl rfl ?_) | (refine X_id ?_; first | (refine X_callq 16 rfl rfl rfl rfl rfl hS (hck _) ?_; rintro _ _ rfl hS) | refine X_yl (Yl_move rfl rfl) rfl rfl ?_ | refine X_yl (Yl_assign rfl rfl) rfl rfl ?_ | refine X_yl (Yl_fieldAddr rfl rfl rfl) rfl rfl ?_ | refine X_yl (Yl_len rfl rfl) rfl rfl ?_ | refine X_yl (Yl_neq_f rfl rfl rfl (by omega)) rfl rfl ?_ | refine X_yl (Yl_gtr_f rfl rfl rfl (by omega)) rfl rfl ?_ | refine X_yl (Yl_indexAddr rfl rfl rfl (by omega) (by omega) (by first | assumption | exact ⟨_, _, rfl⟩)) rfl rfl ?_ | refine X_yl (Yl_add rfl rfl rfl (w64 (by omega) (by omega))) rfl rfl ?_ | refine X_yl (Yl_load rfl rfl ((hr2.rd hS).cellF (by first | omega | (dsimp only; omega)) hx2)) rfl rfl ?_) | (refine C_id ?_; first | refine C_seq ?_ | refine C_region ?_ | refine C_skip ?_ | refine C_cond_f rfl ?_) | (refine E_id ?_; first | refine E_code ?_ | refine E_blk_n ?_))
          exact E_round (i + 1) ⟨rfl, rfl, rfl, trivial⟩ ⟨by omega, hb2, hS.drops⟩ (by omega)
      · rw [if_pos hst] at hb2
        rw [hb2]
        repeat (first | (refine G_id ?_; first | refine G_nil ?_ | refine G_plain rfl rfl ?_) | (refine X_id ?_; first | refine X_yl (Yl_move rfl rfl) rfl rfl ?_ | refine X_yl (Yl_fieldAddr rfl rfl rfl) rfl rfl ?_ | refine X_yl (Yl_len rfl rfl) rfl rfl ?_ | refine X_yl (Yl_lss_t rfl rfl rfl (by omega)) rfl rfl ?_ | refine X_yl (Yl_indexAddr rfl rfl rfl (by omega) (by omega) (by first | assumption | exact ⟨_, _, rfl⟩)) rfl rfl ?_ | refine X_yl (Yl_load rfl rfl ((hr.rd hS).cellF (by first | omega | (dsimp only; omega)) hx)) rfl rfl ?_) | (refine C_id ?_; first | refine C_seq ?_ | refine C_region ?_ | refine C_block ?_ | refine C_skip ?_ | refine C_cond_t rfl ?_ | refine C_cond_f rfl ?_) | (refine E_id ?_; first | refine E_code ?_))
        refine X_yl (Yl_loadN rfl rfl ((hr.rd hS).cellsF7 (by first | omega | (dsimp only; omega)) hst4 rfl)) rfl rfl ?_
        repeat (first | (refine G_id ?_; first | refine G_nil ?_ | refine G_plain rfl rfl ?_) | (refine X_id ?_; first | (refine X_callq 16 rfl rfl rfl rfl rfl hS (hck _) ?_; rintro _ _ rfl hS) | refine X_yl (Yl_move rfl rfl) rfl rfl ?_ | refine X_yl (Yl_assign rfl rfl) rfl rfl ?_ | refine X_yl (Yl_neq_t rfl rfl rfl (by omega)) rfl rfl ?_) | (refine C_id ?_; first | refine C_seq ?_ | refine C_region ?_ | refine C_ret ?_ | refine C_cond_t rfl ?_) | (refine E_id ?_; first | refine E_code ?_ | refine E_then_ret ?_ | refine E_blk_ret ?_ | refine E_ret1 rfl (Rv_tmp rfl) (Ret.mk ?_)))
        exact ⟨rfl, hS.drops⟩
    · have hb2 : badC cl = badC (cl.drop (i + 1)) := by rw [hbe, hdr, badC, if_pos hdp]
      rw [hdp] at hx
      repeat (first | (refine G_id ?_; first | refine G_nil ?_ | refine G_plain rfl rfl ?_) | (refine X_id ?_; first | refine X_yl (Yl_move rfl rfl) rfl rfl ?_ | refine X_yl (Yl_assign rfl rfl) rfl rfl ?_ | refine X_yl (Yl_fieldAddr rfl rfl rfl) rfl rfl ?_ | refine X_yl (Yl_len rfl rfl) rfl rfl ?_ | refine X_yl (Yl_lss_t rfl rfl rfl (by omega)) rfl rfl ?_ | refine X_yl (Yl_indexAddr rfl rfl rfl (by omega) (by omega) (by first | assumption | exact ⟨_, _, rfl⟩)) rfl rfl ?_ | refine X_yl (Yl_add rfl rfl rfl (w64 (by omega) (by omega))) rfl rfl ?_ | refine X_yl (Yl_load rfl rfl ((hr.rd hS).cellF (by first | omega | (dsimp only; omega)) hx)) rfl rfl ?_) | (refine C_id ?_; first | refine C_seq ?_ | refine C_region ?_ | refine C_block ?_ | refine C_skip ?_ | refine C_exit ?_ | refine C_cond_t rfl ?_) | (refine E_id ?_; first | refine E_code ?_ | refine E_then_exit ?_ | refine E_blk_same ?_))
      exact E_round (i + 1) ⟨rfl, rfl, rfl, trivial⟩ ⟨by omega, hb2, hS.drops⟩ (by omega)
  · obtain rfl : i = l.length := by omega
    have hb2 : badC cl = 0 := by rw [hbe, List.drop_eq_nil_of_le (by omega)]; rfl
    rw [hb2]
    repeat (first | (refine G_id ?_; first | refine G_nil ?_ | refine G_plain rfl rfl ?_) | (refine X_id ?_; first | refine X_yl (Yl_move rfl rfl) rfl rfl ?_ | refine X_yl (Yl_assign rfl rfl) rfl rfl ?_ | refine X_yl (Yl_len rfl rfl) rfl rfl ?_ | refine X_yl (Yl_lss_f rfl rfl rfl (by omega)) rfl rfl ?_) | (refine C_id ?_; first | refine C_seq ?_ | refine C_region ?_ | refine C_ret ?_ | refine C_exit ?_ | refine C_cond_f rfl ?_) | (refine E_id ?_; first | refine E_code ?_ | refine E_then_exit ?_ | refine E_blk_same ?_ | refine E_ret1 rfl (Rv_tmp rfl) (Ret.mk ?_)))
    exact ⟨rfl, hS⟩
end Cr
namespace Cr
open Go
theorem St.ownBase {W : World} {F : Nat → Prop} {rs : List Res} {w : World} {T c e : Nat} {a : Option Addr} {cs : List Value} (hS : St W F (own T e a c cs :: rs) w) (hpos : cs ≠ []) : ∃ b, a = some ⟨b, 0, none⟩ := by
  obtain ⟨g, ⟨g1, g2, hown, hrest, hdj, hun⟩, s⟩ := hS
  obtain ⟨hle, hcm, ⟨rfl, _⟩ | ⟨b', cells, hbe, rfl, hcz, ht⟩⟩ := hown
  · rw [Nat.zero_mul] at hle
    exact absurd (List.length_eq_zero_iff.1 (by omega)) hpos
  · exact ⟨b', hbe⟩
end Cr
namespace Cr
open Go
section
variable {W : World} {F : Nat → Prop} {rs : List Res} {w : World} {r : Res} {l : List Res}
theorem St.sepOpen (hS : St W F (Sep (r :: l) :: rs) w) : St W F (r :: Sep l :: rs) w := by
  obtain ⟨h, ⟨h1, h2, ⟨g1, g2, hr, hl, hdg, hug⟩, hrs, hd, hu⟩, s⟩ := hS
  refine ⟨h, Sep.append_mk (rs := [r, Sep l]) (h1 := h1) ⟨g1, g2, hr, ⟨g2, fun _ => none, hl, fun _ => rfl, fun _ => .inr rfl, fun _ => by simp⟩, hdg, hug⟩ hrs hd hu, s⟩
theorem sep_shut {h : Frag} (H : Sep [r, Sep l] h) : Sep (r :: l) h := by
  obtain ⟨h1, h2, a, ⟨h3, h4, b, c, d', u'⟩, d, u⟩ := H
  have e : h2 = h3 := by
    funext k
    have hc : h4 k = none := c k
    rw [u', hc]; simp
  subst e
  exact ⟨h1, h2, a, b, d, u⟩
theorem St.sepShut (hS : St W F (r :: Sep l :: rs) w) : St W F (Sep (r :: l) :: rs) w := St.shutR (rs' := [r, Sep l]) hS fun _ hh => sep_shut hh
theorem St.sepNil (hS : St W F rs w) : St W F (Sep [] :: rs) w := by
  obtain ⟨h, hs, s⟩ := hS
  exact ⟨h, ⟨fun _ => none, h, fun _ => rfl, hs, fun _ => .inl rfl, fun _ => by simp⟩, s⟩
theorem St.sepPerm {l' : List Res} (p : l.Perm l') (hS : St W F (Sep l :: rs) w) : St W F (Sep l' :: rs) w := hS.head (Sep.perm p)
theorem St.sepSnoc (hS : St W F (r :: Sep l :: rs) w) : St W F (Sep (l ++ [r]) :: rs) w :=
  St.sepPerm (List.perm_append_comm (l₁ := [r]) (l₂ := l)) (hS.sepShut)
end
/-- Slices of bytes, each the run's own. -/
structure OB where
  a : Option Addr
  c : Nat
  s : List UInt8
def obR (T : TypeId) (x : OB) : Res := own T 1 x.a x.c (bv x.s)
def obs (T : TypeId) (D : List OB) : Res := Sep (D.map (obR T))
theorem Ro.obs {W : World} {F : Nat → Prop} {T : TypeId} {D : List OB} (H : Ro W F (Cr.obs T D)) : ∀ x ∈ D, Ro W F (bytes x.a x.s) := fun x hx => (Ro.sep H (obR T x) (List.mem_map.2 ⟨x, hx, rfl⟩)).own_row
end Cr
namespace Cr
open Go Go.Proofs
set_option maxRecDepth 100000
set_option maxHeartbeats 16000000
attribute [local irreducible] Calls

theorem chg_one (l : List ChgA) : ∀ u ∈ l.flatMap ChgA.cells, u.oneCell' = true := fun u hu => by
  obtain ⟨x, _, h⟩ := List.mem_flatMap.1 hu
  simp only [ChgA.cells, List.mem_cons, List.not_mem_nil, or_false] at h
  rcases h with rfl | rfl | rfl | rfl | rfl | rfl | rfl <;> rfl
def cutC (c : Chg) : Chg := ⟨c.no, cutN c.nd, c.drop⟩
/-- What Changes has made: the program's changes, the document's, their bytes. -/
structure CZ where
  a1 : Option Addr
  c1 : Nat
  L1 : List ChgA
  D : List OB
  a2 : Option Addr
  c2 : Nat
  L2 : List ChgA
  X : List RowD
def CZ.res (z : CZ) : List Res := [own 44 7 z.a1 z.c1 (z.L1.flatMap ChgA.cells), own 64 7 z.a2 z.c2 (z.L2.flatMap ChgA.cells), obs 5 z.D, bag z.X]
structure CZ.ok (z : CZ) (l : List Chg) : Prop where
  d1 : z.L1.map ChgA.c = l.map cutC
  d2 : z.L2.map ChgA.c = l.map cutC
  k1 : z.L1.length ≤ z.c1
  k2 : z.L2.length ≤ z.c2
  o : z.D = z.L1.map fun x => ⟨x.a, x.k, x.c.nd.data⟩
  x2 : ∀ x ∈ z.L2, (x.a, bv x.c.nd.data) ∈ z.X
theorem changes_ (a : Option Addr) (c : Nat) (l : List ChgA) (W : World) (hC : Chgs W noF a l) (hk : ∀ x ∈ l, x.c.nd.data.length ≤ x.k) :
    Calls Tryz.prog 5 #[.slice a l.length c] W (Ret fun v w => ∃ z : CZ, v = .tuple #[.slice z.a1 z.L1.length z.c1, .slice z.a2 z.L2.length z.c2] ∧ z.ok ((l.take 6).map ChgA.c) ∧ St W noF z.res w) := by
  have hS := St.start W
  refine calls_C Tryz.func5 rfl Tryz.ntmps5 rfl ?_
  repeat (first | (refine G_id ?_; first | refine G_nil ?_ | refine G_plain rfl rfl ?_) | (refine X_id ?_; first | refine X_yl (Yl_assign rfl rfl) rfl rfl ?_) | (refine C_id ?_; first | refine C_seq ?_ | refine C_region ?_ | refine C_block ?_) | (refine E_id ?_; first | refine E_code ?_))
  have hS0 := ((((hS.bagNil).sepNil).own_none 64 7 none).own_none 44 7 none)
  refine C_loop (α := Nat × CZ) (fun z => [(0, .slice a l.length c), (4, .slice z.2.a1 z.1 z.2.c1), (5, .slice z.2.a2 z.1 z.2.c2), (6, .int .i64 (z.1 : Nat))])
    (fun z w => z.1 ≤ l.length ∧ z.1 ≤ 6 ∧ z.2.ok ((l.take z.1).map ChgA.c) ∧ St W noF z.2.res w) (fun z => 6 - z.1) (0, ⟨none, 0, [], [], none, 0, [], []⟩) ⟨rfl, rfl, rfl, rfl, trivial⟩ ⟨Nat.zero_le _, Nat.zero_le _, ⟨rfl, rfl, Nat.le_refl _, Nat.le_refl _, rfl, fun _ h => (List.not_mem_nil h).elim⟩, hS0⟩ ?_
  clear hS hS0
  rintro ⟨i, a1, c1, L1, D, a2, c2, L2, X⟩ w ⟨hi, hi6, hok, hS⟩
  obtain ⟨d1, d2, k1, k2, o, x2⟩ := hok
  simp only [CZ.res] at hi hi6 hS d1 d2 k1 k2 o x2 ⊢
  have hL1 : L1.length = i := by
    have := congrArg List.length d1
    simp at this; omega
  have hL2 : L2.length = i := by
    have := congrArg List.length d2
    simp at this; omega
  by_cases h1 : i < l.length
  · by_cases h2 : i < 6
    · have hx0 : l[i]? = some l[i] := List.getElem?_eq_getElem h1
      have htk : l.take (i + 1) = l.take i ++ [l[i]] := List.take_succ_eq_append_getElem h1
      generalize l[i] = x at hx0 htk
      have hxm := List.mem_of_getElem? hx0
      have hr := hC.row
      have hr2 := hC.row
      have hx : (l.flatMap ChgA.cells)[i * 7 + 0]? = some (.int .i64 x.c.no) := chg_get hx0 0 (by omega)
      have hx2 : (l.flatMap ChgA.cells)[i * 7 + 6]? = some (.bool x.c.drop) := chg_get hx0 6 (by omega)
      have hst4 := chg_stat hx0
      have hnd : ((l.flatMap ChgA.cells).drop (i * 7 + 1)).take 5 = ndV x.c.nd x.a x.k := by
        have h1 := chg_seg hx0
        rw [← List.drop_drop]
        have h3 := congrArg (fun q => (q.drop 1).take 5) h1
        replace h3 : ((((l.flatMap ChgA.cells).drop (i * 7)).take 7).drop 1).take 5 = ndV x.c.nd x.a x.k := h3
        rw [List.drop_take, List.take_take] at h3
        exact h3
      obtain ⟨xb, xo, hxa⟩ := (hr.rd hS).base (by intro e; rw [e] at hx; simp at hx)
      rw [hxa] at hr hr2 ⊢
      have hT := fun W h => to07_ x.c.nd x.a x.k W h (hk x hxm)
      have hcl : (cutN x.c.nd).data.length ≤ 600 := by simp [cutN]; omega
      repeat (first | (refine G_id ?_; first | refine G_nil ?_ | refine G_plain rfl rfl ?_ | refine G_yes rfl rfl rfl rfl ?_) | (refine X_id ?_; first | refine X_yl (Yl_move rfl rfl) rfl rfl ?_ | refine X_yl (Yl_fieldAddr rfl rfl rfl) rfl rfl ?_ | refine X_yl (Yl_pick_t rfl rfl rfl) rfl rfl ?_ | refine X_yl (Yl_len rfl rfl) rfl rfl ?_ | refine X_yl (Yl_lss_t rfl rfl rfl (by omega)) rfl rfl ?_ | refine X_yl (Yl_indexAddr rfl rfl rfl (by omega) (by omega) (by first | assumption | exact ⟨_, _, rfl⟩)) rfl rfl ?_) | (refine C_id ?_; first | refine C_seq ?_ | refine C_region ?_ | refine C_block ?_ | refine C_skip ?_ | refine C_cond_t rfl ?_) | (refine E_id ?_; first | refine E_code ?_))
      refine X_yl (Yl_loadN rfl rfl ((hr.rd hS).cellsF7 (by first | omega | (dsimp only; omega)) hnd rfl)) rfl rfl ?_
      repeat (first | (refine G_id ?_; first | refine G_plain rfl rfl ?_))
      refine X_callg _ rfl rfl rfl rfl rfl (hT _ ((hC.all x hxm).rd hS)) ?_
      rintro _ w ⟨ad, cd, rfl, hcd, hS'⟩
      replace hS := hS.plus hS'
      clear hS'
      repeat (first | (refine G_id ?_; first | refine G_nil ?_ | refine G_plain rfl rfl ?_) | (refine X_id ?_; first | refine X_store rfl rfl rfl rfl hS (fun _ hS _ => ?_) | refine X_alloc rfl rfl rfl hS (fun _ _ hS _ => ?_)) | (refine C_id ?_; first | refine C_seq ?_) | (refine E_id ?_; first | refine E_code ?_))
      refine C_ord (.s 0 (.s 1 (.s 2 (.s 3 (.s 4 (.s 5 (.s 6 (.s 7 (.s 8 (.s 9 (.s 10 (.s 11 (.s 12 (.h 13 (.h 14 (.s 15 .nil) .no) .no)))))))))))))) mixed (by kernel_rfl) rfl ?_
      have hS := hS.drew
      repeat (first | (refine X_id ?_; first | refine X_buildSlice rfl rfl rfl rfl rfl rfl rfl rfl hS (fun _ _ hS _ => ?_)) | (refine GO_id ?_; first | refine GO_pure rfl rfl (fun _ => Yl_move rfl rfl) rfl rfl ?_ | refine GO_pure rfl rfl (fun _ => Yl_fieldAddr rfl rfl rfl) rfl rfl ?_ | refine GO_pure rfl rfl (fun _ => Yl_build rfl rfl rfl) rfl rfl ?_ | refine GO_pure rfl rfl (fun _ => Yl_indexAddr rfl rfl rfl (by omega) (by omega) (by first | assumption | exact ⟨_, _, rfl⟩)) rfl rfl ?_ | refine GO_read (fun w' => w'.cell? _ = some _) rfl rfl ((hr.rd hS).cellX (by omega) hx) (fun _ hc => Yl_load rfl rfl hc) rfl rfl ?_ | refine GO_read (fun w' => CellsN w' _ _ _) rfl rfl hS.cellsN (fun _ hc => Yl_loadN rfl rfl hc) rfl rfl ?_ | refine GO_hard rfl rfl ?_ | refine GO_read (fun w' => w'.cell? _ = some _) rfl rfl ((hr2.rd hS).cellF (by first | omega | (dsimp only; omega)) hx2) (fun _ hc => Yl_load rfl rfl hc) rfl rfl ?_) | (refine Keep_id ?_; first | refine And.intro (by repeat (first | exact trivial | refine And.intro (.inl (by decide +kernel)) ?_ | refine And.intro (.inr (by first | assumption | exact hS.cell | exact cell_at (by assumption) | exact hS.cellI (by omega) | exact hS.cellIP (by omega) | exact hS.cellsN | exact ((hr.rd hS).cellX (by omega) hx) | exact ((hr2.rd hS).cellX (by omega) hx2) | exact hS.cellB (by omega) | exact hS.cellBA (by omega) | exact (hb.rd hS).cellB' (by omega) | exact (hb2.rd hS).cellB' (by omega) | exact (hg.rd hS).cellI (by omega) | exact (hg2.rd hS).cellI (by omega) | exact ((hr.rd hS).cellF (by first | omega | (dsimp only; omega)) hx) | exact ((hr2.rd hS).cellF (by first | omega | (dsimp only; omega)) hx2) | exact hS.cellO 0 (by omega) | exact hS.cellO 1 (by omega) | exact hS.cellIA (by omega) | exact (hg.rd hS).cellIA (by omega) | exact (hg2.rd hS).cellIA (by omega) | exact cell_at (hc.rd hS).pts | exact hb.rd hS | exact (hr.rd hS).cellsF7 (by first | omega | (dsimp only; omega)) hst4 rfl | exact (hr2.rd hS).cellsF7 (by first | omega | (dsimp only; omega)) hst4 rfl | exact hS.cellO 4 (by omega) | exact hS.cellO 5 (by omega) | exact hS.cellO 6 (by omega) | exact hS.cellO 7 (by omega) | exact hS.cellO 8 (by omega) | exact hS.cellO 9 (by omega) | exact hS.cellO 10 (by omega) | exact hS.cellO 11 (by omega) | exact hS.cellO 12 (by omega) | exact hS.cellO 13 (by omega) | exact hS.cellO 2 (by omega) | exact hS.cellO 3 (by omega))) ?_)) ?_))
      refine X_append (T := 44) (a := a1) (m := 1) rfl rfl rfl rfl rfl hS (by rw [chg_len, hL1]) (by omega) ((hS.rd (List.mem_cons_self ..)).own_row) rfl (chg_one [⟨⟨x.c.no, cutN x.c.nd, x.c.drop⟩, ad, cd⟩]) (by omega) (by simp only [maxLen]; omega) (fun a1' c1' w hS hc1 _ => ?_)
      repeat (first | (refine E_id ?_; first | refine E_code ?_) | (refine GO_id ?_; first | refine GO_nil ?_ | refine GO_pure rfl rfl (fun _ => Yl_assign rfl rfl) rfl rfl ?_) | (refine Keep_id ?_; first | refine And.intro (by repeat (first | exact trivial | refine And.intro (.inl (by decide +kernel)) ?_ | refine And.intro (.inr (by first | assumption | exact hS.cell | exact cell_at (by assumption) | exact hS.cellI (by omega) | exact hS.cellIP (by omega) | exact hS.cellsN | exact ((hr.rd hS).cellX (by omega) hx) | exact ((hr2.rd hS).cellX (by omega) hx2) | exact hS.cellB (by omega) | exact hS.cellBA (by omega) | exact (hb.rd hS).cellB' (by omega) | exact (hb2.rd hS).cellB' (by omega) | exact (hg.rd hS).cellI (by omega) | exact (hg2.rd hS).cellI (by omega) | exact ((hr.rd hS).cellF (by first | omega | (dsimp only; omega)) hx) | exact ((hr2.rd hS).cellF (by first | omega | (dsimp only; omega)) hx2) | exact hS.cellO 0 (by omega) | exact hS.cellO 1 (by omega) | exact hS.cellIA (by omega) | exact (hg.rd hS).cellIA (by omega) | exact (hg2.rd hS).cellIA (by omega) | exact cell_at (hc.rd hS).pts | exact hb.rd hS | exact (hr.rd hS).cellsF7 (by first | omega | (dsimp only; omega)) hst4 rfl | exact (hr2.rd hS).cellsF7 (by first | omega | (dsimp only; omega)) hst4 rfl | exact hS.cellO 4 (by omega) | exact hS.cellO 5 (by omega) | exact hS.cellO 6 (by omega) | exact hS.cellO 7 (by omega) | exact hS.cellO 8 (by omega) | exact hS.cellO 9 (by omega) | exact hS.cellO 10 (by omega) | exact hS.cellO 11 (by omega) | exact hS.cellO 12 (by omega) | exact hS.cellO 13 (by omega) | exact hS.cellO 2 (by omega) | exact hS.cellO 3 (by omega))) ?_)) ?_))
      refine C_ord (.s 0 (.s 1 (.s 2 (.s 3 (.s 4 (.s 5 (.s 6 (.s 7 (.s 8 (.s 9 (.s 10 (.s 11 (.s 13 (.s 14 (.s 17 (.s 18 (.s 19 (.s 20 (.s 21 (.h 12 (.h 15 (.s 16 (.s 22 (.h 23 (.h 24 (.s 25 .nil) .no) .no))) .no) .no)))))))))))))))))))) mixed (by kernel_rfl) rfl ?_
      have hS := hS.drew
      repeat (first | (refine GO_id ?_; first | refine GO_pure rfl rfl (fun _ => Yl_move rfl rfl) rfl rfl ?_ | refine GO_pure rfl rfl (fun _ => Yl_fieldAddr rfl rfl rfl) rfl rfl ?_ | refine GO_pure rfl rfl (fun _ => Yl_indexAddr rfl rfl rfl (by omega) (by omega) (by first | assumption | exact ⟨_, _, rfl⟩)) rfl rfl ?_ | refine GO_read (fun w' => w'.cell? _ = some _) rfl rfl ((hr.rd hS).cellX (by omega) hx) (fun _ hc => Yl_load rfl rfl hc) rfl rfl ?_))
      refine GO_read (fun w' => CellsN w' _ _ _) rfl rfl ((hr.rd hS).cellsF7 (by first | omega | (dsimp only; omega)) hst4 rfl) (fun _ hc => Yl_loadN rfl rfl hc) rfl rfl ?_
      repeat (first | (refine X_id ?_; first | refine X_buildSlice rfl rfl rfl rfl rfl rfl rfl rfl hS (fun _ _ hS _ => ?_)) | (refine GO_id ?_; first | refine GO_pure rfl rfl (fun _ => Yl_move rfl rfl) rfl rfl ?_ | refine GO_pure rfl rfl (fun _ => Yl_fieldAddr0 rfl rfl rfl) rfl rfl ?_ | refine GO_pure rfl rfl (fun _ => Yl_fieldAddr rfl rfl rfl) rfl rfl ?_ | refine GO_pure rfl rfl (fun _ => Yl_indexAddr rfl rfl rfl (by omega) (by omega) (by first | assumption | exact ⟨_, _, rfl⟩)) rfl rfl ?_ | refine GO_read (fun w' => w'.cell? _ = some _) rfl rfl hS.cell (fun _ hc => Yl_load rfl rfl hc) rfl rfl ?_ | refine GO_hard rfl rfl ?_ | refine GO_read (fun w' => w'.cell? _ = some _) rfl rfl ((hr2.rd hS).cellF (by first | omega | (dsimp only; omega)) hx2) (fun _ hc => Yl_load rfl rfl hc) rfl rfl ?_) | (refine Keep_id ?_; first | refine And.intro (by repeat (first | exact trivial | refine And.intro (.inl (by decide +kernel)) ?_ | refine And.intro (.inr (by first | assumption | exact hS.cell | exact cell_at (by assumption) | exact hS.cellI (by omega) | exact hS.cellIP (by omega) | exact hS.cellsN | exact ((hr.rd hS).cellX (by omega) hx) | exact ((hr2.rd hS).cellX (by omega) hx2) | exact hS.cellB (by omega) | exact hS.cellBA (by omega) | exact (hb.rd hS).cellB' (by omega) | exact (hb2.rd hS).cellB' (by omega) | exact (hg.rd hS).cellI (by omega) | exact (hg2.rd hS).cellI (by omega) | exact ((hr.rd hS).cellF (by first | omega | (dsimp only; omega)) hx) | exact ((hr2.rd hS).cellF (by first | omega | (dsimp only; omega)) hx2) | exact hS.cellO 0 (by omega) | exact hS.cellO 1 (by omega) | exact hS.cellIA (by omega) | exact (hg.rd hS).cellIA (by omega) | exact (hg2.rd hS).cellIA (by omega) | exact cell_at (hc.rd hS).pts | exact hb.rd hS | exact (hr.rd hS).cellsF7 (by first | omega | (dsimp only; omega)) hst4 rfl | exact (hr2.rd hS).cellsF7 (by first | omega | (dsimp only; omega)) hst4 rfl | exact hS.cellO 4 (by omega) | exact hS.cellO 5 (by omega) | exact hS.cellO 6 (by omega) | exact hS.cellO 7 (by omega) | exact hS.cellO 8 (by omega) | exact hS.cellO 9 (by omega) | exact hS.cellO 10 (by omega) | exact hS.cellO 11 (by omega) | exact hS.cellO 12 (by omega) | exact hS.cellO 13 (by omega) | exact hS.cellO 2 (by omega) | exact hS.cellO 3 (by omega))) ?_)) ?_))
      refine X_append (T := 5) (n := 0) (m := (cutN x.c.nd).data.length) rfl rfl rfl rfl rfl hS rfl (Nat.zero_le _) (hS.ownRd (a := ad)) (by rw [bv_length, Nat.mul_one]) bv_one (by omega) (by simp only [maxLen]; omega) (fun ae ce w hS hce _ => ?_)
      rw [Nat.zero_add] at hce
      simp only [List.nil_append] at hS
      rw [Nat.zero_add]
      repeat (first | (refine X_id ?_; first | refine X_buildSlice rfl rfl rfl rfl rfl rfl rfl rfl hS (fun _ _ hS _ => ?_)) | (refine GO_id ?_; first | refine GO_pure rfl rfl (fun _ => Yl_build rfl rfl rfl) rfl rfl ?_ | refine GO_hard rfl rfl ?_) | (refine Keep_id ?_; first | refine And.intro (by repeat (first | exact trivial | refine And.intro (.inl (by decide +kernel)) ?_ | refine And.intro (.inr (by first | assumption | exact hS.cell | exact cell_at (by assumption) | exact hS.cellI (by omega) | exact hS.cellIP (by omega) | exact hS.cellsN | exact ((hr.rd hS).cellX (by omega) hx) | exact ((hr2.rd hS).cellX (by omega) hx2) | exact hS.cellB (by omega) | exact hS.cellBA (by omega) | exact (hb.rd hS).cellB' (by omega) | exact (hb2.rd hS).cellB' (by omega) | exact (hg.rd hS).cellI (by omega) | exact (hg2.rd hS).cellI (by omega) | exact ((hr.rd hS).cellF (by first | omega | (dsimp only; omega)) hx) | exact ((hr2.rd hS).cellF (by first | omega | (dsimp only; omega)) hx2) | exact hS.cellO 0 (by omega) | exact hS.cellO 1 (by omega) | exact hS.cellIA (by omega) | exact (hg.rd hS).cellIA (by omega) | exact (hg2.rd hS).cellIA (by omega) | exact cell_at (hc.rd hS).pts | exact hb.rd hS | exact (hr.rd hS).cellsF7 (by first | omega | (dsimp only; omega)) hst4 rfl | exact (hr2.rd hS).cellsF7 (by first | omega | (dsimp only; omega)) hst4 rfl | exact hS.cellO 4 (by omega) | exact hS.cellO 5 (by omega) | exact hS.cellO 6 (by omega) | exact hS.cellO 7 (by omega) | exact hS.cellO 8 (by omega) | exact hS.cellO 9 (by omega) | exact hS.cellO 10 (by omega) | exact hS.cellO 11 (by omega) | exact hS.cellO 12 (by omega) | exact hS.cellO 13 (by omega) | exact hS.cellO 2 (by omega) | exact hS.cellO 3 (by omega))) ?_)) ?_))
      refine X_append (T := 64) (a := a2) (m := 1) rfl rfl rfl rfl rfl hS (by rw [chg_len, hL2]) (by omega) ((hS.rd (List.mem_cons_self ..)).own_row) rfl (chg_one [⟨⟨x.c.no, cutN x.c.nd, x.c.drop⟩, ae, ce⟩]) (by omega) (by simp only [maxLen]; omega) (fun a2' c2' w hS hc2 _ => ?_)
      repeat (first | (refine G_id ?_; first | refine G_nil ?_ | refine G_plain rfl rfl ?_) | (refine X_id ?_; first | refine X_yl (Yl_move rfl rfl) rfl rfl ?_ | refine X_yl (Yl_assign rfl rfl) rfl rfl ?_ | refine X_yl (Yl_add rfl rfl rfl (w64 (by omega) (by omega))) rfl rfl ?_) | (refine C_id ?_; first | refine C_region ?_) | (refine E_id ?_; first | refine E_code ?_ | refine E_blk_n ?_) | (refine GO_id ?_; first | refine GO_nil ?_ | refine GO_pure rfl rfl (fun _ => Yl_assign rfl rfl) rfl rfl ?_) | (refine Keep_id ?_; first | refine And.intro (by repeat (first | exact trivial | refine And.intro (.inl (by decide +kernel)) ?_ | refine And.intro (.inr (by first | assumption | exact hS.cell | exact cell_at (by assumption) | exact hS.cellI (by omega) | exact hS.cellIP (by omega) | exact hS.cellsN | exact ((hr.rd hS).cellX (by omega) hx) | exact ((hr2.rd hS).cellX (by omega) hx2) | exact hS.cellB (by omega) | exact hS.cellBA (by omega) | exact (hb.rd hS).cellB' (by omega) | exact (hb2.rd hS).cellB' (by omega) | exact (hg.rd hS).cellI (by omega) | exact (hg2.rd hS).cellI (by omega) | exact ((hr.rd hS).cellF (by first | omega | (dsimp only; omega)) hx) | exact ((hr2.rd hS).cellF (by first | omega | (dsimp only; omega)) hx2) | exact hS.cellO 0 (by omega) | exact hS.cellO 1 (by omega) | exact hS.cellIA (by omega) | exact (hg.rd hS).cellIA (by omega) | exact (hg2.rd hS).cellIA (by omega) | exact cell_at (hc.rd hS).pts | exact hb.rd hS | exact (hr.rd hS).cellsF7 (by first | omega | (dsimp only; omega)) hst4 rfl | exact (hr2.rd hS).cellsF7 (by first | omega | (dsimp only; omega)) hst4 rfl | exact hS.cellO 4 (by omega) | exact hS.cellO 5 (by omega) | exact hS.cellO 6 (by omega) | exact hS.cellO 7 (by omega) | exact hS.cellO 8 (by omega) | exact hS.cellO 9 (by omega) | exact hS.cellO 10 (by omega) | exact hS.cellO 11 (by omega) | exact hS.cellO 12 (by omega) | exact hS.cellO 13 (by omega) | exact hS.cellO 2 (by omega) | exact hS.cellO 3 (by omega))) ?_)) ?_))
      have htm : ((l.take (i + 1)).map ChgA.c) = ((l.take i).map ChgA.c) ++ [x.c] := by rw [htk]; simp
      refine E_round (α := Nat × CZ) (z := (i, ⟨a1, c1, L1, D, a2, c2, L2, X⟩)) (i + 1, ⟨a1', c1', L1 ++ [⟨cutC x.c, ad, cd⟩], D ++ [⟨ad, cd, (cutC x.c).nd.data⟩], a2', c2', L2 ++ [⟨cutC x.c, ae, ce⟩], (ae, bv (cutC x.c).nd.data) :: X⟩) ⟨rfl, rfl, rfl, rfl, trivial⟩ ⟨by simp only; omega, by simp only; omega, ⟨?_, ?_, ?_, ?_, ?_, ?_⟩, ?_⟩ (by simp only; omega)
      · simp only; rw [htm, List.map_append, List.map_append, d1]; rfl
      · simp only; rw [htm, List.map_append, List.map_append, d2]; rfl
      · simp only [List.length_append, List.length_cons, List.length_nil]; omega
      · simp only [List.length_append, List.length_cons, List.length_nil]; omega
      · simp only; rw [List.map_append, ← o]; rfl
      · intro y hy
        rcases List.mem_append.1 hy with hy | hy
        · exact List.mem_cons_of_mem _ (x2 y hy)
        · rw [List.mem_singleton] at hy
          subst hy
          exact List.mem_cons_self ..
      · skip
        have hS := hS.pick [6, 6, 2, 5, 2, 0]
        have h2 := St.sepSnoc (r := obR 5 ⟨ad, cd, (cutC x.c).nd.data⟩) (l := D.map (obR 5)) hS
        have h3 := h2.pick [1, 1, 0, 0, 0]
        have h4 := St.bagAdd h3 (fun _ hh => own.row hh)
        have h5 := h4.pick [2, 2, 1, 0]
        simp only [obs, List.map_append, List.flatMap_append, List.map_cons, List.map_nil, List.flatMap_cons, List.flatMap_nil, List.append_nil]
        exact h5
    · obtain rfl : i = 6 := by omega
      repeat (first | (refine G_id ?_; first | refine G_nil ?_ | refine G_plain rfl rfl ?_ | refine G_yes rfl rfl rfl rfl ?_) | (refine X_id ?_; first | refine X_yl (Yl_move rfl rfl) rfl rfl ?_ | refine X_yl (Yl_assign rfl rfl) rfl rfl ?_ | refine X_yl (Yl_pick_t rfl rfl rfl) rfl rfl ?_ | refine X_yl (Yl_len rfl rfl) rfl rfl ?_ | refine X_yl (Yl_lss_t rfl rfl rfl (by omega)) rfl rfl ?_ | refine X_yl (Yl_lss_f rfl rfl rfl (by omega)) rfl rfl ?_) | (refine C_id ?_; first | refine C_seq ?_ | refine C_region ?_ | refine C_ret ?_ | refine C_exit ?_ | refine C_cond_f rfl ?_) | (refine E_id ?_; first | refine E_code ?_ | refine E_then_exit ?_ | refine E_blk_same ?_ | refine E_ret2 rfl (Rv_tmp rfl) (Rv_tmp rfl) (Ret.mk ?_)))
      exact ⟨⟨a1, c1, L1, D, a2, c2, L2, X⟩, by rw [hL1, hL2], ⟨d1, d2, k1, k2, o, x2⟩, hS⟩
  · obtain rfl : i = l.length := by omega
    rw [List.take_of_length_le hi6]
    rw [List.take_of_length_le (Nat.le_refl _)] at d1 d2
    repeat (first | (refine G_id ?_; first | refine G_nil ?_ | refine G_plain rfl rfl ?_ | refine G_no rfl rfl rfl rfl rfl rfl ?_) | (refine X_id ?_; first | refine X_yl (Yl_move rfl rfl) rfl rfl ?_ | refine X_yl (Yl_assign rfl rfl) rfl rfl ?_ | refine X_yl (Yl_pick_f rfl rfl rfl) rfl rfl ?_ | refine X_yl (Yl_len rfl rfl) rfl rfl ?_ | refine X_yl (Yl_lss_f rfl rfl rfl (by omega)) rfl rfl ?_) | (refine C_id ?_; first | refine C_seq ?_ | refine C_region ?_ | refine C_ret ?_ | refine C_exit ?_ | refine C_cond_f rfl ?_) | (refine E_id ?_; first | refine E_code ?_ | refine E_then_exit ?_ | refine E_blk_same ?_ | refine E_ret2 rfl (Rv_tmp rfl) (Rv_tmp rfl) (Ret.mk ?_)))
    exact ⟨⟨a1, c1, L1, D, a2, c2, L2, X⟩, by rw [hL1, hL2], ⟨d1, d2, k1, k2, o, x2⟩, hS⟩
end Cr
