/-
  Arrays of bytes compared. Over any program.
-/
import Derived.Test.YtobnnhlgdoddgaaDoorMkb
import Derived.Laws.StructEq
namespace Cr
open Go
set_option maxRecDepth 10000
section
variable {P : Program} {w : World} {t e : TypeId}
theorem run_equalIn_arr (d n : Nat) [h : Und P t (.array n e)] [he : Und P e (.int .u8)] [hs : Siz P e 1] [h1 : One P e] (a b : List UInt8) (ha : a.length = n) (hb : b.length = n) :
    (Op.equalIn (d + 2) t (.agg (bv a).toArray) (.agg (bv b).toArray)).run P w = .ok (decide (a = b)) w := by
  unfold Op.equalIn
  simp only [Sem.run_bind, run_underlying h.und, Result.andThen_ok, run_sizeOf (n := 1), Nat.mul_one]
  simp only [Std.Legacy.Range.forIn_eq_forIn_range']
  have hp : ∀ (l : List UInt8) (i : Nat) (hi : i < l.length), (part e (bv l).toArray i).run P w = .ok (.int .u8 (l[i].toNat : Int)) w := fun l i hi => by
    have := bv_get hi
    simp [part, h1.one, List.getElem?_toArray, this]
  have key : ∀ m s, s + m = n → (forIn (List.range' s m) (none, ()) (fun i (__s : Option Bool × Unit) => do
      let __do_lift ← part e (bv a).toArray i
      let __do_lift_1 ← part e (bv b).toArray i
      let __do_lift ← Op.equalIn (d + 1) e __do_lift __do_lift_1
      if (!__do_lift) = true then pure (ForInStep.done (some false, ())) else pure (ForInStep.yield (none, ()))) : Sem (Option Bool × Unit)).run P w = .ok (if a.drop s = b.drop s then none else some false, ()) w := by
    intro m
    induction m with
    | zero =>
      intro s hs
      rw [List.drop_of_length_le (by omega), List.drop_of_length_le (by omega)]
      simp
    | succ m ih =>
      intro s hs
      have hsa : s < a.length := by omega
      have hsb : s < b.length := by omega
      rw [List.range'_succ, List.forIn_cons]
      simp only [Sem.run_bind, hp a s hsa, hp b s hsb, Result.andThen_ok, run_equalIn_int w d e .u8 .u8 _ _ he.und]
      rw [List.drop_eq_getElem_cons hsa, List.drop_eq_getElem_cons hsb]
      by_cases hc : a[s] = b[s]
      · have e1 : ((a[s].toNat : Int) == (b[s].toNat : Int)) = true := by rw [hc]; simp
        rw [e1]
        simp only [Bool.not_true, Bool.false_eq_true, if_false, Sem.run_pure, Result.andThen_ok]
        rw [ih (s + 1) (by omega), hc]
        simp only [List.cons.injEq, true_and]
      · have e1 : ((a[s].toNat : Int) == (b[s].toNat : Int)) = false := by
          simp only [beq_eq_false_iff_ne, ne_eq]
          intro h
          exact hc (UInt8.toNat_inj.1 (by omega))
        rw [e1]
        simp only [Bool.not_false, if_true, Sem.run_pure, Result.andThen_ok]
        rw [if_neg (fun h => hc (List.cons.inj h).1)]
  have hz : [:n].size = n := by simp [Std.Legacy.Range.size]
  rw [hz, key n 0 (by omega)]
  by_cases hab : a = b <;> simp [hab]
end
section
variable {P : Program} {o : Oper} {σ : Env} {w : World} {x y : Operand} {t ty e : TypeId}
/-- Comparing arrays of this type asks no interface. -/
class NoGuard (P : Program) (t : TypeId) : Prop where
  no : P.eqGuardType P.depth t = false
theorem Yl_neqArr {n : Nat} {a b : List UInt8} (ho : o.op = .binOp .neq t x y ty) (hx : ev σ x = some (.agg (bv a).toArray)) (hy : ev σ y = some (.agg (bv b).toArray)) [h : Und P t (.array n e)] [he : Und P e (.int .u8)] [hs : Siz P e 1] [h1 : One P e] [hg : NoGuard P t] (ha : a.length = n) (hb : b.length = n) :
    Yl P o σ w (.bool (decide (¬ a = b))) := ⟨fun N ds f hf => by
  have h2 := run_eqGuard_agg (P := P) (w := w) .neq t x y (bv a).toArray (bv b).toArray hg.no
  have h3 := run_neq_struct (P := P) (w := w) t (bv a).toArray (bv b).toArray
  have h4 := run_equalIn_arr (P := P) (w := w) (t := t) (e := e) 9998 n a b ha hb
  have e1 : (!(decide (a = b))) = decide (¬ a = b) := by by_cases q : a = b <;> simp [q]
  simp only [execOp, ho, hf.eval hx, hf.eval hy, Sem.run_bind, h2, h3, h4, Result.andThen_ok, e1]
  rfl⟩
end
end Cr
