/-
  One lemma for each operation that the code of this seat holds; facts on the program's types as classes, whose instances a program writes. Over any program.
-/
import Derived.Test.YtobnnhlgdoddgaaDoorWp
namespace Cr
open Go

/-! ### facts on types -/
class Und (P : Program) (t : TypeId) (d : outParam TypeDesc) : Prop where
  und : P.underlying t = some d
class Siz (P : Program) (t : TypeId) (n : outParam Nat) : Prop where
  siz : (P.info? t).map (·.size) = some n
class Inf (P : Program) (t : TypeId) (z : outParam Value) (size bytes : outParam Nat) : Prop where
  inf : (P.info? t).map (fun i => (i.zero, i.size, i.bytes)) = some (some z, size, bytes)
  zs : z.cells.size = size
instance Inf.siz (P : Program) (t : TypeId) (z : Value) (size bytes : Nat) [h : Inf P t z size bytes] : Siz P t size := ⟨by
  obtain ⟨i, hi, _, hs, _⟩ := info_parts h.inf; simp [hi, hs]⟩
class One (P : Program) (t : TypeId) : Prop where
  one : ∀ w, (isAgg t).run P w = .ok false w
class Agg (P : Program) (t : TypeId) : Prop where
  agg : ∀ w, (isAgg t).run P w = .ok true w
section
variable {P : Program} {t : TypeId}
theorem run_isAgg {d : TypeDesc} (h : P.underlying t = some d) (w : World) : (isAgg t).run P w = .ok (match d with | .struct _ | .array _ _ => true | _ => false) w := by
  unfold isAgg; rw [Sem.run_bind, run_underlying h]; cases d <;> rfl
instance (k : IntKind) [h : Und P t (.int k)] : One P t := ⟨fun w => run_isAgg h.und w⟩
instance [h : Und P t .bool] : One P t := ⟨fun w => run_isAgg h.und w⟩
instance [h : Und P t .string] : One P t := ⟨fun w => run_isAgg h.und w⟩
instance (e : TypeId) [h : Und P t (.slice e)] : One P t := ⟨fun w => run_isAgg h.und w⟩
instance (e : TypeId) [h : Und P t (.pointer e)] : One P t := ⟨fun w => run_isAgg h.und w⟩
instance (k e : TypeId) [h : Und P t (.map k e)] : One P t := ⟨fun w => run_isAgg h.und w⟩
instance (a b : Array TypeId) (v : Bool) [h : Und P t (.func a b v)] : One P t := ⟨fun w => run_isAgg h.und w⟩
instance (ms : Array (String × TypeId)) [h : Und P t (.interface ms)] : One P t := ⟨fun w => run_isAgg h.und w⟩
instance (fs : Array Field) [h : Und P t (.struct fs)] : Agg P t := ⟨fun w => run_isAgg h.und w⟩
instance (n : Nat) (e : TypeId) [h : Und P t (.array n e)] : Agg P t := ⟨fun w => run_isAgg h.und w⟩
theorem run_sizeOf {n : Nat} [h : Siz P t n] (w : World) : (Go.sizeOf t).run P w = .ok n w := by
  have := h.siz
  cases hi : P.info? t with
  | none => rw [hi] at this; cases this
  | some i => rw [hi] at this; simp at this; simp [Go.sizeOf, typeInfo, hi, this]
end

/-! ### literal lists, element by element -/
class Nth (l : List Value) (n : Nat) (v : outParam Value) : Prop where
  nth : l[n]? = some v
instance (v : Value) (l : List Value) : Nth (v :: l) 0 v := ⟨rfl⟩
instance (u v : Value) (l : List Value) (n : Nat) [h : Nth l n v] : Nth (u :: l) (n + 1) v := ⟨by simpa using h.nth⟩
/-- l with vs laid over it from place n on. -/
class Spl (l : List Value) (n : Nat) (vs : List Value) (l' : outParam (List Value)) : Prop where
  spl : n + vs.length ≤ l.length ∧ l.take n ++ vs ++ l.drop (n + vs.length) = l'
instance (l : List Value) : Spl l 0 [] l := ⟨by simp⟩
instance (u v : Value) (l vs l' : List Value) [h : Spl l 0 vs l'] : Spl (u :: l) 0 (v :: vs) (v :: l') := ⟨by
  have := h.spl; simp at this ⊢; exact this⟩
instance (u : Value) (l vs l' : List Value) (n : Nat) [h : Spl l n vs l'] : Spl (u :: l) (n + 1) vs (u :: l') := ⟨by
  have := h.spl
  rw [show n + 1 + vs.length = (n + vs.length) + 1 by omega]
  simp only [List.length_cons, List.take_succ_cons, List.drop_succ_cons, List.cons_append]
  exact ⟨by omega, by rw [this.2]⟩⟩

/-! ### the resources of a run: find one, change one -/
class Has (rs : List Res) (b : Nat) (o : outParam Obj) : Prop where
  has : ∃ rest, rs.Perm (pts b o :: rest)
instance (b : Nat) (o : Obj) (rs : List Res) : Has (pts b o :: rs) b o := ⟨rs, .refl _⟩
instance (r : Res) (rs : List Res) (b : Nat) (o : Obj) [h : Has rs b o] : Has (r :: rs) b o := ⟨by
  obtain ⟨rest, p⟩ := h.has
  exact ⟨r :: rest, (List.Perm.cons r p).trans (.swap _ _ _)⟩⟩
class Upd (rs : List Res) (b : Nat) (o' : Obj) (rs' : outParam (List Res)) : Prop where
  upd : ∃ o rest, rs.Perm (pts b o :: rest) ∧ rs'.Perm (pts b o' :: rest)
instance (b : Nat) (o o' : Obj) (rs : List Res) : Upd (pts b o :: rs) b o' (pts b o' :: rs) := ⟨o, rs, .refl _, .refl _⟩
instance (r : Res) (rs rs' : List Res) (b : Nat) (o' : Obj) [h : Upd rs b o' rs'] : Upd (r :: rs) b o' (r :: rs') := ⟨by
  obtain ⟨o, rest, p, p'⟩ := h.upd
  exact ⟨o, r :: rest, (List.Perm.cons r p).trans (.swap _ _ _), (List.Perm.cons r p').trans (.swap _ _ _)⟩⟩
section
variable {W : World} {F : Nat → Prop} {rs : List Res} {w : World}
theorem St.has {b : Nat} {o : Obj} (hS : St W F rs w) [h : Has rs b o] : w.heap[b]? = some o := by
  obtain ⟨rest, p⟩ := h.has
  exact (hS.perm p).get
theorem cell_at {w : World} {b off : Nat} {l : List Value} {T : TypeId} {fz : Nat × Nat} {v : Value} (h : w.heap[b]? = some (.cells l.toArray T fz)) [hv : Nth l off v] : w.cell? ⟨b, off, none⟩ = some v := by
  rw [cell_of_row w b off _ T fz h]; simpa using hv.nth
theorem Rd.pts {w : World} {b : Nat} {o : Obj} (h : Rd w (pts b o)) : w.heap[b]? = some o := by
  obtain ⟨f, rfl, ha⟩ := h
  exact ha b o (single_self b o)
theorem Rd.sep {w : World} {rs : List Res} (h : Rd w (Sep rs)) : ∀ r ∈ rs, Rd w r := by
  obtain ⟨f, hs, ha⟩ := h
  induction rs generalizing f with
  | nil => intro r hr; cases hr
  | cons x rs ih =>
    obtain ⟨h1, h2, hx, hrs, hd, hu⟩ := hs
    have s1 : ∀ b o, h1 b = some o → f b = some o := fun b o e => by rw [hu, e]; rfl
    have s2 : ∀ b o, h2 b = some o → f b = some o := fun b o e => by
      rw [hu]; rcases hd b with e' | e'
      · simp [e', e]
      · rw [e] at e'; simp at e'
    intro r hr
    cases hr with
    | head => exact ⟨h1, hx, fun b o e => ha b o (s1 b o e)⟩
    | tail _ hr => exact ih h2 hrs (fun b o e => ha b o (s2 b o e)) r hr
theorem St.cell {b off : Nat} {l : List Value} {T : TypeId} {fz : Nat × Nat} {v : Value} (hS : St W F rs w) [h : Has rs b (.cells l.toArray T fz)] [hv : Nth l off v] : w.cell? ⟨b, off, none⟩ = some v := by
  rw [cell_of_row w b off _ T fz hS.has]; simpa using hv.nth
theorem St.upd {b : Nat} {o' : Obj} {rs' : List Res} {w' : World} (hS : St W F rs w) [h : Upd rs b o' rs'] (u : SetBlock w w' b o') : St W F rs' w' := by
  obtain ⟨o, rest, p, p'⟩ := h.upd
  exact ((hS.perm p).set u).perm p'.symm
end

/-! ### worlds -/
theorem setBlock_row {w : World} {b : Nat} {cs : Array Value} {t : TypeId} {fr : Nat × Nat} (h : w.heap[b]? = some (.cells cs t fr)) (cs' : Array Value) : SetBlock w (w.setRow b cs') b (.cells cs' t fr) :=
  ⟨by simp, setRow_heap w b cs cs' t fr h, fun k hk => setRow_other w b k cs' hk, rfl, rfl, rfl⟩

section
variable {P : Program} {o : Oper} {σ : Env} {w : World} {N : Nat} {ds : Md} {K : Env → World → Prop}

/-! ### operations that touch nothing -/
theorem Yl_move {x : Operand} {v : Value} (ho : o.op = .move x) (hx : ev σ x = some v) : Yl P o σ w v := ⟨fun N ds a ha => by
  simp [execOp, ho, ha.eval hx]⟩
theorem Yl_assign {x : Operand} {v : Value} (ho : o.op = .assign x) (hx : ev σ x = some v) : Yl P o σ w v := ⟨fun N ds a ha => by
  simp [execOp, ho, ha.eval hx]⟩
theorem Yl_pick_t {c x y : Operand} {v : Value} (ho : o.op = .pick c x y) (hc : ev σ c = some (.bool true)) (hx : ev σ x = some v) : Yl P o σ w v := ⟨fun N ds a ha => by
  simp [execOp, ho, ha.eval hx, ha.eval hc, asBool]⟩
theorem Yl_pick_f {c x y : Operand} {v : Value} (ho : o.op = .pick c x y) (hc : ev σ c = some (.bool false)) (hx : ev σ y = some v) : Yl P o σ w v := ⟨fun N ds a ha => by
  simp [execOp, ho, ha.eval hx, ha.eval hc, asBool]⟩
theorem Yl_nilCheck {x : Operand} {ad : Addr} (ho : o.op = .nilCheck x) (hx : ev σ x = some (.pointer (some ad))) : Yl P o σ w (.pointer (some ad)) := ⟨fun N ds a ha => by
  simp [execOp, ho, ha.eval hx]⟩
theorem Yl_not {x : Operand} {t : TypeId} {p : Prop} [Decidable p] (ho : o.op = .unOp .not t x) (hx : ev σ x = some (.bool (decide p))) : Yl P o σ w (.bool (decide (¬ p))) := ⟨fun N ds a ha => by
  simp [execOp, ho, ha.eval hx, Op.unary]⟩
theorem Yl_not_t {x : Operand} {t : TypeId} (ho : o.op = .unOp .not t x) (hx : ev σ x = some (.bool true)) : Yl P o σ w (.bool false) := ⟨fun N ds a ha => by
  simp [execOp, ho, ha.eval hx, Op.unary]⟩
theorem Yl_not_f {x : Operand} {t : TypeId} (ho : o.op = .unOp .not t x) (hx : ev σ x = some (.bool false)) : Yl P o σ w (.bool true) := ⟨fun N ds a ha => by
  simp [execOp, ho, ha.eval hx, Op.unary]⟩
theorem Yl_not_b {x : Operand} {t : TypeId} {b : Bool} (ho : o.op = .unOp .not t x) (hx : ev σ x = some (.bool b)) : Yl P o σ w (.bool (!b)) := ⟨fun N ds a ha => by
  simp [execOp, ho, ha.eval hx, Op.unary]⟩
theorem w64 {n : Int} (h : -9223372036854775808 ≤ n) (h' : n ≤ 9223372036854775807) : IntKind.i64.wrap n = n := by
  rw [IntKind.wrap_i64]; omega
theorem Yl_neg {x : Operand} {t : TypeId} {k : IntKind} {a v : Int} (ho : o.op = .unOp .neg t x) (hx : ev σ x = some (.int k a)) (hv : k.wrap (0 - a) = v) : Yl P o σ w (.int k v) := ⟨fun N ds f ha => by
  simp only [execOp, ho, ha.eval hx, Op.unary, Op.intArith, hv]; rfl⟩
section
variable {x y : Operand} {t ty : TypeId} {k : IntKind} {a b v : Int}
theorem Yl_add (ho : o.op = .binOp .add t x y ty) (hx : ev σ x = some (.int k a)) (hy : ev σ y = some (.int k b)) (hv : k.wrap (a + b) = v) : Yl P o σ w (.int k v) := ⟨fun N ds f ha => by
  simp only [execOp, ho, ha.eval hx, ha.eval hy, binOp, eqGuard, Op.intArith, ne_eq, not_true_eq_false, if_false, hv]; rfl⟩
theorem Yl_sub (ho : o.op = .binOp .sub t x y ty) (hx : ev σ x = some (.int k a)) (hy : ev σ y = some (.int k b)) (hv : k.wrap (a - b) = v) : Yl P o σ w (.int k v) := ⟨fun N ds f ha => by
  simp only [execOp, ho, ha.eval hx, ha.eval hy, binOp, eqGuard, Op.intArith, ne_eq, not_true_eq_false, if_false, hv]; rfl⟩
theorem Yl_mul (ho : o.op = .binOp .mul t x y ty) (hx : ev σ x = some (.int k a)) (hy : ev σ y = some (.int k b)) (hv : k.wrap (a * b) = v) : Yl P o σ w (.int k v) := ⟨fun N ds f ha => by
  simp only [execOp, ho, ha.eval hx, ha.eval hy, binOp, eqGuard, Op.intArith, ne_eq, not_true_eq_false, if_false, hv]; rfl⟩
theorem Yl_quo (ho : o.op = .binOp .quo t x y ty) (hx : ev σ x = some (.int k a)) (hy : ev σ y = some (.int k b)) (hb : b ≠ 0) (hv : k.wrap (a.tdiv b) = v) : Yl P o σ w (.int k v) := ⟨fun N ds f ha => by
  simp only [execOp, ho, ha.eval hx, ha.eval hy, binOp, eqGuard, Op.intDiv, ne_eq, not_true_eq_false, if_false, hv, if_neg hb]; rfl⟩
theorem Yl_rem (ho : o.op = .binOp .rem t x y ty) (hx : ev σ x = some (.int k a)) (hy : ev σ y = some (.int k b)) (hb : b ≠ 0) (hv : a.tmod b = v) : Yl P o σ w (.int k v) := ⟨fun N ds f ha => by
  simp only [execOp, ho, ha.eval hx, ha.eval hy, binOp, eqGuard, Op.intDiv, ne_eq, not_true_eq_false, if_false, hv, if_neg hb]; rfl⟩
theorem Yl_eql (ho : o.op = .binOp .eql t x y ty) (hx : ev σ x = some (.int k a)) (hy : ev σ y = some (.int k b)) : Yl P o σ w (.bool (decide (a = b))) := ⟨fun N ds f ha => by
  simp only [execOp, ho, ha.eval hx, ha.eval hy, binOp, eqGuard, Op.intCmp, ne_eq, not_true_eq_false, if_false]; rfl⟩
theorem Yl_neq (ho : o.op = .binOp .neq t x y ty) (hx : ev σ x = some (.int k a)) (hy : ev σ y = some (.int k b)) : Yl P o σ w (.bool (decide (¬ a = b))) := ⟨fun N ds f ha => by
  simp only [execOp, ho, ha.eval hx, ha.eval hy, binOp, eqGuard, Op.intCmp, ne_eq, not_true_eq_false, if_false]
  by_cases h : a = b <;> simp [h]⟩
theorem Yl_lss (ho : o.op = .binOp .lss t x y ty) (hx : ev σ x = some (.int k a)) (hy : ev σ y = some (.int k b)) : Yl P o σ w (.bool (decide (a < b))) := ⟨fun N ds f ha => by
  simp only [execOp, ho, ha.eval hx, ha.eval hy, binOp, eqGuard, Op.intCmp, ne_eq, not_true_eq_false, if_false]; rfl⟩
theorem Yl_leq (ho : o.op = .binOp .leq t x y ty) (hx : ev σ x = some (.int k a)) (hy : ev σ y = some (.int k b)) : Yl P o σ w (.bool (decide (a ≤ b))) := ⟨fun N ds f ha => by
  simp only [execOp, ho, ha.eval hx, ha.eval hy, binOp, eqGuard, Op.intCmp, ne_eq, not_true_eq_false, if_false]; rfl⟩
theorem Yl_gtr (ho : o.op = .binOp .gtr t x y ty) (hx : ev σ x = some (.int k a)) (hy : ev σ y = some (.int k b)) : Yl P o σ w (.bool (decide (b < a))) := ⟨fun N ds f ha => by
  simp only [execOp, ho, ha.eval hx, ha.eval hy, binOp, eqGuard, Op.intCmp, ne_eq, not_true_eq_false, if_false]; rfl⟩
theorem Yl_geq (ho : o.op = .binOp .geq t x y ty) (hx : ev σ x = some (.int k a)) (hy : ev σ y = some (.int k b)) : Yl P o σ w (.bool (decide (b ≤ a))) := ⟨fun N ds f ha => by
  simp only [execOp, ho, ha.eval hx, ha.eval hy, binOp, eqGuard, Op.intCmp, ne_eq, not_true_eq_false, if_false]; rfl⟩
theorem Yl_eql_t (ho : o.op = .binOp .eql t x y ty) (hx : ev σ x = some (.int k a)) (hy : ev σ y = some (.int k b)) (hp : a = b) : Yl P o σ w (.bool true) := by
  have := Yl_eql (P := P) (w := w) ho hx hy
  rwa [decide_eq_true hp] at this
theorem Yl_eql_f (ho : o.op = .binOp .eql t x y ty) (hx : ev σ x = some (.int k a)) (hy : ev σ y = some (.int k b)) (hp : ¬ (a = b)) : Yl P o σ w (.bool false) := by
  have := Yl_eql (P := P) (w := w) ho hx hy
  rwa [decide_eq_false hp] at this
theorem Yl_neq_t (ho : o.op = .binOp .neq t x y ty) (hx : ev σ x = some (.int k a)) (hy : ev σ y = some (.int k b)) (hp : ¬ a = b) : Yl P o σ w (.bool true) := by
  have := Yl_neq (P := P) (w := w) ho hx hy
  rwa [decide_eq_true hp] at this
theorem Yl_neq_f (ho : o.op = .binOp .neq t x y ty) (hx : ev σ x = some (.int k a)) (hy : ev σ y = some (.int k b)) (hp : ¬ (¬ a = b)) : Yl P o σ w (.bool false) := by
  have := Yl_neq (P := P) (w := w) ho hx hy
  rwa [decide_eq_false hp] at this
theorem Yl_lss_t (ho : o.op = .binOp .lss t x y ty) (hx : ev σ x = some (.int k a)) (hy : ev σ y = some (.int k b)) (hp : a < b) : Yl P o σ w (.bool true) := by
  have := Yl_lss (P := P) (w := w) ho hx hy
  rwa [decide_eq_true hp] at this
theorem Yl_lss_f (ho : o.op = .binOp .lss t x y ty) (hx : ev σ x = some (.int k a)) (hy : ev σ y = some (.int k b)) (hp : ¬ (a < b)) : Yl P o σ w (.bool false) := by
  have := Yl_lss (P := P) (w := w) ho hx hy
  rwa [decide_eq_false hp] at this
theorem Yl_leq_t (ho : o.op = .binOp .leq t x y ty) (hx : ev σ x = some (.int k a)) (hy : ev σ y = some (.int k b)) (hp : a ≤ b) : Yl P o σ w (.bool true) := by
  have := Yl_leq (P := P) (w := w) ho hx hy
  rwa [decide_eq_true hp] at this
theorem Yl_leq_f (ho : o.op = .binOp .leq t x y ty) (hx : ev σ x = some (.int k a)) (hy : ev σ y = some (.int k b)) (hp : ¬ (a ≤ b)) : Yl P o σ w (.bool false) := by
  have := Yl_leq (P := P) (w := w) ho hx hy
  rwa [decide_eq_false hp] at this
theorem Yl_gtr_t (ho : o.op = .binOp .gtr t x y ty) (hx : ev σ x = some (.int k a)) (hy : ev σ y = some (.int k b)) (hp : b < a) : Yl P o σ w (.bool true) := by
  have := Yl_gtr (P := P) (w := w) ho hx hy
  rwa [decide_eq_true hp] at this
theorem Yl_gtr_f (ho : o.op = .binOp .gtr t x y ty) (hx : ev σ x = some (.int k a)) (hy : ev σ y = some (.int k b)) (hp : ¬ (b < a)) : Yl P o σ w (.bool false) := by
  have := Yl_gtr (P := P) (w := w) ho hx hy
  rwa [decide_eq_false hp] at this
theorem Yl_geq_t (ho : o.op = .binOp .geq t x y ty) (hx : ev σ x = some (.int k a)) (hy : ev σ y = some (.int k b)) (hp : b ≤ a) : Yl P o σ w (.bool true) := by
  have := Yl_geq (P := P) (w := w) ho hx hy
  rwa [decide_eq_true hp] at this
theorem Yl_geq_f (ho : o.op = .binOp .geq t x y ty) (hx : ev σ x = some (.int k a)) (hy : ev σ y = some (.int k b)) (hp : ¬ (b ≤ a)) : Yl P o σ w (.bool false) := by
  have := Yl_geq (P := P) (w := w) ho hx hy
  rwa [decide_eq_false hp] at this
end
end
end Cr
