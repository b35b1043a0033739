/-
  One lemma for each operation that the code of this seat holds; facts on the program's types as classes,whose instances a program writes. Over any program.
  Places in memory,slices as resources,and the operations that read or write memory or make it. Over any program.
  Structs and slices that a run makes: build,make,append,copy,slicing. Over any program.
  Slicing,copy,arrays' slices; stores whose cells are known as a list only. Over any program.
  Calls of functions without a Go body (sync/atomic,internal/race),deferred calls. Over any program.
-/
import Derived.Test.YtjpjbgkjfdhjjaaGreatDoorBsl1
namespace Cr
open Go
set_option maxHeartbeats 64000000

/-! ### facts on types -/
class Und (P : Program) (t : TypeId) (d : outParam TypeDesc) : Prop where
 und : P.underlying t = some d
class Siz (P : Program) (t : TypeId) (n : outParam Nat) : Prop where
 siz : (P.info? t).map (·.size) = some n
class Inf (P : Program) (t : TypeId) (z : outParam Value) (size bytes : outParam Nat) : Prop where
 inf : (P.info? t).map (fun i => (i.zero,i.size,i.bytes)) = some (some z,size,bytes)
 zs : z.cells.size = size
instance Inf.siz (P : Program) (t : TypeId) (z : Value) (size bytes : Nat) [h : Inf P t z size bytes] : Siz P t size := ⟨by
 obtain ⟨i,hi,_,hs,_⟩ := info_parts h.inf; simp [hi,hs]⟩
class One (P : Program) (t : TypeId) : Prop where
 one : ∀ w,(isAgg t).run P w = .ok false w
class Agg (P : Program) (t : TypeId) : Prop where
 agg : ∀ w,(isAgg t).run P w = .ok true w
section
variable {P : Program} {t : TypeId}
theorem Zc5 {d : TypeDesc} (h : P.underlying t = some d) (w : World) : (isAgg t).run P w = .ok (match d with | .struct _ | .array _ _ => true | _ => false) w := by
 unfold isAgg; rw [Sem.run_bind,run_underlying h]; cases d <;> rfl
instance (k : IntKind) [h : Und P t (.int k)] : One P t := ⟨fun w => Zc5 h.und w⟩
instance [h : Und P t .bool] : One P t := ⟨fun w => Zc5 h.und w⟩
instance [h : Und P t .string] : One P t := ⟨fun w => Zc5 h.und w⟩
instance (e : TypeId) [h : Und P t (.slice e)] : One P t := ⟨fun w => Zc5 h.und w⟩
instance (e : TypeId) [h : Und P t (.pointer e)] : One P t := ⟨fun w => Zc5 h.und w⟩
instance (k e : TypeId) [h : Und P t (.map k e)] : One P t := ⟨fun w => Zc5 h.und w⟩
instance (n : Nat) (e : TypeId) [h : Und P t (.array n e)] : Agg P t := ⟨fun w => Zc5 h.und w⟩
theorem Zbh {n : Nat} [h : Siz P t n] (w : World) : (Go.sizeOf t).run P w = .ok n w := by
 have := h.siz
 cases hi : P.info? t with
 | none => rw [hi] at this; cases this
 | some i => rw [hi] at this; simp at this; simp [Go.sizeOf,typeInfo,hi,this]
end

/-! ### literal lists,element by element -/
class Nth (l : List Value) (n : Nat) (v : outParam Value) : Prop where
 nth : l[n]? = some v
instance (v : Value) (l : List Value) : Nth (v :: l) 0 v := ⟨rfl⟩
instance (u v : Value) (l : List Value) (n : Nat) [h : Nth l n v] : Nth (u :: l) (n + 1) v := ⟨by simpa using h.nth⟩
class Spl (l : List Value) (n : Nat) (vs : List Value) (l' : outParam (List Value)) : Prop where
 spl : n + vs.length ≤ l.length ∧ l.take n ++ vs ++ l.drop (n + vs.length) = l'
instance (l : List Value) : Spl l 0 [] l := ⟨by simp⟩
instance (u v : Value) (l vs l' : List Value) [h : Spl l 0 vs l'] : Spl (u :: l) 0 (v :: vs) (v :: l') := ⟨by
 have := h.spl; simp at this ⊢; exact this⟩
instance (u : Value) (l vs l' : List Value) (n : Nat) [h : Spl l n vs l'] : Spl (u :: l) (n + 1) vs (u :: l') := ⟨by
 have := h.spl
 rw [show n + 1 + vs.length = (n + vs.length) + 1 by omega]
 simp only [List.length_cons,List.take_succ_cons,List.drop_succ_cons,List.cons_append]
 exact ⟨by omega,by rw [this.2]⟩⟩

/-! ### the resources of a run: find one,change one -/
class Has (rs : List Res) (b : Nat) (o : outParam Obj) : Prop where
 has : ∃ rest,rs.Perm (pts b o :: rest)
instance (b : Nat) (o : Obj) (rs : List Res) : Has (pts b o :: rs) b o := ⟨rs,.refl _⟩
instance (r : Res) (rs : List Res) (b : Nat) (o : Obj) [h : Has rs b o] : Has (r :: rs) b o := ⟨by
 obtain ⟨rest,p⟩ := h.has
 exact ⟨r :: rest,(List.Perm.cons r p).trans (.swap _ _ _)⟩⟩
class Upd (rs : List Res) (b : Nat) (o' : Obj) (rs' : outParam (List Res)) : Prop where
 upd : ∃ o rest,rs.Perm (pts b o :: rest) ∧ rs'.Perm (pts b o' :: rest)
instance (b : Nat) (o o' : Obj) (rs : List Res) : Upd (pts b o :: rs) b o' (pts b o' :: rs) := ⟨o,rs,.refl _,.refl _⟩
instance (r : Res) (rs rs' : List Res) (b : Nat) (o' : Obj) [h : Upd rs b o' rs'] : Upd (r :: rs) b o' (r :: rs') := ⟨by
 obtain ⟨o,rest,p,p'⟩ := h.upd
 exact ⟨o,r :: rest,(List.Perm.cons r p).trans (.swap _ _ _),(List.Perm.cons r p').trans (.swap _ _ _)⟩⟩
section
variable {W : World} {F : Nat → Prop} {rs : List Res} {w : World}
theorem St.has {b : Nat} {o : Obj} (hS : St W F rs w) [h : Has rs b o] : w.heap[b]? = some o := by
 obtain ⟨rest,p⟩ := h.has
 exact (hS.perm p).get
theorem Zdf {w : World} {b off : Nat} {l : List Value} {T : TypeId} {fz : Nat × Nat} {v : Value} (h : w.heap[b]? = some (.cells l.toArray T fz)) [hv : Nth l off v] : w.cell? ⟨b,off,none⟩ = some v := by
 rw [cell_of_row w b off _ T fz h]; simpa using hv.nth
theorem Rd.pts {w : World} {b : Nat} {o : Obj} (h : Rd w (pts b o)) : w.heap[b]? = some o := by
 obtain ⟨f,rfl,ha⟩ := h
 exact ha b o (Zan b o)
theorem Rd.sep {w : World} {rs : List Res} (h : Rd w (Sep rs)) : ∀ r ∈ rs,Rd w r := by
 obtain ⟨f,hs,ha⟩ := h
 induction rs generalizing f with
 | nil => intro r hr; cases hr
 | cons x rs ih =>
  obtain ⟨h1,h2,hx,hrs,hd,hu⟩ := hs
  have s1 : ∀ b o,h1 b = some o → f b = some o := fun b o e => by rw [hu,e]; rfl
  have s2 : ∀ b o,h2 b = some o → f b = some o := fun b o e => by
   rw [hu]; rcases hd b with e' | e'
   ·simp [e',e]
   ·rw [e] at e'; simp at e'
  intro r hr
  cases hr with
  | head => exact ⟨h1,hx,fun b o e => ha b o (s1 b o e)⟩
  | tail _ hr => exact ih h2 hrs (fun b o e => ha b o (s2 b o e)) r hr
theorem St.cell {b off : Nat} {l : List Value} {T : TypeId} {fz : Nat × Nat} {v : Value} (hS : St W F rs w) [h : Has rs b (.cells l.toArray T fz)] [hv : Nth l off v] : w.cell? ⟨b,off,none⟩ = some v := by
 rw [cell_of_row w b off _ T fz hS.has]; simpa using hv.nth
theorem St.upd {b : Nat} {o' : Obj} {rs' : List Res} {w' : World} (hS : St W F rs w) [h : Upd rs b o' rs'] (u : SetBlock w w' b o') : St W F rs' w' := by
 obtain ⟨o,rest,p,p'⟩ := h.upd
 exact ((hS.perm p).set u).perm p'.symm
end

/-! ### worlds -/
theorem Zbr {w : World} {b : Nat} {cs : Array Value} {t : TypeId} {fr : Nat × Nat} (h : w.heap[b]? = some (.cells cs t fr)) (cs' : Array Value) : SetBlock w (w.setRow b cs') b (.cells cs' t fr) :=
 ⟨by simp,setRow_heap w b cs cs' t fr h,fun k hk => setRow_other w b k cs' hk,rfl,rfl,rfl⟩

section
variable {P : Program} {o : Oper} {σ : Env} {w : World} {N : Nat} {ds : Md} {K : Env → World → Prop}

/-! ### operations that touch nothing -/
theorem Zcn {x : Operand} {v : Value} (ho : o.op = .move x) (hx : ev σ x = some v) : Yl P o σ w v := ⟨fun N ds a ha => by
 simp [execOp,ho,ha.eval hx]⟩
theorem Zbu {x : Operand} {v : Value} (ho : o.op = .assign x) (hx : ev σ x = some v) : Yl P o σ w v := ⟨fun N ds a ha => by
 simp [execOp,ho,ha.eval hx]⟩
theorem Zk6 {c x y : Operand} {v : Value} (ho : o.op = .pick c x y) (hc : ev σ c = some (.bool true)) (hx : ev σ x = some v) : Yl P o σ w v := ⟨fun N ds a ha => by
 simp [execOp,ho,ha.eval hx,ha.eval hc,asBool]⟩
theorem Zh2 {c x y : Operand} {v : Value} (ho : o.op = .pick c x y) (hc : ev σ c = some (.bool false)) (hx : ev σ y = some v) : Yl P o σ w v := ⟨fun N ds a ha => by
 simp [execOp,ho,ha.eval hx,ha.eval hc,asBool]⟩
theorem Zg0 {x : Operand} {ad : Addr} (ho : o.op = .nilCheck x) (hx : ev σ x = some (.pointer (some ad))) : Yl P o σ w (.pointer (some ad)) := ⟨fun N ds a ha => by
 simp [execOp,ho,ha.eval hx]⟩
theorem Z7h {x : Operand} {t : TypeId} {p : Prop} [Decidable p] (ho : o.op = .unOp .not t x) (hx : ev σ x = some (.bool (decide p))) : Yl P o σ w (.bool (decide (¬ p))) := ⟨fun N ds a ha => by
 simp [execOp,ho,ha.eval hx,Op.unary]⟩
theorem Zjl {x : Operand} {t : TypeId} (ho : o.op = .unOp .not t x) (hx : ev σ x = some (.bool true)) : Yl P o σ w (.bool false) := ⟨fun N ds a ha => by
 simp [execOp,ho,ha.eval hx,Op.unary]⟩
theorem Z0t {x : Operand} {t : TypeId} (ho : o.op = .unOp .not t x) (hx : ev σ x = some (.bool false)) : Yl P o σ w (.bool true) := ⟨fun N ds a ha => by
 simp [execOp,ho,ha.eval hx,Op.unary]⟩
theorem Znr {x : Operand} {t : TypeId} {b : Bool} (ho : o.op = .unOp .not t x) (hx : ev σ x = some (.bool b)) : Yl P o σ w (.bool (!b)) := ⟨fun N ds a ha => by
 simp [execOp,ho,ha.eval hx,Op.unary]⟩
theorem w64 {n : Int} (h : -9223372036854775808 ≤ n) (h' : n ≤ 9223372036854775807) : IntKind.i64.wrap n = n := by
 rw [IntKind.wrap_i64]; omega
section
variable {x y : Operand} {t ty : TypeId} {k : IntKind} {a b v : Int}
theorem Zme (ho : o.op = .binOp .add t x y ty) (hx : ev σ x = some (.int k a)) (hy : ev σ y = some (.int k b)) (hv : k.wrap (a + b) = v) : Yl P o σ w (.int k v) := ⟨fun N ds f ha => by
 simp only [execOp,ho,ha.eval hx,ha.eval hy,binOp,eqGuard,Op.intArith,ne_eq,not_true_eq_false,if_false,hv]; rfl⟩
theorem Zs6 (ho : o.op = .binOp .sub t x y ty) (hx : ev σ x = some (.int k a)) (hy : ev σ y = some (.int k b)) (hv : k.wrap (a - b) = v) : Yl P o σ w (.int k v) := ⟨fun N ds f ha => by
 simp only [execOp,ho,ha.eval hx,ha.eval hy,binOp,eqGuard,Op.intArith,ne_eq,not_true_eq_false,if_false,hv]; rfl⟩
theorem Zpq (ho : o.op = .binOp .mul t x y ty) (hx : ev σ x = some (.int k a)) (hy : ev σ y = some (.int k b)) (hv : k.wrap (a * b) = v) : Yl P o σ w (.int k v) := ⟨fun N ds f ha => by
 simp only [execOp,ho,ha.eval hx,ha.eval hy,binOp,eqGuard,Op.intArith,ne_eq,not_true_eq_false,if_false,hv]; rfl⟩
theorem Zxz (ho : o.op = .binOp .quo t x y ty) (hx : ev σ x = some (.int k a)) (hy : ev σ y = some (.int k b)) (hb : b ≠ 0) (hv : k.wrap (a.tdiv b) = v) : Yl P o σ w (.int k v) := ⟨fun N ds f ha => by
 simp only [execOp,ho,ha.eval hx,ha.eval hy,binOp,eqGuard,Op.intDiv,ne_eq,not_true_eq_false,if_false,hv,if_neg hb]; rfl⟩
theorem Zxy (ho : o.op = .binOp .rem t x y ty) (hx : ev σ x = some (.int k a)) (hy : ev σ y = some (.int k b)) (hb : b ≠ 0) (hv : a.tmod b = v) : Yl P o σ w (.int k v) := ⟨fun N ds f ha => by
 simp only [execOp,ho,ha.eval hx,ha.eval hy,binOp,eqGuard,Op.intDiv,ne_eq,not_true_eq_false,if_false,hv,if_neg hb]; rfl⟩
theorem Zpv (ho : o.op = .binOp .eql t x y ty) (hx : ev σ x = some (.int k a)) (hy : ev σ y = some (.int k b)) : Yl P o σ w (.bool (decide (a = b))) := ⟨fun N ds f ha => by
 simp only [execOp,ho,ha.eval hx,ha.eval hy,binOp,eqGuard,Op.intCmp,ne_eq,not_true_eq_false,if_false]; rfl⟩
theorem Zx0 (ho : o.op = .binOp .neq t x y ty) (hx : ev σ x = some (.int k a)) (hy : ev σ y = some (.int k b)) : Yl P o σ w (.bool (decide (¬ a = b))) := ⟨fun N ds f ha => by
 simp only [execOp,ho,ha.eval hx,ha.eval hy,binOp,eqGuard,Op.intCmp,ne_eq,not_true_eq_false,if_false]
 by_cases h : a = b <;> simp [h]⟩
theorem Zps (ho : o.op = .binOp .lss t x y ty) (hx : ev σ x = some (.int k a)) (hy : ev σ y = some (.int k b)) : Yl P o σ w (.bool (decide (a < b))) := ⟨fun N ds f ha => by
 simp only [execOp,ho,ha.eval hx,ha.eval hy,binOp,eqGuard,Op.intCmp,ne_eq,not_true_eq_false,if_false]; rfl⟩
theorem Zx1 (ho : o.op = .binOp .leq t x y ty) (hx : ev σ x = some (.int k a)) (hy : ev σ y = some (.int k b)) : Yl P o σ w (.bool (decide (a ≤ b))) := ⟨fun N ds f ha => by
 simp only [execOp,ho,ha.eval hx,ha.eval hy,binOp,eqGuard,Op.intCmp,ne_eq,not_true_eq_false,if_false]; rfl⟩
theorem Zx3 (ho : o.op = .binOp .gtr t x y ty) (hx : ev σ x = some (.int k a)) (hy : ev σ y = some (.int k b)) : Yl P o σ w (.bool (decide (b < a))) := ⟨fun N ds f ha => by
 simp only [execOp,ho,ha.eval hx,ha.eval hy,binOp,eqGuard,Op.intCmp,ne_eq,not_true_eq_false,if_false]; rfl⟩
theorem Ztb (ho : o.op = .binOp .geq t x y ty) (hx : ev σ x = some (.int k a)) (hy : ev σ y = some (.int k b)) : Yl P o σ w (.bool (decide (b ≤ a))) := ⟨fun N ds f ha => by
 simp only [execOp,ho,ha.eval hx,ha.eval hy,binOp,eqGuard,Op.intCmp,ne_eq,not_true_eq_false,if_false]; rfl⟩
theorem Ztc (ho : o.op = .binOp .eql t x y ty) (hx : ev σ x = some (.int k a)) (hy : ev σ y = some (.int k b)) (hp : a = b) : Yl P o σ w (.bool true) := by
 have := Zpv (P := P) (w := w) ho hx hy
 rwa [decide_eq_true hp] at this
theorem Zjp (ho : o.op = .binOp .eql t x y ty) (hx : ev σ x = some (.int k a)) (hy : ev σ y = some (.int k b)) (hp : ¬ (a = b)) : Yl P o σ w (.bool false) := by
 have := Zpv (P := P) (w := w) ho hx hy
 rwa [decide_eq_false hp] at this
theorem Zns (ho : o.op = .binOp .neq t x y ty) (hx : ev σ x = some (.int k a)) (hy : ev σ y = some (.int k b)) (hp : ¬ a = b) : Yl P o σ w (.bool true) := by
 have := Zx0 (P := P) (w := w) ho hx hy
 rwa [decide_eq_true hp] at this
theorem Znt (ho : o.op = .binOp .neq t x y ty) (hx : ev σ x = some (.int k a)) (hy : ev σ y = some (.int k b)) (hp : ¬ (¬ a = b)) : Yl P o σ w (.bool false) := by
 have := Zx0 (P := P) (w := w) ho hx hy
 rwa [decide_eq_false hp] at this
theorem Zs7 (ho : o.op = .binOp .lss t x y ty) (hx : ev σ x = some (.int k a)) (hy : ev σ y = some (.int k b)) (hp : a < b) : Yl P o σ w (.bool true) := by
 have := Zps (P := P) (w := w) ho hx hy
 rwa [decide_eq_true hp] at this
theorem Zjm (ho : o.op = .binOp .lss t x y ty) (hx : ev σ x = some (.int k a)) (hy : ev σ y = some (.int k b)) (hp : ¬ (a < b)) : Yl P o σ w (.bool false) := by
 have := Zps (P := P) (w := w) ho hx hy
 rwa [decide_eq_false hp] at this
theorem Z0u (ho : o.op = .binOp .leq t x y ty) (hx : ev σ x = some (.int k a)) (hy : ev σ y = some (.int k b)) (hp : a ≤ b) : Yl P o σ w (.bool true) := by
 have := Zx1 (P := P) (w := w) ho hx hy
 rwa [decide_eq_true hp] at this
theorem Zs8 (ho : o.op = .binOp .leq t x y ty) (hx : ev σ x = some (.int k a)) (hy : ev σ y = some (.int k b)) (hp : ¬ (a ≤ b)) : Yl P o σ w (.bool false) := by
 have := Zx1 (P := P) (w := w) ho hx hy
 rwa [decide_eq_false hp] at this
theorem Zta (ho : o.op = .binOp .gtr t x y ty) (hx : ev σ x = some (.int k a)) (hy : ev σ y = some (.int k b)) (hp : b < a) : Yl P o σ w (.bool true) := by
 have := Zx3 (P := P) (w := w) ho hx hy
 rwa [decide_eq_true hp] at this
theorem Znv (ho : o.op = .binOp .gtr t x y ty) (hx : ev σ x = some (.int k a)) (hy : ev σ y = some (.int k b)) (hp : ¬ (b < a)) : Yl P o σ w (.bool false) := by
 have := Zx3 (P := P) (w := w) ho hx hy
 rwa [decide_eq_false hp] at this
theorem Zjo (ho : o.op = .binOp .geq t x y ty) (hx : ev σ x = some (.int k a)) (hy : ev σ y = some (.int k b)) (hp : b ≤ a) : Yl P o σ w (.bool true) := by
 have := Ztb (P := P) (w := w) ho hx hy
 rwa [decide_eq_true hp] at this
theorem Znw (ho : o.op = .binOp .geq t x y ty) (hx : ev σ x = some (.int k a)) (hy : ev σ y = some (.int k b)) (hp : ¬ (b ≤ a)) : Yl P o σ w (.bool false) := by
 have := Ztb (P := P) (w := w) ho hx hy
 rwa [decide_eq_false hp] at this
end
end
/-! ### slices as resources -/
def adr (a : Option Addr) (i : Nat) : Addr := match a with | some x => ⟨x.block,x.off + i,none⟩ | none => ⟨0,i,none⟩
def row (a : Option Addr) (cs : List Value) : Res := fun h =>
 (cs = [] ∧ ∀ k,h k = none) ∨ ∃ b off cells T fz,a = some ⟨b,off,none⟩ ∧ h = Zcl b (.cells cells T fz) ∧ ∀ i v,cs[i]? = some v → cells[off + i]? = some v
def own (T : TypeId) (e : Nat) (a : Option Addr) (c : Nat) (cs : List Value) : Res := fun h =>
 cs.length ≤ c * e ∧ c ≤ maxLen ∧
 ((c = 0 ∧ ∀ k,h k = none) ∨ ∃ b cells,a = some ⟨b,0,none⟩ ∧ h = Zcl b (.cells cells T (0,0)) ∧ cells.size = c * e ∧ cells.toList.take cs.length = cs)
def bv (l : List UInt8) : List Value := l.map fun b => Value.int .u8 b.toNat
def bytes (a : Option Addr) (l : List UInt8) : Res := row a (bv l)

theorem own.row {T : TypeId} {e : Nat} {a : Option Addr} {c : Nat} {cs : List Value} {h : Frag} (H : own T e a c cs h) : row a cs h := by
 obtain ⟨hl,_,⟨rfl,hh⟩ | ⟨b,cells,ha,hh,hs,ht⟩⟩ := H
 ·exact .inl ⟨List.eq_nil_of_length_eq_zero (by simpa using hl),hh⟩
 ·refine .inr ⟨b,0,cells,T,_,ha,hh,fun i v hv => ?_⟩
  rw [← ht,List.getElem?_take] at hv
  split at hv
  ·simpa using hv
  ·cases hv
theorem Rd.own_row {w : World} {T : TypeId} {e : Nat} {a : Option Addr} {c : Nat} {cs : List Value} (H : Rd w (own T e a c cs)) : Rd w (row a cs) :=
 H.mono fun h hh => ⟨h,hh.row,fun _ _ x => x⟩
theorem Ro.own_row {w : World} {F : Nat → Prop} {T : TypeId} {e : Nat} {a : Option Addr} {c : Nat} {cs : List Value} (H : Ro w F (own T e a c cs)) : Ro w F (row a cs) :=
 H.mono fun h hh => ⟨h,hh.row,fun _ _ x => x⟩
theorem row.part {a : Option Addr} {cs cs' : List Value} {i : Nat} (hs : ∀ j v,cs'[j]? = some v → cs[i + j]? = some v) : ∀ h,row a cs h → ∃ h',row (some (adr a i)) cs' h' ∧ ∀ b o,h' b = some o → h b = some o := by
 intro h H
 rcases H with ⟨rfl,hh⟩ | ⟨b,off,cells,T,fz,rfl,hh,hc⟩
 ·have : cs' = [] := by
   cases cs' with
   | nil => rfl
   | cons x l => have := hs 0 x rfl; simp at this
  exact ⟨h,.inl ⟨this,hh⟩,fun _ _ x => x⟩
 ·exact ⟨h,.inr ⟨b,off + i,cells,T,fz,rfl,hh,fun j v hv => by rw [Nat.add_assoc]; exact hc _ _ (hs j v hv)⟩,fun _ _ x => x⟩
theorem Zvs (a : Option Addr) : row a [] (fun _ => none) := .inl ⟨rfl,fun _ => rfl⟩
theorem Zp1 (w : World) (a : Option Addr) : Rd w (row a []) := ⟨_,Zvs a,fun _ _ h => by cases h⟩
theorem Zh5 (w : World) (F : Nat → Prop) (a : Option Addr) : Ro w F (row a []) := ⟨_,Zvs a,fun _ _ h => by cases h⟩

def CellsAt (w : World) (a : Addr) (cs : List Value) : Prop := ∀ j v,cs[j]? = some v → w.cell? (a.add j) = some v
theorem Zbn (b o j : Nat) : (⟨b,o,none⟩ : Addr).add j = ⟨b,o + j,none⟩ := by unfold Addr.add; split <;> simp_all
theorem CellsAt.of_block {w : World} {b : Nat} {l : List Value} {T : TypeId} {fz : Nat × Nat} (h : w.heap[b]? = some (.cells l.toArray T fz)) : CellsAt w ⟨b,0,none⟩ l := fun j v hv => by
 rw [Zbn,cell_of_row w b _ _ T fz h]; simpa using hv
theorem Rd.cells {w : World} {a : Option Addr} {cs : List Value} (H : Rd w (row a cs)) : ∀ j v,cs[j]? = some v → w.cell? (adr a j) = some v := fun j v hv => by
 obtain ⟨h,hr,ha⟩ := H
 rcases hr with ⟨rfl,_⟩ | ⟨b,off,cells,T,fz,rfl,rfl,hc⟩
 ·cases hv
 ·show w.cell? ⟨b,off + j,none⟩ = _
  rw [cell_of_row w b _ cells T fz (ha b _ (Zan _ _))];exact hc j v hv
theorem Rd.none_nil {w : World} {cs : List Value} (H : Rd w (row none cs)) : cs = [] := by
 obtain ⟨f,hr,_⟩ := H
 rcases hr with ⟨rfl,_⟩ | ⟨b,off,_,_,_,hx,_⟩
 ·rfl
 ·cases hx
theorem Zdb {l : List UInt8} : ∀ u ∈ bv l,u.oneCell' = true := fun u hu => by
 simp [bv] at hu; obtain ⟨b,_,rfl⟩ := hu; rfl
theorem Rd.base {w : World} {a : Option Addr} {cs : List Value} (H : Rd w (row a cs)) (h : cs ≠ []) : ∃ b off,a = some ⟨b,off,none⟩ := by
 obtain ⟨f,hr,_⟩ := H
 rcases hr with ⟨rfl,_⟩ | ⟨b,off,_,_,_,hx,_⟩
 ·exact absurd rfl h
 ·exact ⟨b,off,hx⟩
theorem Rd.seg {w : World} {a : Option Addr} {cs : List Value} (H : Rd w (row a cs)) (i n : Nat) : CellsAt w (adr a i) ((cs.drop i).take n) := fun j v hv => by
 rw [List.getElem?_take] at hv
 split at hv
 ·simp only [List.getElem?_drop] at hv
  have := H.cells _ _ hv
  have e : (adr a i).add j = adr a (i + j) := by
   cases a with
   | none => simp [adr,Zbn]
   | some x => simp [adr,Zbn,Nat.add_assoc]
  rw [e]; exact this
 ·cases hv
theorem Rd.cellsAt {w : World} {a : Addr} {cs : List Value} (hsp : a.spot = none) (H : Rd w (row (some a) cs)) : CellsAt w a cs := fun j v hv => by
 have := H.cells j v hv
 obtain ⟨b,o,s⟩ := a
 subst hsp
 rw [Zbn]; exact this
theorem Zxq {l : List UInt8} {i : Nat} (h : i < l.length) : (bv l)[i]? = some (.int .u8 (l[i].toNat : Int)) := by simp [bv,h]
@[simp] theorem Zak (l : List UInt8) : (bv l).length = l.length := by simp [bv]
theorem Zb8 (l m : List UInt8) : bv (l ++ m) = bv l ++ bv m := by simp [bv]
theorem Zky (l : List UInt8) (n : Nat) : bv (l.take n) = (bv l).take n := by simp [bv]
theorem Zxr (l : List UInt8) (n : Nat) : bv (l.drop n) = (bv l).drop n := by simp [bv]
theorem St.sel {W : World} {F : Nat → Prop} {rs : List Res} {w : World} (m : List Bool) {pre rest : List Res} [sp : Split rs m pre rest] (hS : St W F rs w) : St W F (pre ++ rest) w := hS.perm sp.perm
theorem St.head {W : World} {F : Nat → Prop} {r r' : Res} {rs : List Res} {w : World} (hS : St W F (r :: rs) w) (hr : ∀ h,r h → r' h) : St W F (r' :: rs) w := hS.imp fun _ h => h.mono_head hr
theorem St.second {W : World} {F : Nat → Prop} {q r r' : Res} {rs : List Res} {w : World} (hS : St W F (q :: r :: rs) w) (hr : ∀ h,r h → r' h) : St W F (q :: r' :: rs) w := hS.imp fun _ h => h.mono_tail fun _ h => h.mono_head hr

section
variable {P : Program} {o : Oper} {σ : Env} {w : World} {N : Nat} {ds : Md} {K : Env → World → Prop}
variable {x y : Operand} {t ty e : TypeId}

/-! ### what a goal is,told cheaply -/
section
variable {ops : Array Oper} {Q : Exit → Act → World → Prop} {l : List Oper} {K' : Act → World → Prop} {ord : OT} {invs : Invs} {c : Code} {ex : Exit} {A B : Prop}
theorem X_id (h : X P o N ds σ w K) : X P o N ds σ w K := h
theorem G_id (h : G P ops Q l N ds σ w) : G P ops Q l N ds σ w := h
theorem Zaf (h : GO P ops K' ord invs N ds σ w) : GO P ops K' ord invs N ds σ w := h
theorem C_id (h : C P c Q N ds σ w) : C P c Q N ds σ w := h
theorem E_id (h : E Q ex N ds σ w) : E Q ex N ds σ w := h
theorem Zad {k : Nat} (h : Zik ops k invs w ∧ B) : Zik ops k invs w ∧ B := h
end

/-! ### Zhd -/
class Fld (P : Program) (s f : Nat) (off : outParam Nat) (t : outParam TypeId) (n : outParam Nat) : Prop where
 fld : ∃ fs fd,P.underlying s = some (.struct fs) ∧ fs[f]? = some fd ∧ fd.offset = off ∧ fd.type = t ∧ (P.info? t).map (·.size) = some n
theorem Zfv {s f off t n b i : Nat} (ho : o.op = .fieldAddr s x f) (hx : ev σ x = some (.pointer (some ⟨b,i,none⟩))) [h : Fld P s f off t n] (hn : Nat.blt 0 n = true) : Yl P o σ w (.pointer (some ⟨b,i + off,none⟩)) := ⟨fun N ds a ha => by
 obtain ⟨fs,fd,h1,h2,h3,h4,h5⟩ := h.fld
 have hsz : (Go.sizeOf fd.type).run P w = .ok n w := by rw [h4]; exact Zbh (h := ⟨h5⟩) w
 have h0 : ¬ n = 0 := by have := Zam hn; omega
 simp [execOp,ho,ha.eval hx,Instr.fieldAt,run_underlying h1,h2,Instr.sureAddr,fieldPlace,hsz,h0,h3,Zbn]⟩
theorem Ze8 {s f off t n b : Nat} (ho : o.op = .fieldAddr s x f) (hx : ev σ x = some (.pointer (some ⟨b,0,none⟩))) [h : Fld P s f off t n] (hn : Nat.blt 0 n = true) : Yl P o σ w (.pointer (some ⟨b,off,none⟩)) := by
 have := Zfv (w := w) ho hx (h := h) hn
 rwa [Nat.zero_add] at this
theorem Zfu {a : Option Addr} {n c m : Nat} {k : IntKind} {i : Int} (ho : o.op = .indexAddr t x y) (hx : ev σ x = some (.slice a n c)) (hy : ev σ y = some (.int k i)) [h : Und P t (.slice e)] [hs : Siz P e m] (h0 : 0 ≤ i) (h1 : i < n) (ha' : ∃ b off,a = some ⟨b,off,none⟩) :
  Yl P o σ w (.pointer (some (adr a (i.toNat * m)))) := ⟨fun N ds f ha => by
 obtain ⟨b,off,rfl⟩ := ha'
 simp [execOp,ho,ha.eval hx,ha.eval hy,Instr.indexAt,asIntOf,run_underlying h.und,h0,h1,Zbh,Zbn,adr]⟩
theorem Zfc {b off n m : Nat} {k : IntKind} {i : Int} (ho : o.op = .indexAddr t x y) (hx : ev σ x = some (.pointer (some ⟨b,off,none⟩))) (hy : ev σ y = some (.int k i)) [h : Und P t (.array n e)] [hs : Siz P e m] (h0 : 0 ≤ i) (h1 : i < n) :
  Yl P o σ w (.pointer (some ⟨b,off + i.toNat * m,none⟩)) := ⟨fun N ds f ha => by
 simp [execOp,ho,ha.eval hx,ha.eval hy,Instr.indexAt,asIntOf,run_underlying h.und,h0,h1,Zbh,Zbn,Instr.sureAddr]⟩
theorem Zpt {s : ByteArray} {k : IntKind} {i : Int} (ho : o.op = .index t x y) (hx : ev σ x = some (.string s)) (hy : ev σ y = some (.int k i)) [h : Und P t .string] (h0 : 0 ≤ i) (h1 : i.toNat < s.size) :
  Yl P o σ w (.int .u8 (s[i.toNat].toNat : Int)) := ⟨fun N ds f ha => by
 have : s[i.toNat]? = some s[i.toNat] := getElem?_pos s i.toNat h1
 simp [execOp,ho,ha.eval hx,ha.eval hy,Instr.index,asIntOf,run_underlying h.und,h0,this]⟩
theorem Zdp {l : List Value} {n : Nat} {v : Value} (ho : o.op = .extract x n) (hx : ev σ x = some (.tuple l.toArray)) [hv : Nth l n v] : Yl P o σ w v := ⟨fun N ds f ha => by
 simp [execOp,ho,ha.eval hx,Instr.extract,hv.nth]⟩
theorem Zs9 {a : Option Addr} {n c : Nat} (ho : o.op = .call { callee := .builtin .len,args := #[x],argTypes := #[t] }) (hx : ev σ x = some (.slice a n c)) [h : Und P t (.slice e)] : Yl P o σ w (.int .i64 n) := ⟨fun N ds f ha => by
 simp [execOp,ho,resolve,invoke,builtin,Builtin.len_,ha.eval hx,run_underlying h.und,goInt]⟩
theorem Zuz {s : ByteArray} (ho : o.op = .call { callee := .builtin .len,args := #[x],argTypes := #[t] }) (hx : ev σ x = some (.string s)) [h : Und P t .string] : Yl P o σ w (.int .i64 s.size) := ⟨fun N ds f ha => by
 simp [execOp,ho,resolve,invoke,builtin,Builtin.len_,ha.eval hx,run_underlying h.und,goInt]⟩
theorem Z7i {a : Option Addr} {n c : Nat} (ho : o.op = .call { callee := .builtin .cap,args := #[x],argTypes := #[t] }) (hx : ev σ x = some (.slice a n c)) [h : Und P t (.slice e)] : Yl P o σ w (.int .i64 c) := ⟨fun N ds f ha => by
 simp [execOp,ho,resolve,invoke,builtin,Builtin.cap_,ha.eval hx,run_underlying h.und,goInt]⟩
theorem Zev {src dst : TypeId} {k k' : IntKind} {i v : Int} (ho : o.op = .convert src dst x) (hx : ev σ x = some (.int k i)) {d : TypeDesc} [hs : Und P src d] [hd : Und P dst (.int k')] (hv : k'.wrap i = v) : Yl P o σ w (.int k' v) := ⟨fun N ds f ha => by
 simp only [execOp,ho,ha.eval hx,convert,Sem.run_bind,run_underlying hs.und,run_underlying hd.und,Result.andThen_ok]
 cases d <;> simp [Conv.intToInt,hv]⟩

theorem Zfl {a : Option Addr} {n c n' c' : Nat} [h : Und P t (.slice e)] : (Op.equal t (.slice a n c) (.slice none n' c')).run P w = .ok a.isNone w := by
 have key : ∀ d,(Op.equalIn (d + 1) t (.slice a n c) (.slice none n' c')).run P w = .ok a.isNone w := fun d => by
  rw [Op.equalIn]; cases a <;> simp [run_underlying h.und]
 exact key 9999
theorem Zhc {a : Option Addr} [h : Und P t (.pointer e)] : (Op.equal t (.pointer a) (.pointer none)).run P w = .ok a.isNone w := by
 have key : ∀ d,(Op.equalIn (d + 1) t (.pointer a) (.pointer none)).run P w = .ok a.isNone w := fun d => by
  rw [Op.equalIn]; cases a <;> simp [run_underlying h.und]
 exact key 9999
theorem Zmv {a : Option Nat} {k : TypeId} [h : Und P t (.map k e)] : (Op.equal t (.map a) (.map none)).run P w = .ok a.isNone w := by
 have key : ∀ d,(Op.equalIn (d + 1) t (.map a) (.map none)).run P w = .ok a.isNone w := fun d => by
  rw [Op.equalIn]; cases a <;> simp [run_underlying h.und]
 exact key 9999
theorem Zgk {a : Option Addr} {n c n' c' : Nat} (ho : o.op = .binOp .eql t x y ty) (hx : ev σ x = some (.slice a n c)) (hy : ev σ y = some (.slice none n' c')) [h : Und P t (.slice e)] : Yl P o σ w (.bool a.isNone) := ⟨fun N ds f ha => by
 simp only [execOp,ho,ha.eval hx,ha.eval hy,eqGuard,binOp,Sem.run_bind,Sem.run_pure,Result.andThen_ok,Zfl (e := e)]; rfl⟩
theorem Zgi {a : Option Addr} {n c n' c' : Nat} (ho : o.op = .binOp .neq t x y ty) (hx : ev σ x = some (.slice a n c)) (hy : ev σ y = some (.slice none n' c')) [h : Und P t (.slice e)] : Yl P o σ w (.bool (!a.isNone)) := ⟨fun N ds f ha => by
 simp only [execOp,ho,ha.eval hx,ha.eval hy,eqGuard,binOp,Sem.run_bind,Sem.run_pure,Result.andThen_ok,Zfl (e := e)]; rfl⟩
theorem Zja {a : Option Addr} (ho : o.op = .binOp .eql t x y ty) (hx : ev σ x = some (.pointer a)) (hy : ev σ y = some (.pointer none)) [h : Und P t (.pointer e)] : Yl P o σ w (.bool a.isNone) := ⟨fun N ds f ha => by
 simp only [execOp,ho,ha.eval hx,ha.eval hy,eqGuard,binOp,Sem.run_bind,Sem.run_pure,Result.andThen_ok,Zhc (e := e)]; cases a <;> rfl⟩
theorem Zpo {a : Option Addr} (ho : o.op = .binOp .neq t x y ty) (hx : ev σ x = some (.pointer a)) (hy : ev σ y = some (.pointer none)) [h : Und P t (.pointer e)] : Yl P o σ w (.bool (!a.isNone)) := ⟨fun N ds f ha => by
 simp only [execOp,ho,ha.eval hx,ha.eval hy,eqGuard,binOp,Sem.run_bind,Sem.run_pure,Result.andThen_ok,Zhc (e := e)]; cases a <;> rfl⟩
theorem Zgh {a : Addr} (ho : o.op = .binOp .neq t x y ty) (hx : ev σ x = some (.pointer (some a))) (hy : ev σ y = some (.pointer none)) [h : Und P t (.pointer e)] : Yl P o σ w (.bool true) := Zpo (e := e) ho hx hy
theorem Zgj {a : Addr} (ho : o.op = .binOp .eql t x y ty) (hx : ev σ x = some (.pointer (some a))) (hy : ev σ y = some (.pointer none)) [h : Und P t (.pointer e)] : Yl P o σ w (.bool false) := Zja (e := e) ho hx hy
theorem Zlf (ho : o.op = .binOp .eql t x y ty) (hx : ev σ x = some (.pointer none)) (hy : ev σ y = some (.pointer none)) [h : Und P t (.pointer e)] : Yl P o σ w (.bool true) := Zja (e := e) ho hx hy

/-! ### loads -/
theorem Zau {ad : Addr} {v : Value} (ho : o.op = .load t x) (hx : ev σ x = some (.pointer (some ad))) [h : One P t] (hc : w.cell? ad = some v) : Yl P o σ w v := ⟨fun N ds f ha => by
 simp [execOp,ho,ha.eval hx,Instr.loadAt,Instr.sureAddr,loadVar,h.one,load,Sem.run,hc]⟩
theorem Zj7 {a : Addr} {cs : List Value} [h : Agg P t] [hs : Siz P t cs.length] (hc : CellsAt w a cs) : (loadVar t a).run P w = .ok (.agg cs.toArray) w := by
 simp [loadVar,h.agg,Zbh (n := cs.length),run_loadCells_list (P := P) w a cs hc]
theorem Zcy {a : Addr} {cs : List Value} {n : Nat} (ho : o.op = .load t x) (hx : ev σ x = some (.pointer (some a))) [h : Agg P t] [hs : Siz P t n] (hc : CellsAt w a cs) (hn : cs.length = n) : Yl P o σ w (.agg cs.toArray) := ⟨fun N ds f ha => by
 subst hn
 simp [execOp,ho,ha.eval hx,Instr.loadAt,Instr.sureAddr,Zj7 hc]⟩

class CellsOf (v : Value) (vs : outParam (List Value)) : Prop where
 cells : v.cells = vs.toArray
instance (b : Bool) : CellsOf (.bool b) [.bool b] := ⟨rfl⟩
instance (k : IntKind) (n : Int) : CellsOf (.int k n) [.int k n] := ⟨rfl⟩
instance (s : ByteArray) : CellsOf (.string s) [.string s] := ⟨rfl⟩
instance (a : Option Addr) : CellsOf (.pointer a) [.pointer a] := ⟨rfl⟩
instance (a : Option Addr) (n c : Nat) : CellsOf (.slice a n c) [.slice a n c] := ⟨rfl⟩
instance (r : Option Nat) : CellsOf (.map r) [.map r] := ⟨rfl⟩
instance (l : List Value) : CellsOf (.agg l.toArray) l := ⟨rfl⟩
class LenIs (l : List Value) (n : Nat) : Prop where
 len : l.length = n
instance : LenIs [] 0 := ⟨rfl⟩
instance (v : Value) (l : List Value) (n : Nat) [h : LenIs l n] : LenIs (v :: l) (n + 1) := ⟨by simp [h.len]⟩

instance spl_full (vs : List Value) (n : Nat) (z : Value) [h : LenIs vs n] : Spl (List.replicate n z) 0 vs vs := ⟨by simp [h.len]⟩
class Ones (l : List Value) : Prop where
 ones : ∀ u ∈ l,u.oneCell' = true
instance : Ones [] := ⟨fun u hu => by cases hu⟩
class Cell1 (v : Value) : Prop where
 one : v.oneCell' = true
instance (b : Bool) : Cell1 (.bool b) := ⟨rfl⟩
instance (k : IntKind) (n : Int) : Cell1 (.int k n) := ⟨rfl⟩
instance (s : ByteArray) : Cell1 (.string s) := ⟨rfl⟩
instance (a : Option Addr) : Cell1 (.pointer a) := ⟨rfl⟩
instance (a : Option Addr) (n c : Nat) : Cell1 (.slice a n c) := ⟨rfl⟩
instance (r : Option Nat) : Cell1 (.map r) := ⟨rfl⟩
instance ones_cons (v : Value) (l : List Value) [hv : Cell1 v] [h : Ones l] : Ones (v :: l) := ⟨fun u hu => by
 rcases List.mem_cons.mp hu with rfl | hu
 ·exact hv.one
 ·exact h.ones u hu⟩
instance ones_app (l m : List Value) [h : Ones l] [h' : Ones m] : Ones (l ++ m) := ⟨fun u hu => by
 rcases List.mem_append.mp hu with hu | hu
 ·exact h.ones u hu
 ·exact h'.ones u hu⟩
instance ones_bv (l : List UInt8) : Ones (bv l) := ⟨Zdb⟩
/-! picking resources by their Zhd (Zhd in what is left) -/
class At (rs : List Res) (i : Nat) (r : outParam Res) (rest : outParam (List Res)) : Prop where
 perm : rs.Perm (r :: rest)
instance At.zero (r : Res) (rs : List Res) : At (r :: rs) 0 r rs := ⟨.refl _⟩
instance At.succ (q r : Res) (rs rest : List Res) (i : Nat) [h : At rs i r rest] : At (q :: rs) (i + 1) r (q :: rest) := ⟨(List.Perm.cons q h.perm).trans (.swap ..)⟩
class Pick (rs : List Res) (ix : List Nat) (out : outParam (List Res)) : Prop where
 pick : ∀ {W F w},St W F rs w → St W F out w
theorem St.drops {W : World} {F : Nat → Prop} {w : World} : ∀ {rs : List Res},St W F rs w → St W F [] w
 | [],h => h
 | _ :: _,h => h.drop.drops
instance Pick.nil (rs : List Res) : Pick rs [] [] := ⟨fun h => h.drops⟩
theorem St.under {W : World} {F : Nat → Prop} {w : World} {r : Res} {rs out : List Res} (h : St W F (r :: rs) w) (hp : ∀ {W F w},St W F rs w → St W F out w) : St W F (r :: out) w := by
 obtain ⟨F',h1,hr,_,hbk⟩ := h.call (pre := rs) (rest := [r]) (sp := ⟨(List.perm_append_comm (l₁ := [r]) (l₂ := rs))⟩) []
 exact (@hbk out (out ++ [r]) _ ⟨rfl⟩ (hp h1)).perm List.perm_append_comm
instance Pick.cons (rs : List Res) (i : Nat) (ix : List Nat) (r : Res) (rest out : List Res) [h : At rs i r rest] [h2 : Pick rest ix out] : Pick rs (i :: ix) (r :: out) := ⟨fun hS => (hS.perm h.perm).under h2.pick⟩
theorem St.pick {W : World} {F : Nat → Prop} {rs out : List Res} {w : World} (hS : St W F rs w) (ix : List Nat) [h : Pick rs ix out] : St W F out w := h.pick hS

/-! loads of several cells -/
class Seg (l : List Value) (off n : Nat) (cs : outParam (List Value)) : Prop where
 seg : (l.drop off).take n = cs ∧ cs.length = n
instance seg_here (l : List Value) (n : Nat) [h : LenIs l n] : Seg l 0 n l := ⟨by simp [← h.len]⟩
instance seg_app (l m : List Value) (n : Nat) [h : LenIs l n] : Seg (l ++ m) 0 n l := ⟨by simp [← h.len]⟩
instance seg_next (v : Value) (l cs : List Value) (k n : Nat) [h : Seg l k n cs] : Seg (v :: l) (k + 1) n cs := ⟨by simpa using h.seg⟩
def Zmh (w : World) (a : Addr) (n : Nat) (cs : List Value) : Prop := CellsAt w a cs ∧ cs.length = n
theorem St.cellsN {W : World} {F : Nat → Prop} {rs : List Res} {w : World} {b off n : Nat} {l cs : List Value} {T : TypeId} (hS : St W F rs w) [hh : Has rs b (.cells l.toArray T (0,0))] [hs : Seg l off n cs] : Zmh w ⟨b,off,none⟩ n cs := by
 refine ⟨fun j v hv => ?_,hs.seg.2⟩
 have hb := hS.has (b := b) (o := .cells l.toArray T (0,0))
 have e := hs.seg.1
 rw [← e,List.getElem?_take] at hv
 split at hv
 ·rw [List.getElem?_drop] at hv
  rw [Zbn,cell_of_row w b _ _ T (0,0) hb]; simpa using hv
 ·cases hv
theorem Zjn {a : Addr} {cs : List Value} {n : Nat} (ho : o.op = .load t x) (hx : ev σ x = some (.pointer (some a))) [h : Agg P t] [hs : Siz P t n] (hc : Zmh w a n cs) : Yl P o σ w (.agg cs.toArray) := Zcy ho hx hc.1 hc.2

/-! ### what makes memory -/
theorem Z7j {v : Value} {T : TypeId} {d : Nat} {W : World} {F : Nat → Prop} {rs : List Res} {l : List Value} (hrun : ∀ N ds a,Fr σ N ds a → (execOp a.eval o).run P w = .ok (.value (.pointer (some ⟨w.heap.size,0,none⟩))) (w.alloc (.cells v.cells T)))
  (hl : v.cells = l.toArray) (hd : o.dst = some d) (hN : Nat.blt d N = true) (hS : St W F rs w)
  (h : ∀ b w',St W F (pts b (.cells l.toArray T (0,0)) :: rs) w' → RowKit.Below w.heap.size w w' → K ((d,.pointer (some ⟨b,0,none⟩)) :: σ) w') : X P o N ds σ w K := ⟨fun a ha K' Q' hK => by
 unfold Oper.wp
 rw [hrun N ds a ha,hl];have := hK _ _ _ (ha.put (Zam hN) (.pointer (some ⟨w.heap.size,0,none⟩))) (h w.heap.size _ (hS.alloc (.cells l.toArray T)) ((RowKit.Below.refl _ _).alloc (Nat.le_refl _) _))
 rw [← hd] at this;exact this⟩
theorem Z34 {z : Value} {n m : Nat} {d : Nat} {W : World} {F : Nat → Prop} {rs : List Res} {l : List Value} (ho : o.op = .alloc t) [h : Inf P t z n m] [hl : CellsOf z l] (hd : o.dst = some d) (hN : Nat.blt d N = true) (hS : St W F rs w)
  (h : ∀ b w',St W F (pts b (.cells l.toArray t (0,0)) :: rs) w' → RowKit.Below w.heap.size w w' → K ((d,.pointer (some ⟨b,0,none⟩)) :: σ) w') : X P o N ds σ w K := by
 rename_i hi;obtain ⟨i,hi,hz,_⟩ := info_parts hi.inf
 exact Z7j (v := z) (T := t) (fun N ds a ha => by
  simp [execOp,ho,Instr.alloc,zeroValue,typeInfo,hi,hz,newVar,newRow]) hl.cells hd hN hS h
theorem Z9b {v : Value} {d : Nat} {W : World} {F : Nat → Prop} {rs : List Res} {l : List Value} (ho : o.op = .box t x) (hx : ev σ x = some v) [hl : CellsOf v l] (hd : o.dst = some d) (hN : Nat.blt d N = true) (hS : St W F rs w)
  (h : ∀ b w',St W F (pts b (.cells l.toArray t (0,0)) :: rs) w' → RowKit.Below w.heap.size w w' → K ((d,.pointer (some ⟨b,0,none⟩)) :: σ) w') : X P o N ds σ w K :=
 Z7j (v := v) (T := t) (fun N ds a ha => by simp [execOp,ho,Instr.box,newVar,newRow,ha.eval hx]) hl.cells hd hN hS h

/-! ### stores -/
theorem Zfj {b off m : Nat} {v : Value} {l vs : List Value} {T : TypeId} [hs : Siz P t m] (hv : v.cells = vs.toArray) (hm : vs.length = m) (h1 : ∀ u ∈ vs,u.oneCell' = true) (hb : w.heap[b]? = some (.cells l.toArray T (0,0))) (hfit : off + vs.length ≤ l.length) :
  (storeVar t ⟨b,off,none⟩ v).run P w = .ok () (w.setRow b (l.take off ++ vs ++ l.drop (off + vs.length)).toArray) := by
 subst hm
 have := run_storeCells_at P b off T vs 0 l.toArray w hb (by simpa using hfit) h1
 simp only [Nat.add_zero] at this
 simp [storeVar,hv,Zbh (n := vs.length),this]
theorem Zya {b off m : Nat} {v : Value} {l l' vs : List Value} {T : TypeId} {W : World} {F : Nat → Prop} {rs rs' : List Res} (ho : o.op = .store t x y) (hx : ev σ x = some (.pointer (some ⟨b,off,none⟩))) (hy : ev σ y = some v) [hv : CellsOf v vs] [hs : Siz P t m] [hm : LenIs vs m] [h1 : Ones vs]
  (hd : o.dst = none) (hS : St W F rs w) [hh : Has rs b (.cells l.toArray T (0,0))] [hsp : Spl l off vs l'] [hu : Upd rs b (.cells l'.toArray T (0,0)) rs']
  (h : ∀ w',St W F rs' w' → (∀ k,k ≠ b → w'.heap[k]? = w.heap[k]?) → K σ w') : X P o N ds σ w K := ⟨fun a ha K' Q' hK => by
 unfold Oper.wp
 have hb := hS.has (b := b) (o := .cells l.toArray T (0,0))
 have hr := Zfj (P := P) (t := t) hv.cells hm.len h1.ones hb hsp.spl.1
 have hexec : (execOp a.eval o).run P w = .ok .skip (w.setRow b l'.toArray) := by
  simp [execOp,ho,ha.eval hx,ha.eval hy,Instr.storeAt,Instr.sureAddr,hr,hsp.spl.2]
 rw [hexec];have u := Zbr hb l'.toArray
 refine hK _ _ _ (?_ : Fr σ N ds _) (h _ (hS.upd u) u.other)
 rw [hd];exact ha⟩

/-! ### calls -/
class Fun (P : Program) (g : FuncId) : Prop where
 run : ∀ args w,(callFunc g args).run P w = .ok (.enter g args) w
theorem Fun.mk' {g : FuncId} {fn : Func} (h : P.funcs[g]? = some fn) (hn : (fn.name == "runtime.NumGoroutine") = false) (hb : fn.body.isSome = true) : Fun P g := ⟨fun args w => by
 have h1 : ¬ fn.name = "runtime.NumGoroutine" := by simpa using hn
 have h2 : ¬ fn.body = none := by intro e; rw [e] at hb; cases hb
 simp [callFunc,h,h1,h2]⟩
def evs (σ : Env) : List Operand → Option (List Value)
 | [] => some []
 | x :: r => match ev σ x,evs σ r with
  | some v,some l => some (v :: l)
  | _,_ => none
theorem Fr.evals {a : Act} (h : Fr σ N ds a) : ∀ {xs : List Operand} {vs : List Value},evs σ xs = some vs → xs.map a.eval = vs
 | [],vs,he => by simpa [evs] using he
 | x :: r,vs,he => by
  unfold evs at he
  cases hx : ev σ x with
  | none => simp [hx] at he
  | some v =>
   cases hr : evs σ r with
   | none => simp [hx,hr] at he
   | some l =>
    simp [hx,hr] at he
    subst he
    simp [h.eval hx,h.evals hr]
def Ret (R : Value → World → Prop) : Ending → World → Prop := fun e w => ∃ v,e = .returned v ∧ R v w
theorem Ret.mk {R : Value → World → Prop} {v : Value} {w : World} (h : R v w) : Ret R (.returned v) w := ⟨v,rfl,h⟩
theorem Zdk {f : Operand} {xs : List Operand} {vs first captured : List Value} {ts : Array TypeId} {g : FuncId} {d : Nat} {R : Value → World → Prop} (ho : o.op = .call { callee := .value f,args := xs.toArray,argTypes := ts }) (hf : ev σ f = some (.func (.func g) first.toArray captured.toArray)) (hv : evs σ xs = some vs) [hg : Fun P g]
  (hd : o.dst = some d) (hN : Nat.blt d N = true) (hc : Calls P g (first ++ vs ++ captured).toArray w (Ret R)) (h : ∀ v w',R v w' → K ((d,v) :: σ) w') : X P o N ds σ w K := ⟨fun a ha K' Q' hK => by
 unfold Oper.wp
 have hexec : (execOp a.eval o).run P w = .ok (.enter g (first ++ vs ++ captured).toArray) w := by
  simp [execOp,ho,resolve,ha.eval hf,Deferred.ofValue,invoke,hg.run,ha.evals hv]
 rw [hexec];refine hc.mono fun e w' ⟨v,he,hR⟩ => ?_
 subst he
 have := hK _ _ _ (ha.put (Zam hN) v) (h v w' hR)
 rw [← hd] at this;exact this⟩
theorem Zaa (g : FuncId) {f : Operand} {xs : List Operand} {vs : List Value} {ts : Array TypeId} {d : Nat} {R : Value → World → Prop} (ho : o.op = .call { callee := .value f,args := xs.toArray,argTypes := ts }) (hf : ev σ f = some (.func (.func g) #[] #[])) (hv : evs σ xs = some vs) [hg : Fun P g]
  (hd : o.dst = some d) (hN : Nat.blt d N = true) (hc : Calls P g vs.toArray w (Ret R)) (h : ∀ v w',R v w' → K ((d,v) :: σ) w') : X P o N ds σ w K :=
 Zdk (first := []) (captured := []) ho hf hv hd hN (by simpa using hc) h
end
theorem Zj5 (l : List Value) (i : Nat) (v : Value) (h : i < l.length) : l.set i v = l.take i ++ v :: l.drop (i + 1) := by
 rw [List.set_eq_take_append_cons_drop,if_pos h]
theorem Zj3 (off : Nat) : ∀ (vs cs : List Value) (k : Nat),off + k + vs.length ≤ cs.length →
  (((vs.zipIdx k).foldl (fun (c : Array Value) (x : Value × Nat) => c.setIfInBounds (off + x.2) x.1) cs.toArray)) = (cs.take (off + k) ++ vs ++ cs.drop (off + k + vs.length)).toArray
 | [],cs,k,_ => by simp
 | v :: vs,cs,k,h => by
  simp only [List.zipIdx_cons,List.foldl_cons,List.length_cons] at h ⊢
  rw [List.setIfInBounds_toArray,Zj3 off vs (cs.set (off + k) v) (k + 1) (by simp; omega)]
  congr 1
  have h1 : off + k < cs.length := by omega
  have hl : (cs.take (off + k)).length = off + k := by simp; omega
  rw [Zj5 cs _ v h1,show off + (k + 1) = (cs.take (off + k)).length + 1 by omega,List.take_length_add_append,show (cs.take (off + k)).length + 1 + vs.length = (cs.take (off + k)).length + (1 + vs.length) by omega,List.drop_length_add_append]
  simp only [List.take_succ_cons,List.take_zero,List.append_assoc,List.cons_append,List.nil_append,show 1 + vs.length = vs.length + 1 by omega,List.drop_succ_cons,List.drop_drop]
  rw [show off + k + (vs.length + 1) = off + k + 1 + vs.length by omega]

theorem Zo6 {place : Nat → Option (Nat × Nat)} {i off : Nat} {v : Value} {vs cs : List Value} {r : List (Nat × Value)} (hp : place i = some (off,vs.length)) (hv : v.cells = vs.toArray) (hfit : off + vs.length ≤ cs.length) :
  Instr.fill place cs.toArray ((i,v) :: r) = Instr.fill place (cs.take off ++ vs ++ cs.drop (off + vs.length)).toArray r := by
 simp only [Instr.fill,hp,hv]
 rw [if_neg (by simp; omega)]
 congr 1
 have := Zj3 off vs cs 0 (by simpa using hfit)
 simp only [Nat.add_zero] at this
 rw [← this,← Array.foldl_toList];simp

section
variable {P : Program} {o : Oper} {σ : Env} {w : World} {N : Nat} {ds : Md} {K : Env → World → Prop}
variable {x y : Operand} {t ty e : TypeId}

def Zhd (P : Program) (fs : List Field) : List (Nat × Nat) := fs.map fun f => (f.offset,P.cellsOf f.type)
class Str (P : Program) (t : TypeId) (pl : outParam (List (Nat × Nat))) : Prop where
 str : ∃ fs : List Field,P.underlying t = some (.struct fs.toArray) ∧ fs.map (fun f => (P.info? f.type).map (·.size)) = pl.map (fun x => some x.2) ∧ fs.map (·.offset) = pl.map (·.1)
theorem Zlr : ∀ (fs : List Field) (pl : List (Nat × Nat)) (w : World),fs.map (fun f => (P.info? f.type).map (·.size)) = pl.map (fun x => some x.2) → fs.map (·.offset) = pl.map (·.1) →
  (fs.mapM (fun f => do pure (f.offset,← Go.sizeOf f.type)) : Sem (List (Nat × Nat))).run P w = .ok pl w
 | [],pl,w,h,_ => by
  cases pl with
  | nil => simp
  | cons _ _ => simp at h
 | f :: fs,pl,w,h1,h2 => by
  cases pl with
  | nil => simp at h1
  | cons q pl =>
   simp only [List.map_cons,List.cons.injEq] at h1 h2
   have hs : (Go.sizeOf f.type).run P w = .ok q.2 w := Zbh (h := ⟨h1.1⟩) w
   have := Zlr fs pl w h1.2 h2.2
   have hf : (do pure (f.offset,← Go.sizeOf f.type) : Sem (Nat × Nat)).run P w = .ok q w := by
    rw [Sem.run_bind,hs];show Result.ok (f.offset,q.2) w = _
    rw [h2.1]
   rw [List.mapM_cons,Sem.run_bind,hf];show (List.mapM _ fs >>= _ : Sem _).run P w = _
   rw [Sem.run_bind,this]
   rfl
class Lay (pl : List (Nat × Nat)) (cs : List Value) (parts : List (Nat × Value)) (cs' : outParam (List Value)) : Prop where
 lay : Instr.fill (fun i => pl[i]?) cs.toArray parts = some cs'.toArray
instance (pl : List (Nat × Nat)) (cs : List Value) : Lay pl cs [] cs := ⟨rfl⟩
class NthP (l : List (Nat × Nat)) (n : Nat) (a b : outParam Nat) : Prop where
 nth : l[n]? = some (a,b)
instance (a b : Nat) (l : List (Nat × Nat)) : NthP ((a,b) :: l) 0 a b := ⟨rfl⟩
instance (u : Nat × Nat) (l : List (Nat × Nat)) (n a b : Nat) [h : NthP l n a b] : NthP (u :: l) (n + 1) a b := ⟨by simpa using h.nth⟩
instance (pl : List (Nat × Nat)) (cs cs1 cs2 vs : List Value) (i off n : Nat) (v : Value) (r : List (Nat × Value)) [hn : NthP pl i off n] [hv : CellsOf v vs] [hl : LenIs vs n] [hs : Spl cs off vs cs1] [hr : Lay pl cs1 r cs2] : Lay pl cs ((i,v) :: r) cs2 := ⟨by
 rw [Zo6 (off := off) (by rw [hl.len]; exact hn.nth) hv.cells hs.spl.1,hs.spl.2]; exact hr.lay⟩
def evps (σ : Env) : List (Nat × Operand) → Option (List (Nat × Value))
 | [] => some []
 | (i,x) :: r => match ev σ x,evps σ r with
  | some v,some l => some ((i,v) :: l)
  | _,_ => none
theorem Fr.evalps {a : Act} (h : Fr σ N ds a) : ∀ {xs : List (Nat × Operand)} {vs : List (Nat × Value)},evps σ xs = some vs → xs.map (fun x => (x.1,a.eval x.2)) = vs
 | [],vs,he => by simpa [evps] using he
 | (i,x) :: r,vs,he => by
  unfold evps at he
  cases hx : ev σ x with
  | none => simp [hx] at he
  | some v =>
   cases hr : evps σ r with
   | none => simp [hx,hr] at he
   | some l =>
    simp [hx,hr] at he
    subst he
    simp [h.eval hx,h.evalps hr]
theorem Zvr {z : Value} {n m : Nat} {pl : List (Nat × Nat)} {parts : List (Nat × Value)} {cs cs' : List Value} [hi : Inf P t z n m] [hs : Str P t pl] (hz : z.cells = cs.toArray) (hl : Instr.fill (fun i => pl[i]?) cs.toArray parts = some cs'.toArray) :
  (Instr.build t parts.toArray).run P w = .ok (.agg cs'.toArray) w := by
 obtain ⟨i,hi,hz',_⟩ := info_parts hi.inf
 obtain ⟨fs,h1,h2,h3⟩ := hs.str
 have hp := Zlr (P := P) fs pl w h2 h3
 have hp' : (fs.toArray.mapM (fun f => do pure (f.offset,← Go.sizeOf f.type)) : Sem (Array (Nat × Nat))).run P w = .ok pl.toArray w := by
  rw [List.mapM_toArray,← bind_pure_comp,Sem.run_bind,hp]
  rfl
 have hq : (zeroValue t).run P w = .ok z w := by simp [zeroValue,typeInfo,hi,hz']
 unfold Instr.build
 rw [Sem.run_bind,hq];show (underlying t >>= _ : Sem _).run P w = _
 rw [Sem.run_bind,run_underlying h1];show (Array.mapM _ fs.toArray >>= _ : Sem _).run P w = _
 rw [Sem.run_bind,hp'];simp only [Result.andThen,hz]
 simp [hl]
theorem Zte {z : Value} {n m : Nat} {pl : List (Nat × Nat)} {xs : List (Nat × Operand)} {parts : List (Nat × Value)} {cs cs' : List Value} (ho : o.op = .build t xs.toArray) (hx : evps σ xs = some parts) [hi : Inf P t z n m] [hs : Str P t pl] (hz : z.cells = cs.toArray) [hl : Lay pl cs parts cs'] : Yl P o σ w (.agg cs'.toArray) := ⟨fun N ds a ha => by
 have := Zvr (P := P) (t := t) (w := w) hz hl.lay
 have e := ha.evalps hx
 simp [execOp,ho,e,this]⟩

/-! ### slices -/
theorem Za5 {size m c : Nat} {a : Option Addr} {news : List Value} (h : Rd w (row a news)) (hl : news.length = m * size) : (Builtin.firstCells size m (.slice a m c)).run P w = .ok news.toArray w := by
 cases a with
 | none =>
  obtain ⟨f,hr,_⟩ := h
  rcases hr with ⟨rfl,_⟩ | ⟨b,off,_,_,_,hx,_⟩
  ·simp [Builtin.firstCells]
  ·cases hx
 | some ad =>
  obtain ⟨f,hr,ha⟩ := h
  refine run_firstCells_some (P := P) w size m ad m c news hl fun j v hv => ?_
  rcases hr with ⟨rfl,_⟩ | ⟨b,off,cells,T,fz,hx,hf,hc⟩
  ·cases hv
  ·obtain rfl : ad = ⟨b,off,none⟩ := Option.some.inj hx
   rw [Zbn,cell_of_row w b _ cells T fz (ha b _ (by rw [hf]; exact Zan _ _))]
   exact hc j v hv

theorem Zbi {T e c : Nat} {b : Nat} {l cs : List Value} (hl : l.length = c * e) (hc : c ≤ maxLen) (hcs : l.take cs.length = cs) : ∀ h,pts b (.cells l.toArray T (0,0)) h → own T e (some ⟨b,0,none⟩) c cs h := fun h hh => by
 have : cs.length ≤ c * e := by rw [← hl,← hcs]; simp; omega
 exact ⟨this,hc,.inr ⟨b,l.toArray,rfl,hh,by simpa using hl,by simpa using hcs⟩⟩
theorem own_none (T e : Nat) (a : Option Addr) : own T e a 0 [] (fun _ => none) := ⟨by simp,by simp [maxLen],.inl ⟨rfl,fun _ => rfl⟩⟩
theorem St.own_none {W : World} {F : Nat → Prop} {rs : List Res} (hS : St W F rs w) (T e : Nat) (a : Option Addr) : St W F (own T e a 0 [] :: rs) w := by
 obtain ⟨h,hs,s⟩ := hS
 exact ⟨h,⟨_,h,Cr.own_none T e a,hs,fun _ => .inl rfl,fun _ => by simp⟩,s⟩

class HasOwn (rs : List Res) (a : Option Addr) (T e c : outParam Nat) (cs : outParam (List Value)) (rest : outParam (List Res)) : Prop where
 has : rs.Perm (own T e a c cs :: rest)
instance (rs : List Res) (a : Option Addr) (T e c : Nat) (cs : List Value) : HasOwn (own T e a c cs :: rs) a T e c cs rs := ⟨.refl _⟩
instance (r : Res) (rs : List Res) (a : Option Addr) (T e c : Nat) (cs : List Value) (rest : List Res) [h : HasOwn rs a T e c cs rest] : HasOwn (r :: rs) a T e c cs (r :: rest) := ⟨(List.Perm.cons r h.has).trans (.swap _ _ _)⟩

theorem Ztv {T size bytes c n m c2 : Nat} {a a2 : Option Addr} {cs news : List Value} {z : Value} {W : World} {F : Nat → Prop} {rest : List Res} (tx : TypeId) [h : Und P t (.slice T)] [hx : Und P tx (.slice T)] [hi : Inf P T z size bytes]
  (hS : St W F (own T size a c cs :: rest) w) (hcs : cs.length = n * size) (hnews : Rd w (row a2 news)) (hl : news.length = m * size) (h1 : ∀ u ∈ news,u.oneCell' = true) (hnc : n ≤ c) (hfit : (n + m) * bytes ≤ 140737488355328) (hmax : n + m ≤ maxLen) :
  ∃ a' c' w',(Builtin.append_ #[t,tx] ty #[.slice a n c,.slice a2 m c2]).run P w = .ok (.slice a' (n + m) c') w' ∧ St W F (own T size a' c' (cs ++ news) :: rest) w' ∧ n + m ≤ c' ∧ (a' = none ↔ a = none ∧ m = 0) := by
 obtain ⟨i,hi',hz',hsz,hby⟩ := info_parts hi.inf
 have hz := hi.zs
 subst hsz hby
 have hf := Za5 (P := P) (size := i.size) (m := m) (c := c2) hnews hl
 obtain ⟨f,⟨f1,f2,ho,hs,hd,hu⟩,s⟩ := hS
 have hlt : ((n + m : Nat) : Int) ≤ 9223372036854775807 := by simp only [maxLen] at hmax; omega
 by_cases hroom : n + m ≤ c
 ·have ho' := ho
  obtain ⟨_,hcm,⟨rfl,he⟩ | ⟨b,cells,rfl,hf1,hcz,ht⟩⟩ := ho
  ·obtain rfl : n = 0 := by omega
   obtain rfl : m = 0 := by omega
   obtain rfl : news = [] := List.eq_nil_of_length_eq_zero (by simpa using hl)
   refine ⟨a,0,w,?_,⟨f,⟨f1,f2,by simpa using ho',hs,hd,hu⟩,s⟩,by omega,by simp⟩
   cases a <;> simp [Builtin.append_,run_underlying h.und,run_underlying hx.und,Go.sizeOf,typeInfo,hi',Builtin.lenOf,hf,storeCells]
  ·have hb : w.heap[b]? = some (.cells cells T (0,0)) := s.agrees b _ (by rw [hu,hf1,Zan]; rfl)
   have hfit2 : n * i.size + news.length ≤ cells.size := by rw [hl,hcz,← Nat.add_mul]; exact Nat.mul_le_mul_right _ hroom
   have hst := run_storeCells_at P b (n * i.size) T news 0 cells w hb (by simpa using hfit2) h1
   simp only [Nat.add_zero] at hst
   have u := Zbr hb (cells.toList.take (n * i.size) ++ news ++ cells.toList.drop (n * i.size + news.length)).toArray
   have hlen : (cells.toList.take (n * i.size) ++ news ++ cells.toList.drop (n * i.size + news.length)).length = c * i.size := by
    simp only [List.length_append,List.length_take,List.length_drop,Array.length_toList]; omega
   refine ⟨some ⟨b,0,none⟩,c,w.setRow b (cells.toList.take (n * i.size) ++ news ++ cells.toList.drop (n * i.size + news.length)).toArray,?_,?_,hroom,by simp⟩
   ·simp [Builtin.append_,run_underlying h.und,run_underlying hx.und,Go.sizeOf,typeInfo,hi',Builtin.lenOf,hf,hroom,Zbn,hst]
   ·have hS2 : St W F (pts b (.cells cells T (0,0)) :: rest) w := ⟨f,⟨f1,f2,hf1,hs,hd,hu⟩,s⟩
    refine (hS2.set u).imp fun g hg => hg.mono_head (Zbi (c := c) hlen hcm ?_)
    rw [hcs] at ht;rw [ht,List.take_append_of_le_length (by simp),List.take_of_length_le (by simp)]
 ·have hge : n + m ≤ grownCap w (n + m) c T := grownCap_ge w (n + m) c T
  have hcm : grownCap w (n + m) c T ≤ maxLen := grownCap_le_maxLen w (n + m) c T hmax
  have hn' : ¬ (n + m ≤ c) := hroom
  have hmin : ¬ (9223372036854775807 < ((n : Int) + (m : Int))) := by omega
  have h48 : ¬ (281474976710656 < Builtin.nextslicecap (n + m) c * i.bytes) := by have := growslice_fits (show c < n + m by omega) hfit; omega
  have hfd : (Builtin.firstCells i.size m (.slice a2 m c2)).run P w.drew = .ok news.toArray w.drew := Za5 (P := P) (by
   obtain ⟨g,hg,ha⟩ := hnews; exact ⟨g,hg,ha⟩) hl
  have hod : (Builtin.firstCells i.size n (.slice a n c)).run P w.drew = .ok cs.toArray w.drew := Za5 (P := P) (size := i.size) ⟨f1,ho.row,fun b o e => s.agrees b o (by rw [hu,e]; rfl)⟩ hcs
  let blk := cs.toArray ++ news.toArray ++ Builtin.zeroCells z.cells (grownCap w (n + m) c T - (n + m))
  have hS2 : St W F rest w := St.drop ⟨f,⟨f1,f2,ho,hs,hd,hu⟩,s⟩
  refine ⟨some ⟨w.heap.size,0,none⟩,grownCap w (n + m) c T,w.drew.alloc (.cells blk T),?_,?_,hge,by simp; omega⟩
  ·simp [Builtin.append_,run_underlying h.und,run_underlying hx.und,Go.sizeOf,typeInfo,zeroValue,hi',hz',Builtin.lenOf,hn',hmin,h48,Question.forced,hod,hfd,newRow,grownCap,blk]
  ·have hlen : blk.toList.length = grownCap w (n + m) c T * i.size := by
    simp only [blk,Array.length_toList,Array.size_append,List.size_toArray,size_zeroCells,hz,hcs,hl,← Nat.add_mul]
    congr 1; omega
   have h3 := hS2.drew.alloc (.cells blk T)
   refine St.imp h3 fun g hg => hg.mono_head ?_
   have key := Zbi (T := T) (e := i.size) (c := grownCap w (n + m) c T) (b := w.heap.size) (l := blk.toList) (cs := cs ++ news) hlen hcm (by simp only [blk,Array.toList_append]; exact List.take_left)
   simpa using key
theorem Zas {T size bytes c n m c2 : Nat} {a a2 : Option Addr} {cs news : List Value} {z : Value} {W : World} {F : Nat → Prop} {rs rest : List Res} {d : Nat} {tx : TypeId} (ho : o.op = .call { callee := .builtin .append,args := #[x,y],argTypes := #[t,tx] }) (hx : ev σ x = some (.slice a n c)) (hy : ev σ y = some (.slice a2 m c2))
  [h : Und P t (.slice T)] [hx' : Und P tx (.slice T)] [hi : Inf P T z size bytes] (hd : o.dst = some d) (hN : Nat.blt d N = true) (hS : St W F rs w) [hh : HasOwn rs a T size c cs rest] (hcs : cs.length = n * size) (hnc : n ≤ c) (hnews : Rd w (row a2 news)) (hl : news.length = m * size) (h1 : ∀ u ∈ news,u.oneCell' = true)
  (hfit : (n + m) * bytes ≤ 140737488355328) (hmax : n + m ≤ maxLen)
  (hk : ∀ a' c' w',St W F (own T size a' c' (cs ++ news) :: rest) w' → n + m ≤ c' → (a' = none ↔ a = none ∧ m = 0) → K ((d,.slice a' (n + m) c') :: σ) w') : X P o N ds σ w K := ⟨fun f ha K' Q' hK => by
 obtain ⟨a',c',w',hr,hS',hc',hn⟩ := Ztv (P := P) (t := t) (ty := o.type) (c2 := c2) tx (hS.perm hh.has) hcs hnews hl h1 hnc hfit hmax
 unfold Oper.wp
 have hexec : (execOp f.eval o).run P w = .ok (.value (.slice a' (n + m) c')) w' := by
  simp [execOp,ho,resolve,invoke,builtin,ha.eval hx,ha.eval hy,hr]
 rw [hexec];have := hK _ _ _ (ha.put (Zam hN) (.slice a' (n + m) c')) (hk a' c' w' hS' hc' hn)
 rw [← hd] at this;exact this⟩

/-! ### make,slice literals -/
theorem Zhp (z : Value) (n : Nat) : madeCells #[z] n = (List.replicate n z).toArray := by
 apply Array.ext
 ·simp [madeCells]
 ·intro i h1 h2
  have : i % 1 = 0 := by omega
  simp [madeCells,this]
theorem Zyc {T size bytes d : Nat} {k k' : IntKind} {l c : Int} {z : Value} {W : World} {F : Nat → Prop} {rs : List Res} (ho : o.op = .makeSlice t x y) (hx : ev σ x = some (.int k l)) (hy : ev σ y = some (.int k' c))
  [h : Und P t (.slice T)] [hi : Inf P T z size bytes] (h0 : 0 ≤ l) (hlc : l ≤ c) (hb : (bytes : Int) * c ≤ 281474976710656) (hm : c ≤ 9223372036854775807) (hd : o.dst = some d) (hN : Nat.blt d N = true) (hS : St W F rs w)
  (hk : ∀ b w',St W F (pts b (.cells (madeCells z.cells (c.toNat * size)) T (0,0)) :: rs) w' → RowKit.Below w.heap.size w w' → K ((d,.slice (some ⟨b,0,none⟩) l.toNat c.toNat) :: σ) w') : X P o N ds σ w K := ⟨fun f ha K' Q' hK => by
 obtain ⟨i,hi',hz',hsz,hby⟩ := info_parts hi.inf
 subst hsz hby
 have hr := run_make (P := P) w t T i z h.und hi' hz' k k' l c h0 hlc hb hm
 unfold Oper.wp
 have hexec : (execOp f.eval o).run P w = .ok (.value (.slice (some ⟨w.heap.size,0,none⟩) l.toNat c.toNat)) (w.alloc (.cells (madeCells z.cells (c.toNat * i.size)) T)) := by
  simp [execOp,ho,ha.eval hx,ha.eval hy,hr]
 rw [hexec];have := hK _ _ _ (ha.put (Zam hN) (.slice (some ⟨w.heap.size,0,none⟩) l.toNat c.toNat)) (hk w.heap.size _ (hS.alloc _) ((RowKit.Below.refl _ _).alloc (Nat.le_refl _) _))
 rw [← hd] at this;exact this⟩
class AppL (a b : List Value) (c : outParam (List Value)) : Prop where
 app : a ++ b = c
instance (b : List Value) : AppL [] b b := ⟨rfl⟩
instance (v : Value) (a b c : List Value) [h : AppL a b c] : AppL (v :: a) b (v :: c) := ⟨by simp [h.app]⟩
instance (a : List Value) : AppL a [] a := ⟨by simp⟩
class CellsAll (parts : List (Nat × Value)) (size : Nat) (l : outParam (List Value)) : Prop where
 all : ∃ ls : List (List Value),ls.length = parts.length ∧ (∀ (i : Nat) (p : Nat × Value) (vs : List Value),parts[i]? = some p → ls[i]? = some vs → p.2.cells = vs.toArray ∧ vs.length = size) ∧ ls.flatten = l
instance (size : Nat) : CellsAll [] size [] := ⟨[],rfl,by simp,rfl⟩
instance (i size : Nat) (v : Value) (vs l l' : List Value) (r : List (Nat × Value)) [hv : CellsOf v vs] [hn : LenIs vs size] [hr : CellsAll r size l] [ha : AppL vs l l'] : CellsAll ((i,v) :: r) size l' := ⟨by
 obtain ⟨ls,h1,h2,h3⟩ := hr.all
 refine ⟨vs :: ls,by simp [h1],fun j p us hp hu => ?_,by simp [h3,ha.app]⟩
 cases j with
 | zero => simp at hp hu; subst hp; subst hu; exact ⟨hv.cells,hn.len⟩
 | succ j => exact h2 j p us (by simpa using hp) (by simpa using hu)⟩
theorem Zng {size : Nat} : ∀ (parts : List (Nat × Value)) (ls : List (List Value)) (k : Nat) (A Z : List Value),ls.length = parts.length → (∀ (i : Nat) (p : Nat × Value) (vs : List Value),parts[i]? = some p → ls[i]? = some vs → p.2.cells = vs.toArray ∧ vs.length = size) →
  parts.map (·.1) = List.range' k parts.length → A.length = k * size → Z.length = parts.length * size →
  Instr.fill (fun i => some (i * size,size)) (A ++ Z).toArray parts = some (A ++ ls.flatten).toArray
 | [],ls,k,A,Z,h1,_,_,_,hZ => by
  obtain rfl : ls = [] := List.eq_nil_of_length_eq_zero (by simpa using h1)
  obtain rfl : Z = [] := List.eq_nil_of_length_eq_zero (by simpa using hZ)
  simp [Instr.fill]
 | (i,v) :: r,ls,k,A,Z,h1,h2,h3,hA,hZ => by
  cases ls with
  | nil => simp at h1
  | cons vs ls =>
   obtain ⟨hv,hn⟩ := h2 0 (i,v) vs rfl rfl
   simp only [List.map_cons,List.length_cons,List.range'_succ,List.cons.injEq] at h3
   obtain ⟨rfl,h3⟩ := h3
   simp only [List.length_cons] at hZ h1
   have hZ' : size ≤ Z.length := by rw [hZ,Nat.add_mul]; omega
   rw [Zo6 (off := i * size) (vs := vs) (by simp [hn]) hv (by simp [hA,hn]; exact hZ')]
   have e : (A ++ Z).take (i * size) ++ vs ++ (A ++ Z).drop (i * size + vs.length) = (A ++ vs) ++ Z.drop size := by
    rw [← hA,List.take_left,List.drop_length_add_append,hn]
   rw [e,Zng r ls (i + 1) (A ++ vs) (Z.drop size) (by omega) (fun j p us hp hu => h2 (j + 1) p us (by simpa using hp) (by simpa using hu)) h3 (by simp [hA,hn,Nat.add_mul]) (by simp [hZ,Nat.add_mul])]
   simp
theorem Zp0 {T size bytes d n : Nat} {z : Value} {xs : List (Nat × Operand)} {parts : List (Nat × Value)} {l : List Value} {W : World} {F : Nat → Prop} {rs : List Res} (ho : o.op = .buildSlice t n xs.toArray) (hx : evps σ xs = some parts) (hn : parts.length = n) (hidx : parts.map (·.1) = List.range' 0 n)
    [h : Und P t (.slice T)] [hi : Inf P T z size bytes] (hsm : Nat.ble (n * size) 16777216 = true) (hnm : Nat.ble n 16777216 = true) [hl : CellsAll parts size l] (hd : o.dst = some d) (hN : Nat.blt d N = true) (hS : St W F rs w)
    (hk : ∀ b w',St W F (own T size (some ⟨b,0,none⟩) n l :: rs) w' → RowKit.Below w.heap.size w w' → K ((d,.slice (some ⟨b,0,none⟩) n n) :: σ) w') : X P o N ds σ w K := ⟨fun f ha K' Q' hK => by
  obtain ⟨i,hi',hz',hsz,hby⟩ := info_parts hi.inf
  have hz := hi.zs
  subst hsz hby
  subst hn
  obtain ⟨ls,h1,h2,h3⟩ := hl.all
  have hsm' : parts.length * i.size ≤ 16777216 := Nat.le_of_ble_eq_true hsm
  have e := ha.evalps hx
  have hlen : l.length = parts.length * i.size := by
    rw [← h3,List.length_flatten];have : ls.map List.length = List.replicate parts.length i.size := by
      apply List.ext_getElem
      · simp [h1]
      · intro j hj1 hj2
        simp at hj1 hj2 ⊢
        exact (h2 j _ _ (List.getElem?_eq_getElem (by omega)) (List.getElem?_eq_getElem hj1)).2
    rw [this]; simp
  have hfill : ∀ zc : Array Value,Instr.fill (fun j => some (j * i.size,i.size)) ((Array.range (parts.length * i.size)).map (zc[· % zc.size]!)) parts = some l.toArray := fun zc => by
    have hq := Zng (size := i.size) parts ls 0 [] ((Array.range (parts.length * i.size)).map (zc[· % zc.size]!)).toList h1 h2 hidx (by simp) (by simp)
    simp only [List.nil_append,Array.toArray_toList] at hq
    rw [hq,h3]
  have hexec : (execOp f.eval o).run P w = .ok (.value (.slice (some ⟨w.heap.size,0,none⟩) parts.length parts.length)) (w.alloc (.cells l.toArray T)) := by
    have hsm2 : ¬ (16777216 < parts.length * i.size) := by omega
    have hq : ∀ zc : Array Value,((Instr.fill (fun j => some (j * i.size,i.size)) ((Array.range (parts.length * i.size)).map (zc[· % zc.size]!)) parts)) = some l.toArray := hfill
    simp only [execOp,ho,List.map_toArray,e,Sem.run_bind,Instr.buildSlice,run_underlying h.und,Result.andThen_ok,Go.sizeOf,typeInfo,run_program,hi',Sem.run_pure,zeroValue]
    by_cases h00 : parts.length * i.size = 0
    · simp [h00,newRow]
      have := hq #[]
      rw [h00] at this;simp at this
      simp [this]
    · simp [hsm2,h00,newRow,hq,hi',hz']
  unfold Oper.wp
  rw [hexec];have hmx : parts.length ≤ maxLen := by
    simp only [maxLen]
    have := Nat.le_of_ble_eq_true hnm
    omega
  have := hK _ _ _ (ha.put (Zam hN) (.slice (some ⟨w.heap.size,0,none⟩) parts.length parts.length)) (hk w.heap.size _ ((hS.alloc (.cells l.toArray T)).imp fun g hg => hg.mono_head (Zbi (e := i.size) (c := parts.length) (cs := l) hlen hmx (by simp))) ((RowKit.Below.refl _ _).alloc (Nat.le_refl _) _))
  rw [← hd] at this;exact this⟩
end
def sub (a : Option Addr) (l e c : Nat) : Option Addr := if c = l then a else a.map (·.add (l * e))
theorem sub_zero (a : Option Addr) (e c : Nat) : sub a 0 e c = a := by
 unfold sub; cases a <;> simp [Addr.add]
theorem Zmx {a : Option Addr} {cs cs' : List Value} {l e c : Nat} (hs : ∀ j v,cs'[j]? = some v → cs[l * e + j]? = some v) (hz : c = l → cs' = []) : ∀ h,row a cs h → ∃ h',row (sub a l e c) cs' h' ∧ ∀ b o,h' b = some o → h b = some o := by
 intro h H
 unfold sub
 by_cases hc : c = l
 ·have := hz hc; subst this
  exact ⟨fun _ => none,.inl ⟨rfl,fun _ => rfl⟩,fun _ _ h => by cases h⟩
 ·rw [if_neg hc]
  rcases H with ⟨rfl,hh⟩ | ⟨b,off,cells,T,fz,rfl,hh,hk⟩
  ·have : cs' = [] := by
    cases cs' with
    | nil => rfl
    | cons x l => have := hs 0 x rfl; simp at this
   exact ⟨h,.inl ⟨this,hh⟩,fun _ _ x => x⟩
  ·exact ⟨h,.inr ⟨b,off + l * e,cells,T,fz,by simp [Zbn],hh,fun j v hv => by rw [Nat.add_assoc]; exact hk _ _ (hs j v hv)⟩,fun _ _ x => x⟩
theorem Rd.sub {w : World} {a : Option Addr} {cs : List Value} {l h e c : Nat} (H : Rd w (row a cs)) (hh : h ≤ c) (hl : l ≤ h) : Rd w (row (sub a l e c) ((cs.drop (l * e)).take ((h - l) * e))) :=
 H.mono (Zmx (fun j v hv => by
  rw [List.getElem?_take] at hv; split at hv
  ·simpa using hv
  ·cases hv) (fun hc => by subst hc; simp [show h - c = 0 by omega]))
theorem Ro.sub {w : World} {F : Nat → Prop} {a : Option Addr} {cs : List Value} {l h e c : Nat} (H : Ro w F (row a cs)) (hh : h ≤ c) (hl : l ≤ h) : Ro w F (row (Cr.sub a l e c) ((cs.drop (l * e)).take ((h - l) * e))) :=
 H.mono (Zmx (fun j v hv => by
  rw [List.getElem?_take] at hv; split at hv
  ·simpa using hv
  ·cases hv) (fun hc => by subst hc; simp [show h - c = 0 by omega]))
theorem Rd.subBytes {w : World} {a : Option Addr} {s : List UInt8} {l h c : Nat} (H : Rd w (bytes a s)) (hh : h ≤ c) (hl : l ≤ h) : Rd w (bytes (Cr.sub a l 1 c) ((s.drop l).take (h - l))) := by
 have := Rd.sub (e := 1) H hh hl
 simpa [bytes,Zky,Zxr] using this
theorem Ro.subBytes {w : World} {F : Nat → Prop} {a : Option Addr} {s : List UInt8} {l h c : Nat} (H : Ro w F (bytes a s)) (hh : h ≤ c) (hl : l ≤ h) : Ro w F (bytes (Cr.sub a l 1 c) ((s.drop l).take (h - l))) := by
 have := Ro.sub (e := 1) H hh hl
 simpa [bytes,Zky,Zxr] using this

section
variable {P : Program} {o : Oper} {σ : Env} {w : World} {N : Nat} {ds : Md} {K : Env → World → Prop}
variable {x y : Operand} {t ty e : TypeId}

def evo (σ : Env) : Option Operand → Option (Option Value)
 | none => some none
 | some x => match ev σ x with | some v => some (some v) | none => none
theorem Fr.evalo {a : Act} (h : Fr σ N ds a) {x : Option Operand} {v : Option Value} (hx : evo σ x = some v) : x.map a.eval = v := by
 cases x with
 | none => simpa [evo] using hx
 | some x =>
  unfold evo at hx
  cases he : ev σ x with
  | none => simp [he] at hx
  | some u => simp [he] at hx; subst hx; simp [h.eval he]
def Bnd (v : Option Value) (d m n : Nat) : Prop := (v = none ∧ n = d) ∨ (∃ k i,v = some (.int k i) ∧ 0 ≤ i ∧ i.toNat = n ∧ n ≤ m)
theorem Bnd.none {d m : Nat} : Bnd none d m d := .inl ⟨rfl,rfl⟩
theorem Zom {k : IntKind} {i : Int} {m : Nat} {c : BoundsCode} (h0 : 0 ≤ i) (h : i.toNat ≤ m) : (Instr.sliceBound (.int k i) m c).run P w = .ok i.toNat w := by
 have : i ≤ m := by omega
 simp [Instr.sliceBound,asIntOf,h0,this]
theorem Zig {b : Bool} {len cap : Nat} {lo hi : Option Value} {l h : Nat} (hh : Bnd hi len cap h) (hl : Bnd lo 0 h l) : (Instr.sliceBounds b len cap lo hi none).run P w = .ok (l,h,cap) w := by
 unfold Instr.sliceBounds
 rcases hh with ⟨rfl,rfl⟩ | ⟨k,i,rfl,h0,rfl,h1⟩ <;> rcases hl with ⟨rfl,rfl⟩ | ⟨k',j,rfl,h0',rfl,h1'⟩ <;> simp [Zom, *]
theorem Zqh {b : Bool} {len cap : Nat} {lo hi mx : Option Value} {l h m : Nat} (hm : ∃ k i,mx = some (.int k i) ∧ 0 ≤ i ∧ i.toNat = m ∧ m ≤ cap) (hh : ∃ k i,hi = some (.int k i) ∧ 0 ≤ i ∧ i.toNat = h ∧ h ≤ m) (hl : Bnd lo 0 h l) : (Instr.sliceBounds b len cap lo hi mx).run P w = .ok (l,h,m) w := by
 unfold Instr.sliceBounds
 obtain ⟨k,i,rfl,h0,rfl,h1⟩ := hm
 obtain ⟨k2,i2,rfl,h02,rfl,h12⟩ := hh
 rcases hl with ⟨rfl,rfl⟩ | ⟨k',j,rfl,h0',rfl,h1'⟩ <;> simp [Zom, *]
theorem Zaq {a : Option Addr} {n c m l h : Nat} {lo hi : Option Operand} {vl vh : Option Value} (ho : o.op = .slice t x lo hi none) (hx : ev σ x = some (.slice a n c)) (hlo : evo σ lo = some vl) (hhi : evo σ hi = some vh) [hu : Und P t (.slice e)] [hs : Siz P e m] (hh : Bnd vh n c h) (hl : Bnd vl 0 h l) :
  Yl P o σ w (.slice (sub a l m c) (h - l) (c - l)) := ⟨fun N ds f ha => by
 have hb := Zig (P := P) (w := w) (b := true) hh hl
 have hsz : (Go.sizeOf e).run P w = .ok m w := Zbh w
 simp [execOp,ho,ha.eval hx,ha.evalo hlo,ha.evalo hhi,Instr.sliceAt,Instr.slice,run_underlying hu.und,hb,hsz,sub]⟩
theorem Zh1 {a : Option Addr} {n c m l h k : Nat} {lo hi mx : Option Operand} {vl vh vm : Option Value} (ho : o.op = .slice t x lo hi mx) (hx : ev σ x = some (.slice a n c)) (hlo : evo σ lo = some vl) (hhi : evo σ hi = some vh) (hmx : evo σ mx = some vm) [hu : Und P t (.slice e)] [hs : Siz P e m]
  (hm : ∃ k' i,vm = some (.int k' i) ∧ 0 ≤ i ∧ i.toNat = k ∧ k ≤ c) (hh : ∃ k' i,vh = some (.int k' i) ∧ 0 ≤ i ∧ i.toNat = h ∧ h ≤ k) (hl : Bnd vl 0 h l) :
  Yl P o σ w (.slice (sub a l m k) (h - l) (k - l)) := ⟨fun N ds f ha => by
 have hb := Zqh (P := P) (w := w) (b := true) (len := n) hm hh hl
 have hsz : (Go.sizeOf e).run P w = .ok m w := Zbh w
 simp [execOp,ho,ha.eval hx,ha.evalo hlo,ha.evalo hhi,ha.evalo hmx,Instr.sliceAt,Instr.slice,run_underlying hu.und,hb,hsz,sub]⟩
theorem Zpm {s : ByteArray} {l h : Nat} {lo hi : Option Operand} {vl vh : Option Value} (ho : o.op = .slice t x lo hi none) (hx : ev σ x = some (.string s)) (hlo : evo σ lo = some vl) (hhi : evo σ hi = some vh) [hu : Und P t .string] (hh : Bnd vh s.size s.size h) (hl : Bnd vl 0 h l) :
  Yl P o σ w (.string (s.extract l h)) := ⟨fun N ds f ha => by
 have hb := Zig (P := P) (w := w) (b := false) hh hl
 simp [execOp,ho,ha.eval hx,ha.evalo hlo,ha.evalo hhi,Instr.sliceAt,Instr.slice,run_underlying hu.und,hb]⟩
theorem Zi9 {b off n : Nat} (ho : o.op = .slice t x none none none) (hx : ev σ x = some (.pointer (some ⟨b,off,none⟩))) [hu : Und P t (.array n e)] {m : Nat} [hs : Siz P e m] :
  Yl P o σ w (.slice (some ⟨b,off,none⟩) n n) := ⟨fun N ds f ha => by
 have hb := Zig (P := P) (w := w) (b := false) (len := n) (cap := n) (lo := none) (hi := none) .none .none
 have hsz : (Go.sizeOf e).run P w = .ok m w := Zbh w
 simp [execOp,ho,ha.eval hx,Instr.sliceAt,Instr.sureAddr,run_underlying hu.und,hb,hsz,Addr.add]⟩
theorem Zu2 {a : Addr} {n c m : Nat} (ho : o.op = .sliceToArrayPointer t x) (hx : ev σ x = some (.slice (some a) n c)) [hu : Und P t (.array m e)] (hm : m ≤ n) : Yl P o σ w (.pointer (some a)) := ⟨fun N ds f ha => by
 have : ¬ n < m := by omega
 simp [execOp,ho,ha.eval hx,Instr.arrayAt,run_underlying hu.und,this]⟩

/-! ### stores by lists -/
def Zal (l : List Value) (n : Nat) (vs : List Value) : List Value := l.take n ++ vs ++ l.drop (n + vs.length)
theorem Zck {l vs : List Value} {n : Nat} (h : n + vs.length ≤ l.length) : (Zal l n vs).length = l.length := by simp [Zal]; omega
theorem Zg9 {cs r vs : List Value} {i : Nat} (h : i + vs.length ≤ cs.length) : Zal (cs ++ r) i vs = Zal cs i vs ++ r := by
 unfold Zal
 rw [List.take_append_of_le_length (by omega),List.drop_append_of_le_length h];simp
theorem Zjq {b off m : Nat} {v : Value} {l vs : List Value} {T : TypeId} {W : World} {F : Nat → Prop} {rs rs' : List Res} (ho : o.op = .store t x y) (hx : ev σ x = some (.pointer (some ⟨b,off,none⟩))) (hy : ev σ y = some v) [hv : CellsOf v vs] [hs : Siz P t m] (hm : vs.length = m) (h1 : ∀ u ∈ vs,u.oneCell' = true)
  (hd : o.dst = none) (hS : St W F rs w) [hh : Has rs b (.cells l.toArray T (0,0))] (hfit : off + vs.length ≤ l.length) [hu : Upd rs b (.cells (Zal l off vs).toArray T (0,0)) rs']
  (h : ∀ w',St W F rs' w' → (∀ k,k ≠ b → w'.heap[k]? = w.heap[k]?) → K σ w') : X P o N ds σ w K := ⟨fun a ha K' Q' hK => by
 unfold Oper.wp
 have hb := hS.has (b := b) (o := .cells l.toArray T (0,0))
 have hr := Zfj (P := P) (t := t) hv.cells hm h1 hb hfit
 have hexec : (execOp a.eval o).run P w = .ok .skip (w.setRow b (Zal l off vs).toArray) := by
  simp [execOp,ho,ha.eval hx,ha.eval hy,Instr.storeAt,Instr.sureAddr,hr,Zal]
 rw [hexec];have u := Zbr hb (Zal l off vs).toArray
 refine hK _ _ _ (?_ : Fr σ N ds _) (h _ (hS.upd u) u.other)
 rw [hd];exact ha⟩
theorem Zrh {T sz c i m : Nat} {a : Option Addr} {v : Value} {cs vs : List Value} {W : World} {F : Nat → Prop} {rs rest : List Res} {ad : Addr} (ho : o.op = .store t x y) (hx : ev σ x = some (.pointer (some ad))) (had : ad = adr a i) (hy : ev σ y = some v) [hv : CellsOf v vs] (h1 : ∀ u ∈ vs,u.oneCell' = true) [hs : Siz P t m] (hm : vs.length = m)
  (hd : o.dst = none) (hS : St W F rs w) [hh : HasOwn rs a T sz c cs rest] (hi : i + vs.length ≤ cs.length) (hpos : 0 < cs.length)
  (h : ∀ w',St W F (own T sz a c (Zal cs i vs) :: rest) w' → K σ w') : X P o N ds σ w K := ⟨fun f ha K' Q' hK => by
 subst had
 obtain ⟨g,⟨g1,g2,hown,hrest,hdj,hu⟩,s⟩ := hS.perm hh.has
 obtain ⟨hle,hcm,⟨rfl,_⟩ | ⟨b,cells,rfl,rfl,hcz,ht⟩⟩ := hown
 ·rw [Nat.zero_mul] at hle; omega
 ·have hb : w.heap[b]? = some (.cells cells T (0,0)) := s.agrees b _ (by rw [hu,Zan]; rfl)
  have hlen : cells.toList.length = c * sz := by simpa using hcz
  have hb' : w.heap[b]? = some (.cells cells.toList.toArray T (0,0)) := by simpa using hb
  have hr := Zfj (P := P) (t := t) (off := i) (vs := vs) hv.cells hm h1 hb' (by omega)
  have hexec : (execOp f.eval o).run P w = .ok .skip (w.setRow b (Zal cells.toList i vs).toArray) := by
   have : (storeVar t ⟨b,i,none⟩ v).run P w = .ok () (w.setRow b (Zal cells.toList i vs).toArray) := hr
   simp [execOp,ho,ha.eval hx,ha.eval hy,Instr.storeAt,Instr.sureAddr,adr,this]
  unfold Oper.wp
  rw [hexec];have u := Zbr hb (Zal cells.toList i vs).toArray
  have hS2 : St W F (pts b (.cells cells T (0,0)) :: rest) w := ⟨g,⟨_,g2,rfl,hrest,hdj,hu⟩,s⟩
  have hsl : (Zal cells.toList i vs).length = c * sz := by rw [Zck (by omega)]; exact hlen
  refine hK _ _ _ (?_ : Fr σ N ds _) (h _ ((hS2.set u).imp fun q hq => hq.mono_head (Zbi hsl hcm ?_)))
  ·rw [hd]; exact ha
  ·have e1 : cells.toList = cs ++ cells.toList.drop cs.length := by
    have := List.take_append_drop cs.length cells.toList
    rw [ht] at this; exact this.symm
   rw [e1,Zg9 hi,List.take_left]⟩
end
class ELoad (P : Program) (g : FuncId) (k : outParam IntKind) : Prop where
 run : ∀ {a : Addr} {x : Int} {w : World},w.cell? a = some (.int k x) → (callFunc g #[.pointer (some a)]).run P w = .ok (.value (.int k x)) w
class EStore (P : Program) (g : FuncId) : Prop where
 run : ∀ {a : Addr} {k : IntKind} {y : Int} {u : Value} {w : World},w.cell? a = some u → w.frozen? a = false → (callFunc g #[.pointer (some a),.int k y]).run P w = .ok (.value (.tuple #[])) (w.setCell a (.int k y))
class EAdd (P : Program) (g : FuncId) (k : outParam IntKind) : Prop where
 run : ∀ {a : Addr} {x y s : Int} {w : World},w.cell? a = some (.int k x) → w.frozen? a = false → (Op.intArith .add k x y).run P w = .ok (.int k s) w → (callFunc g #[.pointer (some a),.int k y]).run P w = .ok (.value (.int k s)) (w.setCell a (.int k s))
class ECas (P : Program) (g : FuncId) (k : outParam IntKind) : Prop where
 hit : ∀ {a : Addr} {x y : Int} {w : World},w.cell? a = some (.int k x) → w.frozen? a = false → (callFunc g #[.pointer (some a),.int k x,.int k y]).run P w = .ok (.value (.bool true)) (w.setCell a (.int k y))
class EMark0 (P : Program) (g : FuncId) : Prop where
 run : ∀ w,(callFunc g #[]).run P w = .ok (.value (.tuple #[])) w
class EMark (P : Program) (g : FuncId) : Prop where
 run : ∀ (a : Addr) w,(callFunc g #[.pointer (some a)]).run P w = .ok (.value (.tuple #[])) w

theorem Zez {w : World} {b off : Nat} {l l' : List Value} {T : TypeId} {v : Value} (h : w.heap[b]? = some (.cells l.toArray T (0,0))) (hs : l.set off v = l') : SetBlock w (w.setCell ⟨b,off,none⟩ v) b (.cells l'.toArray T (0,0)) := by
 rw [setCell_eq_setRow w b off _ T (0,0) v h];have := Zbr h (l.toArray.setIfInBounds off v)
 rw [List.setIfInBounds_toArray,hs] at this
 rwa [List.setIfInBounds_toArray,hs]
theorem Spl.set {l l' : List Value} {n : Nat} {v : Value} [h : Spl l n [v] l'] : l.set n v = l' := by
 have := h.spl
 simp only [List.length_cons,List.length_nil] at this
 rw [Zj5 _ _ _ (by omega),← this.2]; simp

section
variable {P : Program} {o : Oper} {σ : Env} {w : World} {N : Nat} {ds : Md} {K : Env → World → Prop}
variable {f : Operand} {xs : List Operand} {vs : List Value} {ts : Array TypeId} {g : FuncId} {d : Nat}
theorem Znx {v : Value} {w' : World} (ho : o.op = .call { callee := .value f,args := xs.toArray,argTypes := ts }) (hf : ev σ f = some (.func (.func g) #[] #[])) (hv : evs σ xs = some vs) (hrun : (callFunc g vs.toArray).run P w = .ok (.value v) w')
  (hd : o.dst = some d) (hN : Nat.blt d N = true) (h : K ((d,v) :: σ) w') : X P o N ds σ w K := ⟨fun a ha K' Q' hK => by
 unfold Oper.wp
 have hexec : (execOp a.eval o).run P w = .ok (.value v) w' := by
  simp [execOp,ho,resolve,ha.eval hf,Deferred.ofValue,invoke,ha.evals hv,hrun]
 rw [hexec];have := hK _ _ _ (ha.put (Zam hN) v) h
 rw [← hd] at this;exact this⟩
theorem Zyf {k : IntKind} {a : Addr} {x : Int} [hg : ELoad P g k] (ho : o.op = .call { callee := .value f,args := xs.toArray,argTypes := ts }) (hf : ev σ f = some (.func (.func g) #[] #[])) (hv : evs σ xs = some [.pointer (some a)]) (hc : w.cell? a = some (.int k x))
  (hd : o.dst = some d) (hN : Nat.blt d N = true) (h : K ((d,.int k x) :: σ) w) : X P o N ds σ w K := Znx ho hf hv (hg.run hc) hd hN h
theorem Znz [hg : EMark0 P g] (ho : o.op = .call { callee := .value f,args := xs.toArray,argTypes := ts }) (hf : ev σ f = some (.func (.func g) #[] #[])) (hv : evs σ xs = some [])
  (hd : o.dst = some d) (hN : Nat.blt d N = true) (h : K ((d,.tuple #[]) :: σ) w) : X P o N ds σ w K := Znx ho hf hv (hg.run w) hd hN h
theorem Zye {a : Addr} [hg : EMark P g] (ho : o.op = .call { callee := .value f,args := xs.toArray,argTypes := ts }) (hf : ev σ f = some (.func (.func g) #[] #[])) (hv : evs σ xs = some [.pointer (some a)])
  (hd : o.dst = some d) (hN : Nat.blt d N = true) (h : K ((d,.tuple #[]) :: σ) w) : X P o N ds σ w K := Znx ho hf hv (hg.run a w) hd hN h
variable {W : World} {F : Nat → Prop} {rs rs' : List Res} {b off : Nat} {l l' : List Value} {T : TypeId}
theorem Zd2 {w : World} {b off : Nat} {cs : Array Value} {T : TypeId} (h : w.heap[b]? = some (.cells cs T (0,0))) : w.frozen? ⟨b,off,none⟩ = false := frozen_of_row w b off cs T h
theorem Z0v {k : IntKind} {y : Int} {u : Value} [hg : EStore P g] (ho : o.op = .call { callee := .value f,args := xs.toArray,argTypes := ts }) (hf : ev σ f = some (.func (.func g) #[] #[])) (hv : evs σ xs = some [.pointer (some ⟨b,off,none⟩),.int k y])
  (hd : o.dst = some d) (hN : Nat.blt d N = true) (hS : St W F rs w) [hh : Has rs b (.cells l.toArray T (0,0))] [hn : Nth l off u] [hsp : Spl l off [.int k y] l'] [hu : Upd rs b (.cells l'.toArray T (0,0)) rs']
  (h : ∀ w',St W F rs' w' → K ((d,.tuple #[]) :: σ) w') : X P o N ds σ w K :=
 have hb := hS.has (b := b) (o := .cells l.toArray T (0,0))
 Znx ho hf hv (hg.run (hS.cell (b := b) (off := off) (l := l) (T := T) (fz := (0,0)) (v := u)) (Zd2 hb)) hd hN (h _ (hS.upd (Zez hb hsp.set)))
theorem Z7k {k : IntKind} {y x : Int} [hg : ECas P g k] (ho : o.op = .call { callee := .value f,args := xs.toArray,argTypes := ts }) (hf : ev σ f = some (.func (.func g) #[] #[])) (hv : evs σ xs = some [.pointer (some ⟨b,off,none⟩),.int k x,.int k y])
  (hd : o.dst = some d) (hN : Nat.blt d N = true) (hS : St W F rs w) [hh : Has rs b (.cells l.toArray T (0,0))] [hn : Nth l off (.int k x)] [hsp : Spl l off [.int k y] l'] [hu : Upd rs b (.cells l'.toArray T (0,0)) rs']
  (h : ∀ w',St W F rs' w' → K ((d,.bool true) :: σ) w') : X P o N ds σ w K :=
 have hb := hS.has (b := b) (o := .cells l.toArray T (0,0))
 Znx ho hf hv (hg.hit (hS.cell (b := b) (off := off) (l := l) (T := T) (fz := (0,0)) (v := .int k x)) (Zd2 hb)) hd hN (h _ (hS.upd (Zez hb hsp.set)))
theorem Z1t {k : IntKind} {y x s : Int} [hg : EAdd P g k] (ho : o.op = .call { callee := .value f,args := xs.toArray,argTypes := ts }) (hf : ev σ f = some (.func (.func g) #[] #[])) (hv : evs σ xs = some [.pointer (some ⟨b,off,none⟩),.int k y]) (hs : k.wrap (x + y) = s)
  (hd : o.dst = some d) (hN : Nat.blt d N = true) (hS : St W F rs w) [hh : Has rs b (.cells l.toArray T (0,0))] [hn : Nth l off (.int k x)] [hsp : Spl l off [.int k s] l'] [hu : Upd rs b (.cells l'.toArray T (0,0)) rs']
  (h : ∀ w',St W F rs' w' → K ((d,.int k s) :: σ) w') : X P o N ds σ w K :=
 have hb := hS.has (b := b) (o := .cells l.toArray T (0,0))
 Znx ho hf hv (hg.run (hS.cell (b := b) (off := off) (l := l) (T := T) (fz := (0,0)) (v := .int k x)) (Zd2 hb) (by rw [← hs]; rfl)) hd hN (h _ (hS.upd (Zez hb hsp.set)))

/-! ### deferred calls -/
variable {ops : Array Oper} {Q : Exit → Act → World → Prop} {rest : List Oper}
theorem Zyl {dl : List Deferred} {first captured : List Value} (hgd : o.guard = none) (ho : o.op = .defer { callee := .value f,args := xs.toArray,argTypes := ts }) (hf : ev σ f = some (.func (.func g) first.toArray captured.toArray)) (hv : evs σ xs = some vs) (hd : o.dst = none)
  (h : G P ops Q rest N ⟨{ target := .fn (.func g) captured.toArray,args := (first ++ vs).toArray } :: dl,none⟩ σ w) : G P ops Q (o :: rest) N ⟨dl,none⟩ σ w := ⟨fun a ha =>
 wpListIn_plain hgd fun K hK => by
  refine ⟨fun _ _ => trivial,?_⟩
  have hexec : (o.semAt (Fc ⟨dl,none⟩).round a.eval).run P w = .ok (.defer { target := .fn (.func g) captured.toArray,args := (first ++ vs).toArray }) w := by
   show (execOp a.eval o).run P w = _
   simp [execOp,ho,resolve,ha.eval hf,Deferred.ofValue,ha.evals hv]
  rw [hexec];refine hK _ _ (h.run _ ?_)
  rw [hd];exact ⟨ha.size,by simp [Act.put,ha.defers],ha.at_⟩⟩
theorem Zyn {fn : Func} {R : Ending → World → Prop} (h : fn.results = #[]) (hR : R (.returned (.tuple #[])) w) : E (bodyPost P fn R) .normal N md0 σ w :=
 ⟨fun _ ha => ⟨ha.defers,_,by simp [results,h],hR⟩⟩
theorem Zyo {fn fn' : Func} {R : Ending → World → Prop} {dl : List Deferred} {e : Exit} {captured args : List Value} {body : Code} {N' : Nat} (hf : P.funcs[g]? = some fn') (hb : fn'.body = some body) (hN : fn'.ntmps = N') (hl : Nat.ble (args ++ captured).length N' = true) [hg : Fun P g]
  (he : e = .ret ∨ e = .normal) (h : C P body (bodyPost P fn' (Ret fun _ w' => E (BP P fn R) e N ⟨dl,none⟩ σ w')) N' md0 (enum 0 (args ++ captured)) w) :
  E (BP P fn R) e N ⟨{ target := .fn (.func g) captured.toArray,args := args.toArray } :: dl,none⟩ σ w := ⟨fun a ha => by
 have hd : a.defers = { target := .fn (.func g) captured.toArray,args := args.toArray } :: dl := ha.defers
 have hcall : CallsDIn Fence.wide 0 P g (args ++ captured).toArray .returning w fun e' u' w' => u' = .returning ∧ Ret (fun _ w' => E (BP P fn R) e N ⟨dl,none⟩ σ w') e' w' :=
  callsDIn_of_wp (F := Fence.wide) hf hb trivial (h.run _ (Zxe hN hl)) rfl
 have hinv : (invoke (.fn (.func g) captured.toArray) args.toArray).run P w = .ok (.enter g (args ++ captured).toArray) w := by
  have := hg.run (args ++ captured).toArray w
  simp only [invoke]
  simpa using this
 have key : LeavesInM (Fc md0) 0 P fn a.tmps R a.defers .returning w := by
  rw [hd];refine ⟨by simp,.inr ⟨fun h => by simp [Fc,Fence.wide] at h,.func g,captured.toArray,g,(args ++ captured).toArray,rfl,hinv,fun _ _ => trivial,?_⟩⟩
  refine CallsDIn.mono hcall ?_
  rintro e' u' w' ⟨rfl,v,rfl,hE⟩
  have := hE.run { a with defers := dl } ⟨ha.size,rfl,ha.at_⟩
  rcases he with rfl | rfl <;> exact this
 rcases he with rfl | rfl <;> exact key⟩
end
end Cr
