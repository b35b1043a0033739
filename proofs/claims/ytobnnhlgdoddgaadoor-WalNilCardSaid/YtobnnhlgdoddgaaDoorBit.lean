/-
  Bits, strings of bytes. Over any program.
-/
import Derived.Test.YtobnnhlgdoddgaaDoorRf
namespace Cr
open Go
def iand (k : IntKind) (x y : Int) : Int := k.wrap (BitVec.ofInt k.bits x &&& BitVec.ofInt k.bits y).toNat
def ior (k : IntKind) (x y : Int) : Int := k.wrap (BitVec.ofInt k.bits x ||| BitVec.ofInt k.bits y).toNat
def ixor (k : IntKind) (x y : Int) : Int := k.wrap (BitVec.ofInt k.bits x ^^^ BitVec.ofInt k.bits y).toNat
def ishl (k : IntKind) (x : Int) (n : Nat) : Int := k.wrap (x * 2 ^ (min n k.bits))
def ishr (k : IntKind) (x : Int) (n : Nat) : Int := x.fdiv (2 ^ (min n k.bits))
section
variable {P : Program} {o : Oper} {σ : Env} {w : World} {x y : Operand} {t ty : TypeId} {k k' : IntKind} {a b : Int}
theorem Yl_and (ho : o.op = .binOp .and t x y ty) (hx : ev σ x = some (.int k a)) (hy : ev σ y = some (.int k b)) : Yl P o σ w (.int k (iand k a b)) := ⟨fun N ds f ha => by
  simp only [execOp, ho, ha.eval hx, ha.eval hy, binOp, eqGuard, Op.intBits, ne_eq, not_true_eq_false, if_false]; rfl⟩
theorem Yl_or (ho : o.op = .binOp .or t x y ty) (hx : ev σ x = some (.int k a)) (hy : ev σ y = some (.int k b)) : Yl P o σ w (.int k (ior k a b)) := ⟨fun N ds f ha => by
  simp only [execOp, ho, ha.eval hx, ha.eval hy, binOp, eqGuard, Op.intBits, ne_eq, not_true_eq_false, if_false]; rfl⟩
theorem Yl_xor (ho : o.op = .binOp .xor t x y ty) (hx : ev σ x = some (.int k a)) (hy : ev σ y = some (.int k b)) : Yl P o σ w (.int k (ixor k a b)) := ⟨fun N ds f ha => by
  simp only [execOp, ho, ha.eval hx, ha.eval hy, binOp, eqGuard, Op.intBits, ne_eq, not_true_eq_false, if_false]; rfl⟩
theorem Yl_shl (ho : o.op = .binOp .shl t x y ty) (hx : ev σ x = some (.int k a)) (hy : ev σ y = some (.int k' b)) (hb : 0 ≤ b) : Yl P o σ w (.int k (ishl k a b.toNat)) := ⟨fun N ds f ha => by
  have : ¬ b < 0 := by omega
  simp only [execOp, ho, ha.eval hx, ha.eval hy, binOp, eqGuard, Op.shift, if_neg this]; rfl⟩
theorem Yl_shr (ho : o.op = .binOp .shr t x y ty) (hx : ev σ x = some (.int k a)) (hy : ev σ y = some (.int k' b)) (hb : 0 ≤ b) : Yl P o σ w (.int k (ishr k a b.toNat)) := ⟨fun N ds f ha => by
  have : ¬ b < 0 := by omega
  simp only [execOp, ho, ha.eval hx, ha.eval hy, binOp, eqGuard, Op.shift, if_neg this]; rfl⟩
/-- A call that touches nothing of ours. -/
theorem X_callq {N : Nat} {ds : Md} {K : Env → World → Prop} (g : FuncId) {f : Operand} {xs : List Operand} {vs : List Value} {ts : Array TypeId} {d : Nat} {R : Value → Prop} {W : World} {F : Nat → Prop} {rs : List Res} (ho : o.op = .call { callee := .value f, args := xs.toArray, argTypes := ts }) (hf : ev σ f = some (.func (.func g) #[] #[])) (hv : evs σ xs = some vs) [hg : Fun P g]
    (hd : o.dst = some d) (hN : Nat.blt d N = true) (hS : St W F rs w) (hc : Calls P g vs.toArray w (Ret fun v w' => R v ∧ St w noF [] w')) (h : ∀ v w', R v → St W F rs w' → K ((d, v) :: σ) w') : X P o N ds σ w K :=
  X_callg g ho hf hv hd hN hc fun v w' ⟨hR, h'⟩ => h v w' hR (hS.below h'.toBelow)
theorem iand_7 (x : Int) : iand .i64 x 7 = x % 8 := by
  unfold iand
  have e : (BitVec.ofInt IntKind.i64.bits x &&& BitVec.ofInt IntKind.i64.bits 7).toNat = (x % 8).toNat := by
    rw [BitVec.toNat_and, BitVec.toNat_ofInt, BitVec.toNat_ofInt]
    show (x % 18446744073709551616).toNat &&& 7 = _
    rw [show (7 : Nat) = 2 ^ 3 - 1 from rfl, Nat.and_two_pow_sub_one_eq_mod]
    omega
  rw [e, IntKind.wrap_i64]
  omega
/-! blocks of numbers -/
def ints (k : IntKind) (L : List Int) : List Value := L.map (Value.int k)
theorem ints_length (k : IntKind) (L : List Int) : (ints k L).length = L.length := by simp [ints]
instance ones_ints (k : IntKind) (L : List Int) : Ones (ints k L) := ⟨fun u hu => by simp [ints] at hu; obtain ⟨n, _, rfl⟩ := hu; rfl⟩
theorem ints_get {k : IntKind} {L : List Int} {i : Nat} (h : i < L.length) : (ints k L)[i]? = some (.int k (L.getD i 0)) := by
  simp [ints, h, List.getD_eq_getElem?_getD]
theorem ints_rep (k : IntKind) (n : Nat) (x : Int) : List.replicate n (Value.int k x) = ints k (List.replicate n x) := by simp [ints]
theorem ints_set {k : IntKind} {L : List Int} {i : Nat} {x : Int} : (ints k L).set i (.int k x) = ints k (L.set i x) := by simp [ints, List.map_set]
theorem St.cellI {W : World} {F : Nat → Prop} {rs : List Res} {b off : Nat} {k : IntKind} {L : List Int} {T : TypeId} (hS : St W F rs w) [hh : Has rs b (.cells (ints k L).toArray T (0, 0))] (h : off < L.length) : w.cell? ⟨b, off, none⟩ = some (.int k (L.getD off 0)) := by
  rw [cell_of_row w b off _ T (0, 0) hS.has]
  simpa using ints_get (k := k) h
theorem X_storeI {N : Nat} {ds : Md} {K : Env → World → Prop} {b off : Nat} {k : IntKind} {n : Int} {L : List Int} {T : TypeId} {W : World} {F : Nat → Prop} {rs rs' : List Res} (ho : o.op = .store t x y) (hx : ev σ x = some (.pointer (some ⟨b, off, none⟩))) (hy : ev σ y = some (.int k n)) [hs : Siz P t 1]
    (hd : o.dst = none) (hS : St W F rs w) [hh : Has rs b (.cells (ints k L).toArray T (0, 0))] (hfit : off < L.length) [hu : Upd rs b (.cells (ints k (L.set off n)).toArray T (0, 0)) rs']
    (h : ∀ w', St W F rs' w' → K σ w') : X P o N ds σ w K := by
  have e : splice (ints k L) off [.int k n] = ints k (L.set off n) := by
    rw [← ints_set, set_mid _ _ _ (by rw [ints_length]; exact hfit)]
    simp [splice]
  have hu' : Upd rs b (.cells (splice (ints k L) off [.int k n]).toArray T (0, 0)) rs' := by rw [e]; exact hu
  exact X_storeL ho hx hy rfl (fun u hu => by simp at hu; subst hu; rfl) hd hS (by rw [ints_length]; exact hfit) (fun w' h' _ => h w' h')
theorem St.cellIP {W : World} {F : Nat → Prop} {rs : List Res} {b off : Nat} {k : IntKind} {L : List Int} {r : List Value} {T : TypeId} (hS : St W F rs w) [hh : Has rs b (.cells (ints k L ++ r).toArray T (0, 0))] (h : off < L.length) : w.cell? ⟨b, off, none⟩ = some (.int k (L.getD off 0)) := by
  rw [cell_of_row w b off _ T (0, 0) hS.has]
  have := ints_get (k := k) h
  simp only [List.getElem?_toArray]
  rw [List.getElem?_append_left (by rw [ints_length]; exact h)]
  exact this
theorem X_storeIP {N : Nat} {ds : Md} {K : Env → World → Prop} {b off : Nat} {k : IntKind} {n : Int} {L : List Int} {r : List Value} {T : TypeId} {W : World} {F : Nat → Prop} {rs rs' : List Res} (ho : o.op = .store t x y) (hx : ev σ x = some (.pointer (some ⟨b, off, none⟩))) (hy : ev σ y = some (.int k n)) [hs : Siz P t 1]
    (hd : o.dst = none) (hS : St W F rs w) [hh : Has rs b (.cells (ints k L ++ r).toArray T (0, 0))] (hfit : off < L.length) [hu : Upd rs b (.cells (ints k (L.set off n) ++ r).toArray T (0, 0)) rs']
    (h : ∀ w', St W F rs' w' → K σ w') : X P o N ds σ w K := by
  have e : splice (ints k L ++ r) off [.int k n] = ints k (L.set off n) ++ r := by
    rw [splice_append (by rw [ints_length]; exact hfit), ← ints_set, set_mid _ _ _ (by rw [ints_length]; exact hfit)]
    simp [splice]
  have hu' : Upd rs b (.cells (splice (ints k L ++ r) off [.int k n]).toArray T (0, 0)) rs' := by rw [e]; exact hu
  exact X_storeL ho hx hy rfl (fun u hu => by simp at hu; subst hu; rfl) hd hS (by rw [List.length_append, ints_length]; exact Nat.le_trans hfit (Nat.le_add_right _ _)) (fun w' h' _ => h w' h')
/-- A call of a closure that changes nothing. -/
theorem X_callc {N : Nat} {ds : Md} {K : Env → World → Prop} (g : FuncId) {f : Operand} {xs : List Operand} {vs captured : List Value} {ts : Array TypeId} {d : Nat} {R : Value → Prop} (ho : o.op = .call { callee := .value f, args := xs.toArray, argTypes := ts }) (hf : ev σ f = some (.func (.func g) #[] captured.toArray)) (hv : evs σ xs = some vs) [hg : Fun P g]
    (hd : o.dst = some d) (hN : Nat.blt d N = true) (hc : Calls P g (vs ++ captured).toArray w (Ret fun v w' => R v ∧ w = w')) (h : ∀ v, R v → K ((d, v) :: σ) w) : X P o N ds σ w K :=
  X_call (first := []) (captured := captured) ho hf hv hd hN (by simpa using hc) (by
    intro v w' h'
    obtain ⟨hR, e⟩ := h'
    subst e
    exact h v hR)
theorem row_pts_at {b off n : Nat} {l cs : List Value} {T : TypeId} (hs : (l.drop off).take n = cs) : ∀ h, pts b (.cells l.toArray T (0, 0)) h → row (some ⟨b, off, none⟩) cs h := fun _ hg => .inr ⟨b, off, l.toArray, T, (0, 0), rfl, hg, fun j v hv => by
  subst hs
  rw [List.getElem?_take] at hv
  split at hv
  · rw [List.getElem?_drop] at hv
    simpa using hv
  · cases hv⟩
theorem Rd.cellI {b o i : Nat} {k : IntKind} {L : List Int} (H : Rd w (row (some ⟨b, o, none⟩) (ints k L))) (h : i < L.length) : w.cell? ⟨b, o + i, none⟩ = some (.int k (L.getD i 0)) := H.cells i _ (ints_get h)
/-- One cell of a row. -/
theorem Rd.cell {a : Option Addr} {cs : List Value} {i : Nat} {v : Value} (H : Rd w (row a cs)) (hi : cs[i]? = some v) : w.cell? (adr a i) = some v := H.cells i v hi
end
end Cr
