/-
  Calls of functions without a Go body (sync/atomic, internal/race), deferred calls. Over any program.
-/
import Derived.Test.YtobnnhlgdoddgaaDoorSlc
namespace Cr
open Go

class ELoad (P : Program) (g : FuncId) (k : outParam IntKind) : Prop where
  run : ∀ {a : Addr} {x : Int} {w : World}, w.cell? a = some (.int k x) → (callFunc g #[.pointer (some a)]).run P w = .ok (.value (.int k x)) w
class EStore (P : Program) (g : FuncId) : Prop where
  run : ∀ {a : Addr} {k : IntKind} {y : Int} {u : Value} {w : World}, w.cell? a = some u → w.frozen? a = false → (callFunc g #[.pointer (some a), .int k y]).run P w = .ok (.value (.tuple #[])) (w.setCell a (.int k y))
class EAdd (P : Program) (g : FuncId) (k : outParam IntKind) : Prop where
  run : ∀ {a : Addr} {x y s : Int} {w : World}, w.cell? a = some (.int k x) → w.frozen? a = false → (Op.intArith .add k x y).run P w = .ok (.int k s) w → (callFunc g #[.pointer (some a), .int k y]).run P w = .ok (.value (.int k s)) (w.setCell a (.int k s))
class ECas (P : Program) (g : FuncId) (k : outParam IntKind) : Prop where
  hit : ∀ {a : Addr} {x y : Int} {w : World}, w.cell? a = some (.int k x) → w.frozen? a = false → (callFunc g #[.pointer (some a), .int k x, .int k y]).run P w = .ok (.value (.bool true)) (w.setCell a (.int k y))
class EMark0 (P : Program) (g : FuncId) : Prop where
  run : ∀ w, (callFunc g #[]).run P w = .ok (.value (.tuple #[])) w
class EMark (P : Program) (g : FuncId) : Prop where
  run : ∀ (a : Addr) w, (callFunc g #[.pointer (some a)]).run P w = .ok (.value (.tuple #[])) w

theorem setBlock_cell {w : World} {b off : Nat} {l l' : List Value} {T : TypeId} {v : Value} (h : w.heap[b]? = some (.cells l.toArray T (0, 0))) (hs : l.set off v = l') : SetBlock w (w.setCell ⟨b, off, none⟩ v) b (.cells l'.toArray T (0, 0)) := by
  rw [setCell_eq_setRow w b off _ T (0, 0) v h]
  have := setBlock_row h (l.toArray.setIfInBounds off v)
  rw [List.setIfInBounds_toArray, hs] at this
  rwa [List.setIfInBounds_toArray, hs]
theorem Spl.set {l l' : List Value} {n : Nat} {v : Value} [h : Spl l n [v] l'] : l.set n v = l' := by
  have := h.spl
  simp only [List.length_cons, List.length_nil] at this
  rw [set_mid _ _ _ (by omega), ← this.2]; simp

section
variable {P : Program} {o : Oper} {σ : Env} {w : World} {N : Nat} {ds : Md} {K : Env → World → Prop}
variable {f : Operand} {xs : List Operand} {vs : List Value} {ts : Array TypeId} {g : FuncId} {d : Nat}
theorem X_run {v : Value} {w' : World} (ho : o.op = .call { callee := .value f, args := xs.toArray, argTypes := ts }) (hf : ev σ f = some (.func (.func g) #[] #[])) (hv : evs σ xs = some vs) (hrun : (callFunc g vs.toArray).run P w = .ok (.value v) w')
    (hd : o.dst = some d) (hN : Nat.blt d N = true) (h : K ((d, v) :: σ) w') : X P o N ds σ w K := ⟨fun a ha K' Q' hK => by
  unfold Oper.wp
  have hexec : (execOp a.eval o).run P w = .ok (.value v) w' := by
    simp [execOp, ho, resolve, ha.eval hf, Deferred.ofValue, invoke, ha.evals hv, hrun]
  rw [hexec]
  have := hK _ _ _ (ha.put (lt_of_blt hN) v) h
  rw [← hd] at this
  exact this⟩
theorem X_eload {k : IntKind} {a : Addr} {x : Int} [hg : ELoad P g k] (ho : o.op = .call { callee := .value f, args := xs.toArray, argTypes := ts }) (hf : ev σ f = some (.func (.func g) #[] #[])) (hv : evs σ xs = some [.pointer (some a)]) (hc : w.cell? a = some (.int k x))
    (hd : o.dst = some d) (hN : Nat.blt d N = true) (h : K ((d, .int k x) :: σ) w) : X P o N ds σ w K := X_run ho hf hv (hg.run hc) hd hN h
theorem X_emark0 [hg : EMark0 P g] (ho : o.op = .call { callee := .value f, args := xs.toArray, argTypes := ts }) (hf : ev σ f = some (.func (.func g) #[] #[])) (hv : evs σ xs = some [])
    (hd : o.dst = some d) (hN : Nat.blt d N = true) (h : K ((d, .tuple #[]) :: σ) w) : X P o N ds σ w K := X_run ho hf hv (hg.run w) hd hN h
theorem X_emark {a : Addr} [hg : EMark P g] (ho : o.op = .call { callee := .value f, args := xs.toArray, argTypes := ts }) (hf : ev σ f = some (.func (.func g) #[] #[])) (hv : evs σ xs = some [.pointer (some a)])
    (hd : o.dst = some d) (hN : Nat.blt d N = true) (h : K ((d, .tuple #[]) :: σ) w) : X P o N ds σ w K := X_run ho hf hv (hg.run a w) hd hN h
variable {W : World} {F : Nat → Prop} {rs rs' : List Res} {b off : Nat} {l l' : List Value} {T : TypeId}
theorem frozen_none {w : World} {b off : Nat} {cs : Array Value} {T : TypeId} (h : w.heap[b]? = some (.cells cs T (0, 0))) : w.frozen? ⟨b, off, none⟩ = false := frozen_of_row w b off cs T h
theorem X_estore {k : IntKind} {y : Int} {u : Value} [hg : EStore P g] (ho : o.op = .call { callee := .value f, args := xs.toArray, argTypes := ts }) (hf : ev σ f = some (.func (.func g) #[] #[])) (hv : evs σ xs = some [.pointer (some ⟨b, off, none⟩), .int k y])
    (hd : o.dst = some d) (hN : Nat.blt d N = true) (hS : St W F rs w) [hh : Has rs b (.cells l.toArray T (0, 0))] [hn : Nth l off u] [hsp : Spl l off [.int k y] l'] [hu : Upd rs b (.cells l'.toArray T (0, 0)) rs']
    (h : ∀ w', St W F rs' w' → K ((d, .tuple #[]) :: σ) w') : X P o N ds σ w K :=
  have hb := hS.has (b := b) (o := .cells l.toArray T (0, 0))
  X_run ho hf hv (hg.run (hS.cell (b := b) (off := off) (l := l) (T := T) (fz := (0, 0)) (v := u)) (frozen_none hb)) hd hN (h _ (hS.upd (setBlock_cell hb hsp.set)))
theorem X_ecas {k : IntKind} {y x : Int} [hg : ECas P g k] (ho : o.op = .call { callee := .value f, args := xs.toArray, argTypes := ts }) (hf : ev σ f = some (.func (.func g) #[] #[])) (hv : evs σ xs = some [.pointer (some ⟨b, off, none⟩), .int k x, .int k y])
    (hd : o.dst = some d) (hN : Nat.blt d N = true) (hS : St W F rs w) [hh : Has rs b (.cells l.toArray T (0, 0))] [hn : Nth l off (.int k x)] [hsp : Spl l off [.int k y] l'] [hu : Upd rs b (.cells l'.toArray T (0, 0)) rs']
    (h : ∀ w', St W F rs' w' → K ((d, .bool true) :: σ) w') : X P o N ds σ w K :=
  have hb := hS.has (b := b) (o := .cells l.toArray T (0, 0))
  X_run ho hf hv (hg.hit (hS.cell (b := b) (off := off) (l := l) (T := T) (fz := (0, 0)) (v := .int k x)) (frozen_none hb)) hd hN (h _ (hS.upd (setBlock_cell hb hsp.set)))
theorem X_eadd {k : IntKind} {y x s : Int} [hg : EAdd P g k] (ho : o.op = .call { callee := .value f, args := xs.toArray, argTypes := ts }) (hf : ev σ f = some (.func (.func g) #[] #[])) (hv : evs σ xs = some [.pointer (some ⟨b, off, none⟩), .int k y]) (hs : k.wrap (x + y) = s)
    (hd : o.dst = some d) (hN : Nat.blt d N = true) (hS : St W F rs w) [hh : Has rs b (.cells l.toArray T (0, 0))] [hn : Nth l off (.int k x)] [hsp : Spl l off [.int k s] l'] [hu : Upd rs b (.cells l'.toArray T (0, 0)) rs']
    (h : ∀ w', St W F rs' w' → K ((d, .int k s) :: σ) w') : X P o N ds σ w K :=
  have hb := hS.has (b := b) (o := .cells l.toArray T (0, 0))
  X_run ho hf hv (hg.run (hS.cell (b := b) (off := off) (l := l) (T := T) (fz := (0, 0)) (v := .int k x)) (frozen_none hb) (by rw [← hs]; rfl)) hd hN (h _ (hS.upd (setBlock_cell hb hsp.set)))

/-! ### deferred calls -/
variable {ops : Array Oper} {Q : Exit → Act → World → Prop} {rest : List Oper}
theorem G_defer {dl : List Deferred} {first captured : List Value} (hgd : o.guard = none) (ho : o.op = .defer { callee := .value f, args := xs.toArray, argTypes := ts }) (hf : ev σ f = some (.func (.func g) first.toArray captured.toArray)) (hv : evs σ xs = some vs) (hd : o.dst = none)
    (h : G P ops Q rest N ⟨{ target := .fn (.func g) captured.toArray, args := (first ++ vs).toArray } :: dl, none⟩ σ w) : G P ops Q (o :: rest) N ⟨dl, none⟩ σ w := ⟨fun a ha =>
  wpListIn_plain hgd fun K hK => by
    refine ⟨fun _ _ => trivial, ?_⟩
    have hexec : (o.semAt (Fc ⟨dl, none⟩).round a.eval).run P w = .ok (.defer { target := .fn (.func g) captured.toArray, args := (first ++ vs).toArray }) w := by
      show (execOp a.eval o).run P w = _
      simp [execOp, ho, resolve, ha.eval hf, Deferred.ofValue, ha.evals hv]
    rw [hexec]
    refine hK _ _ (h.run _ ?_)
    rw [hd]
    exact ⟨ha.size, by simp [Act.put, ha.defers], ha.at_⟩⟩
theorem E_end0d {fn : Func} {R : Ending → World → Prop} (h : fn.results = #[]) (hR : R (.returned (.tuple #[])) w) : E (bodyPost P fn R) .normal N md0 σ w :=
  ⟨fun _ ha => ⟨ha.defers, _, by simp [results, h], hR⟩⟩
theorem E_ret0d {fn : Func} {R : Ending → World → Prop} (h : fn.results = #[]) (hR : R (.returned (.tuple #[])) w) : E (bodyPost P fn R) .ret N md0 σ w :=
  ⟨fun _ ha => ⟨ha.defers, _, by simp [results, h], hR⟩⟩
/-- A deferred call, at the end: the callee's body, walked. -/
theorem E_defer {fn fn' : Func} {R : Ending → World → Prop} {dl : List Deferred} {e : Exit} {captured args : List Value} {body : Code} {N' : Nat} (hf : P.funcs[g]? = some fn') (hb : fn'.body = some body) (hN : fn'.ntmps = N') (hl : Nat.ble (args ++ captured).length N' = true) [hg : Fun P g]
    (he : e = .ret ∨ e = .normal) (h : C P body (bodyPost P fn' (Ret fun _ w' => E (BP P fn R) e N ⟨dl, none⟩ σ w')) N' md0 (enum 0 (args ++ captured)) w) :
    E (BP P fn R) e N ⟨{ target := .fn (.func g) captured.toArray, args := args.toArray } :: dl, none⟩ σ w := ⟨fun a ha => by
  have hd : a.defers = { target := .fn (.func g) captured.toArray, args := args.toArray } :: dl := ha.defers
  have hcall : CallsDIn Fence.wide 0 P g (args ++ captured).toArray .returning w fun e' u' w' => u' = .returning ∧ Ret (fun _ w' => E (BP P fn R) e N ⟨dl, none⟩ σ w') e' w' :=
    callsDIn_of_wp (F := Fence.wide) hf hb trivial (h.run _ (enum_fr hN hl)) rfl
  have hinv : (invoke (.fn (.func g) captured.toArray) args.toArray).run P w = .ok (.enter g (args ++ captured).toArray) w := by
    have := hg.run (args ++ captured).toArray w
    simp only [invoke]
    simpa using this
  have key : LeavesInM (Fc md0) 0 P fn a.tmps R a.defers .returning w := by
    rw [hd]
    refine ⟨by simp, .inr ⟨fun h => by simp [Fc, Fence.wide] at h, .func g, captured.toArray, g, (args ++ captured).toArray, rfl, hinv, fun _ _ => trivial, ?_⟩⟩
    refine CallsDIn.mono hcall ?_
    rintro e' u' w' ⟨rfl, v, rfl, hE⟩
    have := hE.run { a with defers := dl } ⟨ha.size, rfl, ha.at_⟩
    rcases he with rfl | rfl <;> exact this
  rcases he with rfl | rfl <;> exact key⟩
end
end Cr
