/-
  'for .. := range f { .. }', f a function: rules for the walk. Over any program.
  Bits, strings of bytes. Over any program.
  Layer 2 (digest): what each function of package digest computes.
  The two tables of package digest, as the program's text lays them.
  A law's wrap, for every law alike: what is as it was reads as it did.
  Layer 2 (digest): mix.
  Lists of cells in parts; bytes in a block; quotients. Over any program.
  Layer 2 (digest): bytes, one.
  Layer 2 (digest): Write, Fork, Sum.
  Calls that make memory. Over any program.
-/
import Derived.Test.YtfcnoebnnglfkaaGreatDoorInd2
import Derived.Test.YtfcnoebnnglfkaaGreatDoorInd3
import Derived.Test.YtfcnoebnnglfkaaGreatDoorCards
import Derived.Test.YtfcnoebnnglfkaaGreatDoorTie
import Derived.WalkKit
import Derived.ProofKit
import Derived.OpenShut
import Derived.Deep.DeepHandedRow
import Derived.Lib.LaidTab
import Derived.Stop.LaidErr
import Derived.Carry
namespace Cr
open Go

theorem setBlock_put {w : World} {b : Nat} {o o' : Obj} (h : w.heap[b]? = some o) : SetBlock w { w with heap := w.heap.setIfInBounds b o' } b o' := by
  have hlt := lt_of_get h
  refine ⟨by simp, ?_, fun k hk => ?_, rfl, rfl, rfl⟩
  · simp [hlt]
  · simp [Ne.symm hk]

section
variable {P : Program} {Q : Exit → Act → World → Prop} {N : Nat} {ds : Md} {σ : Env} {w : World}
theorem Yl_makeFunc {o : Oper} {fn : Fn} {xs ys : List Operand} {first captured : List Value} (ho : o.op = .makeFunc fn xs.toArray ys.toArray) (hx : evs σ xs = some first) (hy : evs σ ys = some captured) : Yl P o σ w (.func fn first.toArray captured.toArray) := ⟨fun N ds a ha => by
  simp [execOp, ho, Instr.makeFunc, ha.evals hx, ha.evals hy]⟩
theorem run_load1 {t : TypeId} {ad : Addr} {v : Value} [h : One P t] (hc : w.cell? ad = some v) : (loadVar t ad).run P w = .ok v w := by
  simp [loadVar, h.one, load, Sem.run, hc]
theorem run_loadN {t : TypeId} {a : Addr} {cs : List Value} {n : Nat} [h : Agg P t] [hs : Siz P t n] (hc : CellsN w a n cs) : (loadVar t a).run P w = .ok (.agg cs.toArray) w := by
  obtain ⟨hc, rfl⟩ := hc
  exact run_loadAgg hc
theorem E_code2 {Q : Exit → Act → World → Prop} {y : Code} {ds' : Md} (hF : Fc ds' = Fc ds) (h : C P y Q N ds σ w) : E (Exit.then (y.wpIn (Fc ds') 0 P Q) Q) .normal N ds σ w := ⟨fun a ha => by rw [hF]; exact h.run a ha⟩
theorem E_plain {Q : Exit → Act → World → Prop} {e : Exit} (h : E Q e N ds σ w) : E Q e N ds σ w := h
def recd (fn : FuncId) (tm : Array Value) (ps : Array Tmp) (assign body : Code) (r : Nat) (st : LoopState) (jump : Option Code) : Loop :=
  { state := st, pending := jump, fn, tmps := tm, params := ps, assign, body, defers := r }
def mark (r : Nat) : Deferred := { target := .collected r, args := #[] }
/-- A yield's call, in the function that is ranged over. -/
theorem G_yield {ops : Array Oper} {rest : List Oper} {o : Oper} {f : Operand} {xs : List Operand} {vs : List Value} {ts : Array TypeId} {l d : Nat} {r : Loop} {R : Value → World → Prop} (hgd : o.guard = none) (ho : o.op = .call { callee := .value f, args := xs.toArray, argTypes := ts }) (hf : ev σ f = some (.func (.yield l) #[] #[])) (hv : evs σ xs = some vs)
    (hd : o.dst = some d) (hN : Nat.blt d N = true) (hl : w.heap[l]? = some (.loop r)) (hsz : vs.length = r.params.size)
    (hr : RoundIn Fence.wide 0 P l r.fn ((r.params.zip vs.toArray).foldl (fun tmps (t, a) => tmps.setIfInBounds t a) r.tmps) r.assign r.body w (Ret R)) (h : ∀ v w', R v w' → G P ops Q rest N ds ((d, v) :: σ) w') : G P ops Q (o :: rest) N ds σ w := ⟨fun a ha =>
  wpListIn_plain hgd fun K hK => by
    have hsem : o.semAt (Fc ds).round a.eval = execOp a.eval o := Oper.semAt_eq _ _ _ fun c hc => by rw [ho] at hc; cases hc
    refine ⟨fun _ _ => trivial, ?_⟩
    rw [hsem]
    have hexec : (execOp a.eval o).run P w = .ok (.round l r.fn ((r.params.zip vs.toArray).foldl (fun tmps (t, a) => tmps.setIfInBounds t a) r.tmps) r.assign r.body) w := by
      simp [execOp, ho, resolve, ha.eval hf, Deferred.ofValue, invoke, ha.evals hv, Instr.yield, Instr.getLoop, getObj, Sem.run, hl, hsz]
    rw [hexec]
    refine ⟨Fc_depth ds, ?_⟩
    obtain ⟨hF, hr⟩ := hr
    refine ⟨trivial, fun c cs hroom => ?_⟩
    obtain ⟨e, w', hR, hs⟩ := hr c cs (fun _ h => by simp [Fence.wide] at h)
    obtain ⟨v, rfl, hR⟩ := hR
    refine ⟨.returned v, w', ?_, hs⟩
    have := (h v w' hR).run _ (ha.put (lt_of_blt hN) v)
    rw [← hd] at this
    exact hK _ _ this⟩
/-- The frame of a round: the loop's slots with the parameters laid. -/
theorem Fr.round {tm : Array Value} (hsz : tm.size = N) (h : ∀ n v, look σ n = some v → tm[n]? = some v) (l : Nat) : Fr σ N ⟨[], some l⟩ { tmps := tm, defers := [] } := ⟨hsz, rfl, h⟩
def QA (P : Program) (l : Nat) (body : Code) (R : Ending → World → Prop) : Exit → Act → World → Prop :=
  Exit.then (fun a1 w1 => ∃ w2, (Instr.beginRound l).run P w1 = .ok () w2 ∧ body.wpIn (Fc ⟨[], some l⟩) 0 P (roundPost P l R) a1 w2) (fun _ _ _ => False)
theorem round_C {l : Nat} {f : FuncId} {tm : Array Value} {assign body : Code} {R : Ending → World → Prop} (hF : Fr σ N ⟨[], some l⟩ { tmps := tm, defers := [] }) (h : C P assign (QA P l body R) N ⟨[], some l⟩ σ w) :
    RoundIn Fence.wide 0 P l f tm assign body w R := roundIn_of_wpIn (F := Fence.wide) trivial (h.run _ hF)
theorem C_eq {A A' : Code} {Q : Exit → Act → World → Prop} (e : A = A') (h : C P A' Q N ds σ w) : C P A Q N ds σ w := e ▸ h
theorem E_begin {l : Nat} {fn : FuncId} {tm : Array Value} {ps : Array Tmp} {A B : Code} {rr : Nat} {j : Option Code} {body : Code} {R : Ending → World → Prop} (hl : w.heap[l]? = some (.loop (recd fn tm ps A B rr .ready j))) (h : ∀ w2, SetBlock w w2 l (.loop (recd fn tm ps A B rr .busy j)) → C P body (roundPost P l R) N ⟨[], some l⟩ σ w2) :
    E (QA P l body R) .normal N ⟨[], some l⟩ σ w := ⟨fun a ha => ⟨{ w with heap := w.heap.setIfInBounds l (.loop (recd fn tm ps A B rr .busy j)) }, by
  simp [Instr.beginRound, Instr.getLoop, getObj, setObj, Sem.run, hl, recd], (h _ (setBlock_put hl)).run a ha⟩⟩
theorem run_endRound {l : Nat} {fn : FuncId} {tm : Array Value} {ps : Array Tmp} {A B : Code} {rr : Nat} {st : LoopState} {j0 : Option Code} {j : Option Code} (hl : w.heap[l]? = some (.loop (recd fn tm ps A B rr st j0))) :
    (Instr.endRound l j).run P w = .ok (.bool j.isNone) { w with heap := w.heap.setIfInBounds l (.loop (recd fn tm ps A B rr (if j.isNone then .ready else .done) j)) } := by
  simp [Instr.endRound, Instr.getLoop, getObj, setObj, Sem.run, hl, recd]
theorem E_round_n {l : Nat} {fn : FuncId} {tm : Array Value} {ps : Array Tmp} {A B : Code} {rr : Nat} {st : LoopState} {j0 : Option Code} {R : Ending → World → Prop} {m : Md} (hl : w.heap[l]? = some (.loop (recd fn tm ps A B rr st j0))) (h : ∀ w', SetBlock w w' l (.loop (recd fn tm ps A B rr .ready none)) → R (.returned (.bool true)) w') : E (roundPost P l R) .normal N m σ w :=
  ⟨fun _ _ => ⟨_, _, run_endRound (j := none) hl, h _ (setBlock_put hl)⟩⟩
theorem E_round_ret {l : Nat} {fn : FuncId} {tm : Array Value} {ps : Array Tmp} {A B : Code} {rr : Nat} {st : LoopState} {j0 : Option Code} {R : Ending → World → Prop} {m : Md} (hl : w.heap[l]? = some (.loop (recd fn tm ps A B rr st j0))) (h : ∀ w', SetBlock w w' l (.loop (recd fn tm ps A B rr .done (some .ret))) → R (.returned (.bool false)) w') : E (roundPost P l R) .ret N m σ w :=
  ⟨fun _ _ => ⟨_, _, run_endRound (j := some .ret) hl, h _ (setBlock_put hl)⟩⟩
theorem E_round_exit {l id : Nat} {fn : FuncId} {tm : Array Value} {ps : Array Tmp} {A B : Code} {rr : Nat} {st : LoopState} {j0 : Option Code} {R : Ending → World → Prop} {m : Md} (hl : w.heap[l]? = some (.loop (recd fn tm ps A B rr st j0))) (h : ∀ w', SetBlock w w' l (.loop (recd fn tm ps A B rr .done (some (.exit id)))) → R (.returned (.bool false)) w') : E (roundPost P l R) (.exit id) N m σ w :=
  ⟨fun _ _ => ⟨_, _, run_endRound (j := some (.exit id)) hl, h _ (setBlock_put hl)⟩⟩

theorem C_rangeFunc {W : World} {F : Nat → Prop} {rs : List Res} {g : Operand} {ps : Array Tmp} {assign body : Code} {gid : FuncId} {first captured : List Value} (J : Nat → Nat → Option Code → World → Prop)
    (hro : ds.ro = none) (hg : ev σ g = some (.func (.func gid) first.toArray captured.toArray)) [hfun : Fun P gid] (hS : St W F rs w)
    (hcall : ∀ A B, A = assign → B = body → ∀ fn tm l r w1, tm.size = N → (∀ n v, look σ n = some v → tm[n]? = some v) → St W F (pts l (.loop (recd fn tm ps A B r .ready none)) :: pts r (.deferred (some [])) :: rs) w1 →
      CallsIn Fence.wide 0 P gid (first ++ (.func (.yield l) #[] #[] :: captured)).toArray w1 (Ret fun _ w3 => ∃ st jump, st ≠ .busy ∧ w3.heap[l]? = some (.loop (recd fn tm ps A B r st jump)) ∧
        ∀ w4, SetBlock w3 w4 l (.loop (recd fn tm ps A B r .exhausted jump)) → J l r jump w4))
    (hnone : ∀ l r w4, J l r none w4 → E Q .normal N ⟨mark r :: ds.ds, none⟩ σ w4)
    (hsome : ∀ l r c w4, J l r (some c) w4 → C P c Q N ⟨mark r :: ds.ds, none⟩ σ w4) : C P (.rangeFunc g ps assign body) Q N ds σ w := ⟨fun a ha => by
  rw [Fc_none hro]
  refine wpIn_rangeFunc fun fn _ => ?_
  have s1 := hS.alloc (.deferred (some []))
  have s2 := s1.alloc (.loop (recd fn a.tmps ps assign body w.heap.size .ready none))
  simp only [World.size_alloc] at s2
  obtain ⟨w1, hw1⟩ : ∃ w1, w1 = (w.alloc (.deferred (some []))).alloc (.loop (recd fn a.tmps ps assign body w.heap.size .ready none)) := ⟨_, rfl⟩
  rw [← hw1] at s2
  refine ⟨w.heap.size + 1, [mark w.heap.size], w1, { target := .fn (.func gid) captured.toArray, args := first.toArray ++ #[.func (.yield (w.heap.size + 1)) #[] #[]] }, w1, gid,
    (first ++ (.func (.yield (w.heap.size + 1)) #[] #[] :: captured)).toArray, w1, ?_, ?_, fun _ _ => trivial, ?_, fun h => by simp [Fence.wide] at h, ?_⟩
  · rw [hw1]
    simp [Instr.enterLoop, Fence.wide, recd, mark, newObj, Sem.run]
  · simp only [resolve, ha.eval hg, List.map_toArray, List.map_cons, List.map_nil]
    rfl
  · have := hfun.run (first ++ (.func (.yield (w.heap.size + 1)) #[] #[] :: captured)).toArray w1
    simp only [invoke]
    simpa using this
  · obtain ⟨_, hc⟩ := hcall _ _ rfl rfl fn a.tmps (w.heap.size + 1) w.heap.size _ ha.size ha.at_ s2
    refine ⟨trivial, fun cs hr => ?_⟩
    obtain ⟨e, w3, fr, ⟨v, he, st, jump, hst, hl, hJ⟩, hs, hfn, hlv⟩ := hc cs hr
    subst he
    refine ⟨.returned v, w3, fr, ⟨jump, { w3 with heap := w3.heap.setIfInBounds (w.heap.size + 1) (.loop (recd fn a.tmps ps assign body w.heap.size .exhausted jump)) }, ?_, ?_⟩, hs, hfn, hlv⟩
    · simp [Instr.endLoop, Instr.getLoop, getObj, setObj, Sem.run, hl, recd, hst]
    · have hJ' := hJ _ (setBlock_put hl)
      have ha' : Fr σ N ⟨mark w.heap.size :: ds.ds, none⟩ { a with defers := [mark w.heap.size] ++ a.defers } := ⟨ha.size, by simp [ha.defers], ha.at_⟩
      cases jump with
      | none => exact (hnone _ _ _ hJ').run _ ha'
      | some c => exact (hsome _ _ c _ hJ').run _ ha'⟩
/-- A return behind a range over a function: the mark goes. -/
theorem E_mark {fn : Func} {R : Ending → World → Prop} {r : Nat} {dl : List Deferred} {e : Exit} (he : e = .ret ∨ e = .normal) (hr : w.heap[r]? = some (.deferred (some []))) (h : ∀ w', SetBlock w w' r (.deferred none) → E (BP P fn R) e N ⟨dl, none⟩ σ w') : E (BP P fn R) e N ⟨mark r :: dl, none⟩ σ w := ⟨fun a ha => by
  have h1 := h _ (setBlock_put hr)
  have h2 := h1.run { a with defers := dl } ⟨ha.size, rfl, ha.at_⟩
  have hd : a.defers = mark r :: dl := ha.defers
  have hk : (Instr.takeDeferred r).run P w = .ok [] { w with heap := w.heap.setIfInBounds r (.deferred none) } := by
    simp [Instr.takeDeferred, getObj, setObj, Sem.run, hr]
  rcases he with rfl | rfl
  · show LeavesInM _ _ _ _ a.tmps R a.defers .returning w
    rw [hd]
    exact ⟨by simp, .inl ⟨r, _, rfl, hk, h2⟩⟩
  · show LeavesInM _ _ _ _ a.tmps R a.defers .returning w
    rw [hd]
    exact ⟨by simp, .inl ⟨r, _, rfl, hk, h2⟩⟩⟩
end
end Cr
namespace Cr
open Go
def iand (k : IntKind) (x y : Int) : Int := k.wrap (BitVec.ofInt k.bits x &&& BitVec.ofInt k.bits y).toNat
def ior (k : IntKind) (x y : Int) : Int := k.wrap (BitVec.ofInt k.bits x ||| BitVec.ofInt k.bits y).toNat
def ixor (k : IntKind) (x y : Int) : Int := k.wrap (BitVec.ofInt k.bits x ^^^ BitVec.ofInt k.bits y).toNat
def ishl (k : IntKind) (x : Int) (n : Nat) : Int := k.wrap (x * 2 ^ (min n k.bits))
def ishr (k : IntKind) (x : Int) (n : Nat) : Int := x.fdiv (2 ^ (min n k.bits))
section
variable {P : Program} {o : Oper} {σ : Env} {w : World} {x y : Operand} {t ty : TypeId} {k k' : IntKind} {a b : Int}
theorem Yl_and (ho : o.op = .binOp .and t x y ty) (hx : ev σ x = some (.int k a)) (hy : ev σ y = some (.int k b)) : Yl P o σ w (.int k (iand k a b)) := ⟨fun N ds f ha => by
  simp only [execOp, ho, ha.eval hx, ha.eval hy, binOp, eqGuard, Op.intBits, ne_eq, not_true_eq_false, if_false]; rfl⟩
theorem Yl_or (ho : o.op = .binOp .or t x y ty) (hx : ev σ x = some (.int k a)) (hy : ev σ y = some (.int k b)) : Yl P o σ w (.int k (ior k a b)) := ⟨fun N ds f ha => by
  simp only [execOp, ho, ha.eval hx, ha.eval hy, binOp, eqGuard, Op.intBits, ne_eq, not_true_eq_false, if_false]; rfl⟩
theorem Yl_xor (ho : o.op = .binOp .xor t x y ty) (hx : ev σ x = some (.int k a)) (hy : ev σ y = some (.int k b)) : Yl P o σ w (.int k (ixor k a b)) := ⟨fun N ds f ha => by
  simp only [execOp, ho, ha.eval hx, ha.eval hy, binOp, eqGuard, Op.intBits, ne_eq, not_true_eq_false, if_false]; rfl⟩
theorem Yl_shl (ho : o.op = .binOp .shl t x y ty) (hx : ev σ x = some (.int k a)) (hy : ev σ y = some (.int k' b)) (hb : 0 ≤ b) : Yl P o σ w (.int k (ishl k a b.toNat)) := ⟨fun N ds f ha => by
  have : ¬ b < 0 := by omega
  simp only [execOp, ho, ha.eval hx, ha.eval hy, binOp, eqGuard, Op.shift, if_neg this]; rfl⟩
theorem Yl_shr (ho : o.op = .binOp .shr t x y ty) (hx : ev σ x = some (.int k a)) (hy : ev σ y = some (.int k' b)) (hb : 0 ≤ b) : Yl P o σ w (.int k (ishr k a b.toNat)) := ⟨fun N ds f ha => by
  have : ¬ b < 0 := by omega
  simp only [execOp, ho, ha.eval hx, ha.eval hy, binOp, eqGuard, Op.shift, if_neg this]; rfl⟩
/-- A call that touches nothing of ours. -/
theorem X_callq {N : Nat} {ds : Md} {K : Env → World → Prop} (g : FuncId) {f : Operand} {xs : List Operand} {vs : List Value} {ts : Array TypeId} {d : Nat} {R : Value → Prop} {W : World} {F : Nat → Prop} {rs : List Res} (ho : o.op = .call { callee := .value f, args := xs.toArray, argTypes := ts }) (hf : ev σ f = some (.func (.func g) #[] #[])) (hv : evs σ xs = some vs) [hg : Fun P g]
    (hd : o.dst = some d) (hN : Nat.blt d N = true) (hS : St W F rs w) (hc : Calls P g vs.toArray w (Ret fun v w' => R v ∧ St w noF [] w')) (h : ∀ v w', R v → St W F rs w' → K ((d, v) :: σ) w') : X P o N ds σ w K :=
  X_callg g ho hf hv hd hN hc fun v w' ⟨hR, h'⟩ => h v w' hR (hS.below h'.toBelow)
theorem iand_7 (x : Int) : iand .i64 x 7 = x % 8 := by
  unfold iand
  have e : (BitVec.ofInt IntKind.i64.bits x &&& BitVec.ofInt IntKind.i64.bits 7).toNat = (x % 8).toNat := by
    rw [BitVec.toNat_and, BitVec.toNat_ofInt, BitVec.toNat_ofInt]
    show (x % 18446744073709551616).toNat &&& 7 = _
    rw [show (7 : Nat) = 2 ^ 3 - 1 from rfl, Nat.and_two_pow_sub_one_eq_mod]
    omega
  rw [e, IntKind.wrap_i64]
  omega
/-! blocks of numbers -/
def ints (k : IntKind) (L : List Int) : List Value := L.map (Value.int k)
theorem ints_length (k : IntKind) (L : List Int) : (ints k L).length = L.length := by simp [ints]
instance ones_ints (k : IntKind) (L : List Int) : Ones (ints k L) := ⟨fun u hu => by simp [ints] at hu; obtain ⟨n, _, rfl⟩ := hu; rfl⟩
theorem ints_get {k : IntKind} {L : List Int} {i : Nat} (h : i < L.length) : (ints k L)[i]? = some (.int k (L.getD i 0)) := by
  simp [ints, h, List.getD_eq_getElem?_getD]
theorem ints_rep (k : IntKind) (n : Nat) (x : Int) : List.replicate n (Value.int k x) = ints k (List.replicate n x) := by simp [ints]
theorem ints_set {k : IntKind} {L : List Int} {i : Nat} {x : Int} : (ints k L).set i (.int k x) = ints k (L.set i x) := by simp [ints, List.map_set]
theorem St.cellI {W : World} {F : Nat → Prop} {rs : List Res} {b off : Nat} {k : IntKind} {L : List Int} {T : TypeId} (hS : St W F rs w) [hh : Has rs b (.cells (ints k L).toArray T (0, 0))] (h : off < L.length) : w.cell? ⟨b, off, none⟩ = some (.int k (L.getD off 0)) := by
  rw [cell_of_row w b off _ T (0, 0) hS.has]
  simpa using ints_get (k := k) h
theorem X_storeI {N : Nat} {ds : Md} {K : Env → World → Prop} {b off : Nat} {k : IntKind} {n : Int} {L : List Int} {T : TypeId} {W : World} {F : Nat → Prop} {rs rs' : List Res} (ho : o.op = .store t x y) (hx : ev σ x = some (.pointer (some ⟨b, off, none⟩))) (hy : ev σ y = some (.int k n)) [hs : Siz P t 1]
    (hd : o.dst = none) (hS : St W F rs w) [hh : Has rs b (.cells (ints k L).toArray T (0, 0))] (hfit : off < L.length) [hu : Upd rs b (.cells (ints k (L.set off n)).toArray T (0, 0)) rs']
    (h : ∀ w', St W F rs' w' → K σ w') : X P o N ds σ w K := by
  have e : splice (ints k L) off [.int k n] = ints k (L.set off n) := by
    rw [← ints_set, set_mid _ _ _ (by rw [ints_length]; exact hfit)]
    simp [splice]
  have hu' : Upd rs b (.cells (splice (ints k L) off [.int k n]).toArray T (0, 0)) rs' := by rw [e]; exact hu
  exact X_storeL ho hx hy rfl (fun u hu => by simp at hu; subst hu; rfl) hd hS (by rw [ints_length]; exact hfit) (fun w' h' _ => h w' h')
theorem St.cellIP {W : World} {F : Nat → Prop} {rs : List Res} {b off : Nat} {k : IntKind} {L : List Int} {r : List Value} {T : TypeId} (hS : St W F rs w) [hh : Has rs b (.cells (ints k L ++ r).toArray T (0, 0))] (h : off < L.length) : w.cell? ⟨b, off, none⟩ = some (.int k (L.getD off 0)) := by
  rw [cell_of_row w b off _ T (0, 0) hS.has]
  have := ints_get (k := k) h
  simp only [List.getElem?_toArray]
  rw [List.getElem?_append_left (by rw [ints_length]; exact h)]
  exact this
theorem X_storeIP {N : Nat} {ds : Md} {K : Env → World → Prop} {b off : Nat} {k : IntKind} {n : Int} {L : List Int} {r : List Value} {T : TypeId} {W : World} {F : Nat → Prop} {rs rs' : List Res} (ho : o.op = .store t x y) (hx : ev σ x = some (.pointer (some ⟨b, off, none⟩))) (hy : ev σ y = some (.int k n)) [hs : Siz P t 1]
    (hd : o.dst = none) (hS : St W F rs w) [hh : Has rs b (.cells (ints k L ++ r).toArray T (0, 0))] (hfit : off < L.length) [hu : Upd rs b (.cells (ints k (L.set off n) ++ r).toArray T (0, 0)) rs']
    (h : ∀ w', St W F rs' w' → K σ w') : X P o N ds σ w K := by
  have e : splice (ints k L ++ r) off [.int k n] = ints k (L.set off n) ++ r := by
    rw [splice_append (by rw [ints_length]; exact hfit), ← ints_set, set_mid _ _ _ (by rw [ints_length]; exact hfit)]
    simp [splice]
  have hu' : Upd rs b (.cells (splice (ints k L ++ r) off [.int k n]).toArray T (0, 0)) rs' := by rw [e]; exact hu
  exact X_storeL ho hx hy rfl (fun u hu => by simp at hu; subst hu; rfl) hd hS (by rw [List.length_append, ints_length]; exact Nat.le_trans hfit (Nat.le_add_right _ _)) (fun w' h' _ => h w' h')
/-- A call of a closure that changes nothing. -/
theorem X_callc {N : Nat} {ds : Md} {K : Env → World → Prop} (g : FuncId) {f : Operand} {xs : List Operand} {vs captured : List Value} {ts : Array TypeId} {d : Nat} {R : Value → Prop} (ho : o.op = .call { callee := .value f, args := xs.toArray, argTypes := ts }) (hf : ev σ f = some (.func (.func g) #[] captured.toArray)) (hv : evs σ xs = some vs) [hg : Fun P g]
    (hd : o.dst = some d) (hN : Nat.blt d N = true) (hc : Calls P g (vs ++ captured).toArray w (Ret fun v w' => R v ∧ w = w')) (h : ∀ v, R v → K ((d, v) :: σ) w) : X P o N ds σ w K :=
  X_call (first := []) (captured := captured) ho hf hv hd hN (by simpa using hc) (by
    intro v w' h'
    obtain ⟨hR, e⟩ := h'
    subst e
    exact h v hR)
theorem row_pts_at {b off n : Nat} {l cs : List Value} {T : TypeId} (hs : (l.drop off).take n = cs) : ∀ h, pts b (.cells l.toArray T (0, 0)) h → row (some ⟨b, off, none⟩) cs h := fun _ hg => .inr ⟨b, off, l.toArray, T, (0, 0), rfl, hg, fun j v hv => by
  subst hs
  rw [List.getElem?_take] at hv
  split at hv
  · rw [List.getElem?_drop] at hv
    simpa using hv
  · cases hv⟩
theorem Rd.cellI {b o i : Nat} {k : IntKind} {L : List Int} (H : Rd w (row (some ⟨b, o, none⟩) (ints k L))) (h : i < L.length) : w.cell? ⟨b, o + i, none⟩ = some (.int k (L.getD i 0)) := H.cells i _ (ints_get h)
/-- One cell of a row. -/
theorem Rd.cell {a : Option Addr} {cs : List Value} {i : Nat} {v : Value} (H : Rd w (row a cs)) (hi : cs[i]? = some v) : w.cell? (adr a i) = some v := H.cells i v hi
end
end Cr
namespace Cr
open Go Go.Proofs
set_option maxRecDepth 100000
set_option maxHeartbeats 4000000

def spin (x : Int) (n : Nat) : Int := ior .u32 (ishr .u32 x n) (ishl .u32 x (32 - n))
theorem spin_ (x : Int) (n : Nat) (W : World) (h : n ≤ 32) : Calls Tryz.prog 358 #[.int .u32 x, .int .i64 n] W (Ret fun v w => v = .int .u32 (spin x n) ∧ St W noF [] w) := by
  have hS := St.start W
  refine calls_C Tryz.func358 rfl Tryz.ntmps358 rfl ?_
  repeat (first | (refine G_id ?_; first | refine G_nil ?_ | refine G_plain rfl rfl ?_) | (refine X_id ?_; first | refine X_yl (Yl_assign rfl rfl) rfl rfl ?_) | (refine C_id ?_; first | refine C_seq ?_ | refine C_region ?_) | (refine E_id ?_; first | refine E_code ?_))
  refine C_ord (.s 0 (.s 1 (.s 2 (.s 3 (.s 4 (.s 5 (.s 6 (.s 7 (.s 8 .nil))))))))) mixed (by kernel_rfl) rfl ?_
  have hS := hS.drew
  repeat (first | (refine C_id ?_; first | refine C_ret ?_) | (refine E_id ?_; first | refine E_code ?_ | refine E_ret1 rfl (Rv_tmp rfl) (Ret.mk ?_)) | (refine GO_id ?_; first | refine GO_nil ?_ | refine GO_pure rfl rfl (fun _ => Yl_move rfl rfl) rfl rfl ?_ | refine GO_pure rfl rfl (fun _ => Yl_assign rfl rfl) rfl rfl ?_ | refine GO_pure rfl rfl (fun _ => Yl_sub rfl rfl rfl (w64 (by omega) (by omega))) rfl rfl ?_ | refine GO_pure rfl rfl (fun _ => Yl_or rfl rfl rfl) rfl rfl ?_ | refine GO_pure rfl rfl (fun _ => Yl_shr rfl rfl rfl (by omega)) rfl rfl ?_ | refine GO_pure rfl rfl (fun _ => Yl_shl rfl rfl rfl (by omega)) rfl rfl ?_))
  refine ⟨?_, hS⟩
  unfold spin
  congr 3
  omega
theorem at_ (k i : Int) (b bi : Nat) (W : World) (hk : 0 ≤ k) (hk' : k < 8) (hi : 0 ≤ i) (hi' : i < 64) (hbi : Ro W noF (pts bi (.cells #[.int .i64 i] 3))) :
    Calls Tryz.prog 357 #[.int .i64 k, .pointer (some ⟨b, 0, none⟩), .pointer (some ⟨bi, 0, none⟩)] W (Ret fun v w => v = .pointer (some ⟨b, ((k - i) % 8).toNat, none⟩) ∧ W = w) := by
  have hS := St.start W
  have hbi := (hbi.rd hS).pts
  refine calls_C Tryz.func357 rfl Tryz.ntmps357 rfl ?_
  repeat (first | (refine G_id ?_; first | refine G_nil ?_ | refine G_plain rfl rfl ?_) | (refine X_id ?_; first | refine X_yl (Yl_move rfl rfl) rfl rfl ?_ | refine X_yl (Yl_assign rfl rfl) rfl rfl ?_ | refine X_yl (Yl_sub rfl rfl rfl (w64 (by omega) (by omega))) rfl rfl ?_ | refine X_yl (Yl_and rfl rfl rfl) rfl rfl ?_ | refine X_yl (Yl_load rfl rfl (cell_at (by assumption))) rfl rfl ?_) | (refine C_id ?_; first | refine C_seq ?_ | refine C_region ?_) | (refine E_id ?_; first | refine E_code ?_))
  rw [iand_7]
  repeat (first | (refine G_id ?_; first | refine G_nil ?_ | refine G_plain rfl rfl ?_) | (refine X_id ?_; first | refine X_yl (Yl_assign rfl rfl) rfl rfl ?_ | refine X_yl (Yl_indexAddr_arr rfl rfl rfl (by omega) (by omega)) rfl rfl ?_) | (refine C_id ?_; first | refine C_ret ?_) | (refine E_id ?_; first | refine E_code ?_ | refine E_ret1 rfl (Rv_tmp rfl) (Ret.mk ?_)))
  exact ⟨by simp, rfl⟩

/-! ### spread -/
def u32 (x : Int) : Int := IntKind.u32.wrap x
def byteAt (b : List UInt8) (i : Nat) : Int := u32 (b.getD i 0).toNat
def word (b : List UInt8) (i : Nat) : Int := ior .u32 (ior .u32 (ior .u32 (ishl .u32 (byteAt b (4 * i)) 24) (ishl .u32 (byteAt b (4 * i + 1)) 16)) (ishl .u32 (byteAt b (4 * i + 2)) 8)) (byteAt b (4 * i + 3))
def sig (a : Int) (p q r : Nat) : Int := ixor .u32 (ixor .u32 (spin a p) (spin a q)) (ishr .u32 a r)
def later (L : List Int) (i : Nat) : Int := u32 (u32 (u32 (L.getD (i - 16) 0 + sig (L.getD (i - 15) 0) 7 18 3) + L.getD (i - 7) 0) + sig (L.getD (i - 2) 0) 17 19 10)
def spreadTo (b : List UInt8) : Nat → List Int
  | 0 => List.replicate 64 0
  | i + 1 => (spreadTo b i).set i (if i < 16 then word b i else later (spreadTo b i) i)
theorem spreadTo_length (b : List UInt8) : ∀ i, (spreadTo b i).length = 64
  | 0 => by simp [spreadTo]
  | i + 1 => by simp [spreadTo, spreadTo_length b i]
theorem spread_ (a : Option Addr) (c : Nat) (b : List UInt8) (W : World) (hb : Rd W (bytes a b)) (h64 : b.length = 64) (hc : 64 ≤ c) :
    Calls Tryz.prog 356 #[.slice a 64 c] W (Ret fun v w => v = .agg (ints .u32 (spreadTo b 64)).toArray ∧ St W noF [] w) := by
  have hS := St.start W
  have hbo := hb.ro
  obtain ⟨ab, ao, rfl⟩ := hb.base (by intro e; have := bv_length b; rw [e] at this; simp at this; omega)
  refine calls_C Tryz.func356 rfl Tryz.ntmps356 rfl ?_
  repeat (first | (refine G_id ?_; first | refine G_nil ?_ | refine G_plain rfl rfl ?_) | (refine X_id ?_; first | refine X_yl (Yl_move rfl rfl) rfl rfl ?_ | refine X_alloc rfl rfl rfl hS (fun _ _ hS _ => ?_)) | (refine C_id ?_; first | refine C_seq ?_ | refine C_region ?_ | refine C_block ?_) | (refine E_id ?_; first | refine E_code ?_))
  rename_i b2 _ _ _ b3 _ _
  rw [ints_rep] at hS
  refine C_loop (α := Nat) (fun i => [(0, .slice (some ⟨ab, ao, none⟩) 64 c), (2, .pointer (some ⟨b2, 0, none⟩)), (3, .pointer (some ⟨b3, 0, none⟩)), (8, .int .i64 (i : Nat))])
    (fun i w => i ≤ 64 ∧ St W noF [pts b3 (.cells (ints .u32 (spreadTo b i)).toArray 504), pts b2 (.cells (List.replicate 64 (.int .u32 0)).toArray 504)] w) (fun i => 64 - i) 0 ⟨rfl, rfl, rfl, rfl, trivial⟩ ⟨Nat.zero_le _, hS⟩ ?_
  clear hS
  rintro i w ⟨hi, hS⟩
  obtain ⟨L, hLe⟩ : ∃ L, L = spreadTo b i := ⟨_, rfl⟩
  have hL : L.length = 64 := by rw [hLe]; exact spreadTo_length b i
  rw [← hLe] at hS
  by_cases h16 : i < 16
  · repeat (first | (refine G_id ?_; first | refine G_nil ?_ | refine G_plain rfl rfl ?_) | (refine X_id ?_; first | refine X_yl (Yl_move rfl rfl) rfl rfl ?_ | refine X_yl (Yl_assign rfl rfl) rfl rfl ?_ | refine X_yl (Yl_lss_t rfl rfl rfl (by omega)) rfl rfl ?_ | refine X_yl (Yl_add rfl rfl rfl (w64 (by omega) (by omega))) rfl rfl ?_ | refine X_yl (Yl_mul rfl rfl rfl (w64 (by omega) (by omega))) rfl rfl ?_) | (refine C_id ?_; first | refine C_seq ?_ | refine C_region ?_ | refine C_block ?_ | refine C_skip ?_ | refine C_cond_t rfl ?_) | (refine E_id ?_; first | refine E_code ?_))
    refine X_yl (Yl_slice (l := 4 * i) (h := 4 * i + 4) rfl rfl rfl rfl (.inr ⟨_, _, rfl, by omega, by omega, by omega⟩) (.inr ⟨_, _, rfl, by omega, by omega, by omega⟩)) rfl rfl ?_
    rw [show sub (some ⟨ab, ao, none⟩) (4 * i) 1 c = some ⟨ab, ao + 4 * i, none⟩ by unfold sub; rw [if_neg (by omega)]; simp [add_lit], show 4 * i + 4 - 4 * i = 4 by omega]
    repeat (first | (refine G_id ?_; first | refine G_nil ?_ | refine G_plain rfl rfl ?_) | (refine X_id ?_; first | refine X_yl (Yl_assign rfl rfl) rfl rfl ?_) | (refine C_id ?_; first | refine C_seq ?_) | (refine E_id ?_; first | refine E_code ?_))
    refine C_ord (.s 0 (.s 1 (.s 2 (.s 3 (.s 4 (.s 5 (.s 6 (.s 7 (.s 8 (.s 9 (.s 10 (.s 11 (.s 12 (.s 13 (.s 14 (.s 15 (.s 16 (.s 17 (.s 18 (.s 19 (.s 20 (.s 21 (.s 22 (.s 23 (.h 24 .nil .no))))))))))))))))))))))))) mixed (by kernel_rfl) rfl ?_
    have hS := hS.drew
    have hcell : ∀ j, j < 4 → _root_.Go.World.cell? _ ⟨ab, ao + 4 * i + j, none⟩ = some (.int .u8 ((b.getD (4 * i + j) 0).toNat : Nat)) := fun j hj => by
      have := (hbo.rd hS).cell (i := 4 * i + j) (v := .int .u8 ((b.getD (4 * i + j) 0).toNat : Nat)) (by simp [bv, List.getD_eq_getElem?_getD, show 4 * i + j < b.length by omega])
      simpa [adr, Nat.add_assoc] using this
    have q0 := hcell 0 (by omega)
    have q1 := hcell 1 (by omega)
    have q2 := hcell 2 (by omega)
    have q3 := hcell 3 (by omega)
    repeat (first | (refine G_id ?_; first | refine G_nil ?_ | refine G_plain rfl rfl ?_) | (refine X_id ?_; first | refine X_yl (Yl_move rfl rfl) rfl rfl ?_ | refine X_yl (Yl_add rfl rfl rfl (w64 (by omega) (by omega))) rfl rfl ?_ | refine X_storeI rfl rfl rfl rfl hS (by omega) (fun _ hS => ?_)) | (refine C_id ?_; first | refine C_region ?_ | refine C_exit ?_) | (refine E_id ?_; first | refine E_code ?_ | refine E_then_exit ?_ | refine E_blk_same ?_) | (refine GO_id ?_; first | refine GO_nil ?_ | refine GO_pure rfl rfl (fun _ => Yl_move rfl rfl) rfl rfl ?_ | refine GO_pure rfl rfl (fun _ => Yl_indexAddr_arr rfl rfl rfl (by omega) (by omega)) rfl rfl ?_ | refine GO_pure rfl rfl (fun _ => Yl_indexAddr rfl rfl rfl (by omega) (by omega) (by first | assumption | exact ⟨_, _, rfl⟩)) rfl rfl ?_ | refine GO_pure rfl rfl (fun _ => Yl_convInt rfl rfl rfl) rfl rfl ?_ | refine GO_pure rfl rfl (fun _ => Yl_or rfl rfl rfl) rfl rfl ?_ | refine GO_pure rfl rfl (fun _ => Yl_shl rfl rfl rfl (by omega)) rfl rfl ?_ | refine GO_read (fun w' => w'.cell? _ = some _) rfl rfl (by assumption) (fun _ hc => Yl_load rfl rfl hc) rfl rfl ?_ | refine GO_hard rfl rfl ?_) | (refine Keep_id ?_; first | refine And.intro (by repeat (first | exact trivial | refine And.intro (.inl (by decide +kernel)) ?_ | refine And.intro (.inr (by first | assumption | exact hS.cell | exact cell_at (by assumption) | exact hS.cellI (by omega) | exact hS.cellIP (by omega) | exact hS.cellsN | exact ((hr.rd hS).cellX (by omega) hx) | exact ((hr2.rd hS).cellX (by omega) hx2) | exact hS.cellB (by omega) | exact hS.cellBA (by omega) | exact (hb.rd hS).cellB' (by omega) | exact (hb2.rd hS).cellB' (by omega) | exact (hg.rd hS).cellI (by omega) | exact (hg2.rd hS).cellI (by omega) | exact ((hr.rd hS).cellF (by first | omega | (dsimp only; omega)) hx) | exact ((hr2.rd hS).cellF (by first | omega | (dsimp only; omega)) hx2) | exact hS.cellO 0 (by omega) | exact hS.cellO 1 (by omega) | exact hS.cellIA (by omega) | exact (hg.rd hS).cellIA (by omega) | exact (hg2.rd hS).cellIA (by omega) | exact cell_at (hc.rd hS).pts | exact hb.rd hS | exact hS.cellO 4 (by omega) | exact hS.cellO 5 (by omega) | exact hS.cellO 6 (by omega) | exact hS.cellO 7 (by omega) | exact hS.cellO 8 (by omega) | exact hS.cellO 9 (by omega) | exact hS.cellO 10 (by omega) | exact hS.cellO 11 (by omega) | exact hS.cellO 12 (by omega) | exact hS.cellO 13 (by omega))) ?_)) ?_))
    refine E_round (i + 1) ⟨rfl, rfl, rfl, rfl, trivial⟩ ⟨by omega, ?_⟩ (by omega)
    rw [show 0 + (i : Int).toNat * 1 = i by omega, hLe] at hS
    simp only [spreadTo, if_pos h16]
    exact hS
  · by_cases h64 : i < 64
    · repeat (first | (refine G_id ?_; first | refine G_nil ?_ | refine G_plain rfl rfl ?_) | (refine X_id ?_; first | refine X_yl (Yl_move rfl rfl) rfl rfl ?_ | refine X_yl (Yl_assign rfl rfl) rfl rfl ?_ | refine X_yl (Yl_lss_t rfl rfl rfl (by omega)) rfl rfl ?_ | refine X_yl (Yl_lss_f rfl rfl rfl (by omega)) rfl rfl ?_) | (refine C_id ?_; first | refine C_seq ?_ | refine C_region ?_ | refine C_block ?_ | refine C_skip ?_ | refine C_cond_t rfl ?_ | refine C_cond_f rfl ?_) | (refine E_id ?_; first | refine E_code ?_))
      refine C_ord (.s 0 (.s 1 (.s 2 (.s 3 (.s 4 (.s 5 (.s 6 (.s 7 (.s 8 (.s 9 .nil)))))))))) mixed (by kernel_rfl) rfl ?_
      have hS := hS.drew
      repeat (first | (refine E_id ?_; first | refine E_code ?_) | (refine GO_id ?_; first | refine GO_nil ?_ | refine GO_pure rfl rfl (fun _ => Yl_move rfl rfl) rfl rfl ?_ | refine GO_pure rfl rfl (fun _ => Yl_assign rfl rfl) rfl rfl ?_ | refine GO_pure rfl rfl (fun _ => Yl_indexAddr_arr rfl rfl rfl (by omega) (by omega)) rfl rfl ?_ | refine GO_pure rfl rfl (fun _ => Yl_sub rfl rfl rfl (w64 (by omega) (by omega))) rfl rfl ?_ | refine GO_read (fun w' => w'.cell? _ = some _) rfl rfl (hS.cellI (by omega)) (fun _ hc => Yl_load rfl rfl hc) rfl rfl ?_))
      refine C_ord (.s 0 (.s 1 (.s 2 (.s 3 (.s 4 (.s 5 (.s 7 (.s 10 (.s 11 (.s 14 (.s 15 (.s 16 (.s 17 (.s 19 (.s 21 (.s 24 (.s 25 (.h 6 (.h 8 (.s 9 (.s 12 (.s 13 (.s 18 (.h 20 (.h 22 (.s 23 (.s 26 (.s 27 (.s 28 (.h 29 .nil .no))))) .no) .no))))) .no) .no)))))))))))))))))) mixed (by kernel_rfl) rfl ?_
      have hS := hS.drew
      repeat (first | (refine G_id ?_; first | refine G_nil ?_ | refine G_plain rfl rfl ?_) | (refine X_id ?_; first | (refine X_callq 358 rfl rfl rfl rfl rfl hS (spin_ _ _ _ (by decide)) ?_; rintro _ _ rfl hS) | refine X_yl (Yl_move rfl rfl) rfl rfl ?_ | refine X_yl (Yl_add rfl rfl rfl (w64 (by omega) (by omega))) rfl rfl ?_ | refine X_storeI rfl rfl rfl rfl hS (by omega) (fun _ hS => ?_)) | (refine C_id ?_; first | refine C_region ?_) | (refine E_id ?_; first | refine E_code ?_ | refine E_blk_n ?_) | (refine GO_id ?_; first | refine GO_nil ?_ | refine GO_pure rfl rfl (fun _ => Yl_move rfl rfl) rfl rfl ?_ | refine GO_pure rfl rfl (fun _ => Yl_indexAddr_arr rfl rfl rfl (by omega) (by omega)) rfl rfl ?_ | refine GO_pure rfl rfl (fun _ => Yl_sub rfl rfl rfl (w64 (by omega) (by omega))) rfl rfl ?_ | refine GO_pure rfl rfl (fun _ => Yl_add rfl rfl rfl rfl) rfl rfl ?_ | refine GO_pure rfl rfl (fun _ => Yl_xor rfl rfl rfl) rfl rfl ?_ | refine GO_pure rfl rfl (fun _ => Yl_shr rfl rfl rfl (by omega)) rfl rfl ?_ | refine GO_read (fun w' => w'.cell? _ = some _) rfl rfl (hS.cellI (by omega)) (fun _ hc => Yl_load rfl rfl hc) rfl rfl ?_ | refine GO_hard rfl rfl ?_) | (refine Keep_id ?_; first | refine And.intro (by repeat (first | exact trivial | refine And.intro (.inl (by decide +kernel)) ?_ | refine And.intro (.inr (by first | assumption | exact hS.cell | exact cell_at (by assumption) | exact hS.cellI (by omega) | exact hS.cellIP (by omega) | exact hS.cellsN | exact ((hr.rd hS).cellX (by omega) hx) | exact ((hr2.rd hS).cellX (by omega) hx2) | exact hS.cellB (by omega) | exact hS.cellBA (by omega) | exact (hb.rd hS).cellB' (by omega) | exact (hb2.rd hS).cellB' (by omega) | exact (hg.rd hS).cellI (by omega) | exact (hg2.rd hS).cellI (by omega) | exact ((hr.rd hS).cellF (by first | omega | (dsimp only; omega)) hx) | exact ((hr2.rd hS).cellF (by first | omega | (dsimp only; omega)) hx2) | exact hS.cellO 0 (by omega) | exact hS.cellO 1 (by omega) | exact hS.cellIA (by omega) | exact (hg.rd hS).cellIA (by omega) | exact (hg2.rd hS).cellIA (by omega) | exact cell_at (hc.rd hS).pts | exact hb.rd hS | exact hS.cellO 4 (by omega) | exact hS.cellO 5 (by omega) | exact hS.cellO 6 (by omega) | exact hS.cellO 7 (by omega) | exact hS.cellO 8 (by omega) | exact hS.cellO 9 (by omega) | exact hS.cellO 10 (by omega) | exact hS.cellO 11 (by omega) | exact hS.cellO 12 (by omega) | exact hS.cellO 13 (by omega))) ?_)) ?_))
      refine E_round (i + 1) ⟨rfl, rfl, rfl, rfl, trivial⟩ ⟨by omega, ?_⟩ (by omega)
      rw [show 0 + (i : Int).toNat * 1 = i by omega, show 0 + ((i : Int) - 16).toNat * 1 = i - 16 by omega, show 0 + ((i : Int) - 15).toNat * 1 = i - 15 by omega, show 0 + ((i : Int) - 7).toNat * 1 = i - 7 by omega, show 0 + ((i : Int) - 2).toNat * 1 = i - 2 by omega, hLe] at hS
      simp only [spreadTo, if_neg h16]
      exact hS
    · obtain rfl : i = 64 := by omega
      have hlen : LenIs (ints .u32 L) 64 := ⟨by rw [ints_length]; exact hL⟩
      repeat (first | (refine G_id ?_; first | refine G_nil ?_ | refine G_plain rfl rfl ?_) | (refine X_id ?_; first | refine X_yl (Yl_lss_f rfl rfl rfl (by omega)) rfl rfl ?_ | refine X_yl (Yl_loadN rfl rfl hS.cellsN) rfl rfl ?_ | refine X_store rfl rfl rfl rfl hS (fun _ hS _ => ?_)) | (refine C_id ?_; first | refine C_seq ?_ | refine C_region ?_ | refine C_ret ?_ | refine C_exit ?_ | refine C_cond_f rfl ?_) | (refine E_id ?_; first | refine E_code ?_ | refine E_then_exit ?_ | refine E_blk_same ?_ | refine E_ret1 rfl (by first | exact Rv_tmp rfl | exact Rv_cell rfl (run_load1 hS.cell) | exact Rv_cell rfl (run_loadN hS.cellsN)) (Ret.mk ?_)))
      exact ⟨by rw [hLe], hS.drops⟩
end Cr
namespace Cr
open Go
theorem Rd.ofCells {w : World} {b : Nat} {l : List Value} (h : ∀ i v, l[i]? = some v → w.cell? ⟨b, i, none⟩ = some v) (hl : l ≠ []) : Rd w (row (some ⟨b, 0, none⟩) l) := by
  obtain ⟨v0, hv0⟩ : ∃ v, l[0]? = some v := by
    cases l with
    | nil => exact absurd rfl hl
    | cons x r => exact ⟨x, rfl⟩
  have h0 := h 0 v0 hv0
  unfold World.cell? at h0
  split at h0
  · rename_i c t fz hb
    refine ⟨single b (.cells c t fz), .inr ⟨b, 0, c, t, fz, rfl, rfl, fun i v hv => ?_⟩, fun k o e => ?_⟩
    · have := h i v hv
      rw [cell_of_row w b i c t fz hb] at this
      simpa using this
    · obtain ⟨rfl, rfl⟩ := of_single e
      exact hb
  · cases h0
def roundL : List Int := [1116352408, 1899447441, 3049323471, 3921009573, 961987163, 1508970993, 2453635748, 2870763221, 3624381080, 310598401, 607225278, 1426881987, 1925078388, 2162078206, 2614888103, 3248222580, 3835390401, 4022224774, 264347078, 604807628, 770255983, 1249150122, 1555081692, 1996064986, 2554220882, 2821834349, 2952996808, 3210313671, 3336571891, 3584528711, 113926993, 338241895, 666307205, 773529912, 1294757372, 1396182291, 1695183700, 1986661051, 2177026350, 2456956037, 2730485921, 2820302411, 3259730800, 3345764771, 3516065817, 3600352804, 4094571909, 275423344, 430227734, 506948616, 659060556, 883997877, 958139571, 1322822218, 1537002063, 1747873779, 1955562222, 2024104815, 2227730452, 2361852424, 2428436474, 2756734187, 3204031479, 3329325298]
def firstL : List Int := [1779033703, 3144134277, 1013904242, 2773480762, 1359893119, 2600822924, 528734635, 1541459225]
theorem roundL_length : roundL.length = 64 := rfl
theorem firstL_length : firstL.length = 8 := rfl
end Cr
namespace Go.Proofs.YtfcnoebnnglfkaaGreatDoor
open Go.ChangeShapes Go.WideShapes Go.ChangeAt Go.RowKit
theorem lawOwn : ownKnob Tryz.prog.godebug = none := by kernel_rfl
theorem lawLaid : laidOutB Tryz.prog = true := by kernel_rfl
theorem post_of_law {H : Type} {enc : TypeId × Value → H} {P : Program} {f : Func} {s : ChangeSpec} {apart fresh handsOn again : Bool} {W W' : World} {args : Array Value} {v : Value} {ds gs : List (DataW H)} {before pa pv : List MemPlace}
    (hW : DataW.Whole enc P f.params.toList s.vars apart W args.toList ds gs before)
    (hres : ∀ (b : Nat) (sp : Nat → Bool) (hd : Bool), DataW.TrodAll enc P W' b sp hd f.resultTypes.toList (v.resultList f.resultTypes.size) (s.fn H (ds ++ gs)).results [])
    (hargs : ∀ sp : Nat → Bool, (∀ p ∈ before, sp p.block = true) → DataW.TrodAll enc P W' 0 sp true f.params.toList args.toList (s.fn H (ds ++ gs)).args pa)
    (hvars : ∀ sp : Nat → Bool, (∀ p ∈ before, sp p.block = true) → DataW.TrodVars enc P W' sp s.vars (s.fn H (ds ++ gs)).vars pv)
    (hps : before = pa ++ pv) (hk : W.keptBut W' (· ∈ before)) (hfz : ∀ a : Addr, a.block < W.heap.size → W'.frozen? a = W.frozen? a)
    (hok : ∀ (j : Nat) (t : TypeId) (r : Value), f.resultTypes[j]? = some t → (v.resultList f.resultTypes.size)[j]? = some r → Value.okWide P W' .any 0 t r) :
    s.post enc P f apart fresh handsOn again W args v W' := by
  have hold : ∀ p ∈ before, (fun b => decide (b < W.heap.size)) p.block = true := fun p hp => by simpa using hW.lt p hp
  have hlt : ∀ p ∈ before, p.block < W.heap.size := hW.lt
  refine ⟨ds, gs, before, [], pa, pv, hW, hres _ _ _, hargs _ hold, hvars _ hold, World.keptBut_mono (fun p hp => ⟨hp, ?_⟩) hk, fun _ => ?_⟩
  · rw [hps, List.mem_append] at hp
    exact Or.inr hp
  · obtain ⟨_, _, _, _, _, hz, hn⟩ := hW
    refine ⟨hok, _, _, ([] ++ pa) ++ pv, ⟨[] ++ pa, pv, trodAll_append (hargs _ (fun _ _ => rfl)) (hres _ _ _), hvars _ (fun _ _ => rfl), rfl, ?_, ?_⟩, ?_⟩
    · intro b off hp
      have hp' := hp
      rw [show ([] ++ pa) ++ pv = before by rw [hps]; rfl] at hp'
      rw [hfz _ (hlt _ hp')]
      exact hz b off hp'
    · intro ha
      have := hn ha
      rw [hps] at this
      simpa using this
    · intro p hp _
      rw [hps]
      simpa using hp
theorem trodAll_stays {H : Type} {enc : TypeId × Value → H} {P : Program} (hl : laidOutB P = true) {W W' : World} (hb : Below W.heap.size W W') {sp : Nat → Bool} : ∀ {ts : List TypeId} {vs : List Value} {ds : List (DataW H)} {ps : List MemPlace}, (∀ t ∈ ts, P.readableRec t = true ∧ t < P.types.size) →
    DataW.TrodAll enc P W 0 (fun _ => true) true ts vs ds ps → (∀ p ∈ ps, p.block < W.heap.size) → (∀ p ∈ ps, sp p.block = true) → DataW.TrodAll enc P W' 0 sp true ts vs ds ps
  | [], [], [], _, _, h, _, _ => h
  | _ :: _, _ :: _, _ :: _, _, hT, ⟨p, q, h1, h2, e⟩, hlt, hs => ⟨p, q,
      WideElems.Trod_stays hl (hT _ (List.mem_cons_self ..)).1 (hT _ (List.mem_cons_self ..)).2 h1 (fun x hx => hb.same (hlt x (by rw [e]; exact List.mem_append_left _ hx))) (fun x hx => hs x (by rw [e]; exact List.mem_append_left _ hx)),
      trodAll_stays hl hb (fun t ht => hT t (List.mem_cons_of_mem _ ht)) h2 (fun x hx => hlt x (by rw [e]; exact List.mem_append_right _ hx)) (fun x hx => hs x (by rw [e]; exact List.mem_append_right _ hx)), e⟩
def tabOf (l : List Value) : Obj → Obj
  | .cells _ t frozen => .cells l.toArray t frozen
  | o => o
/-- A world for a witness: the settled one, the two tables of package digest as their initialisers lay them. -/
noncomputable def lawWorld (os : Os) : World :=
  { World.holding Tryz.prog os ⟨#[], #[], []⟩ with heap := ((World.holding Tryz.prog os ⟨#[], #[], []⟩).heap.modify 2 (tabOf (Cr.ints .u32 Cr.roundL))).modify 0 (tabOf (Cr.ints .u32 Cr.firstL)) }
end Go.Proofs.YtfcnoebnnglfkaaGreatDoor
namespace Cr
open Go Go.Proofs
set_option maxRecDepth 100000
set_option maxHeartbeats 6000000
attribute [local irreducible] Calls

/-- Where the word k of a step i lies. -/
def spot (k : Int) (i : Nat) : Nat := ((k - i) % 8).toNat
theorem spot_lt (k : Int) (i : Nat) : spot k i < 8 := by unfold spot; omega
def sig3 (a : Int) (p q r : Nat) : Int := ixor .u32 (ixor .u32 (spin a p) (spin a q)) (spin a r)
def mixT (rd w : List Int) (V : List Int) (i : Nat) : Int :=
  let e := V.getD (spot 4 i) 0
  u32 (u32 (u32 (u32 (V.getD (spot 7 i) 0 + sig3 e 6 11 25) + ixor .u32 (V.getD (spot 6 i) 0) (iand .u32 e (ixor .u32 (V.getD (spot 5 i) 0) (V.getD (spot 6 i) 0)))) + rd.getD ((i : Int).toNat * 1) 0) + w.getD (0 + (i : Int).toNat * 1) 0)
def mixU (rd w : List Int) (V : List Int) (i : Nat) : List Int := V.set (spot 3 i) (u32 (V.getD (spot 3 i) 0 + mixT rd w V i))
def mixStep (rd w : List Int) (V : List Int) (i : Nat) : List Int :=
  let a := V.getD (spot 0 i) 0
  let t := mixT rd w V i
  let U := mixU rd w V i
  U.set (spot 7 i) (u32 (u32 (t + sig3 a 2 13 22) + ior .u32 (iand .u32 a (U.getD (spot 1 i) 0)) (iand .u32 (U.getD (spot 2 i) 0) (ior .u32 a (U.getD (spot 1 i) 0)))))
def mixTo (rd w H : List Int) : Nat → List Int
  | 0 => H
  | i + 1 => mixStep rd w (mixTo rd w H i) i
theorem mixTo_length (rd w H : List Int) : ∀ i, (mixTo rd w H i).length = H.length
  | 0 => rfl
  | i + 1 => by simp [mixTo, mixStep, mixU, mixTo_length rd w H i]
def addTo (H V : List Int) : Nat → List Int
  | 0 => H
  | i + 1 => (addTo H V i).set i (u32 ((addTo H V i).getD i 0 + V.getD i 0))
theorem addTo_length (H V : List Int) : ∀ i, (addTo H V i).length = H.length
  | 0 => rfl
  | i + 1 => by simp [addTo, addTo_length H V i]
/-- A block more. -/
def blend (rd H : List Int) (b : List UInt8) : List Int := addTo H (mixTo rd (spreadTo b 64) H 64) 8
theorem blend_length (rd H : List Int) (b : List UInt8) : (blend rd H b).length = H.length := addTo_length _ _ _

theorem St.abs2 {W : World} {F : Nat → Prop} {r : Res} {b : Nat} {k : IntKind} {L : List Int} {T : TypeId} {rs : List Res} {w : World} (hS : St W F (r :: pts b (.cells (ints k L).toArray T) :: rs) w) : ∃ U, U = L ∧ St W F (r :: pts b (.cells (ints k U).toArray T) :: rs) w := ⟨L, rfl, hS⟩
theorem mix_ (s : Nat) (H rd : List Int) (R : List UInt8) (tot : Int) (T : TypeId) (W : World) (F : Nat → Prop) (hH : H.length = 8) (hR : R.length = 64) (hrd : rd.length = 64) (hg : Ro W F (row (some ⟨2, 0, none⟩) (ints .u32 rd)))
    (hS : St W F [pts s (.cells (ints .u32 H ++ (bv R ++ [Value.int .i64 tot])).toArray T)] W) :
    Calls Tryz.prog 329 #[.pointer (some ⟨s, 0, none⟩), .slice (some ⟨s, 8, none⟩) 64 64] W (Ret fun _ w => True ∧ St W F [pts s (.cells (ints .u32 (blend rd H R) ++ (bv R ++ [Value.int .i64 tot])).toArray T)] w) := by
  have hRb : Rd W (bytes (some ⟨s, 8, none⟩) R) := (hS.rd (List.mem_cons_self ..)).mono fun h hh => ⟨h, row_pts_at (n := 64) (by
    rw [List.drop_append_of_le_length (by rw [ints_length]; omega), List.drop_of_length_le (by rw [ints_length]; omega), List.nil_append, List.take_append_of_le_length (by simp [hR]), List.take_of_length_le (by simp [hR])]) h hh, fun _ _ e => e⟩
  have hlH : LenIs (ints .u32 H) 8 := ⟨by rw [ints_length]; exact hH⟩
  have hlS : LenIs (ints .u32 (spreadTo R 64)) 64 := ⟨by rw [ints_length]; exact spreadTo_length _ _⟩
  refine calls_C Tryz.func329 rfl Tryz.ntmps329 rfl ?_
  repeat (first | (refine G_id ?_; first | refine G_nil ?_ | refine G_plain rfl rfl ?_) | (refine X_id ?_; first | (refine X_callq 356 rfl rfl rfl rfl rfl hS (spread_ _ _ R _ hRb hR (by omega)) ?_; rintro _ _ rfl hS) | refine X_yl (Yl_move rfl rfl) rfl rfl ?_ | refine X_yl (Yl_nilCheck rfl rfl) rfl rfl ?_ | refine X_yl (Yl_loadN rfl rfl hS.cellsN) rfl rfl ?_ | refine X_store rfl rfl rfl rfl hS (fun _ hS _ => ?_) | refine X_alloc rfl rfl rfl hS (fun _ _ hS _ => ?_)) | (refine C_id ?_; first | refine C_seq ?_ | refine C_region ?_) | (refine E_id ?_; first | refine E_code ?_))
  rename_i b5 _ _
  refine X_store (l := List.replicate 8 (.int .u32 0)) rfl rfl rfl rfl hS (fun _ hS _ => ?_)
  repeat (first | (refine G_id ?_; first | refine G_nil ?_ | refine G_plain rfl rfl ?_) | (refine X_id ?_; first | refine X_yl (Yl_move rfl rfl) rfl rfl ?_) | (refine C_id ?_; first | refine C_seq ?_ | refine C_region ?_ | refine C_block ?_) | (refine E_id ?_; first | refine E_code ?_))
  rename_i b4 _ _ _ _ _ _ _ _ _ _ _
  refine C_loop (α := Nat) (fun i => [(0, .pointer (some ⟨s, 0, none⟩)), (4, .pointer (some ⟨b4, 0, none⟩)), (5, .pointer (some ⟨b5, 0, none⟩)), (17, .int .i64 (i : Nat))])
    (fun i w => i ≤ 64 ∧ St W F [pts b5 (.cells (ints .u32 (mixTo rd (spreadTo R 64) H i)).toArray 414), pts b4 (.cells (ints .u32 (spreadTo R 64)).toArray 504), pts s (.cells (ints .u32 H ++ (bv R ++ [Value.int .i64 tot])).toArray T)] w) (fun i => 64 - i) 0 ⟨rfl, rfl, rfl, rfl, trivial⟩ ⟨Nat.zero_le _, hS⟩ ?_
  clear hS
  rintro i w ⟨hi, hS⟩
  obtain ⟨V, hVe⟩ : ∃ V, V = mixTo rd (spreadTo R 64) H i := ⟨_, rfl⟩
  have hV : V.length = 8 := by rw [hVe, mixTo_length]; exact hH
  rw [← hVe] at hS
  obtain ⟨Ws, hwe⟩ : ∃ L, L = spreadTo R 64 := ⟨_, rfl⟩
  have hWs : Ws.length = 64 := by rw [hwe]; exact spreadTo_length _ _
  rw [← hwe] at hS
  by_cases h64 : i < 64
  · repeat (first | (refine G_id ?_; first | refine G_nil ?_ | refine G_plain rfl rfl ?_) | (refine X_id ?_; first | refine X_yl (Yl_move rfl rfl) rfl rfl ?_ | refine X_yl (Yl_assign rfl rfl) rfl rfl ?_ | refine X_yl (Yl_makeFunc rfl rfl rfl) rfl rfl ?_ | refine X_yl (Yl_lss_t rfl rfl rfl (by omega)) rfl rfl ?_ | refine X_store rfl rfl rfl rfl hS (fun _ hS _ => ?_) | refine X_alloc rfl rfl rfl hS (fun _ _ hS _ => ?_)) | (refine C_id ?_; first | refine C_seq ?_ | refine C_region ?_ | refine C_block ?_ | refine C_skip ?_ | refine C_cond_t rfl ?_) | (refine E_id ?_; first | refine E_code ?_))
    refine C_ord (.s 0 (.s 4 (.h 1 (.s 2 (.s 3 (.h 5 (.s 6 (.s 7 (.s 8 (.s 9 .nil)))) .no))) .no))) mixed (by kernel_rfl) rfl ?_
    have hS := hS.drew
    repeat (first | (refine X_id ?_; first | (refine X_callc 357 rfl rfl rfl rfl rfl (at_ _ i _ _ _ (by decide) (by decide) (by omega) (by omega) ((hS.rd (List.mem_cons_self ..)).ro)) ?_; rintro _ rfl)) | (refine C_id ?_; first | refine C_seq ?_) | (refine E_id ?_; first | refine E_code ?_) | (refine GO_id ?_; first | refine GO_nil ?_ | refine GO_pure rfl rfl (fun _ => Yl_move rfl rfl) rfl rfl ?_ | refine GO_pure rfl rfl (fun _ => Yl_assign rfl rfl) rfl rfl ?_ | refine GO_pure rfl rfl (fun _ => Yl_nilCheck rfl rfl) rfl rfl ?_ | refine GO_read (fun w' => w'.cell? _ = some _) rfl rfl (hS.cellI (by omega)) (fun _ hc => Yl_load rfl rfl hc) rfl rfl ?_ | refine GO_hard rfl rfl ?_) | (refine Keep_id ?_; first | refine And.intro (by repeat (first | exact trivial | refine And.intro (.inl (by decide +kernel)) ?_ | refine And.intro (.inr (by first | assumption | exact hS.cell | exact cell_at (by assumption) | exact hS.cellI (by omega) | exact hS.cellIP (by omega) | exact hS.cellsN | exact ((hr.rd hS).cellX (by omega) hx) | exact ((hr2.rd hS).cellX (by omega) hx2) | exact hS.cellB (by omega) | exact hS.cellBA (by omega) | exact (hb.rd hS).cellB' (by omega) | exact (hb2.rd hS).cellB' (by omega) | exact (hg.rd hS).cellI (by omega) | exact (hg2.rd hS).cellI (by omega) | exact ((hr.rd hS).cellF (by first | omega | (dsimp only; omega)) hx) | exact ((hr2.rd hS).cellF (by first | omega | (dsimp only; omega)) hx2) | exact hS.cellO 0 (by omega) | exact hS.cellO 1 (by omega) | exact hS.cellIA (by omega) | exact (hg.rd hS).cellIA (by omega) | exact (hg2.rd hS).cellIA (by omega) | exact cell_at (hc.rd hS).pts | exact hb.rd hS | exact hS.cellO 4 (by omega) | exact hS.cellO 5 (by omega) | exact hS.cellO 6 (by omega) | exact hS.cellO 7 (by omega) | exact hS.cellO 8 (by omega) | exact hS.cellO 9 (by omega) | exact hS.cellO 10 (by omega) | exact hS.cellO 11 (by omega) | exact hS.cellO 12 (by omega) | exact hS.cellO 13 (by omega))) ?_)) ?_))
    refine C_ord (.s 0 (.s 4 (.s 6 (.s 9 (.s 13 (.s 17 (.s 18 (.s 22 (.s 30 (.s 31 (.s 32 (.s 34 (.s 35 (.s 36 (.h 1 (.s 2 (.s 3 (.h 5 (.h 7 (.s 8 (.h 10 (.s 11 (.s 12 (.h 14 (.s 15 (.s 16 (.h 19 (.s 20 (.s 21 (.h 23 (.s 24 (.s 25 (.s 26 (.s 27 (.s 28 (.s 29 (.s 33 (.s 37 (.s 38 .nil))))))))) .no))) .no))) .no))) .no)) .no) .no))) .no))))))))))))))) mixed (by kernel_rfl) rfl ?_
    have hS := hS.drew
    repeat (first | (refine G_id ?_; first | refine G_nil ?_ | refine G_plain rfl rfl ?_) | (refine X_id ?_; first | (refine X_callq 358 rfl rfl rfl rfl rfl hS (spin_ _ _ _ (by decide)) ?_; rintro _ _ rfl hS) | (refine X_callc 357 rfl rfl rfl rfl rfl (at_ _ i _ _ _ (by decide) (by decide) (by omega) (by omega) ((hS.rd (List.mem_cons_self ..)).ro)) ?_; rintro _ rfl) | refine X_yl (Yl_move rfl rfl) rfl rfl ?_ | refine X_yl (Yl_nilCheck rfl rfl) rfl rfl ?_ | refine X_yl (Yl_add rfl rfl rfl rfl) rfl rfl ?_ | refine X_yl (Yl_load rfl rfl (hS.cellI (by omega))) rfl rfl ?_ | refine X_storeI rfl rfl rfl rfl hS (by omega) (fun _ hS => ?_)) | (refine C_id ?_; first | refine C_seq ?_ | refine C_region ?_) | (refine E_id ?_; first | refine E_code ?_) | (refine GO_id ?_; first | refine GO_nil ?_ | refine GO_pure rfl rfl (fun _ => Yl_move rfl rfl) rfl rfl ?_ | refine GO_pure rfl rfl (fun _ => Yl_assign rfl rfl) rfl rfl ?_ | refine GO_pure rfl rfl (fun _ => Yl_nilCheck rfl rfl) rfl rfl ?_ | refine GO_pure rfl rfl (fun _ => Yl_indexAddr_arr rfl rfl rfl (by omega) (by omega)) rfl rfl ?_ | refine GO_pure rfl rfl (fun _ => Yl_add rfl rfl rfl rfl) rfl rfl ?_ | refine GO_pure rfl rfl (fun _ => Yl_xor rfl rfl rfl) rfl rfl ?_ | refine GO_pure rfl rfl (fun _ => Yl_and rfl rfl rfl) rfl rfl ?_ | refine GO_read (fun w' => w'.cell? _ = some _) rfl rfl hS.cell (fun _ hc => Yl_load rfl rfl hc) rfl rfl ?_ | refine GO_read (fun w' => w'.cell? _ = some _) rfl rfl (hS.cellI (by omega)) (fun _ hc => Yl_load rfl rfl hc) rfl rfl ?_ | refine GO_read (fun w' => w'.cell? _ = some _) rfl rfl ((hg.rd hS).cellI (by omega)) (fun _ hc => Yl_load rfl rfl hc) rfl rfl ?_ | refine GO_hard rfl rfl ?_) | (refine Keep_id ?_; first | refine And.intro (by repeat (first | exact trivial | refine And.intro (.inl (by decide +kernel)) ?_ | refine And.intro (.inr (by first | assumption | exact hS.cell | exact cell_at (by assumption) | exact hS.cellI (by omega) | exact hS.cellIP (by omega) | exact hS.cellsN | exact ((hr.rd hS).cellX (by omega) hx) | exact ((hr2.rd hS).cellX (by omega) hx2) | exact hS.cellB (by omega) | exact hS.cellBA (by omega) | exact (hb.rd hS).cellB' (by omega) | exact (hb2.rd hS).cellB' (by omega) | exact (hg.rd hS).cellI (by omega) | exact (hg2.rd hS).cellI (by omega) | exact ((hr.rd hS).cellF (by first | omega | (dsimp only; omega)) hx) | exact ((hr2.rd hS).cellF (by first | omega | (dsimp only; omega)) hx2) | exact hS.cellO 0 (by omega) | exact hS.cellO 1 (by omega) | exact hS.cellIA (by omega) | exact (hg.rd hS).cellIA (by omega) | exact (hg2.rd hS).cellIA (by omega) | exact cell_at (hc.rd hS).pts | exact hb.rd hS | exact hS.cellO 4 (by omega) | exact hS.cellO 5 (by omega) | exact hS.cellO 6 (by omega) | exact hS.cellO 7 (by omega) | exact hS.cellO 8 (by omega) | exact hS.cellO 9 (by omega) | exact hS.cellO 10 (by omega) | exact hS.cellO 11 (by omega) | exact hS.cellO 12 (by omega) | exact hS.cellO 13 (by omega))) ?_)) ?_))
    obtain ⟨U, hUe, hS⟩ := St.abs2 hS
    have hUl : U.length = 8 := by rw [hUe]; simp [hV]
    replace hUe : U = mixU rd Ws V i := hUe
    refine C_ord (.s 0 (.s 2 (.s 3 (.s 5 (.s 8 (.s 12 (.s 13 (.s 18 (.s 22 (.s 23 (.h 1 (.h 4 (.h 6 (.s 7 (.h 9 (.s 10 (.s 11 (.h 14 (.s 15 (.s 16 (.s 17 (.h 19 (.s 20 (.s 21 (.h 24 (.s 25 (.s 26 (.s 27 (.s 28 (.s 29 (.s 30 (.s 31 (.h 32 .nil .no)))))))) .no))) .no)))) .no))) .no)) .no) .no) .no))))))))))) mixed (by kernel_rfl) rfl ?_
    have hS := hS.drew
    repeat (first | (refine G_id ?_; first | refine G_nil ?_ | refine G_plain rfl rfl ?_) | (refine X_id ?_; first | (refine X_callq 358 rfl rfl rfl rfl rfl hS (spin_ _ _ _ (by decide)) ?_; rintro _ _ rfl hS) | (refine X_callc 357 rfl rfl rfl rfl rfl (at_ _ i _ _ _ (by decide) (by decide) (by omega) (by omega) ((hS.rd (List.mem_cons_self ..)).ro)) ?_; rintro _ rfl) | refine X_yl (Yl_move rfl rfl) rfl rfl ?_ | refine X_yl (Yl_add rfl rfl rfl (w64 (by omega) (by omega))) rfl rfl ?_ | refine X_storeI rfl rfl rfl rfl hS (by omega) (fun _ hS => ?_)) | (refine C_id ?_; first | refine C_region ?_) | (refine E_id ?_; first | refine E_code ?_ | refine E_blk_n ?_) | (refine GO_id ?_; first | refine GO_nil ?_ | refine GO_pure rfl rfl (fun _ => Yl_move rfl rfl) rfl rfl ?_ | refine GO_pure rfl rfl (fun _ => Yl_nilCheck rfl rfl) rfl rfl ?_ | refine GO_pure rfl rfl (fun _ => Yl_add rfl rfl rfl rfl) rfl rfl ?_ | refine GO_pure rfl rfl (fun _ => Yl_xor rfl rfl rfl) rfl rfl ?_ | refine GO_pure rfl rfl (fun _ => Yl_and rfl rfl rfl) rfl rfl ?_ | refine GO_pure rfl rfl (fun _ => Yl_or rfl rfl rfl) rfl rfl ?_ | refine GO_read (fun w' => w'.cell? _ = some _) rfl rfl (hS.cellI (by omega)) (fun _ hc => Yl_load rfl rfl hc) rfl rfl ?_ | refine GO_hard rfl rfl ?_) | (refine Keep_id ?_; first | refine And.intro (by repeat (first | exact trivial | refine And.intro (.inl (by decide +kernel)) ?_ | refine And.intro (.inr (by first | assumption | exact hS.cell | exact cell_at (by assumption) | exact hS.cellI (by omega) | exact hS.cellIP (by omega) | exact hS.cellsN | exact ((hr.rd hS).cellX (by omega) hx) | exact ((hr2.rd hS).cellX (by omega) hx2) | exact hS.cellB (by omega) | exact hS.cellBA (by omega) | exact (hb.rd hS).cellB' (by omega) | exact (hb2.rd hS).cellB' (by omega) | exact (hg.rd hS).cellI (by omega) | exact (hg2.rd hS).cellI (by omega) | exact ((hr.rd hS).cellF (by first | omega | (dsimp only; omega)) hx) | exact ((hr2.rd hS).cellF (by first | omega | (dsimp only; omega)) hx2) | exact hS.cellO 0 (by omega) | exact hS.cellO 1 (by omega) | exact hS.cellIA (by omega) | exact (hg.rd hS).cellIA (by omega) | exact (hg2.rd hS).cellIA (by omega) | exact cell_at (hc.rd hS).pts | exact hb.rd hS | exact hS.cellO 4 (by omega) | exact hS.cellO 5 (by omega) | exact hS.cellO 6 (by omega) | exact hS.cellO 7 (by omega) | exact hS.cellO 8 (by omega) | exact hS.cellO 9 (by omega) | exact hS.cellO 10 (by omega) | exact hS.cellO 11 (by omega) | exact hS.cellO 12 (by omega) | exact hS.cellO 13 (by omega))) ?_)) ?_))
    refine E_round (i + 1) ⟨rfl, rfl, rfl, rfl, trivial⟩ ⟨by omega, ?_⟩ (by omega)
    have hS := hS.pick [1, 1, 1]
    show St W F [pts b5 (.cells (ints .u32 (mixStep rd (spreadTo R 64) (mixTo rd (spreadTo R 64) H i) i)).toArray 414), pts b4 (.cells (ints .u32 (spreadTo R 64)).toArray 504), _] _
    rw [← hVe, ← hwe]
    unfold mixStep
    rw [← hUe]
    exact hS
  · obtain rfl : i = 64 := by omega
    repeat (first | (refine G_id ?_; first | refine G_nil ?_ | refine G_plain rfl rfl ?_) | (refine X_id ?_; first | refine X_yl (Yl_move rfl rfl) rfl rfl ?_ | refine X_yl (Yl_lss_f rfl rfl rfl (by omega)) rfl rfl ?_) | (refine C_id ?_; first | refine C_seq ?_ | refine C_region ?_ | refine C_block ?_ | refine C_exit ?_ | refine C_cond_f rfl ?_) | (refine E_id ?_; first | refine E_code ?_ | refine E_then_exit ?_ | refine E_blk_same ?_))
    refine C_loop (α := Nat) (fun k => [(0, .pointer (some ⟨s, 0, none⟩)), (5, .pointer (some ⟨b5, 0, none⟩)), (107, .int .i64 (k : Nat))])
      (fun k w => k ≤ 8 ∧ St W F [pts b5 (.cells (ints .u32 V).toArray 414), pts b4 (.cells (ints .u32 Ws).toArray 504), pts s (.cells (ints .u32 (addTo H V k) ++ (bv R ++ [Value.int .i64 tot])).toArray T)] w) (fun k => 8 - k) 0 ⟨rfl, rfl, rfl, trivial⟩ ⟨Nat.zero_le _, hS⟩ ?_
    clear hS
    rintro k w ⟨hk, hS⟩
    obtain ⟨A, hAe⟩ : ∃ A, A = addTo H V k := ⟨_, rfl⟩
    have hA : A.length = 8 := by rw [hAe, addTo_length]; exact hH
    rw [← hAe] at hS
    by_cases h8 : k < 8
    · repeat (first | (refine G_id ?_; first | refine G_nil ?_ | refine G_plain rfl rfl ?_) | (refine X_id ?_; first | refine X_yl (Yl_move rfl rfl) rfl rfl ?_ | refine X_yl (Yl_assign rfl rfl) rfl rfl ?_ | refine X_yl (Yl_lss_t rfl rfl rfl (by omega)) rfl rfl ?_) | (refine C_id ?_; first | refine C_seq ?_ | refine C_region ?_ | refine C_block ?_ | refine C_skip ?_ | refine C_cond_t rfl ?_) | (refine E_id ?_; first | refine E_code ?_))
      refine C_ord (.s 0 (.s 1 (.s 2 (.s 3 (.s 4 (.s 5 (.s 6 (.s 7 (.s 8 (.s 9 (.s 10 (.h 11 .nil .no)))))))))))) mixed (by kernel_rfl) rfl ?_
      have hS := hS.drew
      repeat (first | (refine G_id ?_; first | refine G_nil ?_ | refine G_plain rfl rfl ?_) | (refine X_id ?_; first | refine X_yl (Yl_move rfl rfl) rfl rfl ?_ | refine X_yl (Yl_add rfl rfl rfl (w64 (by omega) (by omega))) rfl rfl ?_ | refine X_storeIP rfl rfl rfl rfl hS (by omega) (fun _ hS => ?_)) | (refine C_id ?_; first | refine C_region ?_) | (refine E_id ?_; first | refine E_code ?_ | refine E_blk_n ?_) | (refine GO_id ?_; first | refine GO_nil ?_ | refine GO_pure rfl rfl (fun _ => Yl_move rfl rfl) rfl rfl ?_ | refine GO_pure rfl rfl (fun _ => Yl_nilCheck rfl rfl) rfl rfl ?_ | refine GO_pure rfl rfl (fun _ => Yl_indexAddr_arr rfl rfl rfl (by omega) (by omega)) rfl rfl ?_ | refine GO_pure rfl rfl (fun _ => Yl_add rfl rfl rfl rfl) rfl rfl ?_ | refine GO_read (fun w' => w'.cell? _ = some _) rfl rfl (hS.cellI (by omega)) (fun _ hc => Yl_load rfl rfl hc) rfl rfl ?_ | refine GO_read (fun w' => w'.cell? _ = some _) rfl rfl (hS.cellIP (by omega)) (fun _ hc => Yl_load rfl rfl hc) rfl rfl ?_ | refine GO_hard rfl rfl ?_) | (refine Keep_id ?_; first | refine And.intro (by repeat (first | exact trivial | refine And.intro (.inl (by decide +kernel)) ?_ | refine And.intro (.inr (by first | assumption | exact hS.cell | exact cell_at (by assumption) | exact hS.cellI (by omega) | exact hS.cellIP (by omega) | exact hS.cellsN | exact ((hr.rd hS).cellX (by omega) hx) | exact ((hr2.rd hS).cellX (by omega) hx2) | exact hS.cellB (by omega) | exact hS.cellBA (by omega) | exact (hb.rd hS).cellB' (by omega) | exact (hb2.rd hS).cellB' (by omega) | exact (hg.rd hS).cellI (by omega) | exact (hg2.rd hS).cellI (by omega) | exact ((hr.rd hS).cellF (by first | omega | (dsimp only; omega)) hx) | exact ((hr2.rd hS).cellF (by first | omega | (dsimp only; omega)) hx2) | exact hS.cellO 0 (by omega) | exact hS.cellO 1 (by omega) | exact hS.cellIA (by omega) | exact (hg.rd hS).cellIA (by omega) | exact (hg2.rd hS).cellIA (by omega) | exact cell_at (hc.rd hS).pts | exact hb.rd hS | exact hS.cellO 4 (by omega) | exact hS.cellO 5 (by omega) | exact hS.cellO 6 (by omega) | exact hS.cellO 7 (by omega) | exact hS.cellO 8 (by omega) | exact hS.cellO 9 (by omega) | exact hS.cellO 10 (by omega) | exact hS.cellO 11 (by omega) | exact hS.cellO 12 (by omega) | exact hS.cellO 13 (by omega))) ?_)) ?_))
      refine E_round (k + 1) ⟨rfl, rfl, rfl, trivial⟩ ⟨by omega, ?_⟩ (by omega)
      simp only [addTo]
      rw [← hAe]
      rw [show 0 + (k : Int).toNat * 1 = k by omega] at hS
      exact hS
    · obtain rfl : k = 8 := by omega
      repeat (first | (refine G_id ?_; first | refine G_nil ?_ | refine G_plain rfl rfl ?_) | (refine X_id ?_; first | refine X_yl (Yl_lss_f rfl rfl rfl (by omega)) rfl rfl ?_) | (refine C_id ?_; first | refine C_seq ?_ | refine C_region ?_ | refine C_exit ?_ | refine C_cond_f rfl ?_) | (refine E_id ?_; first | refine E_code ?_ | refine E_then_exit ?_ | refine E_blk_same ?_ | refine E_end0 rfl (Ret.mk ?_)))
      refine ⟨trivial, ?_⟩
      replace hS := hS.pick [2]
      rw [hAe, hVe] at hS
      exact hS
end Cr
namespace Cr
open Go
/-! parts of known length -/
class LenO (l : List Value) (n : outParam Nat) : Prop where
  len : l.length = n
instance : LenO [] 0 := ⟨rfl⟩
instance (v : Value) (l : List Value) (n : Nat) [h : LenO l n] : LenO (v :: l) (n + 1) := ⟨by simp [h.len]⟩
instance (l m : List Value) (n k : Nat) [h : LenO l n] [h' : LenO m k] : LenO (l ++ m) (n + k) := ⟨by simp [h.len, h'.len]⟩
instance (n : Nat) (v : Value) : LenO (List.replicate n v) n := ⟨by simp⟩
instance (n : Nat) : LenO (bv (List.replicate n 0)) n := ⟨by simp⟩
instance (l : List Value) (n : Nat) [h : LenO l n] : LenIs l n := ⟨h.len⟩
class SubO (k n : Nat) (j : outParam Nat) : Prop where
  eq : n = j + k
instance (n : Nat) : SubO 0 n n := ⟨rfl⟩
instance (k n j : Nat) [h : SubO k n j] : SubO (k + 1) (n + 1) j := ⟨by rw [h.eq]; omega⟩
instance nth_part (l m : List Value) (n k j : Nat) (v : Value) [hl : LenO l k] [hs : SubO k n j] [h : Nth m j v] : Nth (l ++ m) n v := ⟨by
  have := hl.len
  rw [hs.eq, List.getElem?_append_right (by omega), show j + k - l.length = j by omega]
  exact h.nth⟩
instance spl_part (l m vs m' : List Value) (n k j : Nat) [hl : LenO l k] [hs : SubO k n j] [h : Spl m j vs m'] : Spl (l ++ m) n vs (l ++ m') := ⟨by
  have e := hl.len
  have := h.spl
  rw [hs.eq]
  refine ⟨by simp; omega, ?_⟩
  rw [← this.2, show j + k = l.length + j by omega, List.take_length_add_append, show l.length + j + vs.length = l.length + (j + vs.length) by omega, List.drop_length_add_append]
  simp⟩
instance spl_front (l m vs : List Value) (k : Nat) [hl : LenO l k] [hv : LenO vs k] : Spl (l ++ m) 0 vs (vs ++ m) := ⟨by
  have e := hl.len
  have e' := hv.len
  refine ⟨by simp; omega, ?_⟩
  simp [show vs.length = l.length by omega]⟩
instance seg_part (l m cs : List Value) (n k j c : Nat) [hl : LenO l k] [hs : SubO k n j] [h : Seg m j c cs] : Seg (l ++ m) n c cs := ⟨by
  have e := hl.len
  rw [hs.eq, show j + k = l.length + j by omega, List.drop_length_add_append]
  exact h.seg⟩
theorem splice_mid {l m vs : List Value} {k n : Nat} (h : l.length = k) : splice (l ++ m) (k + n) vs = l ++ splice m n vs := by
  subst h
  unfold splice
  rw [List.take_length_add_append, Nat.add_assoc, List.drop_length_add_append]
  simp
theorem splice_all {l vs : List Value} (h : l.length = vs.length) : splice l 0 vs = vs := by
  unfold splice; simp [← h]
/-! bytes -/
def b8 (x : Int) : UInt8 := UInt8.ofNat (x % 256).toNat
theorem b8_nat (x : Int) : ((b8 x).toNat : Int) = x % 256 := by
  have h : (x % 256).toNat < 256 := by omega
  unfold b8
  simp only [UInt8.toNat_ofNat']
  omega
theorem u8_wrap (x : Int) : IntKind.u8.wrap x = ((b8 x).toNat : Int) := by
  rw [b8_nat]
  simp [IntKind.wrap, IntKind.bits, IntKind.signed]
theorem bv_set {R : List UInt8} {i : Nat} {c : UInt8} : (bv R).set i (.int .u8 (c.toNat : Int)) = bv (R.set i c) := by simp [bv, List.map_set]
theorem bv_getD {l : List UInt8} {i : Nat} (h : i < l.length) : (bv l)[i]? = some (.int .u8 ((l.getD i 0).toNat : Int)) := by
  rw [bv_get h]; simp [List.getD_eq_getElem?_getD, h]
theorem bv_rep (n : Nat) : List.replicate n (Value.int .u8 0) = bv (List.replicate n 0) := by simp [bv]
instance lenO_bvset (R : List UInt8) (i : Nat) (c : UInt8) (n : Nat) [h : LenO (bv R) n] : LenO (bv (R.set i c)) n := ⟨by have := h.len; simpa using this⟩
instance lenO_intsset (k : IntKind) (L : List Int) (i : Nat) (c : Int) (n : Nat) [h : LenO (ints k L) n] : LenO (ints k (L.set i c)) n := ⟨by have := h.len; simpa [ints] using this⟩
section
variable {P : Program} {o : Oper} {σ : Env} {w : World} {x y : Operand} {t ty : TypeId} {k k' : IntKind} {a b : Int}
theorem Yl_quoE (ho : o.op = .binOp .quo t x y ty) (hx : ev σ x = some (.int .i64 a)) (hy : ev σ y = some (.int .i64 b)) (h0 : 0 ≤ a) (h1 : a ≤ 9223372036854775807) (hb : 0 < b) : Yl P o σ w (.int .i64 (a / b)) :=
  Yl_quo ho hx hy (by omega) (by
    rw [Int.tdiv_eq_ediv_of_nonneg h0]
    have h2 := Int.ediv_nonneg h0 (Int.le_of_lt hb)
    have h3 := Int.ediv_le_self b h0
    exact w64 (by omega) (by omega))
theorem Yl_remE (ho : o.op = .binOp .rem t x y ty) (hx : ev σ x = some (.int k a)) (hy : ev σ y = some (.int k b)) (h0 : 0 ≤ a) (hb : 0 < b) : Yl P o σ w (.int k (a % b)) :=
  Yl_rem ho hx hy (by omega) (Int.tmod_eq_emod_of_nonneg h0)
theorem Yl_convU8 {src dst : TypeId} {i : Int} (ho : o.op = .convert src dst x) (hx : ev σ x = some (.int k i)) {d : TypeDesc} [hs : Und P src d] [hd : Und P dst (.int .u8)] : Yl P o σ w (.int .u8 ((b8 i).toNat : Int)) :=
  Yl_convInt (hs := hs) ho hx (u8_wrap i)
theorem Rd.cellX {a : Option Addr} {cs : List Value} {i' i : Nat} {v : Value} (H : Rd w (row a cs)) (hi : i' = i) (h : cs[i]? = some v) : w.cell? (adr a i') = some v := by subst hi; exact H.cells _ _ h
/-- One cell of a block stored. -/
theorem X_setG {N : Nat} {ds : Md} {K : Env → World → Prop} {b off : Nat} {v : Value} {l l' : List Value} {T : TypeId} {W : World} {F : Nat → Prop} {rs rs' : List Res} (ho : o.op = .store t x y) (hx : ev σ x = some (.pointer (some ⟨b, off, none⟩))) (hy : ev σ y = some v) [hv : Cell1 v] [hc : CellsOf v [v]] [hs : Siz P t 1]
    (hd : o.dst = none) (hS : St W F rs w) [hh : Has rs b (.cells l.toArray T (0, 0))] (hfit : off < l.length) (hl : l.set off v = l') [hu : Upd rs b (.cells l'.toArray T (0, 0)) rs']
    (h : ∀ w', St W F rs' w' → K σ w') : X P o N ds σ w K := by
  have e : splice l off [v] = l' := by
    rw [← hl, set_mid _ _ _ hfit]
    simp [splice]
  have hu' : Upd rs b (.cells (splice l off [v]).toArray T (0, 0)) rs' := by rw [e]; exact hu
  exact X_storeL (vs := [v]) ho hx hy rfl (fun u hu => by simp at hu; subst hu; exact hv.one) hd hS hfit (fun w' h' _ => h w' h')
/-- A byte stored in a block of bytes. -/
theorem X_storeB {N : Nat} {ds : Md} {K : Env → World → Prop} {b off : Nat} {c : UInt8} {L : List UInt8} {T : TypeId} {W : World} {F : Nat → Prop} {rs rs' : List Res} (ho : o.op = .store t x y) (hx : ev σ x = some (.pointer (some ⟨b, off, none⟩))) (hy : ev σ y = some (.int .u8 (c.toNat : Int))) [hs : Siz P t 1]
    (hd : o.dst = none) (hS : St W F rs w) [hh : Has rs b (.cells (bv L).toArray T (0, 0))] (hfit : off < L.length) [hu : Upd rs b (.cells (bv (L.set off c)).toArray T (0, 0)) rs']
    (h : ∀ w', St W F rs' w' → K σ w') : X P o N ds σ w K := X_setG (l := bv L) ho hx hy hd hS (by simpa using hfit) bv_set h
theorem St.cellB {W : World} {F : Nat → Prop} {rs : List Res} {b off : Nat} {L : List UInt8} {T : TypeId} (hS : St W F rs w) [hh : Has rs b (.cells (bv L).toArray T (0, 0))] (h : off < L.length) : w.cell? ⟨b, off, none⟩ = some (.int .u8 ((L.getD off 0).toNat : Int)) := by
  rw [cell_of_row w b off _ T (0, 0) hS.has]
  simpa using bv_getD h
theorem Rd.cellB {a : Option Addr} {s : List UInt8} {i : Nat} (H : Rd w (bytes a s)) (h : i < s.length) : w.cell? (adr a i) = some (.int .u8 ((s.getD i 0).toNat : Int)) := H.cells i _ (bv_getD h)
theorem Rd.cellB' {b o i : Nat} {s : List UInt8} (H : Rd w (bytes (some ⟨b, o, none⟩) s)) (h : i < s.length) : w.cell? ⟨b, o + i, none⟩ = some (.int .u8 ((s.getD i 0).toNat : Int)) := H.cellB h
theorem X_storeMB {N : Nat} {ds : Md} {K : Env → World → Prop} {b off k i : Nat} {c : UInt8} {l r : List Value} {L : List UInt8} {T : TypeId} {W : World} {F : Nat → Prop} {rs rs' : List Res} (ho : o.op = .store t x y) (hx : ev σ x = some (.pointer (some ⟨b, off, none⟩))) (hy : ev σ y = some (.int .u8 (c.toNat : Int))) [hs : Siz P t 1]
    (hd : o.dst = none) (hS : St W F rs w) [hh : Has rs b (.cells (l ++ (bv L ++ r)).toArray T (0, 0))] (hoff : off = k + i) [hl : LenO l k] (hfit : i < L.length) [hu : Upd rs b (.cells (l ++ (bv (L.set i c) ++ r)).toArray T (0, 0)) rs']
    (h : ∀ w', St W F rs' w' → K σ w') : X P o N ds σ w K := by
  have e := hl.len
  subst hoff
  refine X_setG (l := l ++ (bv L ++ r)) (l' := l ++ (bv (L.set i c) ++ r)) ho hx hy hd hS (by simp; omega) ?_ h
  rw [List.set_append_right _ _ (by omega), show k + i - l.length = i by omega, List.set_append_left _ _ (by simpa using hfit), bv_set]
/-- A store over the whole of a block. -/
theorem X_storeAll {N : Nat} {ds : Md} {K : Env → World → Prop} {b m : Nat} {v : Value} {l vs : List Value} {T : TypeId} {W : World} {F : Nat → Prop} {rs rs' : List Res} (ho : o.op = .store t x y) (hx : ev σ x = some (.pointer (some ⟨b, 0, none⟩))) (hy : ev σ y = some v) [hv : CellsOf v vs] [hs : Siz P t m] [h1 : Ones vs]
    (hd : o.dst = none) (hS : St W F rs w) [hh : Has rs b (.cells l.toArray T (0, 0))] [hm : LenO vs m] [hl : LenO l m] [hu : Upd rs b (.cells vs.toArray T (0, 0)) rs']
    (h : ∀ w', St W F rs' w' → K σ w') : X P o N ds σ w K := by
  have e : splice l 0 vs = vs := splice_all (by rw [hm.len, hl.len])
  have hu' : Upd rs b (.cells (splice l 0 vs).toArray T (0, 0)) rs' := by rw [e]; exact hu
  exact X_storeL ho hx hy hm.len h1.ones hd hS (by rw [hm.len, hl.len]; omega) (fun w' h' _ => h w' h')
end
end Cr
namespace Cr
open Go Go.Proofs
set_option maxRecDepth 100000
set_option maxHeartbeats 4000000
attribute [local irreducible] Calls

/-! ### bytes -/
def outAt (H : List Int) (i : Nat) : UInt8 := b8 (ishr .u32 (H.getD (i / 4) 0) (24 - i % 4 * 8))
def outTo (H : List Int) : Nat → List UInt8
  | 0 => List.replicate 32 0
  | i + 1 => (outTo H i).set i (outAt H i)
theorem outTo_length (H : List Int) : ∀ i, (outTo H i).length = 32
  | 0 => by simp [outTo]
  | i + 1 => by simp [outTo, outTo_length H i]
/-- The digest's bytes. -/
def outB (H : List Int) : List UInt8 := outTo H 32
theorem outB_length (H : List Int) : (outB H).length = 32 := outTo_length H 32
theorem bytes_ (s : Nat) (H : List Int) (r : List Value) (T : TypeId) (W : World) (hH : H.length = 8) (hs : Rd W (pts s (.cells (ints .u32 H ++ r).toArray T))) :
    Calls Tryz.prog 303 #[.pointer (some ⟨s, 0, none⟩)] W (Ret fun v w => v = .agg (bv (outB H)).toArray ∧ St W noF [] w) := by
  have hS := St.start W
  have hg : Ro W noF (row (some ⟨s, 0, none⟩) (ints .u32 H)) := hs.ro.mono fun h hh => ⟨h, row_pts_at (n := 8) (by rw [List.drop_zero, List.take_append_of_le_length (by rw [ints_length]; omega), List.take_of_length_le (by rw [ints_length]; omega)]) h hh, fun _ _ e => e⟩
  refine calls_C Tryz.func303 rfl Tryz.ntmps303 rfl ?_
  repeat (first | (refine G_id ?_; first | refine G_nil ?_ | refine G_plain rfl rfl ?_) | (refine X_id ?_; first | refine X_yl (Yl_move rfl rfl) rfl rfl ?_ | refine X_alloc rfl rfl rfl hS (fun _ _ hS _ => ?_)) | (refine C_id ?_; first | refine C_seq ?_ | refine C_region ?_ | refine C_block ?_) | (refine E_id ?_; first | refine E_code ?_))
  rename_i b2 _ _ _ b3 _ _
  rw [bv_rep] at hS
  refine C_loop (α := Nat) (fun i => [(0, .pointer (some ⟨s, 0, none⟩)), (2, .pointer (some ⟨b2, 0, none⟩)), (3, .pointer (some ⟨b3, 0, none⟩)), (5, .int .i64 (i : Nat))])
    (fun i w => i ≤ 32 ∧ St W noF [pts b3 (.cells (bv (outTo H i)).toArray 250), pts b2 (.cells (bv (List.replicate 32 0)).toArray 250)] w) (fun i => 32 - i) 0 ⟨rfl, rfl, rfl, rfl, trivial⟩ ⟨Nat.zero_le _, hS⟩ ?_
  clear hS
  rintro i w ⟨hi, hS⟩
  obtain ⟨L, hLe⟩ : ∃ L, L = outTo H i := ⟨_, rfl⟩
  have hL : L.length = 32 := by rw [hLe]; exact outTo_length H i
  rw [← hLe] at hS
  by_cases h32 : i < 32
  · repeat (first | (refine G_id ?_; first | refine G_nil ?_ | refine G_plain rfl rfl ?_) | (refine X_id ?_; first | refine X_yl (Yl_move rfl rfl) rfl rfl ?_ | refine X_yl (Yl_assign rfl rfl) rfl rfl ?_ | refine X_yl (Yl_nilCheck rfl rfl) rfl rfl ?_ | refine X_yl (Yl_lss_t rfl rfl rfl (by omega)) rfl rfl ?_ | refine X_yl (Yl_indexAddr_arr rfl rfl rfl (by omega) (by omega)) rfl rfl ?_ | refine X_yl (Yl_add rfl rfl rfl (w64 (by omega) (by omega))) rfl rfl ?_ | refine X_yl (Yl_sub rfl rfl rfl (w64 (by omega) (by omega))) rfl rfl ?_ | refine X_yl (Yl_mul rfl rfl rfl (w64 (by omega) (by omega))) rfl rfl ?_ | refine X_yl (Yl_convU8 rfl rfl) rfl rfl ?_ | refine X_yl (Yl_shr rfl rfl rfl (by omega)) rfl rfl ?_ | refine X_yl (Yl_quoE rfl rfl rfl (by omega) (by omega) (by omega)) rfl rfl ?_ | refine X_yl (Yl_remE rfl rfl rfl (by omega) (by omega)) rfl rfl ?_ | refine X_yl (Yl_load rfl rfl ((hg.rd hS).cellI (by omega))) rfl rfl ?_ | refine X_storeB rfl rfl rfl rfl hS (by omega) (fun _ hS => ?_)) | (refine C_id ?_; first | refine C_seq ?_ | refine C_region ?_ | refine C_block ?_ | refine C_skip ?_ | refine C_cond_t rfl ?_) | (refine E_id ?_; first | refine E_code ?_ | refine E_blk_n ?_))
    refine E_round (i + 1) ⟨rfl, rfl, rfl, rfl, trivial⟩ ⟨by omega, ?_⟩ (by omega)
    rw [show 0 + (i : Int).toNat * 1 = i by omega, show ((i : Int) / 4).toNat * 1 = i / 4 by omega, show (24 - (i : Int) % 4 * 8).toNat = 24 - i % 4 * 8 by omega, hLe] at hS
    exact hS
  · obtain rfl : i = 32 := by omega
    have hlen : LenO (bv L) 32 := ⟨by simp [hL]⟩
    repeat (first | (refine G_id ?_; first | refine G_nil ?_ | refine G_plain rfl rfl ?_) | (refine X_id ?_; first | refine X_yl (Yl_lss_f rfl rfl rfl (by omega)) rfl rfl ?_ | refine X_yl (Yl_loadN rfl rfl hS.cellsN) rfl rfl ?_ | refine X_storeAll rfl rfl rfl rfl hS (fun _ hS => ?_)) | (refine C_id ?_; first | refine C_seq ?_ | refine C_region ?_ | refine C_ret ?_ | refine C_exit ?_ | refine C_cond_f rfl ?_) | (refine E_id ?_; first | refine E_code ?_ | refine E_then_exit ?_ | refine E_blk_same ?_ | refine E_ret1 rfl (by first | exact Rv_tmp rfl | exact Rv_cell rfl (run_load1 hS.cell) | exact Rv_cell rfl (run_loadN hS.cellsN)) (Ret.mk ?_)))
    exact ⟨by rw [hLe]; rfl, hS.drops⟩

/-! ### one -/
structure StrM where
  H : List Int
  R : List UInt8
  n : Nat
structure StrM.ok (S : StrM) : Prop where
  h8 : S.H.length = 8
  r64 : S.R.length = 64
def StrM.cells (S : StrM) : List Value := ints .u32 S.H ++ (bv S.R ++ [.int .i64 (S.n : Nat)])
def beginH (fs H : List Int) (n : Nat) : List Int := if n = 0 then fs else H
def StrM.one (rd fs : List Int) (S : StrM) (c : UInt8) : StrM :=
  ⟨if (S.n + 1) % 64 = 0 then blend rd (beginH fs S.H S.n) (S.R.set (S.n % 64) c) else beginH fs S.H S.n, S.R.set (S.n % 64) c, S.n + 1⟩
/-- The package's two tables. -/
structure Gl (W : World) (F : Nat → Prop) (rd fs : List Int) : Prop where
  round : Ro W F (row (some ⟨2, 0, none⟩) (ints .u32 rd))
  first : Ro W F (row (some ⟨0, 0, none⟩) (ints .u32 fs))
  round64 : rd.length = 64
  first8 : fs.length = 8
theorem Gl.mono {W w : World} {F F' : Nat → Prop} {rd fs : List Int} (h : Gl W F rd fs) (hw : ∀ r, Ro W F r → Ro w F' r) : Gl w F' rd fs := ⟨hw _ h.round, hw _ h.first, h.round64, h.first8⟩
theorem beginH_length {fs H : List Int} (n : Nat) (h : fs.length = 8) (h' : H.length = 8) : (beginH fs H n).length = 8 := by unfold beginH; split <;> assumption
theorem StrM.one_ok {rd fs : List Int} {S : StrM} {c : UInt8} (h : S.ok) (hf : fs.length = 8) : (S.one rd fs c).ok := by
  refine ⟨?_, by simp [StrM.one, h.r64]⟩
  simp only [StrM.one]
  split
  · rw [blend_length]; exact beginH_length _ hf h.h8
  · exact beginH_length _ hf h.h8
theorem one_ (s : Nat) (S : StrM) (c : UInt8) (rd fs : List Int) (T : TypeId) (W : World) (F : Nat → Prop) (hok : S.ok) (hn : S.n < 2305843009213693951) (hG : Gl W F rd fs) (hS : St W F [pts s (.cells S.cells.toArray T)] W) :
    Calls Tryz.prog 301 #[.pointer (some ⟨s, 0, none⟩), .int .u8 (c.toNat : Int)] W (Ret fun _ w => True ∧ St W F [pts s (.cells (S.one rd fs c).cells.toArray T)] w) := by
  obtain ⟨H, R, n⟩ := S
  obtain ⟨h8, r64⟩ := hok
  unfold StrM.cells at hS
  simp only at h8 r64 hn hS
  have hl1 : LenO (ints .u32 H) 8 := ⟨by rw [ints_length]; exact h8⟩
  have hl2 : LenO (bv R) 64 := ⟨by simp [r64]⟩
  have hl3 : LenO (ints .u32 fs) 8 := ⟨by rw [ints_length]; exact hG.first8⟩
  refine calls_C Tryz.func301 rfl Tryz.ntmps301 rfl ?_
  have hc1 : ∀ H', beginH fs H n = H' → H'.length = 8 := fun H' e => e ▸ beginH_length n hG.first8 h8
  have hend : ∀ H' w, beginH fs H n = H' → St W F [pts s (.cells (ints .u32 (if (n + 1) % 64 = 0 then blend rd H' (R.set (n % 64) c) else H') ++ (bv (R.set (n % 64) c) ++ [Value.int .i64 ((n + 1 : Nat) : Int)])).toArray T)] w →
      St W F [pts s (.cells (StrM.one rd fs ⟨H, R, n⟩ c).cells.toArray T)] w := fun H' w e h => by
    unfold StrM.one StrM.cells; simp only [e]; exact h
  have ei : ((n : Int) % 64).toNat * 1 = n % 64 := by omega
  by_cases h0 : n = 0
  all_goals by_cases h64 : (n + 1) % 64 = 0
  · repeat (first | (refine G_id ?_; first | refine G_nil ?_ | refine G_plain rfl rfl ?_) | (refine X_id ?_; first | refine X_yl (Yl_move rfl rfl) rfl rfl ?_ | refine X_yl (Yl_nilCheck rfl rfl) rfl rfl ?_ | refine X_yl (Yl_fieldAddr0 rfl rfl rfl) rfl rfl ?_ | refine X_yl (Yl_eql_t rfl rfl rfl (by omega)) rfl rfl ?_ | refine X_yl (Yl_load rfl rfl hS.cell) rfl rfl ?_) | (refine C_id ?_; first | refine C_seq ?_ | refine C_region ?_ | refine C_cond_t rfl ?_) | (refine E_id ?_; first | refine E_code ?_))
    refine X_yl (Yl_loadAgg rfl rfl ((hG.first.rd hS).cellsAt rfl) (by rw [ints_length]; exact hG.first8)) rfl rfl ?_
    repeat (first | (refine G_id ?_; first | refine G_nil ?_ | refine G_plain rfl rfl ?_) | (refine X_id ?_; first | refine X_yl (Yl_nilCheck rfl rfl) rfl rfl ?_ | refine X_yl (Yl_fieldAddr0 rfl rfl rfl) rfl rfl ?_ | refine X_store rfl rfl rfl rfl hS (fun _ hS _ => ?_)) | (refine C_id ?_; first | refine C_seq ?_) | (refine E_id ?_; first | refine E_code ?_))
    have e1 : beginH fs H n = fs := by simp [beginH, h0]
    refine C_ord (.s 0 (.s 1 (.s 2 (.s 3 (.s 4 (.s 5 (.s 6 (.s 7 (.s 8 (.s 9 (.h 10 .nil .no))))))))))) mixed (by kernel_rfl) rfl ?_
    have hS := hS.drew
    repeat (first | (refine G_id ?_; first | refine G_nil ?_ | refine G_plain rfl rfl ?_) | (refine X_id ?_; first | refine X_yl (Yl_move rfl rfl) rfl rfl ?_ | refine X_yl (Yl_nilCheck rfl rfl) rfl rfl ?_ | refine X_yl (Yl_fieldAddr0 rfl rfl rfl) rfl rfl ?_ | refine X_yl (Yl_eql_t rfl rfl rfl (by omega)) rfl rfl ?_ | refine X_yl (Yl_add rfl rfl rfl (w64 (by omega) (by omega))) rfl rfl ?_ | refine X_yl (Yl_remE rfl rfl rfl (by omega) (by omega)) rfl rfl ?_ | refine X_yl (Yl_load rfl rfl hS.cell) rfl rfl ?_ | refine X_storeMB rfl rfl rfl rfl hS rfl (by omega) (fun _ hS => ?_) | refine X_store rfl rfl rfl rfl hS (fun _ hS _ => ?_)) | (refine C_id ?_; first | refine C_seq ?_ | refine C_region ?_ | refine C_cond_t rfl ?_) | (refine E_id ?_; first | refine E_code ?_) | (refine GO_id ?_; first | refine GO_nil ?_ | refine GO_pure rfl rfl (fun _ => Yl_move rfl rfl) rfl rfl ?_ | refine GO_pure rfl rfl (fun _ => Yl_nilCheck rfl rfl) rfl rfl ?_ | refine GO_pure rfl rfl (fun _ => Yl_fieldAddr0 rfl rfl rfl) rfl rfl ?_ | refine GO_pure rfl rfl (fun _ => Yl_indexAddr_arr rfl rfl rfl (by omega) (by omega)) rfl rfl ?_ | refine GO_pure rfl rfl (fun _ => Yl_remE rfl rfl rfl (by omega) (by omega)) rfl rfl ?_ | refine GO_read (fun w' => w'.cell? _ = some _) rfl rfl hS.cell (fun _ hc => Yl_load rfl rfl hc) rfl rfl ?_ | refine GO_hard rfl rfl ?_) | (refine Keep_id ?_; first | refine And.intro (by repeat (first | exact trivial | refine And.intro (.inl (by decide +kernel)) ?_ | refine And.intro (.inr (by first | assumption | exact hS.cell | exact cell_at (by assumption) | exact hS.cellI (by omega) | exact hS.cellIP (by omega) | exact hS.cellsN | exact ((hr.rd hS).cellX (by omega) hx) | exact ((hr2.rd hS).cellX (by omega) hx2) | exact hS.cellB (by omega) | exact hS.cellBA (by omega) | exact (hb.rd hS).cellB' (by omega) | exact (hb2.rd hS).cellB' (by omega) | exact (hg.rd hS).cellI (by omega) | exact (hg2.rd hS).cellI (by omega) | exact ((hr.rd hS).cellF (by first | omega | (dsimp only; omega)) hx) | exact ((hr2.rd hS).cellF (by first | omega | (dsimp only; omega)) hx2) | exact hS.cellO 0 (by omega) | exact hS.cellO 1 (by omega) | exact hS.cellIA (by omega) | exact (hg.rd hS).cellIA (by omega) | exact (hg2.rd hS).cellIA (by omega) | exact cell_at (hc.rd hS).pts | exact hb.rd hS | exact hS.cellO 4 (by omega) | exact hS.cellO 5 (by omega) | exact hS.cellO 6 (by omega) | exact hS.cellO 7 (by omega) | exact hS.cellO 8 (by omega) | exact hS.cellO 9 (by omega) | exact hS.cellO 10 (by omega) | exact hS.cellO 11 (by omega) | exact hS.cellO 12 (by omega) | exact hS.cellO 13 (by omega))) ?_)) ?_))
    rw [ei] at hS
    refine C_ord (.s 0 (.s 1 (.s 2 (.s 3 (.s 4 (.s 5 (.s 6 (.h 7 .nil .no)))))))) mixed (by kernel_rfl) rfl ?_
    have hS := hS.drew
    repeat (first | (refine GO_id ?_; first | refine GO_pure rfl rfl (fun _ => Yl_move rfl rfl) rfl rfl ?_ | refine GO_pure rfl rfl (fun _ => Yl_nilCheck rfl rfl) rfl rfl ?_ | refine GO_pure rfl rfl (fun _ => Yl_fieldAddr0 rfl rfl rfl) rfl rfl ?_ | refine GO_pure rfl rfl (fun _ => Yl_slice_arr rfl rfl) rfl rfl ?_ | refine GO_hard rfl rfl ?_))
    obtain ⟨_, hc, hr, hw, hbk⟩ := hS.call [true]
    refine X_callg _ rfl rfl rfl rfl rfl (mix_ s fs rd (R.set (n % 64) c) (↑n + 1) T _ _ (hc1 _ e1) (by simp [r64]) hG.round64 (hw _ hG.round) hc) ?_
    rintro _ w ⟨_, hS⟩
    replace hS := hbk hS
    clear hc hr hw hbk
    repeat (first | (refine E_id ?_; first | refine E_end0 rfl (Ret.mk ?_)) | (refine GO_id ?_; first | refine GO_nil ?_) | (refine Keep_id ?_; first | refine And.intro (by repeat (first | exact trivial | refine And.intro (.inl (by decide +kernel)) ?_ | refine And.intro (.inr (by first | assumption | exact hS.cell | exact cell_at (by assumption) | exact hS.cellI (by omega) | exact hS.cellIP (by omega) | exact hS.cellsN | exact ((hr.rd hS).cellX (by omega) hx) | exact ((hr2.rd hS).cellX (by omega) hx2) | exact hS.cellB (by omega) | exact hS.cellBA (by omega) | exact (hb.rd hS).cellB' (by omega) | exact (hb2.rd hS).cellB' (by omega) | exact (hg.rd hS).cellI (by omega) | exact (hg2.rd hS).cellI (by omega) | exact ((hr.rd hS).cellF (by first | omega | (dsimp only; omega)) hx) | exact ((hr2.rd hS).cellF (by first | omega | (dsimp only; omega)) hx2) | exact hS.cellO 0 (by omega) | exact hS.cellO 1 (by omega) | exact hS.cellIA (by omega) | exact (hg.rd hS).cellIA (by omega) | exact (hg2.rd hS).cellIA (by omega) | exact cell_at (hc.rd hS).pts | exact hb.rd hS | exact hS.cellO 4 (by omega) | exact hS.cellO 5 (by omega) | exact hS.cellO 6 (by omega) | exact hS.cellO 7 (by omega) | exact hS.cellO 8 (by omega) | exact hS.cellO 9 (by omega) | exact hS.cellO 10 (by omega) | exact hS.cellO 11 (by omega) | exact hS.cellO 12 (by omega) | exact hS.cellO 13 (by omega))) ?_)) ?_))
    refine ⟨trivial, hend _ _ e1 ?_⟩
    rw [if_pos h64]
    exact hS
  · repeat (first | (refine G_id ?_; first | refine G_nil ?_ | refine G_plain rfl rfl ?_) | (refine X_id ?_; first | refine X_yl (Yl_move rfl rfl) rfl rfl ?_ | refine X_yl (Yl_nilCheck rfl rfl) rfl rfl ?_ | refine X_yl (Yl_fieldAddr0 rfl rfl rfl) rfl rfl ?_ | refine X_yl (Yl_eql_t rfl rfl rfl (by omega)) rfl rfl ?_ | refine X_yl (Yl_load rfl rfl hS.cell) rfl rfl ?_) | (refine C_id ?_; first | refine C_seq ?_ | refine C_region ?_ | refine C_cond_t rfl ?_) | (refine E_id ?_; first | refine E_code ?_))
    refine X_yl (Yl_loadAgg rfl rfl ((hG.first.rd hS).cellsAt rfl) (by rw [ints_length]; exact hG.first8)) rfl rfl ?_
    repeat (first | (refine G_id ?_; first | refine G_nil ?_ | refine G_plain rfl rfl ?_) | (refine X_id ?_; first | refine X_yl (Yl_nilCheck rfl rfl) rfl rfl ?_ | refine X_yl (Yl_fieldAddr0 rfl rfl rfl) rfl rfl ?_ | refine X_store rfl rfl rfl rfl hS (fun _ hS _ => ?_)) | (refine C_id ?_; first | refine C_seq ?_) | (refine E_id ?_; first | refine E_code ?_))
    have e1 : beginH fs H n = fs := by simp [beginH, h0]
    refine C_ord (.s 0 (.s 1 (.s 2 (.s 3 (.s 4 (.s 5 (.s 6 (.s 7 (.s 8 (.s 9 (.h 10 .nil .no))))))))))) mixed (by kernel_rfl) rfl ?_
    have hS := hS.drew
    repeat (first | (refine G_id ?_; first | refine G_nil ?_ | refine G_plain rfl rfl ?_) | (refine X_id ?_; first | refine X_yl (Yl_move rfl rfl) rfl rfl ?_ | refine X_yl (Yl_nilCheck rfl rfl) rfl rfl ?_ | refine X_yl (Yl_fieldAddr0 rfl rfl rfl) rfl rfl ?_ | refine X_yl (Yl_eql_f rfl rfl rfl (by omega)) rfl rfl ?_ | refine X_yl (Yl_add rfl rfl rfl (w64 (by omega) (by omega))) rfl rfl ?_ | refine X_yl (Yl_remE rfl rfl rfl (by omega) (by omega)) rfl rfl ?_ | refine X_yl (Yl_load rfl rfl hS.cell) rfl rfl ?_ | refine X_storeMB rfl rfl rfl rfl hS rfl (by omega) (fun _ hS => ?_) | refine X_store rfl rfl rfl rfl hS (fun _ hS _ => ?_)) | (refine C_id ?_; first | refine C_seq ?_ | refine C_region ?_ | refine C_skip ?_ | refine C_cond_f rfl ?_) | (refine E_id ?_; first | refine E_code ?_ | refine E_end0 rfl (Ret.mk ?_)) | (refine GO_id ?_; first | refine GO_nil ?_ | refine GO_pure rfl rfl (fun _ => Yl_move rfl rfl) rfl rfl ?_ | refine GO_pure rfl rfl (fun _ => Yl_nilCheck rfl rfl) rfl rfl ?_ | refine GO_pure rfl rfl (fun _ => Yl_fieldAddr0 rfl rfl rfl) rfl rfl ?_ | refine GO_pure rfl rfl (fun _ => Yl_indexAddr_arr rfl rfl rfl (by omega) (by omega)) rfl rfl ?_ | refine GO_pure rfl rfl (fun _ => Yl_remE rfl rfl rfl (by omega) (by omega)) rfl rfl ?_ | refine GO_read (fun w' => w'.cell? _ = some _) rfl rfl hS.cell (fun _ hc => Yl_load rfl rfl hc) rfl rfl ?_ | refine GO_hard rfl rfl ?_) | (refine Keep_id ?_; first | refine And.intro (by repeat (first | exact trivial | refine And.intro (.inl (by decide +kernel)) ?_ | refine And.intro (.inr (by first | assumption | exact hS.cell | exact cell_at (by assumption) | exact hS.cellI (by omega) | exact hS.cellIP (by omega) | exact hS.cellsN | exact ((hr.rd hS).cellX (by omega) hx) | exact ((hr2.rd hS).cellX (by omega) hx2) | exact hS.cellB (by omega) | exact hS.cellBA (by omega) | exact (hb.rd hS).cellB' (by omega) | exact (hb2.rd hS).cellB' (by omega) | exact (hg.rd hS).cellI (by omega) | exact (hg2.rd hS).cellI (by omega) | exact ((hr.rd hS).cellF (by first | omega | (dsimp only; omega)) hx) | exact ((hr2.rd hS).cellF (by first | omega | (dsimp only; omega)) hx2) | exact hS.cellO 0 (by omega) | exact hS.cellO 1 (by omega) | exact hS.cellIA (by omega) | exact (hg.rd hS).cellIA (by omega) | exact (hg2.rd hS).cellIA (by omega) | exact cell_at (hc.rd hS).pts | exact hb.rd hS | exact hS.cellO 4 (by omega) | exact hS.cellO 5 (by omega) | exact hS.cellO 6 (by omega) | exact hS.cellO 7 (by omega) | exact hS.cellO 8 (by omega) | exact hS.cellO 9 (by omega) | exact hS.cellO 10 (by omega) | exact hS.cellO 11 (by omega) | exact hS.cellO 12 (by omega) | exact hS.cellO 13 (by omega))) ?_)) ?_))
    rw [ei] at hS
    refine ⟨trivial, hend _ _ e1 ?_⟩
    rw [if_neg h64]
    exact hS
  · have e1 : beginH fs H n = H := by simp [beginH, h0]
    repeat (first | (refine G_id ?_; first | refine G_nil ?_ | refine G_plain rfl rfl ?_) | (refine X_id ?_; first | refine X_yl (Yl_move rfl rfl) rfl rfl ?_ | refine X_yl (Yl_nilCheck rfl rfl) rfl rfl ?_ | refine X_yl (Yl_fieldAddr0 rfl rfl rfl) rfl rfl ?_ | refine X_yl (Yl_eql_f rfl rfl rfl (by omega)) rfl rfl ?_ | refine X_yl (Yl_load rfl rfl hS.cell) rfl rfl ?_) | (refine C_id ?_; first | refine C_seq ?_ | refine C_region ?_ | refine C_skip ?_ | refine C_cond_f rfl ?_) | (refine E_id ?_; first | refine E_code ?_))
    refine C_ord (.s 0 (.s 1 (.s 2 (.s 3 (.s 4 (.s 5 (.s 6 (.s 7 (.s 8 (.s 9 (.h 10 .nil .no))))))))))) mixed (by kernel_rfl) rfl ?_
    have hS := hS.drew
    repeat (first | (refine G_id ?_; first | refine G_nil ?_ | refine G_plain rfl rfl ?_) | (refine X_id ?_; first | refine X_yl (Yl_move rfl rfl) rfl rfl ?_ | refine X_yl (Yl_nilCheck rfl rfl) rfl rfl ?_ | refine X_yl (Yl_fieldAddr0 rfl rfl rfl) rfl rfl ?_ | refine X_yl (Yl_eql_t rfl rfl rfl (by omega)) rfl rfl ?_ | refine X_yl (Yl_add rfl rfl rfl (w64 (by omega) (by omega))) rfl rfl ?_ | refine X_yl (Yl_remE rfl rfl rfl (by omega) (by omega)) rfl rfl ?_ | refine X_yl (Yl_load rfl rfl hS.cell) rfl rfl ?_ | refine X_storeMB rfl rfl rfl rfl hS rfl (by omega) (fun _ hS => ?_) | refine X_store rfl rfl rfl rfl hS (fun _ hS _ => ?_)) | (refine C_id ?_; first | refine C_seq ?_ | refine C_region ?_ | refine C_cond_t rfl ?_) | (refine E_id ?_; first | refine E_code ?_) | (refine GO_id ?_; first | refine GO_nil ?_ | refine GO_pure rfl rfl (fun _ => Yl_move rfl rfl) rfl rfl ?_ | refine GO_pure rfl rfl (fun _ => Yl_nilCheck rfl rfl) rfl rfl ?_ | refine GO_pure rfl rfl (fun _ => Yl_fieldAddr0 rfl rfl rfl) rfl rfl ?_ | refine GO_pure rfl rfl (fun _ => Yl_indexAddr_arr rfl rfl rfl (by omega) (by omega)) rfl rfl ?_ | refine GO_pure rfl rfl (fun _ => Yl_remE rfl rfl rfl (by omega) (by omega)) rfl rfl ?_ | refine GO_read (fun w' => w'.cell? _ = some _) rfl rfl hS.cell (fun _ hc => Yl_load rfl rfl hc) rfl rfl ?_ | refine GO_hard rfl rfl ?_) | (refine Keep_id ?_; first | refine And.intro (by repeat (first | exact trivial | refine And.intro (.inl (by decide +kernel)) ?_ | refine And.intro (.inr (by first | assumption | exact hS.cell | exact cell_at (by assumption) | exact hS.cellI (by omega) | exact hS.cellIP (by omega) | exact hS.cellsN | exact ((hr.rd hS).cellX (by omega) hx) | exact ((hr2.rd hS).cellX (by omega) hx2) | exact hS.cellB (by omega) | exact hS.cellBA (by omega) | exact (hb.rd hS).cellB' (by omega) | exact (hb2.rd hS).cellB' (by omega) | exact (hg.rd hS).cellI (by omega) | exact (hg2.rd hS).cellI (by omega) | exact ((hr.rd hS).cellF (by first | omega | (dsimp only; omega)) hx) | exact ((hr2.rd hS).cellF (by first | omega | (dsimp only; omega)) hx2) | exact hS.cellO 0 (by omega) | exact hS.cellO 1 (by omega) | exact hS.cellIA (by omega) | exact (hg.rd hS).cellIA (by omega) | exact (hg2.rd hS).cellIA (by omega) | exact cell_at (hc.rd hS).pts | exact hb.rd hS | exact hS.cellO 4 (by omega) | exact hS.cellO 5 (by omega) | exact hS.cellO 6 (by omega) | exact hS.cellO 7 (by omega) | exact hS.cellO 8 (by omega) | exact hS.cellO 9 (by omega) | exact hS.cellO 10 (by omega) | exact hS.cellO 11 (by omega) | exact hS.cellO 12 (by omega) | exact hS.cellO 13 (by omega))) ?_)) ?_))
    rw [ei] at hS
    refine C_ord (.s 0 (.s 1 (.s 2 (.s 3 (.s 4 (.s 5 (.s 6 (.h 7 .nil .no)))))))) mixed (by kernel_rfl) rfl ?_
    have hS := hS.drew
    repeat (first | (refine GO_id ?_; first | refine GO_pure rfl rfl (fun _ => Yl_move rfl rfl) rfl rfl ?_ | refine GO_pure rfl rfl (fun _ => Yl_nilCheck rfl rfl) rfl rfl ?_ | refine GO_pure rfl rfl (fun _ => Yl_fieldAddr0 rfl rfl rfl) rfl rfl ?_ | refine GO_pure rfl rfl (fun _ => Yl_slice_arr rfl rfl) rfl rfl ?_ | refine GO_hard rfl rfl ?_))
    obtain ⟨_, hc, hr, hw, hbk⟩ := hS.call [true]
    refine X_callg _ rfl rfl rfl rfl rfl (mix_ s H rd (R.set (n % 64) c) (↑n + 1) T _ _ (hc1 _ e1) (by simp [r64]) hG.round64 (hw _ hG.round) hc) ?_
    rintro _ w ⟨_, hS⟩
    replace hS := hbk hS
    clear hc hr hw hbk
    repeat (first | (refine E_id ?_; first | refine E_end0 rfl (Ret.mk ?_)) | (refine GO_id ?_; first | refine GO_nil ?_) | (refine Keep_id ?_; first | refine And.intro (by repeat (first | exact trivial | refine And.intro (.inl (by decide +kernel)) ?_ | refine And.intro (.inr (by first | assumption | exact hS.cell | exact cell_at (by assumption) | exact hS.cellI (by omega) | exact hS.cellIP (by omega) | exact hS.cellsN | exact ((hr.rd hS).cellX (by omega) hx) | exact ((hr2.rd hS).cellX (by omega) hx2) | exact hS.cellB (by omega) | exact hS.cellBA (by omega) | exact (hb.rd hS).cellB' (by omega) | exact (hb2.rd hS).cellB' (by omega) | exact (hg.rd hS).cellI (by omega) | exact (hg2.rd hS).cellI (by omega) | exact ((hr.rd hS).cellF (by first | omega | (dsimp only; omega)) hx) | exact ((hr2.rd hS).cellF (by first | omega | (dsimp only; omega)) hx2) | exact hS.cellO 0 (by omega) | exact hS.cellO 1 (by omega) | exact hS.cellIA (by omega) | exact (hg.rd hS).cellIA (by omega) | exact (hg2.rd hS).cellIA (by omega) | exact cell_at (hc.rd hS).pts | exact hb.rd hS | exact hS.cellO 4 (by omega) | exact hS.cellO 5 (by omega) | exact hS.cellO 6 (by omega) | exact hS.cellO 7 (by omega) | exact hS.cellO 8 (by omega) | exact hS.cellO 9 (by omega) | exact hS.cellO 10 (by omega) | exact hS.cellO 11 (by omega) | exact hS.cellO 12 (by omega) | exact hS.cellO 13 (by omega))) ?_)) ?_))
    refine ⟨trivial, hend _ _ e1 ?_⟩
    rw [if_pos h64]
    exact hS
  · have e1 : beginH fs H n = H := by simp [beginH, h0]
    repeat (first | (refine G_id ?_; first | refine G_nil ?_ | refine G_plain rfl rfl ?_) | (refine X_id ?_; first | refine X_yl (Yl_move rfl rfl) rfl rfl ?_ | refine X_yl (Yl_nilCheck rfl rfl) rfl rfl ?_ | refine X_yl (Yl_fieldAddr0 rfl rfl rfl) rfl rfl ?_ | refine X_yl (Yl_eql_f rfl rfl rfl (by omega)) rfl rfl ?_ | refine X_yl (Yl_load rfl rfl hS.cell) rfl rfl ?_) | (refine C_id ?_; first | refine C_seq ?_ | refine C_region ?_ | refine C_skip ?_ | refine C_cond_f rfl ?_) | (refine E_id ?_; first | refine E_code ?_))
    refine C_ord (.s 0 (.s 1 (.s 2 (.s 3 (.s 4 (.s 5 (.s 6 (.s 7 (.s 8 (.s 9 (.h 10 .nil .no))))))))))) mixed (by kernel_rfl) rfl ?_
    have hS := hS.drew
    repeat (first | (refine G_id ?_; first | refine G_nil ?_ | refine G_plain rfl rfl ?_) | (refine X_id ?_; first | refine X_yl (Yl_move rfl rfl) rfl rfl ?_ | refine X_yl (Yl_nilCheck rfl rfl) rfl rfl ?_ | refine X_yl (Yl_fieldAddr0 rfl rfl rfl) rfl rfl ?_ | refine X_yl (Yl_eql_f rfl rfl rfl (by omega)) rfl rfl ?_ | refine X_yl (Yl_add rfl rfl rfl (w64 (by omega) (by omega))) rfl rfl ?_ | refine X_yl (Yl_remE rfl rfl rfl (by omega) (by omega)) rfl rfl ?_ | refine X_yl (Yl_load rfl rfl hS.cell) rfl rfl ?_ | refine X_storeMB rfl rfl rfl rfl hS rfl (by omega) (fun _ hS => ?_) | refine X_store rfl rfl rfl rfl hS (fun _ hS _ => ?_)) | (refine C_id ?_; first | refine C_seq ?_ | refine C_region ?_ | refine C_skip ?_ | refine C_cond_f rfl ?_) | (refine E_id ?_; first | refine E_code ?_ | refine E_end0 rfl (Ret.mk ?_)) | (refine GO_id ?_; first | refine GO_nil ?_ | refine GO_pure rfl rfl (fun _ => Yl_move rfl rfl) rfl rfl ?_ | refine GO_pure rfl rfl (fun _ => Yl_nilCheck rfl rfl) rfl rfl ?_ | refine GO_pure rfl rfl (fun _ => Yl_fieldAddr0 rfl rfl rfl) rfl rfl ?_ | refine GO_pure rfl rfl (fun _ => Yl_indexAddr_arr rfl rfl rfl (by omega) (by omega)) rfl rfl ?_ | refine GO_pure rfl rfl (fun _ => Yl_remE rfl rfl rfl (by omega) (by omega)) rfl rfl ?_ | refine GO_read (fun w' => w'.cell? _ = some _) rfl rfl hS.cell (fun _ hc => Yl_load rfl rfl hc) rfl rfl ?_ | refine GO_hard rfl rfl ?_) | (refine Keep_id ?_; first | refine And.intro (by repeat (first | exact trivial | refine And.intro (.inl (by decide +kernel)) ?_ | refine And.intro (.inr (by first | assumption | exact hS.cell | exact cell_at (by assumption) | exact hS.cellI (by omega) | exact hS.cellIP (by omega) | exact hS.cellsN | exact ((hr.rd hS).cellX (by omega) hx) | exact ((hr2.rd hS).cellX (by omega) hx2) | exact hS.cellB (by omega) | exact hS.cellBA (by omega) | exact (hb.rd hS).cellB' (by omega) | exact (hb2.rd hS).cellB' (by omega) | exact (hg.rd hS).cellI (by omega) | exact (hg2.rd hS).cellI (by omega) | exact ((hr.rd hS).cellF (by first | omega | (dsimp only; omega)) hx) | exact ((hr2.rd hS).cellF (by first | omega | (dsimp only; omega)) hx2) | exact hS.cellO 0 (by omega) | exact hS.cellO 1 (by omega) | exact hS.cellIA (by omega) | exact (hg.rd hS).cellIA (by omega) | exact (hg2.rd hS).cellIA (by omega) | exact cell_at (hc.rd hS).pts | exact hb.rd hS | exact hS.cellO 4 (by omega) | exact hS.cellO 5 (by omega) | exact hS.cellO 6 (by omega) | exact hS.cellO 7 (by omega) | exact hS.cellO 8 (by omega) | exact hS.cellO 9 (by omega) | exact hS.cellO 10 (by omega) | exact hS.cellO 11 (by omega) | exact hS.cellO 12 (by omega) | exact hS.cellO 13 (by omega))) ?_)) ?_))
    rw [ei] at hS
    refine ⟨trivial, hend _ _ e1 ?_⟩
    rw [if_neg h64]
    exact hS
end Cr
namespace Cr
open Go Go.Proofs
set_option maxRecDepth 100000
set_option maxHeartbeats 4000000
attribute [local irreducible] Calls

/-- A slice of slices of bytes, as data: where each lies, its room, its bytes. -/
structure Bs where
  a : Option Addr
  c : Nat
  s : List UInt8
def Bs.val (x : Bs) : Value := .slice x.a x.s.length x.c
/-- They can be read all the time. -/
structure Bss (W : World) (F : Nat → Prop) (a : Option Addr) (l : List Bs) : Prop where
  row : Ro W F (row a (l.map Bs.val))
  all : ∀ x ∈ l, Ro W F (bytes x.a x.s)
theorem Bss.mono {W w : World} {F F' : Nat → Prop} {a : Option Addr} {l : List Bs} (h : Bss W F a l) (hw : ∀ r, Ro W F r → Ro w F' r) : Bss w F' a l := ⟨hw _ h.row, fun x hx => hw _ (h.all x hx)⟩
def StrM.more (rd fs : List Int) (S : StrM) (l : List UInt8) : StrM := l.foldl (StrM.one rd fs) S
theorem StrM.more_ok {rd fs : List Int} (hf : fs.length = 8) : ∀ {l : List UInt8} {S : StrM}, S.ok → (S.more rd fs l).ok
  | [], _, h => h
  | c :: l, S, h => by
    show (StrM.more rd fs (S.one rd fs c) l).ok
    exact StrM.more_ok (rd := rd) hf (StrM.one_ok (rd := rd) h hf)
theorem StrM.more_n {rd fs : List Int} : ∀ {l : List UInt8} {S : StrM}, (S.more rd fs l).n = S.n + l.length
  | [], _ => rfl
  | c :: l, S => by
    have := StrM.more_n (rd := rd) (fs := fs) (l := l) (S := S.one rd fs c)
    simp only [StrM.more, List.foldl_cons, List.length_cons] at this ⊢
    rw [this]; simp only [StrM.one]; omega
theorem StrM.more_append {rd fs : List Int} {S : StrM} {l m : List UInt8} : S.more rd fs (l ++ m) = (S.more rd fs l).more rd fs m := by simp [StrM.more]
theorem StrM.more_snoc {rd fs : List Int} {S : StrM} {l : List UInt8} {i : Nat} (h : i < l.length) : S.more rd fs (l.take (i + 1)) = (S.more rd fs (l.take i)).one rd fs (l.getD i 0) := by
  rw [List.take_succ_eq_append_getElem h, StrM.more_append]
  simp [StrM.more, List.getD_eq_getElem?_getD, h]
def joined (l : List Bs) : List UInt8 := l.flatMap Bs.s
theorem joined_snoc {l : List Bs} {i : Nat} {x : Bs} (h : l[i]? = some x) : joined (l.take (i + 1)) = joined (l.take i) ++ x.s := by
  obtain ⟨hi, rfl⟩ := List.getElem?_eq_some_iff.1 h
  rw [List.take_succ_eq_append_getElem hi]
  simp only [joined, List.flatMap_append, List.flatMap_cons, List.flatMap_nil, List.append_nil]
theorem joined_take_le (l : List Bs) (i : Nat) : (joined (l.take i)).length ≤ (joined l).length := by
  have : joined l = joined (l.take i) ++ joined (l.drop i) := by unfold joined; rw [← List.flatMap_append, List.take_append_drop]
  rw [this]; simp

theorem write_nil (x : Value) (W : World) : Calls Tryz.prog 257 #[.pointer none, x] W (Ret fun v w => v = .pointer none ∧ W = w) := by
  refine calls_C Tryz.func257 rfl Tryz.ntmps257 rfl ?_
  repeat (first | (refine G_id ?_; first | refine G_nil ?_ | refine G_plain rfl rfl ?_) | (refine X_id ?_; first | refine X_yl (Yl_move rfl rfl) rfl rfl ?_ | refine X_yl (Yl_assign rfl rfl) rfl rfl ?_ | refine X_yl (Yl_eqlNil_none rfl rfl rfl) rfl rfl ?_) | (refine C_id ?_; first | refine C_seq ?_ | refine C_region ?_ | refine C_ret ?_ | refine C_cond_t rfl ?_) | (refine E_id ?_; first | refine E_code ?_ | refine E_then_ret ?_ | refine E_ret1 rfl (Rv_tmp rfl) (Ret.mk ?_)))
  exact ⟨rfl, rfl⟩
theorem dwrite_ (s : Nat) (S : StrM) (a : Option Addr) (c : Nat) (l : List Bs) (rd fs : List Int) (T : TypeId) (W : World) (F : Nat → Prop) (hok : S.ok) (hn : S.n + (joined l).length < 2305843009213693951) (hl : l.length < 2305843009213693951) (hG : Gl W F rd fs)
    (hB : Bss W F a l) (hS : St W F [pts s (.cells S.cells.toArray T)] W) :
    Calls Tryz.prog 257 #[.pointer (some ⟨s, 0, none⟩), .slice a l.length c] W (Ret fun v w => v = .pointer (some ⟨s, 0, none⟩) ∧ St W F [pts s (.cells (S.more rd fs (joined l)).cells.toArray T)] w) := by
  refine calls_C Tryz.func257 rfl Tryz.ntmps257 rfl ?_
  repeat (first | (refine G_id ?_; first | refine G_nil ?_ | refine G_plain rfl rfl ?_) | (refine X_id ?_; first | refine X_yl (Yl_move rfl rfl) rfl rfl ?_ | refine X_yl (Yl_assign rfl rfl) rfl rfl ?_ | refine X_yl (Yl_len rfl rfl) rfl rfl ?_ | refine X_yl (Yl_eqlNil_some rfl rfl rfl) rfl rfl ?_) | (refine C_id ?_; first | refine C_seq ?_ | refine C_region ?_ | refine C_block ?_ | refine C_skip ?_ | refine C_cond_f rfl ?_) | (refine E_id ?_; first | refine E_code ?_))
  refine C_loop (α := Nat) (fun i => [(0, .pointer (some ⟨s, 0, none⟩)), (11, .slice a l.length c), (12, .int .i64 (l.length : Nat)), (13, .int .i64 (i : Nat))])
    (fun i w => i ≤ l.length ∧ St W F [pts s (.cells (S.more rd fs (joined (l.take i))).cells.toArray T)] w) (fun i => l.length - i) 0 ⟨rfl, rfl, rfl, rfl, trivial⟩ ⟨Nat.zero_le _, hS⟩ ?_
  clear hS
  rintro i w ⟨hi, hS⟩
  by_cases hlt : i < l.length
  · have hx : l[i]? = some l[i] := List.getElem?_eq_getElem hlt
    generalize l[i] = x at hx
    have hxm := List.mem_of_getElem? hx
    have hbx := hB.all x hxm
    have hj := joined_snoc hx
    have hle := joined_take_le l (i + 1)
    rw [hj, List.length_append] at hle
    obtain ⟨ab, ao, rfl⟩ := (hB.row.rd hS).base (by intro e; simp at e; subst e; simp at hlt)
    have hr := hB.row
    replace hx : (l.map Bs.val)[i]? = some (.slice x.a x.s.length x.c) := by simp [hx, Bs.val]
    repeat (first | (refine G_id ?_; first | refine G_nil ?_ | refine G_plain rfl rfl ?_) | (refine X_id ?_; first | refine X_yl (Yl_move rfl rfl) rfl rfl ?_ | refine X_yl (Yl_assign rfl rfl) rfl rfl ?_ | refine X_yl (Yl_len rfl rfl) rfl rfl ?_ | refine X_yl (Yl_lss_t rfl rfl rfl (by omega)) rfl rfl ?_ | refine X_yl (Yl_indexAddr rfl rfl rfl (by omega) (by omega) (by first | assumption | exact ⟨_, _, rfl⟩)) rfl rfl ?_ | refine X_yl (Yl_load rfl rfl ((hr.rd hS).cellX (by omega) hx)) rfl rfl ?_) | (refine C_id ?_; first | refine C_seq ?_ | refine C_region ?_ | refine C_block ?_ | refine C_skip ?_ | refine C_cond_t rfl ?_) | (refine E_id ?_; first | refine E_code ?_))
    refine C_loop (α := Nat) (fun j => [(0, .pointer (some ⟨s, 0, none⟩)), (11, .slice (some ⟨ab, ao, none⟩) l.length c), (12, .int .i64 (l.length : Nat)), (13, .int .i64 (i : Nat)), (17, .slice x.a x.s.length x.c), (18, .int .i64 (x.s.length : Nat)), (19, .int .i64 (j : Nat))])
      (fun j w => j ≤ x.s.length ∧ St W F [pts s (.cells (S.more rd fs (joined (l.take i) ++ x.s.take j)).cells.toArray T)] w) (fun j => x.s.length - j) 0 ⟨rfl, rfl, rfl, rfl, rfl, rfl, rfl, trivial⟩ ⟨Nat.zero_le _, by simpa using hS⟩ ?_
    clear hS
    rintro j w ⟨hj', hS⟩
    by_cases hjl : j < x.s.length
    · obtain ⟨xb, xo, hxa⟩ := (hbx.rd hS).base (by intro e; have := bv_length x.s; rw [e] at this; simp at this; omega)
      have hb : Ro W F (bytes (some ⟨xb, xo, none⟩) x.s) := hxa ▸ hbx
      rw [hxa]
      repeat (first | (refine G_id ?_; first | refine G_nil ?_ | refine G_plain rfl rfl ?_) | (refine X_id ?_; first | refine X_yl (Yl_move rfl rfl) rfl rfl ?_ | refine X_yl (Yl_assign rfl rfl) rfl rfl ?_ | refine X_yl (Yl_lss_t rfl rfl rfl (by omega)) rfl rfl ?_ | refine X_yl (Yl_indexAddr rfl rfl rfl (by omega) (by omega) (by first | assumption | exact ⟨_, _, rfl⟩)) rfl rfl ?_ | refine X_yl (Yl_load rfl rfl ((hb.rd hS).cellB' (by omega))) rfl rfl ?_) | (refine C_id ?_; first | refine C_seq ?_ | refine C_region ?_ | refine C_block ?_ | refine C_skip ?_ | refine C_cond_t rfl ?_) | (refine E_id ?_; first | refine E_code ?_))
      obtain ⟨S', hSe⟩ : ∃ S', S' = S.more rd fs (joined (l.take i) ++ x.s.take j) := ⟨_, rfl⟩
      have hok' : S'.ok := hSe ▸ StrM.more_ok hG.first8 hok
      have hn' : S'.n < 2305843009213693951 := by rw [hSe, StrM.more_n]; simp; omega
      rw [← hSe] at hS
      obtain ⟨_, hc, hr, hw, hbk⟩ := hS.call [true]
      refine X_callg _ rfl rfl rfl rfl rfl (one_ s S' _ rd fs T _ _ hok' hn' (hG.mono hw) hc) ?_
      rintro _ w ⟨_, hS⟩
      replace hS := hbk hS
      clear hc hr hw hbk
      repeat (first | (refine G_id ?_; first | refine G_nil ?_ | refine G_plain rfl rfl ?_) | (refine X_id ?_; first | refine X_yl (Yl_move rfl rfl) rfl rfl ?_ | refine X_yl (Yl_add rfl rfl rfl (w64 (by omega) (by omega))) rfl rfl ?_) | (refine C_id ?_; first | refine C_region ?_) | (refine E_id ?_; first | refine E_code ?_ | refine E_blk_n ?_))
      refine E_round (j + 1) ⟨rfl, rfl, rfl, rfl, rfl, rfl, rfl, trivial⟩ ⟨by omega, ?_⟩ (by omega)
      rw [StrM.more_append, StrM.more_snoc hjl, ← StrM.more_append, ← hSe]
      rw [show (j : Int).toNat * 1 = j by omega] at hS
      exact hS
    · obtain rfl : j = x.s.length := by omega
      repeat (first | (refine G_id ?_; first | refine G_nil ?_ | refine G_plain rfl rfl ?_) | (refine X_id ?_; first | refine X_yl (Yl_move rfl rfl) rfl rfl ?_ | refine X_yl (Yl_lss_f rfl rfl rfl (by omega)) rfl rfl ?_ | refine X_yl (Yl_add rfl rfl rfl (w64 (by omega) (by omega))) rfl rfl ?_) | (refine C_id ?_; first | refine C_seq ?_ | refine C_region ?_ | refine C_exit ?_ | refine C_cond_f rfl ?_) | (refine E_id ?_; first | refine E_code ?_ | refine E_then_exit ?_ | refine E_blk_same ?_ | refine E_blk_n ?_))
      refine E_round (i + 1) ⟨rfl, rfl, rfl, rfl, trivial⟩ ⟨by omega, ?_⟩ (by omega)
      rw [hj]
      rw [List.take_length] at hS
      exact hS
  · obtain rfl : i = l.length := by omega
    rw [List.take_length] at hS
    repeat (first | (refine G_id ?_; first | refine G_nil ?_ | refine G_plain rfl rfl ?_) | (refine X_id ?_; first | refine X_yl (Yl_move rfl rfl) rfl rfl ?_ | refine X_yl (Yl_assign rfl rfl) rfl rfl ?_ | refine X_yl (Yl_lss_f rfl rfl rfl (by omega)) rfl rfl ?_) | (refine C_id ?_; first | refine C_seq ?_ | refine C_region ?_ | refine C_ret ?_ | refine C_exit ?_ | refine C_cond_f rfl ?_) | (refine E_id ?_; first | refine E_code ?_ | refine E_then_exit ?_ | refine E_blk_same ?_ | refine E_ret1 rfl (Rv_tmp rfl) (Ret.mk ?_)))
    exact ⟨rfl, hS⟩

/-! ### Fork -/
def StrM.init : StrM := ⟨List.replicate 8 0, List.replicate 64 0, 0⟩
theorem StrM.init_ok : StrM.init.ok := ⟨by simp [init], by simp [init]⟩
theorem fork_ (s : Nat) (S : StrM) (T : TypeId) (W : World) (hok : S.ok) (hs : Rd W (pts s (.cells S.cells.toArray T))) :
    Calls Tryz.prog 302 #[.pointer (some ⟨s, 0, none⟩)] W (Ret fun v w => ∃ p, v = .pointer (some ⟨p, 0, none⟩) ∧ St W noF [pts p (.cells S.cells.toArray 416)] w) := by
  obtain ⟨H, R, n⟩ := S
  obtain ⟨h8, r64⟩ := hok
  unfold StrM.cells at hs ⊢
  simp only at h8 r64 hs ⊢
  have hl1 : LenO (ints .u32 H) 8 := ⟨by rw [ints_length]; exact h8⟩
  have hl2 : LenO (bv R) 64 := ⟨by simp [r64]⟩
  have hc := hs.ro
  have hS := St.start W
  refine calls_C Tryz.func302 rfl Tryz.ntmps302 rfl ?_
  repeat (first | (refine G_id ?_; first | refine G_nil ?_ | refine G_plain rfl rfl ?_) | (refine X_id ?_; first | refine X_yl (Yl_move rfl rfl) rfl rfl ?_ | refine X_yl (Yl_assign rfl rfl) rfl rfl ?_ | refine X_yl (Yl_nilCheck rfl rfl) rfl rfl ?_ | refine X_yl (Yl_build rfl rfl rfl) rfl rfl ?_ | refine X_yl (Yl_neqNil_some rfl rfl rfl) rfl rfl ?_ | refine X_box rfl rfl rfl rfl hS (fun _ _ hS _ => ?_)) | (refine C_id ?_; first | refine C_seq ?_ | refine C_region ?_ | refine C_cond_t rfl ?_) | (refine E_id ?_; first | refine E_code ?_))
  rename_i bx wx _
  replace hS : St W noF [pts bx (.cells (ints .u32 (List.replicate 8 0) ++ (bv (List.replicate 64 0) ++ [Value.int .i64 0])).toArray 416)] wx := hS
  have hl3 : LenO (ints .u32 (List.replicate 8 0)) 8 := ⟨by rw [ints_length]; simp⟩
  refine X_yl (Yl_loadAgg rfl rfl (CellsAt.of_block (hc.rd hS).pts) (by simp [ints_length, h8, r64])) rfl rfl ?_
  repeat (first | (refine G_id ?_; first | refine G_nil ?_ | refine G_plain rfl rfl ?_) | (refine X_id ?_; first | refine X_yl (Yl_move rfl rfl) rfl rfl ?_ | refine X_yl (Yl_assign rfl rfl) rfl rfl ?_ | refine X_yl (Yl_nilCheck rfl rfl) rfl rfl ?_ | refine X_storeAll rfl rfl rfl rfl hS (fun _ hS => ?_)) | (refine C_id ?_; first | refine C_seq ?_ | refine C_region ?_ | refine C_ret ?_) | (refine E_id ?_; first | refine E_code ?_ | refine E_ret1 rfl (Rv_tmp rfl) (Ret.mk ?_)))
  exact ⟨_, rfl, hS⟩
end Cr
namespace Cr
open Go
theorem St.wide {W : World} {F : Nat → Prop} {rs : List Res} {w : World} (hS : St W noF rs w) : St W F rs w := by
  obtain ⟨h, hs, s⟩ := hS
  exact ⟨h, hs, s.agrees, fun b o e => (s.foot b o e).imp (fun h => h.elim) id, s.size, s.os, s.tape, s.output, fun b h1 _ => s.kept b h1 (fun h => h)⟩
/-- What was held and is no more touched stays, what a call made comes to it. -/
theorem St.plus {W : World} {F : Nat → Prop} {rs rs' rs'' : List Res} {w w' : World} (hS : St W F rs w) (h' : St w noF rs' w') [ha : AppR rs' rs rs''] : St W F rs'' w' := by
  obtain ⟨_, _, _, _, hbk⟩ := hS.call []
  exact hbk (h'.wide)
end Cr
