/-
  'for .. := range f { .. }', f a function: rules for the walk. Over any program.
  Bits, strings of bytes. Over any program.
  Layer 2 (digest): what each function of package digest computes.
  The two tables of package digest, as the program's text lays them.
  A law's wrap, for every law alike: what is as it was reads as it did.
  Lists of cells in parts; bytes in a block; quotients. Over any program.
  Calls that make memory. Over any program.
  Conversions between bytes and strings, strings' comparison, copy, append of zeros. Over any program.
  Operations on strings: sums, lengths, pieces, bytes of a string. Over any program.
  DERIVED: THE SHELF's CONTRACTS AT THIS DUMP, IN PLAIN WORDS (tools/lay-plain.mjs out of 'TryzShelf.lean', which tools/lay-shelf.mjs wrote): THE SAME DECLARATIONS UNDER THE SAME NAMES: 'import', 'namespace', 'open', 'def', 'theorem' AND NOTHING ELSE: no command of the shelf's: FOR A HAND-IN. Each laying: the table of numbers ('.._ren') and one theorem, a field a fact of the dump's own or the kernel's comparison; each contract: ONE APPLICATION.
  The library's bytes.Clone and bytes.Equal.
  The library's functions that packages codec and command call: numbers as text and back, bytes copied and compared.
  The wrap of laws whose rows list the tables of digest, strconv, bits, strings and unicode: a world for a witness; what the row lists gives the tables.
-/
import Derived.Test.YtflbhldcnjmkkaaGreatDoorAnl2
import Derived.Test.YtflbhldcnjmkkaaGreatDoorAnl3
import Derived.Test.YtflbhldcnjmkkaaGreatDoorCards
import Derived.Test.YtflbhldcnjmkkaaGreatDoorTie
import Derived.WalkKit
import Derived.ProofKit
import Derived.OpenShut
import Derived.Deep.DeepHandedRow
import Derived.Lib.LaidTab
import Derived.Stop.LaidErr
import Derived.Carry
import Derived.Laws.BytesString
import Derived.Laws.Strings
import Derived.Laws.CopyRow
import Derived.Lib.ConvBytes
import Derived.Laws.Concat
import Derived.Shelf.Strings.Builder1
import Derived.Shelf.Strings.Builder2
import Derived.Shelf.Small.Bits
import Derived.Shelf.Small.Strs
import Derived.Shelf.Strconv.Atoi
import Derived.Shelf.Strconv.Itoa0
import Derived.Shelf.Strconv.Itoa1
import Derived.Shelf.LaysM
import Derived.Shelf.Strconv.Itoa2
import Derived.Shelf.Strconv.Itoa3
import Derived.Shelf.Strconv.AtoiErrFast
import Derived.Shelf.Strconv.ParseIntEmpty
import Derived.Shelf.Strconv.AtoiFail
import Derived.Shelf.Strconv.Clone
import Derived.Shelf.Strconv.SyntaxError
import Derived.Shelf.LaysC
import Derived.Shelf.Strconv.ToError
import Derived.Shelf.Strconv.Lower
import Derived.Shelf.Strconv.ParseUint10
import Derived.Shelf.Strconv.ParseUint10Empty
import Derived.Shelf.Strconv.ParseUint10Any
import Derived.Shelf.Strconv.ParseInt10
import Derived.Shelf.Strconv.AtoiLong
import Derived.Shelf.Strconv.AtoiInnerAll
import Derived.Shelf.Strconv.RangeError
import Derived.Shelf.Strconv.ToErrorRange
import Derived.Shelf.Strconv.AtoiAll
import Derived.Shelf.Strconv.ErrVarAll
import Derived.Shelf.Sort.Plain
import Derived.Shelf.Strings.Fields
import Derived.Shelf.Strings.SplitShaped
import Derived.Shelf.Unicode.Latin
import Derived.Shelf.Bits.Mul64
import Derived.Shelf.Unicode.Is16White
import Derived.Shelf.Unicode.IsSpaceAny
import Derived.Shelf.Unicode.Is16Any
import Derived.Shelf.Unicode.Is32Any
import Derived.Shelf.Unicode.ExclAny
import Derived.Shelf.Slices.Turned
import Derived.Ground.Names2Prog
import Derived.Shelf.Slices.Clone
import Derived.Shelf.Slices.SearchI
import Derived.Shelf.Slices.In.SortNone
import Derived.Ground.SlgnProg
import Derived.Shelf.SlicesE.Clone
import Derived.Test.YtflbhldcnjmkkaaGreatDoorProg
import Derived.KernelRfl
import Derived.Deep.DeepWitnessRowRef
namespace Cr
open Go

theorem setBlock_put {w : World} {b : Nat} {o o' : Obj} (h : w.heap[b]? = some o) : SetBlock w { w with heap := w.heap.setIfInBounds b o' } b o' := by
  have hlt := lt_of_get h
  refine ⟨by simp, ?_, fun k hk => ?_, rfl, rfl, rfl⟩
  · simp [hlt]
  · simp [Ne.symm hk]

section
variable {P : Program} {Q : Exit → Act → World → Prop} {N : Nat} {ds : Md} {σ : Env} {w : World}
theorem Yl_makeFunc {o : Oper} {fn : Fn} {xs ys : List Operand} {first captured : List Value} (ho : o.op = .makeFunc fn xs.toArray ys.toArray) (hx : evs σ xs = some first) (hy : evs σ ys = some captured) : Yl P o σ w (.func fn first.toArray captured.toArray) := ⟨fun N ds a ha => by
  simp [execOp, ho, Instr.makeFunc, ha.evals hx, ha.evals hy]⟩
theorem run_load1 {t : TypeId} {ad : Addr} {v : Value} [h : One P t] (hc : w.cell? ad = some v) : (loadVar t ad).run P w = .ok v w := by
  simp [loadVar, h.one, load, Sem.run, hc]
theorem run_loadN {t : TypeId} {a : Addr} {cs : List Value} {n : Nat} [h : Agg P t] [hs : Siz P t n] (hc : CellsN w a n cs) : (loadVar t a).run P w = .ok (.agg cs.toArray) w := by
  obtain ⟨hc, rfl⟩ := hc
  exact run_loadAgg hc
theorem E_code2 {Q : Exit → Act → World → Prop} {y : Code} {ds' : Md} (hF : Fc ds' = Fc ds) (h : C P y Q N ds σ w) : E (Exit.then (y.wpIn (Fc ds') 0 P Q) Q) .normal N ds σ w := ⟨fun a ha => by rw [hF]; exact h.run a ha⟩
theorem E_plain {Q : Exit → Act → World → Prop} {e : Exit} (h : E Q e N ds σ w) : E Q e N ds σ w := h
def recd (fn : FuncId) (tm : Array Value) (ps : Array Tmp) (assign body : Code) (r : Nat) (st : LoopState) (jump : Option Code) : Loop :=
  { state := st, pending := jump, fn, tmps := tm, params := ps, assign, body, defers := r }
def mark (r : Nat) : Deferred := { target := .collected r, args := #[] }
/-- A yield's call, in the function that is ranged over. -/
theorem G_yield {ops : Array Oper} {rest : List Oper} {o : Oper} {f : Operand} {xs : List Operand} {vs : List Value} {ts : Array TypeId} {l d : Nat} {r : Loop} {R : Value → World → Prop} (hgd : o.guard = none) (ho : o.op = .call { callee := .value f, args := xs.toArray, argTypes := ts }) (hf : ev σ f = some (.func (.yield l) #[] #[])) (hv : evs σ xs = some vs)
    (hd : o.dst = some d) (hN : Nat.blt d N = true) (hl : w.heap[l]? = some (.loop r)) (hsz : vs.length = r.params.size)
    (hr : RoundIn Fence.wide 0 P l r.fn ((r.params.zip vs.toArray).foldl (fun tmps (t, a) => tmps.setIfInBounds t a) r.tmps) r.assign r.body w (Ret R)) (h : ∀ v w', R v w' → G P ops Q rest N ds ((d, v) :: σ) w') : G P ops Q (o :: rest) N ds σ w := ⟨fun a ha =>
  wpListIn_plain hgd fun K hK => by
    have hsem : o.semAt (Fc ds).round a.eval = execOp a.eval o := Oper.semAt_eq _ _ _ fun c hc => by rw [ho] at hc; cases hc
    refine ⟨fun _ _ => trivial, ?_⟩
    rw [hsem]
    have hexec : (execOp a.eval o).run P w = .ok (.round l r.fn ((r.params.zip vs.toArray).foldl (fun tmps (t, a) => tmps.setIfInBounds t a) r.tmps) r.assign r.body) w := by
      simp [execOp, ho, resolve, ha.eval hf, Deferred.ofValue, invoke, ha.evals hv, Instr.yield, Instr.getLoop, getObj, Sem.run, hl, hsz]
    rw [hexec]
    refine ⟨Fc_depth ds, ?_⟩
    obtain ⟨hF, hr⟩ := hr
    refine ⟨trivial, fun c cs hroom => ?_⟩
    obtain ⟨e, w', hR, hs⟩ := hr c cs (fun _ h => by simp [Fence.wide] at h)
    obtain ⟨v, rfl, hR⟩ := hR
    refine ⟨.returned v, w', ?_, hs⟩
    have := (h v w' hR).run _ (ha.put (lt_of_blt hN) v)
    rw [← hd] at this
    exact hK _ _ this⟩
/-- The frame of a round: the loop's slots with the parameters laid. -/
theorem Fr.round {tm : Array Value} (hsz : tm.size = N) (h : ∀ n v, look σ n = some v → tm[n]? = some v) (l : Nat) : Fr σ N ⟨[], some l⟩ { tmps := tm, defers := [] } := ⟨hsz, rfl, h⟩
def QA (P : Program) (l : Nat) (body : Code) (R : Ending → World → Prop) : Exit → Act → World → Prop :=
  Exit.then (fun a1 w1 => ∃ w2, (Instr.beginRound l).run P w1 = .ok () w2 ∧ body.wpIn (Fc ⟨[], some l⟩) 0 P (roundPost P l R) a1 w2) (fun _ _ _ => False)
theorem round_C {l : Nat} {f : FuncId} {tm : Array Value} {assign body : Code} {R : Ending → World → Prop} (hF : Fr σ N ⟨[], some l⟩ { tmps := tm, defers := [] }) (h : C P assign (QA P l body R) N ⟨[], some l⟩ σ w) :
    RoundIn Fence.wide 0 P l f tm assign body w R := roundIn_of_wpIn (F := Fence.wide) trivial (h.run _ hF)
theorem C_eq {A A' : Code} {Q : Exit → Act → World → Prop} (e : A = A') (h : C P A' Q N ds σ w) : C P A Q N ds σ w := e ▸ h
theorem E_begin {l : Nat} {fn : FuncId} {tm : Array Value} {ps : Array Tmp} {A B : Code} {rr : Nat} {j : Option Code} {body : Code} {R : Ending → World → Prop} (hl : w.heap[l]? = some (.loop (recd fn tm ps A B rr .ready j))) (h : ∀ w2, SetBlock w w2 l (.loop (recd fn tm ps A B rr .busy j)) → C P body (roundPost P l R) N ⟨[], some l⟩ σ w2) :
    E (QA P l body R) .normal N ⟨[], some l⟩ σ w := ⟨fun a ha => ⟨{ w with heap := w.heap.setIfInBounds l (.loop (recd fn tm ps A B rr .busy j)) }, by
  simp [Instr.beginRound, Instr.getLoop, getObj, setObj, Sem.run, hl, recd], (h _ (setBlock_put hl)).run a ha⟩⟩
theorem run_endRound {l : Nat} {fn : FuncId} {tm : Array Value} {ps : Array Tmp} {A B : Code} {rr : Nat} {st : LoopState} {j0 : Option Code} {j : Option Code} (hl : w.heap[l]? = some (.loop (recd fn tm ps A B rr st j0))) :
    (Instr.endRound l j).run P w = .ok (.bool j.isNone) { w with heap := w.heap.setIfInBounds l (.loop (recd fn tm ps A B rr (if j.isNone then .ready else .done) j)) } := by
  simp [Instr.endRound, Instr.getLoop, getObj, setObj, Sem.run, hl, recd]
theorem E_round_n {l : Nat} {fn : FuncId} {tm : Array Value} {ps : Array Tmp} {A B : Code} {rr : Nat} {st : LoopState} {j0 : Option Code} {R : Ending → World → Prop} {m : Md} (hl : w.heap[l]? = some (.loop (recd fn tm ps A B rr st j0))) (h : ∀ w', SetBlock w w' l (.loop (recd fn tm ps A B rr .ready none)) → R (.returned (.bool true)) w') : E (roundPost P l R) .normal N m σ w :=
  ⟨fun _ _ => ⟨_, _, run_endRound (j := none) hl, h _ (setBlock_put hl)⟩⟩
theorem E_round_ret {l : Nat} {fn : FuncId} {tm : Array Value} {ps : Array Tmp} {A B : Code} {rr : Nat} {st : LoopState} {j0 : Option Code} {R : Ending → World → Prop} {m : Md} (hl : w.heap[l]? = some (.loop (recd fn tm ps A B rr st j0))) (h : ∀ w', SetBlock w w' l (.loop (recd fn tm ps A B rr .done (some .ret))) → R (.returned (.bool false)) w') : E (roundPost P l R) .ret N m σ w :=
  ⟨fun _ _ => ⟨_, _, run_endRound (j := some .ret) hl, h _ (setBlock_put hl)⟩⟩
theorem E_round_exit {l id : Nat} {fn : FuncId} {tm : Array Value} {ps : Array Tmp} {A B : Code} {rr : Nat} {st : LoopState} {j0 : Option Code} {R : Ending → World → Prop} {m : Md} (hl : w.heap[l]? = some (.loop (recd fn tm ps A B rr st j0))) (h : ∀ w', SetBlock w w' l (.loop (recd fn tm ps A B rr .done (some (.exit id)))) → R (.returned (.bool false)) w') : E (roundPost P l R) (.exit id) N m σ w :=
  ⟨fun _ _ => ⟨_, _, run_endRound (j := some (.exit id)) hl, h _ (setBlock_put hl)⟩⟩

theorem C_rangeFunc {W : World} {F : Nat → Prop} {rs : List Res} {g : Operand} {ps : Array Tmp} {assign body : Code} {gid : FuncId} {first captured : List Value} (J : Nat → Nat → Option Code → World → Prop)
    (hro : ds.ro = none) (hg : ev σ g = some (.func (.func gid) first.toArray captured.toArray)) [hfun : Fun P gid] (hS : St W F rs w)
    (hcall : ∀ A B, A = assign → B = body → ∀ fn tm l r w1, tm.size = N → (∀ n v, look σ n = some v → tm[n]? = some v) → St W F (pts l (.loop (recd fn tm ps A B r .ready none)) :: pts r (.deferred (some [])) :: rs) w1 →
      CallsIn Fence.wide 0 P gid (first ++ (.func (.yield l) #[] #[] :: captured)).toArray w1 (Ret fun _ w3 => ∃ st jump, st ≠ .busy ∧ w3.heap[l]? = some (.loop (recd fn tm ps A B r st jump)) ∧
        ∀ w4, SetBlock w3 w4 l (.loop (recd fn tm ps A B r .exhausted jump)) → J l r jump w4))
    (hnone : ∀ l r w4, J l r none w4 → E Q .normal N ⟨mark r :: ds.ds, none⟩ σ w4)
    (hsome : ∀ l r c w4, J l r (some c) w4 → C P c Q N ⟨mark r :: ds.ds, none⟩ σ w4) : C P (.rangeFunc g ps assign body) Q N ds σ w := ⟨fun a ha => by
  rw [Fc_none hro]
  refine wpIn_rangeFunc fun fn _ => ?_
  have s1 := hS.alloc (.deferred (some []))
  have s2 := s1.alloc (.loop (recd fn a.tmps ps assign body w.heap.size .ready none))
  simp only [World.size_alloc] at s2
  obtain ⟨w1, hw1⟩ : ∃ w1, w1 = (w.alloc (.deferred (some []))).alloc (.loop (recd fn a.tmps ps assign body w.heap.size .ready none)) := ⟨_, rfl⟩
  rw [← hw1] at s2
  refine ⟨w.heap.size + 1, [mark w.heap.size], w1, { target := .fn (.func gid) captured.toArray, args := first.toArray ++ #[.func (.yield (w.heap.size + 1)) #[] #[]] }, w1, gid,
    (first ++ (.func (.yield (w.heap.size + 1)) #[] #[] :: captured)).toArray, w1, ?_, ?_, fun _ _ => trivial, ?_, fun h => by simp [Fence.wide] at h, ?_⟩
  · rw [hw1]
    simp [Instr.enterLoop, Fence.wide, recd, mark, newObj, Sem.run]
  · simp only [resolve, ha.eval hg, List.map_toArray, List.map_cons, List.map_nil]
    rfl
  · have := hfun.run (first ++ (.func (.yield (w.heap.size + 1)) #[] #[] :: captured)).toArray w1
    simp only [invoke]
    simpa using this
  · obtain ⟨_, hc⟩ := hcall _ _ rfl rfl fn a.tmps (w.heap.size + 1) w.heap.size _ ha.size ha.at_ s2
    refine ⟨trivial, fun cs hr => ?_⟩
    obtain ⟨e, w3, fr, ⟨v, he, st, jump, hst, hl, hJ⟩, hs, hfn, hlv⟩ := hc cs hr
    subst he
    refine ⟨.returned v, w3, fr, ⟨jump, { w3 with heap := w3.heap.setIfInBounds (w.heap.size + 1) (.loop (recd fn a.tmps ps assign body w.heap.size .exhausted jump)) }, ?_, ?_⟩, hs, hfn, hlv⟩
    · simp [Instr.endLoop, Instr.getLoop, getObj, setObj, Sem.run, hl, recd, hst]
    · have hJ' := hJ _ (setBlock_put hl)
      have ha' : Fr σ N ⟨mark w.heap.size :: ds.ds, none⟩ { a with defers := [mark w.heap.size] ++ a.defers } := ⟨ha.size, by simp [ha.defers], ha.at_⟩
      cases jump with
      | none => exact (hnone _ _ _ hJ').run _ ha'
      | some c => exact (hsome _ _ c _ hJ').run _ ha'⟩
/-- A return behind a range over a function: the mark goes. -/
theorem E_mark {fn : Func} {R : Ending → World → Prop} {r : Nat} {dl : List Deferred} {e : Exit} (he : e = .ret ∨ e = .normal) (hr : w.heap[r]? = some (.deferred (some []))) (h : ∀ w', SetBlock w w' r (.deferred none) → E (BP P fn R) e N ⟨dl, none⟩ σ w') : E (BP P fn R) e N ⟨mark r :: dl, none⟩ σ w := ⟨fun a ha => by
  have h1 := h _ (setBlock_put hr)
  have h2 := h1.run { a with defers := dl } ⟨ha.size, rfl, ha.at_⟩
  have hd : a.defers = mark r :: dl := ha.defers
  have hk : (Instr.takeDeferred r).run P w = .ok [] { w with heap := w.heap.setIfInBounds r (.deferred none) } := by
    simp [Instr.takeDeferred, getObj, setObj, Sem.run, hr]
  rcases he with rfl | rfl
  · show LeavesInM _ _ _ _ a.tmps R a.defers .returning w
    rw [hd]
    exact ⟨by simp, .inl ⟨r, _, rfl, hk, h2⟩⟩
  · show LeavesInM _ _ _ _ a.tmps R a.defers .returning w
    rw [hd]
    exact ⟨by simp, .inl ⟨r, _, rfl, hk, h2⟩⟩⟩
end
end Cr
namespace Cr
open Go
def iand (k : IntKind) (x y : Int) : Int := k.wrap (BitVec.ofInt k.bits x &&& BitVec.ofInt k.bits y).toNat
def ior (k : IntKind) (x y : Int) : Int := k.wrap (BitVec.ofInt k.bits x ||| BitVec.ofInt k.bits y).toNat
def ixor (k : IntKind) (x y : Int) : Int := k.wrap (BitVec.ofInt k.bits x ^^^ BitVec.ofInt k.bits y).toNat
def ishl (k : IntKind) (x : Int) (n : Nat) : Int := k.wrap (x * 2 ^ (min n k.bits))
def ishr (k : IntKind) (x : Int) (n : Nat) : Int := x.fdiv (2 ^ (min n k.bits))
section
variable {P : Program} {o : Oper} {σ : Env} {w : World} {x y : Operand} {t ty : TypeId} {k k' : IntKind} {a b : Int}
theorem Yl_and (ho : o.op = .binOp .and t x y ty) (hx : ev σ x = some (.int k a)) (hy : ev σ y = some (.int k b)) : Yl P o σ w (.int k (iand k a b)) := ⟨fun N ds f ha => by
  simp only [execOp, ho, ha.eval hx, ha.eval hy, binOp, eqGuard, Op.intBits, ne_eq, not_true_eq_false, if_false]; rfl⟩
theorem Yl_or (ho : o.op = .binOp .or t x y ty) (hx : ev σ x = some (.int k a)) (hy : ev σ y = some (.int k b)) : Yl P o σ w (.int k (ior k a b)) := ⟨fun N ds f ha => by
  simp only [execOp, ho, ha.eval hx, ha.eval hy, binOp, eqGuard, Op.intBits, ne_eq, not_true_eq_false, if_false]; rfl⟩
theorem Yl_xor (ho : o.op = .binOp .xor t x y ty) (hx : ev σ x = some (.int k a)) (hy : ev σ y = some (.int k b)) : Yl P o σ w (.int k (ixor k a b)) := ⟨fun N ds f ha => by
  simp only [execOp, ho, ha.eval hx, ha.eval hy, binOp, eqGuard, Op.intBits, ne_eq, not_true_eq_false, if_false]; rfl⟩
theorem Yl_shl (ho : o.op = .binOp .shl t x y ty) (hx : ev σ x = some (.int k a)) (hy : ev σ y = some (.int k' b)) (hb : 0 ≤ b) : Yl P o σ w (.int k (ishl k a b.toNat)) := ⟨fun N ds f ha => by
  have : ¬ b < 0 := by omega
  simp only [execOp, ho, ha.eval hx, ha.eval hy, binOp, eqGuard, Op.shift, if_neg this]; rfl⟩
theorem Yl_shr (ho : o.op = .binOp .shr t x y ty) (hx : ev σ x = some (.int k a)) (hy : ev σ y = some (.int k' b)) (hb : 0 ≤ b) : Yl P o σ w (.int k (ishr k a b.toNat)) := ⟨fun N ds f ha => by
  have : ¬ b < 0 := by omega
  simp only [execOp, ho, ha.eval hx, ha.eval hy, binOp, eqGuard, Op.shift, if_neg this]; rfl⟩
/-- A call that touches nothing of ours. -/
theorem X_callq {N : Nat} {ds : Md} {K : Env → World → Prop} (g : FuncId) {f : Operand} {xs : List Operand} {vs : List Value} {ts : Array TypeId} {d : Nat} {R : Value → Prop} {W : World} {F : Nat → Prop} {rs : List Res} (ho : o.op = .call { callee := .value f, args := xs.toArray, argTypes := ts }) (hf : ev σ f = some (.func (.func g) #[] #[])) (hv : evs σ xs = some vs) [hg : Fun P g]
    (hd : o.dst = some d) (hN : Nat.blt d N = true) (hS : St W F rs w) (hc : Calls P g vs.toArray w (Ret fun v w' => R v ∧ St w noF [] w')) (h : ∀ v w', R v → St W F rs w' → K ((d, v) :: σ) w') : X P o N ds σ w K :=
  X_callg g ho hf hv hd hN hc fun v w' ⟨hR, h'⟩ => h v w' hR (hS.below h'.toBelow)
theorem iand_7 (x : Int) : iand .i64 x 7 = x % 8 := by
  unfold iand
  have e : (BitVec.ofInt IntKind.i64.bits x &&& BitVec.ofInt IntKind.i64.bits 7).toNat = (x % 8).toNat := by
    rw [BitVec.toNat_and, BitVec.toNat_ofInt, BitVec.toNat_ofInt]
    show (x % 18446744073709551616).toNat &&& 7 = _
    rw [show (7 : Nat) = 2 ^ 3 - 1 from rfl, Nat.and_two_pow_sub_one_eq_mod]
    omega
  rw [e, IntKind.wrap_i64]
  omega
/-! blocks of numbers -/
def ints (k : IntKind) (L : List Int) : List Value := L.map (Value.int k)
theorem ints_length (k : IntKind) (L : List Int) : (ints k L).length = L.length := by simp [ints]
instance ones_ints (k : IntKind) (L : List Int) : Ones (ints k L) := ⟨fun u hu => by simp [ints] at hu; obtain ⟨n, _, rfl⟩ := hu; rfl⟩
theorem ints_get {k : IntKind} {L : List Int} {i : Nat} (h : i < L.length) : (ints k L)[i]? = some (.int k (L.getD i 0)) := by
  simp [ints, h, List.getD_eq_getElem?_getD]
theorem ints_rep (k : IntKind) (n : Nat) (x : Int) : List.replicate n (Value.int k x) = ints k (List.replicate n x) := by simp [ints]
theorem ints_set {k : IntKind} {L : List Int} {i : Nat} {x : Int} : (ints k L).set i (.int k x) = ints k (L.set i x) := by simp [ints, List.map_set]
theorem St.cellI {W : World} {F : Nat → Prop} {rs : List Res} {b off : Nat} {k : IntKind} {L : List Int} {T : TypeId} (hS : St W F rs w) [hh : Has rs b (.cells (ints k L).toArray T (0, 0))] (h : off < L.length) : w.cell? ⟨b, off, none⟩ = some (.int k (L.getD off 0)) := by
  rw [cell_of_row w b off _ T (0, 0) hS.has]
  simpa using ints_get (k := k) h
theorem X_storeI {N : Nat} {ds : Md} {K : Env → World → Prop} {b off : Nat} {k : IntKind} {n : Int} {L : List Int} {T : TypeId} {W : World} {F : Nat → Prop} {rs rs' : List Res} (ho : o.op = .store t x y) (hx : ev σ x = some (.pointer (some ⟨b, off, none⟩))) (hy : ev σ y = some (.int k n)) [hs : Siz P t 1]
    (hd : o.dst = none) (hS : St W F rs w) [hh : Has rs b (.cells (ints k L).toArray T (0, 0))] (hfit : off < L.length) [hu : Upd rs b (.cells (ints k (L.set off n)).toArray T (0, 0)) rs']
    (h : ∀ w', St W F rs' w' → K σ w') : X P o N ds σ w K := by
  have e : splice (ints k L) off [.int k n] = ints k (L.set off n) := by
    rw [← ints_set, set_mid _ _ _ (by rw [ints_length]; exact hfit)]
    simp [splice]
  have hu' : Upd rs b (.cells (splice (ints k L) off [.int k n]).toArray T (0, 0)) rs' := by rw [e]; exact hu
  exact X_storeL ho hx hy rfl (fun u hu => by simp at hu; subst hu; rfl) hd hS (by rw [ints_length]; exact hfit) (fun w' h' _ => h w' h')
theorem St.cellIP {W : World} {F : Nat → Prop} {rs : List Res} {b off : Nat} {k : IntKind} {L : List Int} {r : List Value} {T : TypeId} (hS : St W F rs w) [hh : Has rs b (.cells (ints k L ++ r).toArray T (0, 0))] (h : off < L.length) : w.cell? ⟨b, off, none⟩ = some (.int k (L.getD off 0)) := by
  rw [cell_of_row w b off _ T (0, 0) hS.has]
  have := ints_get (k := k) h
  simp only [List.getElem?_toArray]
  rw [List.getElem?_append_left (by rw [ints_length]; exact h)]
  exact this
theorem X_storeIP {N : Nat} {ds : Md} {K : Env → World → Prop} {b off : Nat} {k : IntKind} {n : Int} {L : List Int} {r : List Value} {T : TypeId} {W : World} {F : Nat → Prop} {rs rs' : List Res} (ho : o.op = .store t x y) (hx : ev σ x = some (.pointer (some ⟨b, off, none⟩))) (hy : ev σ y = some (.int k n)) [hs : Siz P t 1]
    (hd : o.dst = none) (hS : St W F rs w) [hh : Has rs b (.cells (ints k L ++ r).toArray T (0, 0))] (hfit : off < L.length) [hu : Upd rs b (.cells (ints k (L.set off n) ++ r).toArray T (0, 0)) rs']
    (h : ∀ w', St W F rs' w' → K σ w') : X P o N ds σ w K := by
  have e : splice (ints k L ++ r) off [.int k n] = ints k (L.set off n) ++ r := by
    rw [splice_append (by rw [ints_length]; exact hfit), ← ints_set, set_mid _ _ _ (by rw [ints_length]; exact hfit)]
    simp [splice]
  have hu' : Upd rs b (.cells (splice (ints k L ++ r) off [.int k n]).toArray T (0, 0)) rs' := by rw [e]; exact hu
  exact X_storeL ho hx hy rfl (fun u hu => by simp at hu; subst hu; rfl) hd hS (by rw [List.length_append, ints_length]; exact Nat.le_trans hfit (Nat.le_add_right _ _)) (fun w' h' _ => h w' h')
/-- A call of a closure that changes nothing. -/
theorem X_callc {N : Nat} {ds : Md} {K : Env → World → Prop} (g : FuncId) {f : Operand} {xs : List Operand} {vs captured : List Value} {ts : Array TypeId} {d : Nat} {R : Value → Prop} (ho : o.op = .call { callee := .value f, args := xs.toArray, argTypes := ts }) (hf : ev σ f = some (.func (.func g) #[] captured.toArray)) (hv : evs σ xs = some vs) [hg : Fun P g]
    (hd : o.dst = some d) (hN : Nat.blt d N = true) (hc : Calls P g (vs ++ captured).toArray w (Ret fun v w' => R v ∧ w = w')) (h : ∀ v, R v → K ((d, v) :: σ) w) : X P o N ds σ w K :=
  X_call (first := []) (captured := captured) ho hf hv hd hN (by simpa using hc) (by
    intro v w' h'
    obtain ⟨hR, e⟩ := h'
    subst e
    exact h v hR)
theorem row_pts_at {b off n : Nat} {l cs : List Value} {T : TypeId} (hs : (l.drop off).take n = cs) : ∀ h, pts b (.cells l.toArray T (0, 0)) h → row (some ⟨b, off, none⟩) cs h := fun _ hg => .inr ⟨b, off, l.toArray, T, (0, 0), rfl, hg, fun j v hv => by
  subst hs
  rw [List.getElem?_take] at hv
  split at hv
  · rw [List.getElem?_drop] at hv
    simpa using hv
  · cases hv⟩
theorem Rd.cellI {b o i : Nat} {k : IntKind} {L : List Int} (H : Rd w (row (some ⟨b, o, none⟩) (ints k L))) (h : i < L.length) : w.cell? ⟨b, o + i, none⟩ = some (.int k (L.getD i 0)) := H.cells i _ (ints_get h)
/-- One cell of a row. -/
theorem Rd.cell {a : Option Addr} {cs : List Value} {i : Nat} {v : Value} (H : Rd w (row a cs)) (hi : cs[i]? = some v) : w.cell? (adr a i) = some v := H.cells i v hi
end
end Cr
namespace Cr
open Go Go.Proofs
set_option maxRecDepth 100000
set_option maxHeartbeats 4000000

def spin (x : Int) (n : Nat) : Int := ior .u32 (ishr .u32 x n) (ishl .u32 x (32 - n))
theorem spin_ (x : Int) (n : Nat) (W : World) (h : n ≤ 32) : Calls Tryz.prog 292 #[.int .u32 x, .int .i64 n] W (Ret fun v w => v = .int .u32 (spin x n) ∧ St W noF [] w) := by
  have hS := St.start W
  refine calls_C Tryz.func292 rfl Tryz.ntmps292 rfl ?_
  repeat (first | (refine G_id ?_; first | refine G_nil ?_ | refine G_plain rfl rfl ?_) | (refine X_id ?_; first | refine X_yl (Yl_assign rfl rfl) rfl rfl ?_) | (refine C_id ?_; first | refine C_seq ?_ | refine C_region ?_) | (refine E_id ?_; first | refine E_code ?_))
  refine C_ord (.s 0 (.s 1 (.s 2 (.s 3 (.s 4 (.s 5 (.s 6 (.s 7 (.s 8 .nil))))))))) mixed (by kernel_rfl) rfl ?_
  have hS := hS.drew
  repeat (first | (refine C_id ?_; first | refine C_ret ?_) | (refine E_id ?_; first | refine E_code ?_ | refine E_ret1 rfl (Rv_tmp rfl) (Ret.mk ?_)) | (refine GO_id ?_; first | refine GO_nil ?_ | refine GO_pure rfl rfl (fun _ => Yl_move rfl rfl) rfl rfl ?_ | refine GO_pure rfl rfl (fun _ => Yl_assign rfl rfl) rfl rfl ?_ | refine GO_pure rfl rfl (fun _ => Yl_sub rfl rfl rfl (w64 (by omega) (by omega))) rfl rfl ?_ | refine GO_pure rfl rfl (fun _ => Yl_or rfl rfl rfl) rfl rfl ?_ | refine GO_pure rfl rfl (fun _ => Yl_shr rfl rfl rfl (by omega)) rfl rfl ?_ | refine GO_pure rfl rfl (fun _ => Yl_shl rfl rfl rfl (by omega)) rfl rfl ?_))
  refine ⟨?_, hS⟩
  unfold spin
  congr 3
  omega
theorem at_ (k i : Int) (b bi : Nat) (W : World) (hk : 0 ≤ k) (hk' : k < 8) (hi : 0 ≤ i) (hi' : i < 64) (hbi : Ro W noF (pts bi (.cells #[.int .i64 i] 3))) :
    Calls Tryz.prog 291 #[.int .i64 k, .pointer (some ⟨b, 0, none⟩), .pointer (some ⟨bi, 0, none⟩)] W (Ret fun v w => v = .pointer (some ⟨b, ((k - i) % 8).toNat, none⟩) ∧ W = w) := by
  have hS := St.start W
  have hbi := (hbi.rd hS).pts
  refine calls_C Tryz.func291 rfl Tryz.ntmps291 rfl ?_
  repeat (first | (refine G_id ?_; first | refine G_nil ?_ | refine G_plain rfl rfl ?_) | (refine X_id ?_; first | refine X_yl (Yl_move rfl rfl) rfl rfl ?_ | refine X_yl (Yl_assign rfl rfl) rfl rfl ?_ | refine X_yl (Yl_sub rfl rfl rfl (w64 (by omega) (by omega))) rfl rfl ?_ | refine X_yl (Yl_and rfl rfl rfl) rfl rfl ?_ | refine X_yl (Yl_load rfl rfl (cell_at (by assumption))) rfl rfl ?_) | (refine C_id ?_; first | refine C_seq ?_ | refine C_region ?_) | (refine E_id ?_; first | refine E_code ?_))
  rw [iand_7]
  repeat (first | (refine G_id ?_; first | refine G_nil ?_ | refine G_plain rfl rfl ?_) | (refine X_id ?_; first | refine X_yl (Yl_assign rfl rfl) rfl rfl ?_ | refine X_yl (Yl_indexAddr_arr rfl rfl rfl (by omega) (by omega)) rfl rfl ?_) | (refine C_id ?_; first | refine C_ret ?_) | (refine E_id ?_; first | refine E_code ?_ | refine E_ret1 rfl (Rv_tmp rfl) (Ret.mk ?_)))
  exact ⟨by simp, rfl⟩

/-! ### spread -/
def u32 (x : Int) : Int := IntKind.u32.wrap x
def byteAt (b : List UInt8) (i : Nat) : Int := u32 (b.getD i 0).toNat
def word (b : List UInt8) (i : Nat) : Int := ior .u32 (ior .u32 (ior .u32 (ishl .u32 (byteAt b (4 * i)) 24) (ishl .u32 (byteAt b (4 * i + 1)) 16)) (ishl .u32 (byteAt b (4 * i + 2)) 8)) (byteAt b (4 * i + 3))
def sig (a : Int) (p q r : Nat) : Int := ixor .u32 (ixor .u32 (spin a p) (spin a q)) (ishr .u32 a r)
def later (L : List Int) (i : Nat) : Int := u32 (u32 (u32 (L.getD (i - 16) 0 + sig (L.getD (i - 15) 0) 7 18 3) + L.getD (i - 7) 0) + sig (L.getD (i - 2) 0) 17 19 10)
def spreadTo (b : List UInt8) : Nat → List Int
  | 0 => List.replicate 64 0
  | i + 1 => (spreadTo b i).set i (if i < 16 then word b i else later (spreadTo b i) i)
theorem spreadTo_length (b : List UInt8) : ∀ i, (spreadTo b i).length = 64
  | 0 => by simp [spreadTo]
  | i + 1 => by simp [spreadTo, spreadTo_length b i]
theorem spread_ (a : Option Addr) (c : Nat) (b : List UInt8) (W : World) (hb : Rd W (bytes a b)) (h64 : b.length = 64) (hc : 64 ≤ c) :
    Calls Tryz.prog 290 #[.slice a 64 c] W (Ret fun v w => v = .agg (ints .u32 (spreadTo b 64)).toArray ∧ St W noF [] w) := by
  have hS := St.start W
  have hbo := hb.ro
  obtain ⟨ab, ao, rfl⟩ := hb.base (by intro e; have := bv_length b; rw [e] at this; simp at this; omega)
  refine calls_C Tryz.func290 rfl Tryz.ntmps290 rfl ?_
  repeat (first | (refine G_id ?_; first | refine G_nil ?_ | refine G_plain rfl rfl ?_) | (refine X_id ?_; first | refine X_yl (Yl_move rfl rfl) rfl rfl ?_ | refine X_alloc rfl rfl rfl hS (fun _ _ hS _ => ?_)) | (refine C_id ?_; first | refine C_seq ?_ | refine C_region ?_ | refine C_block ?_) | (refine E_id ?_; first | refine E_code ?_))
  rename_i b2 _ _ _ b3 _ _
  rw [ints_rep] at hS
  refine C_loop (α := Nat) (fun i => [(0, .slice (some ⟨ab, ao, none⟩) 64 c), (2, .pointer (some ⟨b2, 0, none⟩)), (3, .pointer (some ⟨b3, 0, none⟩)), (8, .int .i64 (i : Nat))])
    (fun i w => i ≤ 64 ∧ St W noF [pts b3 (.cells (ints .u32 (spreadTo b i)).toArray 439), pts b2 (.cells (List.replicate 64 (.int .u32 0)).toArray 439)] w) (fun i => 64 - i) 0 ⟨rfl, rfl, rfl, rfl, trivial⟩ ⟨Nat.zero_le _, hS⟩ ?_
  clear hS
  rintro i w ⟨hi, hS⟩
  obtain ⟨L, hLe⟩ : ∃ L, L = spreadTo b i := ⟨_, rfl⟩
  have hL : L.length = 64 := by rw [hLe]; exact spreadTo_length b i
  rw [← hLe] at hS
  by_cases h16 : i < 16
  · repeat (first | (refine G_id ?_; first | refine G_nil ?_ | refine G_plain rfl rfl ?_) | (refine X_id ?_; first | refine X_yl (Yl_move rfl rfl) rfl rfl ?_ | refine X_yl (Yl_assign rfl rfl) rfl rfl ?_ | refine X_yl (Yl_lss_t rfl rfl rfl (by omega)) rfl rfl ?_ | refine X_yl (Yl_add rfl rfl rfl (w64 (by omega) (by omega))) rfl rfl ?_ | refine X_yl (Yl_mul rfl rfl rfl (w64 (by omega) (by omega))) rfl rfl ?_) | (refine C_id ?_; first | refine C_seq ?_ | refine C_region ?_ | refine C_block ?_ | refine C_skip ?_ | refine C_cond_t rfl ?_) | (refine E_id ?_; first | refine E_code ?_))
    refine X_yl (Yl_slice (l := 4 * i) (h := 4 * i + 4) rfl rfl rfl rfl (.inr ⟨_, _, rfl, by omega, by omega, by omega⟩) (.inr ⟨_, _, rfl, by omega, by omega, by omega⟩)) rfl rfl ?_
    rw [show sub (some ⟨ab, ao, none⟩) (4 * i) 1 c = some ⟨ab, ao + 4 * i, none⟩ by unfold sub; rw [if_neg (by omega)]; simp [add_lit], show 4 * i + 4 - 4 * i = 4 by omega]
    repeat (first | (refine G_id ?_; first | refine G_nil ?_ | refine G_plain rfl rfl ?_) | (refine X_id ?_; first | refine X_yl (Yl_assign rfl rfl) rfl rfl ?_) | (refine C_id ?_; first | refine C_seq ?_) | (refine E_id ?_; first | refine E_code ?_))
    refine C_ord (.s 0 (.s 1 (.s 2 (.s 3 (.s 4 (.s 5 (.s 6 (.s 7 (.s 8 (.s 9 (.s 10 (.s 11 (.s 12 (.s 13 (.s 14 (.s 15 (.s 16 (.s 17 (.s 18 (.s 19 (.s 20 (.s 21 (.s 22 (.s 23 (.h 24 .nil .no))))))))))))))))))))))))) mixed (by kernel_rfl) rfl ?_
    have hS := hS.drew
    have hcell : ∀ j, j < 4 → _root_.Go.World.cell? _ ⟨ab, ao + 4 * i + j, none⟩ = some (.int .u8 ((b.getD (4 * i + j) 0).toNat : Nat)) := fun j hj => by
      have := (hbo.rd hS).cell (i := 4 * i + j) (v := .int .u8 ((b.getD (4 * i + j) 0).toNat : Nat)) (by simp [bv, List.getD_eq_getElem?_getD, show 4 * i + j < b.length by omega])
      simpa [adr, Nat.add_assoc] using this
    have q0 := hcell 0 (by omega)
    have q1 := hcell 1 (by omega)
    have q2 := hcell 2 (by omega)
    have q3 := hcell 3 (by omega)
    repeat (first | (refine G_id ?_; first | refine G_nil ?_ | refine G_plain rfl rfl ?_) | (refine X_id ?_; first | refine X_yl (Yl_move rfl rfl) rfl rfl ?_ | refine X_yl (Yl_add rfl rfl rfl (w64 (by omega) (by omega))) rfl rfl ?_ | refine X_storeI rfl rfl rfl rfl hS (by omega) (fun _ hS => ?_)) | (refine C_id ?_; first | refine C_region ?_ | refine C_exit ?_) | (refine E_id ?_; first | refine E_code ?_ | refine E_then_exit ?_ | refine E_blk_same ?_) | (refine GO_id ?_; first | refine GO_nil ?_ | refine GO_pure rfl rfl (fun _ => Yl_move rfl rfl) rfl rfl ?_ | refine GO_pure rfl rfl (fun _ => Yl_indexAddr_arr rfl rfl rfl (by omega) (by omega)) rfl rfl ?_ | refine GO_pure rfl rfl (fun _ => Yl_indexAddr rfl rfl rfl (by omega) (by omega) (by first | assumption | exact ⟨_, _, rfl⟩)) rfl rfl ?_ | refine GO_pure rfl rfl (fun _ => Yl_convInt rfl rfl rfl) rfl rfl ?_ | refine GO_pure rfl rfl (fun _ => Yl_or rfl rfl rfl) rfl rfl ?_ | refine GO_pure rfl rfl (fun _ => Yl_shl rfl rfl rfl (by omega)) rfl rfl ?_ | refine GO_read (fun w' => w'.cell? _ = some _) rfl rfl (by assumption) (fun _ hc => Yl_load rfl rfl hc) rfl rfl ?_ | refine GO_hard rfl rfl ?_) | (refine Keep_id ?_; first | refine And.intro (by repeat (first | exact trivial | refine And.intro (.inl (by decide +kernel)) ?_ | refine And.intro (.inr (by first | assumption | exact hS.cell | exact cell_at (by assumption) | exact hS.cellI (by omega) | exact hS.cellIP (by omega) | exact hS.cellsN | exact ((hr.rd hS).cellX (by omega) hx) | exact ((hr2.rd hS).cellX (by omega) hx2) | exact hS.cellB (by omega) | exact hS.cellBA (by omega) | exact (hb.rd hS).cellB' (by omega) | exact (hb2.rd hS).cellB' (by omega) | exact (hg.rd hS).cellI (by omega) | exact (hg2.rd hS).cellI (by omega) | exact ((hr.rd hS).cellF (by first | omega | (dsimp only; omega)) hx) | exact ((hr2.rd hS).cellF (by first | omega | (dsimp only; omega)) hx2) | exact hS.cellO 0 (by omega) | exact hS.cellO 1 (by omega) | exact hS.cellIA (by omega) | exact (hg.rd hS).cellIA (by omega) | exact (hg2.rd hS).cellIA (by omega) | exact cell_at (hc.rd hS).pts | exact hb.rd hS | exact hS.cellO 4 (by omega) | exact hS.cellO 5 (by omega) | exact hS.cellO 6 (by omega) | exact hS.cellO 7 (by omega) | exact hS.cellO 8 (by omega) | exact hS.cellO 9 (by omega) | exact hS.cellO 10 (by omega) | exact hS.cellO 11 (by omega) | exact hS.cellO 12 (by omega) | exact hS.cellO 13 (by omega) | exact hS.cellO 2 (by omega) | exact hS.cellO 3 (by omega))) ?_)) ?_))
    refine E_round (i + 1) ⟨rfl, rfl, rfl, rfl, trivial⟩ ⟨by omega, ?_⟩ (by omega)
    rw [show 0 + (i : Int).toNat * 1 = i by omega, hLe] at hS
    simp only [spreadTo, if_pos h16]
    exact hS
  · by_cases h64 : i < 64
    · repeat (first | (refine G_id ?_; first | refine G_nil ?_ | refine G_plain rfl rfl ?_) | (refine X_id ?_; first | refine X_yl (Yl_move rfl rfl) rfl rfl ?_ | refine X_yl (Yl_assign rfl rfl) rfl rfl ?_ | refine X_yl (Yl_lss_t rfl rfl rfl (by omega)) rfl rfl ?_ | refine X_yl (Yl_lss_f rfl rfl rfl (by omega)) rfl rfl ?_) | (refine C_id ?_; first | refine C_seq ?_ | refine C_region ?_ | refine C_block ?_ | refine C_skip ?_ | refine C_cond_t rfl ?_ | refine C_cond_f rfl ?_) | (refine E_id ?_; first | refine E_code ?_))
      refine C_ord (.s 0 (.s 1 (.s 2 (.s 3 (.s 4 (.s 5 (.s 6 (.s 7 (.s 8 (.s 9 .nil)))))))))) mixed (by kernel_rfl) rfl ?_
      have hS := hS.drew
      repeat (first | (refine E_id ?_; first | refine E_code ?_) | (refine GO_id ?_; first | refine GO_nil ?_ | refine GO_pure rfl rfl (fun _ => Yl_move rfl rfl) rfl rfl ?_ | refine GO_pure rfl rfl (fun _ => Yl_assign rfl rfl) rfl rfl ?_ | refine GO_pure rfl rfl (fun _ => Yl_indexAddr_arr rfl rfl rfl (by omega) (by omega)) rfl rfl ?_ | refine GO_pure rfl rfl (fun _ => Yl_sub rfl rfl rfl (w64 (by omega) (by omega))) rfl rfl ?_ | refine GO_read (fun w' => w'.cell? _ = some _) rfl rfl (hS.cellI (by omega)) (fun _ hc => Yl_load rfl rfl hc) rfl rfl ?_))
      refine C_ord (.s 0 (.s 1 (.s 2 (.s 3 (.s 4 (.s 5 (.s 7 (.s 10 (.s 11 (.s 14 (.s 15 (.s 16 (.s 17 (.s 19 (.s 21 (.s 24 (.s 25 (.h 6 (.h 8 (.s 9 (.s 12 (.s 13 (.s 18 (.h 20 (.h 22 (.s 23 (.s 26 (.s 27 (.s 28 (.h 29 .nil .no))))) .no) .no))))) .no) .no)))))))))))))))))) mixed (by kernel_rfl) rfl ?_
      have hS := hS.drew
      repeat (first | (refine G_id ?_; first | refine G_nil ?_ | refine G_plain rfl rfl ?_) | (refine X_id ?_; first | (refine X_callq 292 rfl rfl rfl rfl rfl hS (spin_ _ _ _ (by decide)) ?_; rintro _ _ rfl hS) | refine X_yl (Yl_move rfl rfl) rfl rfl ?_ | refine X_yl (Yl_add rfl rfl rfl (w64 (by omega) (by omega))) rfl rfl ?_ | refine X_storeI rfl rfl rfl rfl hS (by omega) (fun _ hS => ?_)) | (refine C_id ?_; first | refine C_region ?_) | (refine E_id ?_; first | refine E_code ?_ | refine E_blk_n ?_) | (refine GO_id ?_; first | refine GO_nil ?_ | refine GO_pure rfl rfl (fun _ => Yl_move rfl rfl) rfl rfl ?_ | refine GO_pure rfl rfl (fun _ => Yl_indexAddr_arr rfl rfl rfl (by omega) (by omega)) rfl rfl ?_ | refine GO_pure rfl rfl (fun _ => Yl_sub rfl rfl rfl (w64 (by omega) (by omega))) rfl rfl ?_ | refine GO_pure rfl rfl (fun _ => Yl_add rfl rfl rfl rfl) rfl rfl ?_ | refine GO_pure rfl rfl (fun _ => Yl_xor rfl rfl rfl) rfl rfl ?_ | refine GO_pure rfl rfl (fun _ => Yl_shr rfl rfl rfl (by omega)) rfl rfl ?_ | refine GO_read (fun w' => w'.cell? _ = some _) rfl rfl (hS.cellI (by omega)) (fun _ hc => Yl_load rfl rfl hc) rfl rfl ?_ | refine GO_hard rfl rfl ?_) | (refine Keep_id ?_; first | refine And.intro (by repeat (first | exact trivial | refine And.intro (.inl (by decide +kernel)) ?_ | refine And.intro (.inr (by first | assumption | exact hS.cell | exact cell_at (by assumption) | exact hS.cellI (by omega) | exact hS.cellIP (by omega) | exact hS.cellsN | exact ((hr.rd hS).cellX (by omega) hx) | exact ((hr2.rd hS).cellX (by omega) hx2) | exact hS.cellB (by omega) | exact hS.cellBA (by omega) | exact (hb.rd hS).cellB' (by omega) | exact (hb2.rd hS).cellB' (by omega) | exact (hg.rd hS).cellI (by omega) | exact (hg2.rd hS).cellI (by omega) | exact ((hr.rd hS).cellF (by first | omega | (dsimp only; omega)) hx) | exact ((hr2.rd hS).cellF (by first | omega | (dsimp only; omega)) hx2) | exact hS.cellO 0 (by omega) | exact hS.cellO 1 (by omega) | exact hS.cellIA (by omega) | exact (hg.rd hS).cellIA (by omega) | exact (hg2.rd hS).cellIA (by omega) | exact cell_at (hc.rd hS).pts | exact hb.rd hS | exact hS.cellO 4 (by omega) | exact hS.cellO 5 (by omega) | exact hS.cellO 6 (by omega) | exact hS.cellO 7 (by omega) | exact hS.cellO 8 (by omega) | exact hS.cellO 9 (by omega) | exact hS.cellO 10 (by omega) | exact hS.cellO 11 (by omega) | exact hS.cellO 12 (by omega) | exact hS.cellO 13 (by omega) | exact hS.cellO 2 (by omega) | exact hS.cellO 3 (by omega))) ?_)) ?_))
      refine E_round (i + 1) ⟨rfl, rfl, rfl, rfl, trivial⟩ ⟨by omega, ?_⟩ (by omega)
      rw [show 0 + (i : Int).toNat * 1 = i by omega, show 0 + ((i : Int) - 16).toNat * 1 = i - 16 by omega, show 0 + ((i : Int) - 15).toNat * 1 = i - 15 by omega, show 0 + ((i : Int) - 7).toNat * 1 = i - 7 by omega, show 0 + ((i : Int) - 2).toNat * 1 = i - 2 by omega, hLe] at hS
      simp only [spreadTo, if_neg h16]
      exact hS
    · obtain rfl : i = 64 := by omega
      have hlen : LenIs (ints .u32 L) 64 := ⟨by rw [ints_length]; exact hL⟩
      repeat (first | (refine G_id ?_; first | refine G_nil ?_ | refine G_plain rfl rfl ?_) | (refine X_id ?_; first | refine X_yl (Yl_lss_f rfl rfl rfl (by omega)) rfl rfl ?_ | refine X_yl (Yl_loadN rfl rfl hS.cellsN) rfl rfl ?_ | refine X_store rfl rfl rfl rfl hS (fun _ hS _ => ?_)) | (refine C_id ?_; first | refine C_seq ?_ | refine C_region ?_ | refine C_ret ?_ | refine C_exit ?_ | refine C_cond_f rfl ?_) | (refine E_id ?_; first | refine E_code ?_ | refine E_then_exit ?_ | refine E_blk_same ?_ | refine E_ret1 rfl (by first | exact Rv_tmp rfl | exact Rv_cell rfl (run_load1 hS.cell) | exact Rv_cell rfl (run_loadN hS.cellsN)) (Ret.mk ?_)))
      exact ⟨by rw [hLe], hS.drops⟩
end Cr
namespace Cr
open Go
theorem Rd.ofCells {w : World} {b : Nat} {l : List Value} (h : ∀ i v, l[i]? = some v → w.cell? ⟨b, i, none⟩ = some v) (hl : l ≠ []) : Rd w (row (some ⟨b, 0, none⟩) l) := by
  obtain ⟨v0, hv0⟩ : ∃ v, l[0]? = some v := by
    cases l with
    | nil => exact absurd rfl hl
    | cons x r => exact ⟨x, rfl⟩
  have h0 := h 0 v0 hv0
  unfold World.cell? at h0
  split at h0
  · rename_i c t fz hb
    refine ⟨single b (.cells c t fz), .inr ⟨b, 0, c, t, fz, rfl, rfl, fun i v hv => ?_⟩, fun k o e => ?_⟩
    · have := h i v hv
      rw [cell_of_row w b i c t fz hb] at this
      simpa using this
    · obtain ⟨rfl, rfl⟩ := of_single e
      exact hb
  · cases h0
def roundL : List Int := [1116352408, 1899447441, 3049323471, 3921009573, 961987163, 1508970993, 2453635748, 2870763221, 3624381080, 310598401, 607225278, 1426881987, 1925078388, 2162078206, 2614888103, 3248222580, 3835390401, 4022224774, 264347078, 604807628, 770255983, 1249150122, 1555081692, 1996064986, 2554220882, 2821834349, 2952996808, 3210313671, 3336571891, 3584528711, 113926993, 338241895, 666307205, 773529912, 1294757372, 1396182291, 1695183700, 1986661051, 2177026350, 2456956037, 2730485921, 2820302411, 3259730800, 3345764771, 3516065817, 3600352804, 4094571909, 275423344, 430227734, 506948616, 659060556, 883997877, 958139571, 1322822218, 1537002063, 1747873779, 1955562222, 2024104815, 2227730452, 2361852424, 2428436474, 2756734187, 3204031479, 3329325298]
def firstL : List Int := [1779033703, 3144134277, 1013904242, 2773480762, 1359893119, 2600822924, 528734635, 1541459225]
theorem roundL_length : roundL.length = 64 := rfl
theorem firstL_length : firstL.length = 8 := rfl
end Cr
namespace Go.Proofs.YtflbhldcnjmkkaaGreatDoor
open Go.ChangeShapes Go.WideShapes Go.ChangeAt Go.RowKit
theorem lawOwn : ownKnob Tryz.prog.godebug = none := by kernel_rfl
theorem lawLaid : laidOutB Tryz.prog = true := by kernel_rfl
theorem post_of_law {H : Type} {enc : TypeId × Value → H} {P : Program} {f : Func} {s : ChangeSpec} {apart fresh handsOn again : Bool} {W W' : World} {args : Array Value} {v : Value} {ds gs : List (DataW H)} {before pa pv : List MemPlace}
    (hW : DataW.Whole enc P f.params.toList s.vars apart W args.toList ds gs before)
    (hres : ∀ (b : Nat) (sp : Nat → Bool) (hd : Bool), DataW.TrodAll enc P W' b sp hd f.resultTypes.toList (v.resultList f.resultTypes.size) (s.fn H (ds ++ gs)).results [])
    (hargs : ∀ sp : Nat → Bool, (∀ p ∈ before, sp p.block = true) → DataW.TrodAll enc P W' 0 sp true f.params.toList args.toList (s.fn H (ds ++ gs)).args pa)
    (hvars : ∀ sp : Nat → Bool, (∀ p ∈ before, sp p.block = true) → DataW.TrodVars enc P W' sp s.vars (s.fn H (ds ++ gs)).vars pv)
    (hps : before = pa ++ pv) (hk : W.keptBut W' (· ∈ before)) (hfz : ∀ a : Addr, a.block < W.heap.size → W'.frozen? a = W.frozen? a)
    (hok : ∀ (j : Nat) (t : TypeId) (r : Value), f.resultTypes[j]? = some t → (v.resultList f.resultTypes.size)[j]? = some r → Value.okWide P W' .any 0 t r) :
    s.post enc P f apart fresh handsOn again W args v W' := by
  have hold : ∀ p ∈ before, (fun b => decide (b < W.heap.size)) p.block = true := fun p hp => by simpa using hW.lt p hp
  have hlt : ∀ p ∈ before, p.block < W.heap.size := hW.lt
  refine ⟨ds, gs, before, [], pa, pv, hW, hres _ _ _, hargs _ hold, hvars _ hold, World.keptBut_mono (fun p hp => ⟨hp, ?_⟩) hk, fun _ => ?_⟩
  · rw [hps, List.mem_append] at hp
    exact Or.inr hp
  · obtain ⟨_, _, _, _, _, hz, hn⟩ := hW
    refine ⟨hok, _, _, ([] ++ pa) ++ pv, ⟨[] ++ pa, pv, trodAll_append (hargs _ (fun _ _ => rfl)) (hres _ _ _), hvars _ (fun _ _ => rfl), rfl, ?_, ?_⟩, ?_⟩
    · intro b off hp
      have hp' := hp
      rw [show ([] ++ pa) ++ pv = before by rw [hps]; rfl] at hp'
      rw [hfz _ (hlt _ hp')]
      exact hz b off hp'
    · intro ha
      have := hn ha
      rw [hps] at this
      simpa using this
    · intro p hp _
      rw [hps]
      simpa using hp
theorem trodAll_stays {H : Type} {enc : TypeId × Value → H} {P : Program} (hl : laidOutB P = true) {W W' : World} (hb : Below W.heap.size W W') {sp : Nat → Bool} : ∀ {ts : List TypeId} {vs : List Value} {ds : List (DataW H)} {ps : List MemPlace}, (∀ t ∈ ts, P.readableRec t = true ∧ t < P.types.size) →
    DataW.TrodAll enc P W 0 (fun _ => true) true ts vs ds ps → (∀ p ∈ ps, p.block < W.heap.size) → (∀ p ∈ ps, sp p.block = true) → DataW.TrodAll enc P W' 0 sp true ts vs ds ps
  | [], [], [], _, _, h, _, _ => h
  | _ :: _, _ :: _, _ :: _, _, hT, ⟨p, q, h1, h2, e⟩, hlt, hs => ⟨p, q,
      WideElems.Trod_stays hl (hT _ (List.mem_cons_self ..)).1 (hT _ (List.mem_cons_self ..)).2 h1 (fun x hx => hb.same (hlt x (by rw [e]; exact List.mem_append_left _ hx))) (fun x hx => hs x (by rw [e]; exact List.mem_append_left _ hx)),
      trodAll_stays hl hb (fun t ht => hT t (List.mem_cons_of_mem _ ht)) h2 (fun x hx => hlt x (by rw [e]; exact List.mem_append_right _ hx)) (fun x hx => hs x (by rw [e]; exact List.mem_append_right _ hx)), e⟩
def tabOf (l : List Value) : Obj → Obj
  | .cells _ t frozen => .cells l.toArray t frozen
  | o => o
/-- A world for a witness: the settled one, the two tables of package digest as their initialisers lay them. -/
noncomputable def lawWorld (os : Os) : World :=
  { World.holding Tryz.prog os ⟨#[], #[], []⟩ with heap := ((World.holding Tryz.prog os ⟨#[], #[], []⟩).heap.modify 3 (tabOf (Cr.ints .u32 Cr.roundL))).modify 1 (tabOf (Cr.ints .u32 Cr.firstL)) }
end Go.Proofs.YtflbhldcnjmkkaaGreatDoor
namespace Cr
open Go
/-! parts of known length -/
class LenO (l : List Value) (n : outParam Nat) : Prop where
  len : l.length = n
instance : LenO [] 0 := ⟨rfl⟩
instance (v : Value) (l : List Value) (n : Nat) [h : LenO l n] : LenO (v :: l) (n + 1) := ⟨by simp [h.len]⟩
instance (l m : List Value) (n k : Nat) [h : LenO l n] [h' : LenO m k] : LenO (l ++ m) (n + k) := ⟨by simp [h.len, h'.len]⟩
instance (n : Nat) (v : Value) : LenO (List.replicate n v) n := ⟨by simp⟩
instance (n : Nat) : LenO (bv (List.replicate n 0)) n := ⟨by simp⟩
instance (l : List Value) (n : Nat) [h : LenO l n] : LenIs l n := ⟨h.len⟩
class SubO (k n : Nat) (j : outParam Nat) : Prop where
  eq : n = j + k
instance (n : Nat) : SubO 0 n n := ⟨rfl⟩
instance (k n j : Nat) [h : SubO k n j] : SubO (k + 1) (n + 1) j := ⟨by rw [h.eq]; omega⟩
instance nth_part (l m : List Value) (n k j : Nat) (v : Value) [hl : LenO l k] [hs : SubO k n j] [h : Nth m j v] : Nth (l ++ m) n v := ⟨by
  have := hl.len
  rw [hs.eq, List.getElem?_append_right (by omega), show j + k - l.length = j by omega]
  exact h.nth⟩
instance spl_part (l m vs m' : List Value) (n k j : Nat) [hl : LenO l k] [hs : SubO k n j] [h : Spl m j vs m'] : Spl (l ++ m) n vs (l ++ m') := ⟨by
  have e := hl.len
  have := h.spl
  rw [hs.eq]
  refine ⟨by simp; omega, ?_⟩
  rw [← this.2, show j + k = l.length + j by omega, List.take_length_add_append, show l.length + j + vs.length = l.length + (j + vs.length) by omega, List.drop_length_add_append]
  simp⟩
instance spl_front (l m vs : List Value) (k : Nat) [hl : LenO l k] [hv : LenO vs k] : Spl (l ++ m) 0 vs (vs ++ m) := ⟨by
  have e := hl.len
  have e' := hv.len
  refine ⟨by simp; omega, ?_⟩
  simp [show vs.length = l.length by omega]⟩
instance seg_part (l m cs : List Value) (n k j c : Nat) [hl : LenO l k] [hs : SubO k n j] [h : Seg m j c cs] : Seg (l ++ m) n c cs := ⟨by
  have e := hl.len
  rw [hs.eq, show j + k = l.length + j by omega, List.drop_length_add_append]
  exact h.seg⟩
theorem splice_mid {l m vs : List Value} {k n : Nat} (h : l.length = k) : splice (l ++ m) (k + n) vs = l ++ splice m n vs := by
  subst h
  unfold splice
  rw [List.take_length_add_append, Nat.add_assoc, List.drop_length_add_append]
  simp
theorem splice_all {l vs : List Value} (h : l.length = vs.length) : splice l 0 vs = vs := by
  unfold splice; simp [← h]
/-! bytes -/
def b8 (x : Int) : UInt8 := UInt8.ofNat (x % 256).toNat
theorem b8_nat (x : Int) : ((b8 x).toNat : Int) = x % 256 := by
  have h : (x % 256).toNat < 256 := by omega
  unfold b8
  simp only [UInt8.toNat_ofNat']
  omega
theorem u8_wrap (x : Int) : IntKind.u8.wrap x = ((b8 x).toNat : Int) := by
  rw [b8_nat]
  simp [IntKind.wrap, IntKind.bits, IntKind.signed]
theorem bv_set {R : List UInt8} {i : Nat} {c : UInt8} : (bv R).set i (.int .u8 (c.toNat : Int)) = bv (R.set i c) := by simp [bv, List.map_set]
theorem bv_getD {l : List UInt8} {i : Nat} (h : i < l.length) : (bv l)[i]? = some (.int .u8 ((l.getD i 0).toNat : Int)) := by
  rw [bv_get h]; simp [List.getD_eq_getElem?_getD, h]
theorem bv_rep (n : Nat) : List.replicate n (Value.int .u8 0) = bv (List.replicate n 0) := by simp [bv]
instance lenO_bvset (R : List UInt8) (i : Nat) (c : UInt8) (n : Nat) [h : LenO (bv R) n] : LenO (bv (R.set i c)) n := ⟨by have := h.len; simpa using this⟩
instance lenO_intsset (k : IntKind) (L : List Int) (i : Nat) (c : Int) (n : Nat) [h : LenO (ints k L) n] : LenO (ints k (L.set i c)) n := ⟨by have := h.len; simpa [ints] using this⟩
section
variable {P : Program} {o : Oper} {σ : Env} {w : World} {x y : Operand} {t ty : TypeId} {k k' : IntKind} {a b : Int}
theorem Yl_quoE (ho : o.op = .binOp .quo t x y ty) (hx : ev σ x = some (.int .i64 a)) (hy : ev σ y = some (.int .i64 b)) (h0 : 0 ≤ a) (h1 : a ≤ 9223372036854775807) (hb : 0 < b) : Yl P o σ w (.int .i64 (a / b)) :=
  Yl_quo ho hx hy (by omega) (by
    rw [Int.tdiv_eq_ediv_of_nonneg h0]
    have h2 := Int.ediv_nonneg h0 (Int.le_of_lt hb)
    have h3 := Int.ediv_le_self b h0
    exact w64 (by omega) (by omega))
theorem Yl_remE (ho : o.op = .binOp .rem t x y ty) (hx : ev σ x = some (.int k a)) (hy : ev σ y = some (.int k b)) (h0 : 0 ≤ a) (hb : 0 < b) : Yl P o σ w (.int k (a % b)) :=
  Yl_rem ho hx hy (by omega) (Int.tmod_eq_emod_of_nonneg h0)
theorem Yl_convU8 {src dst : TypeId} {i : Int} (ho : o.op = .convert src dst x) (hx : ev σ x = some (.int k i)) {d : TypeDesc} [hs : Und P src d] [hd : Und P dst (.int .u8)] : Yl P o σ w (.int .u8 ((b8 i).toNat : Int)) :=
  Yl_convInt (hs := hs) ho hx (u8_wrap i)
theorem Rd.cellX {a : Option Addr} {cs : List Value} {i' i : Nat} {v : Value} (H : Rd w (row a cs)) (hi : i' = i) (h : cs[i]? = some v) : w.cell? (adr a i') = some v := by subst hi; exact H.cells _ _ h
/-- One cell of a block stored. -/
theorem X_setG {N : Nat} {ds : Md} {K : Env → World → Prop} {b off : Nat} {v : Value} {l l' : List Value} {T : TypeId} {W : World} {F : Nat → Prop} {rs rs' : List Res} (ho : o.op = .store t x y) (hx : ev σ x = some (.pointer (some ⟨b, off, none⟩))) (hy : ev σ y = some v) [hv : Cell1 v] [hc : CellsOf v [v]] [hs : Siz P t 1]
    (hd : o.dst = none) (hS : St W F rs w) [hh : Has rs b (.cells l.toArray T (0, 0))] (hfit : off < l.length) (hl : l.set off v = l') [hu : Upd rs b (.cells l'.toArray T (0, 0)) rs']
    (h : ∀ w', St W F rs' w' → K σ w') : X P o N ds σ w K := by
  have e : splice l off [v] = l' := by
    rw [← hl, set_mid _ _ _ hfit]
    simp [splice]
  have hu' : Upd rs b (.cells (splice l off [v]).toArray T (0, 0)) rs' := by rw [e]; exact hu
  exact X_storeL (vs := [v]) ho hx hy rfl (fun u hu => by simp at hu; subst hu; exact hv.one) hd hS hfit (fun w' h' _ => h w' h')
/-- A byte stored in a block of bytes. -/
theorem X_storeB {N : Nat} {ds : Md} {K : Env → World → Prop} {b off : Nat} {c : UInt8} {L : List UInt8} {T : TypeId} {W : World} {F : Nat → Prop} {rs rs' : List Res} (ho : o.op = .store t x y) (hx : ev σ x = some (.pointer (some ⟨b, off, none⟩))) (hy : ev σ y = some (.int .u8 (c.toNat : Int))) [hs : Siz P t 1]
    (hd : o.dst = none) (hS : St W F rs w) [hh : Has rs b (.cells (bv L).toArray T (0, 0))] (hfit : off < L.length) [hu : Upd rs b (.cells (bv (L.set off c)).toArray T (0, 0)) rs']
    (h : ∀ w', St W F rs' w' → K σ w') : X P o N ds σ w K := X_setG (l := bv L) ho hx hy hd hS (by simpa using hfit) bv_set h
theorem St.cellB {W : World} {F : Nat → Prop} {rs : List Res} {b off : Nat} {L : List UInt8} {T : TypeId} (hS : St W F rs w) [hh : Has rs b (.cells (bv L).toArray T (0, 0))] (h : off < L.length) : w.cell? ⟨b, off, none⟩ = some (.int .u8 ((L.getD off 0).toNat : Int)) := by
  rw [cell_of_row w b off _ T (0, 0) hS.has]
  simpa using bv_getD h
theorem Rd.cellB {a : Option Addr} {s : List UInt8} {i : Nat} (H : Rd w (bytes a s)) (h : i < s.length) : w.cell? (adr a i) = some (.int .u8 ((s.getD i 0).toNat : Int)) := H.cells i _ (bv_getD h)
theorem Rd.cellB' {b o i : Nat} {s : List UInt8} (H : Rd w (bytes (some ⟨b, o, none⟩) s)) (h : i < s.length) : w.cell? ⟨b, o + i, none⟩ = some (.int .u8 ((s.getD i 0).toNat : Int)) := H.cellB h
theorem X_storeMB {N : Nat} {ds : Md} {K : Env → World → Prop} {b off k i : Nat} {c : UInt8} {l r : List Value} {L : List UInt8} {T : TypeId} {W : World} {F : Nat → Prop} {rs rs' : List Res} (ho : o.op = .store t x y) (hx : ev σ x = some (.pointer (some ⟨b, off, none⟩))) (hy : ev σ y = some (.int .u8 (c.toNat : Int))) [hs : Siz P t 1]
    (hd : o.dst = none) (hS : St W F rs w) [hh : Has rs b (.cells (l ++ (bv L ++ r)).toArray T (0, 0))] (hoff : off = k + i) [hl : LenO l k] (hfit : i < L.length) [hu : Upd rs b (.cells (l ++ (bv (L.set i c) ++ r)).toArray T (0, 0)) rs']
    (h : ∀ w', St W F rs' w' → K σ w') : X P o N ds σ w K := by
  have e := hl.len
  subst hoff
  refine X_setG (l := l ++ (bv L ++ r)) (l' := l ++ (bv (L.set i c) ++ r)) ho hx hy hd hS (by simp; omega) ?_ h
  rw [List.set_append_right _ _ (by omega), show k + i - l.length = i by omega, List.set_append_left _ _ (by simpa using hfit), bv_set]
/-- A store over the whole of a block. -/
theorem X_storeAll {N : Nat} {ds : Md} {K : Env → World → Prop} {b m : Nat} {v : Value} {l vs : List Value} {T : TypeId} {W : World} {F : Nat → Prop} {rs rs' : List Res} (ho : o.op = .store t x y) (hx : ev σ x = some (.pointer (some ⟨b, 0, none⟩))) (hy : ev σ y = some v) [hv : CellsOf v vs] [hs : Siz P t m] [h1 : Ones vs]
    (hd : o.dst = none) (hS : St W F rs w) [hh : Has rs b (.cells l.toArray T (0, 0))] [hm : LenO vs m] [hl : LenO l m] [hu : Upd rs b (.cells vs.toArray T (0, 0)) rs']
    (h : ∀ w', St W F rs' w' → K σ w') : X P o N ds σ w K := by
  have e : splice l 0 vs = vs := splice_all (by rw [hm.len, hl.len])
  have hu' : Upd rs b (.cells (splice l 0 vs).toArray T (0, 0)) rs' := by rw [e]; exact hu
  exact X_storeL ho hx hy hm.len h1.ones hd hS (by rw [hm.len, hl.len]; omega) (fun w' h' _ => h w' h')
end
end Cr
namespace Cr
open Go
theorem St.wide {W : World} {F : Nat → Prop} {rs : List Res} {w : World} (hS : St W noF rs w) : St W F rs w := by
  obtain ⟨h, hs, s⟩ := hS
  exact ⟨h, hs, s.agrees, fun b o e => (s.foot b o e).imp (fun h => h.elim) id, s.size, s.os, s.tape, s.output, fun b h1 _ => s.kept b h1 (fun h => h)⟩
/-- What was held and is no more touched stays, what a call made comes to it. -/
theorem St.plus {W : World} {F : Nat → Prop} {rs rs' rs'' : List Res} {w w' : World} (hS : St W F rs w) (h' : St w noF rs' w') [ha : AppR rs' rs rs''] : St W F rs'' w' := by
  obtain ⟨_, _, _, _, hbk⟩ := hS.call []
  exact hbk (h'.wide)
end Cr
namespace Cr
open Go
set_option maxRecDepth 10000
def str (s : List UInt8) : ByteArray := ⟨s.toArray⟩
section
variable {P : Program} {o : Oper} {σ : Env} {w : World} {x y : Operand} {t ty e : TypeId} {N : Nat} {ds : Md} {K : Env → World → Prop}
theorem fold_push (s : List UInt8) : ∀ acc : ByteArray, (s.map fun b => (b.toNat : Int)).foldl (fun r n => r.push (UInt8.ofNat n.toNat)) acc = ⟨acc.data ++ s.toArray⟩ := by
  induction s with
  | nil => intro acc; simp
  | cons c s ih =>
    intro acc
    rw [List.map_cons, List.foldl_cons, ih]
    congr 1
    have : UInt8.ofNat ((c.toNat : Int)).toNat = c := by simp
    rw [this]
    simp [ByteArray.push]
theorem run_bytesStr {a : Option Addr} {s : List UInt8} {n c : Nat} (h : Rd w (bytes a s)) (hn : s.length = n) : (Conv.bytesToString (.slice a n c)).run P w = .ok (.string (str s)) w := by
  cases a with
  | none =>
    have : bv s = [] := h.none_nil
    have hs : s = [] := by cases s with
      | nil => rfl
      | cons => simp [bv] at this
    subst hs
    rfl
  | some ad =>
    have hf := firstCells_row (P := P) (size := 1) (m := n) (c := c) h (by simp [hn])
    simp only [Builtin.firstCells, Nat.mul_one] at hf
    rw [run_bytesToString w ad n c (s.map fun b => (b.toNat : Int)) (by rw [hf, List.map_map]; rfl), fold_push]
    simp [str]
theorem Yl_bytesStr {src dst : TypeId} {a : Option Addr} {s : List UInt8} {n c : Nat} (ho : o.op = .convert src dst x) (hx : ev σ x = some (.slice a n c)) [hs : Und P src (.slice e)] [he : Und P e (.int .u8)] [hd : Und P dst .string] (h : Rd w (bytes a s)) (hn : s.length = n) : Yl P o σ w (.string (str s)) := ⟨fun N ds f ha => by
  have := run_bytesStr (P := P) (c := c) h hn
  simp only [execOp, ho, ha.eval hx, convert, Sem.run_bind, run_underlying hs.und, run_underlying hd.und, run_underlying he.und, Result.andThen_ok, this]
  rfl⟩
theorem str_toList (s : List UInt8) : (str s).toList = s := ByteArray.toList_mk s
theorem str_inj {s t : List UInt8} (h : str s = str t) : s = t := by rw [← str_toList s, h, str_toList]
theorem Yl_eqlStr {a b : List UInt8} (ho : o.op = .binOp .eql t x y ty) (hx : ev σ x = some (.string (str a))) (hy : ev σ y = some (.string (str b))) : Yl P o σ w (.bool (decide (a = b))) := ⟨fun N ds f ha => by
  simp only [execOp, ho, ha.eval hx, ha.eval hy, binOp, eqGuard, Op.stringOp, str_toList]
  have : (a == b) = decide (a = b) := by by_cases h : a = b <;> simp [h]
  rw [this]; rfl⟩
theorem Yl_neqStr {a b : List UInt8} (ho : o.op = .binOp .neq t x y ty) (hx : ev σ x = some (.string (str a))) (hy : ev σ y = some (.string (str b))) : Yl P o σ w (.bool (decide (¬ a = b))) := ⟨fun N ds f ha => by
  simp only [execOp, ho, ha.eval hx, ha.eval hy, binOp, eqGuard, Op.stringOp, str_toList]
  have : (!(a == b)) = decide (¬ a = b) := by by_cases h : a = b <;> simp [h]
  rw [this]; rfl⟩
/-- copy into a block of the run's own. -/
theorem X_copy {sT T : TypeId} {g off n c m c2 d : Nat} {a : Option Addr} {l news : List Value} {W : World} {F : Nat → Prop} {rs rs' : List Res} {z : Value} {bytes : Nat} {TT : TypeId} (ho : o.op = .call { callee := .builtin .copy, args := #[x, y], argTypes := #[t, sT] }) (hx : ev σ x = some (.slice (some ⟨g, off, none⟩) n c)) (hy : ev σ y = some (.slice a m c2))
    [h : Und P t (.slice T)] [hi : Inf P T z 1 bytes] (hd : o.dst = some d) (hN : Nat.blt d N = true) (hS : St W F rs w) [hh : Has rs g (.cells l.toArray TT (0, 0))] (hnews : Rd w (row a news)) (hl : news.length = m) (h1 : ∀ u ∈ news, u.oneCell' = true) (hfit : off + n ≤ l.length)
    [hu : Upd rs g (.cells (splice l off (news.take n)).toArray TT (0, 0)) rs'] (hk : ∀ w', St W F rs' w' → K ((d, .int .i64 ((min m n : Nat) : Int)) :: σ) w') : X P o N ds σ w K := ⟨fun f ha K' Q' hK => by
  have hb := hS.has (b := g) (o := .cells l.toArray TT (0, 0))
  obtain ⟨i, hi', hz', hsz, hby⟩ := info_parts hi.inf
  have hmin : (news.take n).length = Nat.min m n := by simp [hl]; exact Nat.min_comm _ _
  have hfc : (Builtin.firstCells 1 (Nat.min m n) (.slice a m c2)).run P w = .ok (news.take n).toArray w := by
    have h2 : Rd w (row a (news.take n)) := hnews.mono fun h hr => by
      rcases hr with ⟨rfl, h0⟩ | ⟨b, o', cells, T', fz, hb', rfl, hc⟩
      · exact ⟨h, .inl ⟨by simp, h0⟩, fun _ _ e => e⟩
      · refine ⟨_, .inr ⟨b, o', cells, T', fz, hb', rfl, fun j v hv => ?_⟩, fun _ _ e => e⟩
        rw [List.getElem?_take] at hv
        split at hv
        · exact hc j v hv
        · cases hv
    have := firstCells_row (P := P) (size := 1) (m := Nat.min m n) (c := c2) h2 (by omega)
    cases a <;> exact this
  have h1' : ∀ v ∈ news.take n, v.oneCell' = true := fun v hv => h1 v (List.mem_of_mem_take hv)
  have hst := run_storeCells_at P g off TT (news.take n) 0 l.toArray w hb (by simp; omega) h1'
  simp only [Nat.add_zero] at hst
  have hexec : (execOp f.eval o).run P w = .ok (.value (.int .i64 ((Nat.min m n : Nat) : Int))) (w.setRow g (splice l off (news.take n)).toArray) := by
    simp only [execOp, ho, resolve, invoke, builtin, ha.eval hx, ha.eval hy, Builtin.copy_, Sem.run_bind, Sem.run_pure, Result.andThen_ok, List.map_toArray, List.map_cons, List.map_nil]
    simp [run_underlying h.und, Builtin.lenOf, Go.sizeOf, typeInfo, hi', hsz, hfc, hst, goInt, splice]
  unfold Oper.wp
  rw [hexec]
  have u := setBlock_row hb (splice l off (news.take n)).toArray
  have := hK _ _ _ (ha.put (lt_of_blt hN) (.int .i64 ((Nat.min m n : Nat) : Int))) (hk _ (hS.upd u))
  rw [← hd] at this
  exact this⟩
theorem zeroCells_one {z : Value} (hz : z.cells = #[z]) (m : Nat) : Builtin.zeroCells z.cells m = (List.replicate m z).toArray := by
  rw [hz]
  apply Array.ext
  · simp [Builtin.zeroCells]
  · intro i h1 h2
    have : i % 1 = 0 := by omega
    simp [Builtin.zeroCells, this]
theorem run_appendZ {T bytes c n m : Nat} {k k' : IntKind} {a : Option Addr} {cs : List Value} {z : Value} {W : World} {F : Nat → Prop} {rest : List Res} (tx : TypeId) [h : Und P t (.slice T)] [hx : Und P tx (.int k')] [hi : Inf P T z 1 bytes] (hzc : z.cells = #[z]) (hz1 : z.oneCell' = true)
    (hS : St W F (own T 1 a c cs :: rest) w) (hcs : cs.length = n) (hnc : n ≤ c) (hfit : (n + m) * bytes ≤ 140737488355328) (hmax : n + m ≤ maxLen) :
    ∃ a' c' w', (Builtin.append_ #[t, tx] ty #[.slice a n c, .int k (m : Nat)]).run P w = .ok (.slice a' (n + m) c') w' ∧ St W F (own T 1 a' c' (cs ++ List.replicate m z) :: rest) w' ∧ n + m ≤ c' ∧ (a' = none ↔ a = none ∧ m = 0) := by
  obtain ⟨i, hi', hz', hsz, hby⟩ := info_parts hi.inf
  subst hby
  obtain ⟨f, ⟨f1, f2, ho, hs, hd, hu⟩, s⟩ := hS
  have hlt : ((n + m : Nat) : Int) ≤ 9223372036854775807 := by simp only [maxLen] at hmax; omega
  have hw64 : IntKind.i64.wrap (m : Int) = m := w64 (by omega) (by omega)
  have hm0 : ¬ ((m : Int) < 0) := by omega
  have hmb : ¬ (281474976710656 < (m : Int) * i.bytes) := by
    have h1 : (n + m) * i.bytes = n * i.bytes + m * i.bytes := Nat.add_mul ..
    rw [← Int.natCast_mul]
    generalize m * i.bytes = q at h1 ⊢
    omega
  have hnew : ∀ w : World, (if m = 0 then pure #[] else do pure (Builtin.zeroCells (← zeroValue T).cells m) : Sem (Array Value)).run P w = .ok (List.replicate m z).toArray w := fun w => by
    by_cases h0 : m = 0
    · subst h0; simp
    · rw [if_neg h0]
      simp [zeroValue, typeInfo, hi', hz', zeroCells_one hzc]
  by_cases hroom : n + m ≤ c
  · have ho' := ho
    obtain ⟨_, hcm, ⟨rfl, he⟩ | ⟨b, cells, rfl, hf1, hcz, ht⟩⟩ := ho
    · obtain rfl : n = 0 := by omega
      obtain rfl : m = 0 := by omega
      obtain rfl : cs = [] := List.eq_nil_of_length_eq_zero hcs
      refine ⟨a, 0, w, ?_, ⟨f, ⟨f1, f2, by simpa using ho', hs, hd, hu⟩, s⟩, by omega, by simp⟩
      cases a <;> simp [Builtin.append_, run_underlying h.und, run_underlying hx.und, Go.sizeOf, typeInfo, hi', asInt, asIntOf, storeCells, IntKind.wrap_i64]
    · have hb : w.heap[b]? = some (.cells cells T (0, 0)) := s.agrees b _ (by rw [hu, hf1, single_self]; rfl)
      have hfit2 : n + (List.replicate m z).length ≤ cells.size := by simp; omega
      have h1 : ∀ u ∈ List.replicate m z, u.oneCell' = true := fun u hu => by rw [List.eq_of_mem_replicate hu]; exact hz1
      have hst := run_storeCells_at P b n T (List.replicate m z) 0 cells w hb (by simpa using hfit2) h1
      simp only [Nat.add_zero] at hst
      have u := setBlock_row hb (cells.toList.take n ++ List.replicate m z ++ cells.toList.drop (n + (List.replicate m z).length)).toArray
      have hlen : (cells.toList.take n ++ List.replicate m z ++ cells.toList.drop (n + (List.replicate m z).length)).length = c * 1 := by
        simp only [List.length_append, List.length_take, List.length_drop, Array.length_toList, List.length_replicate] at hfit2 ⊢; omega
      refine ⟨some ⟨b, 0, none⟩, c, w.setRow b (cells.toList.take n ++ List.replicate m z ++ cells.toList.drop (n + (List.replicate m z).length)).toArray, ?_, ?_, hroom, by simp⟩
      · have hst2 : (storeCells ⟨b, n, none⟩ (List.replicate m z)).run P w = .ok () (w.setRow b (cells.toList.take n ++ List.replicate m z ++ cells.toList.drop (n + (List.replicate m z).length)).toArray) := hst
        rw [show (Builtin.append_ #[t, tx] ty #[.slice (some ⟨b, 0, none⟩) n c, .int k (m : Nat)]).run P w =
          ((if m = 0 then pure #[] else do pure (Builtin.zeroCells (← zeroValue T).cells m) : Sem (Array Value)).run P w).andThen (fun r w' => ((storeCells ⟨b, n, none⟩ r.toList).run P w').andThen fun _ w' => .ok (.slice (some ⟨b, 0, none⟩) (n + m) c) w') by
            simp [Builtin.append_, run_underlying h.und, run_underlying hx.und, Go.sizeOf, typeInfo, hi', hw64, hm0, hmb, hsz, hroom, add_lit, asInt, asIntOf], hnew w]
        simp only [Result.andThen_ok, hst2]
      · have hS2 : St W F (pts b (.cells cells T (0, 0)) :: rest) w := ⟨f, ⟨f1, f2, hf1, hs, hd, hu⟩, s⟩
        refine (hS2.set u).imp fun g hg => hg.mono_head (own_of_pts (c := c) hlen hcm ?_)
        rw [hcs] at ht
        rw [ht, List.take_append_of_le_length (by simp), List.take_of_length_le (by simp)]
  · have hge : n + m ≤ grownCap w (n + m) c T := grownCap_ge w (n + m) c T
    have hcm : grownCap w (n + m) c T ≤ maxLen := grownCap_le_maxLen w (n + m) c T hmax
    have hn' : ¬ (n + m ≤ c) := hroom
    have hmin : ¬ (9223372036854775807 < ((n : Int) + (m : Int))) := by omega
    have h48 : ¬ (281474976710656 < Builtin.nextslicecap (n + m) c * i.bytes) := by have := growslice_fits (show c < n + m by omega) hfit; omega
    have hod : (Builtin.firstCells 1 n (.slice a n c)).run P w.drew = .ok cs.toArray w.drew := firstCells_row (P := P) (size := 1) ⟨f1, ho.row, fun b o e => s.agrees b o (by rw [hu, e]; rfl)⟩ (by omega)
    let blk := cs.toArray ++ (List.replicate m z).toArray ++ Builtin.zeroCells z.cells (grownCap w (n + m) c T - (n + m))
    have hS2 : St W F rest w := St.drop ⟨f, ⟨f1, f2, ho, hs, hd, hu⟩, s⟩
    refine ⟨some ⟨w.heap.size, 0, none⟩, grownCap w (n + m) c T, w.drew.alloc (.cells blk T), ?_, ?_, hge, by simp; omega⟩
    · have hmm : m ≠ 0 := by omega
      simp [Builtin.append_, run_underlying h.und, run_underlying hx.und, Go.sizeOf, typeInfo, zeroValue, hi', hz', hw64, hm0, hmb, hsz, hn', hmin, h48, asInt, asIntOf, Question.forced, hod, hmm, zeroCells_one hzc, newRow, grownCap, blk]
    · have hlen : blk.toList.length = grownCap w (n + m) c T * 1 := by
        simp only [blk, Array.length_toList, Array.size_append, List.size_toArray, size_zeroCells, hzc, hcs, List.length_replicate]
        simp; omega
      have h3 := hS2.drew.alloc (.cells blk T)
      refine St.imp h3 fun g hg => hg.mono_head ?_
      have key := own_of_pts (T := T) (e := 1) (c := grownCap w (n + m) c T) (b := w.heap.size) (l := blk.toList) (cs := cs ++ List.replicate m z) hlen hcm (by
        simp only [blk, Array.toList_append]; exact List.take_left)
      simpa using key
/-- append of zeros onto a slice without room: the slice need only be read. -/
theorem X_appendZ_grow {T bytes c n m : Nat} {k k' : IntKind} {a : Option Addr} {cs : List Value} {z : Value} {W : World} {F : Nat → Prop} {rs : List Res} {d : Nat} {tx : TypeId} (ho : o.op = .call { callee := .builtin .append, args := #[x, y], argTypes := #[t, tx] }) (hx : ev σ x = some (.slice a n c)) (hy : ev σ y = some (.int k (m : Nat)))
    [h : Und P t (.slice T)] [hx' : Und P tx (.int k')] [hi : Inf P T z 1 bytes] (hzc : z.cells = #[z]) (hd : o.dst = some d) (hN : Nat.blt d N = true) (hS : St W F rs w) (hr : Rd w (row a cs)) (hcs : cs.length = n) (hg : c < n + m) (hm : 0 < m)
    (hfit : (n + m) * bytes ≤ 140737488355328) (hmax : n + m ≤ maxLen)
    (hk : ∀ b c' w', St W F (own T 1 (some ⟨b, 0, none⟩) c' (cs ++ List.replicate m z) :: rs) w' → n + m ≤ c' → K ((d, .slice (some ⟨b, 0, none⟩) (n + m) c') :: σ) w') : X P o N ds σ w K := ⟨fun f ha K' Q' hK => by
  obtain ⟨i, hi', hz', hsz, hby⟩ := info_parts hi.inf
  subst hby
  have hlt : ((n + m : Nat) : Int) ≤ 9223372036854775807 := by simp only [maxLen] at hmax; omega
  have hw64 : IntKind.i64.wrap (m : Int) = m := w64 (by omega) (by omega)
  have hm0 : ¬ ((m : Int) < 0) := by omega
  have hmb : ¬ (281474976710656 < (m : Int) * i.bytes) := by
    have h1 : (n + m) * i.bytes = n * i.bytes + m * i.bytes := Nat.add_mul ..
    rw [← Int.natCast_mul]
    generalize m * i.bytes = q at h1 ⊢
    omega
  have hge : n + m ≤ grownCap w (n + m) c T := grownCap_ge w (n + m) c T
  have hcm : grownCap w (n + m) c T ≤ maxLen := grownCap_le_maxLen w (n + m) c T hmax
  have hn' : ¬ (n + m ≤ c) := by omega
  have hmin : ¬ (9223372036854775807 < ((n : Int) + (m : Int))) := by omega
  have h48 : ¬ (281474976710656 < Builtin.nextslicecap (n + m) c * i.bytes) := by have := growslice_fits (show c < n + m by omega) hfit; omega
  have hod : (Builtin.firstCells 1 n (.slice a n c)).run P w.drew = .ok cs.toArray w.drew := firstCells_row (P := P) (size := 1) (by obtain ⟨g, hg, ha⟩ := hr; exact ⟨g, hg, ha⟩) (by omega)
  let blk := cs.toArray ++ (List.replicate m z).toArray ++ Builtin.zeroCells z.cells (grownCap w (n + m) c T - (n + m))
  have hlen : blk.toList.length = grownCap w (n + m) c T * 1 := by
    simp only [blk, Array.length_toList, Array.size_append, List.size_toArray, size_zeroCells, hzc, hcs, List.length_replicate]
    simp; omega
  have hexec : (execOp f.eval o).run P w = .ok (.value (.slice (some ⟨w.heap.size, 0, none⟩) (n + m) (grownCap w (n + m) c T))) (w.drew.alloc (.cells blk T)) := by
    have hmm : m ≠ 0 := by omega
    simp [execOp, ho, resolve, invoke, builtin, ha.eval hx, ha.eval hy, Builtin.append_, run_underlying h.und, run_underlying hx'.und, Go.sizeOf, typeInfo, zeroValue, hi', hz', hw64, hm0, hmb, hsz, hn', hmin, h48, asInt, asIntOf, Question.forced, hod, hmm, zeroCells_one hzc, newRow, grownCap, blk]
  unfold Oper.wp
  rw [hexec]
  have := hK _ _ _ (ha.put (lt_of_blt hN) (.slice (some ⟨w.heap.size, 0, none⟩) (n + m) (grownCap w (n + m) c T))) (hk w.heap.size _ (w.drew.alloc (.cells blk T)) (St.imp (hS.drew.alloc (.cells blk T)) fun g hg => hg.mono_head (by
    have key := own_of_pts (T := T) (e := 1) (c := grownCap w (n + m) c T) (b := w.heap.size) (l := blk.toList) (cs := cs ++ List.replicate m z) hlen hcm (by
      simp only [blk, Array.toList_append]; exact List.take_left)
    simpa using key)) hge)
  rw [← hd] at this
  exact this⟩
theorem X_appendZ {T bytes c n m : Nat} {k k' : IntKind} {a : Option Addr} {cs : List Value} {z : Value} {W : World} {F : Nat → Prop} {rs rest : List Res} {d : Nat} {tx : TypeId} (ho : o.op = .call { callee := .builtin .append, args := #[x, y], argTypes := #[t, tx] }) (hx : ev σ x = some (.slice a n c)) (hy : ev σ y = some (.int k (m : Nat)))
    [h : Und P t (.slice T)] [hx' : Und P tx (.int k')] [hi : Inf P T z 1 bytes] (hzc : z.cells = #[z]) (hz1 : z.oneCell' = true) (hd : o.dst = some d) (hN : Nat.blt d N = true) (hS : St W F rs w) [hh : HasOwn rs a T 1 c cs rest] (hcs : cs.length = n) (hnc : n ≤ c)
    (hfit : (n + m) * bytes ≤ 140737488355328) (hmax : n + m ≤ maxLen)
    (hk : ∀ a' c' w', St W F (own T 1 a' c' (cs ++ List.replicate m z) :: rest) w' → n + m ≤ c' → (a' = none ↔ a = none ∧ m = 0) → K ((d, .slice a' (n + m) c') :: σ) w') : X P o N ds σ w K := ⟨fun f ha K' Q' hK => by
  obtain ⟨a', c', w', hr, hS', hc', hn⟩ := run_appendZ (P := P) (t := t) (ty := o.type) (k := k) (m := m) tx hzc hz1 (hS.perm hh.has) hcs hnc hfit hmax
  unfold Oper.wp
  have hexec : (execOp f.eval o).run P w = .ok (.value (.slice a' (n + m) c')) w' := by
    simp [execOp, ho, resolve, invoke, builtin, ha.eval hx, ha.eval hy, hr]
  rw [hexec]
  have := hK _ _ _ (ha.put (lt_of_blt hN) (.slice a' (n + m) c')) (hk a' c' w' hS' hc' hn)
  rw [← hd] at this
  exact this⟩
end
end Cr
namespace Cr
open Go
section
variable {P : Program} {o : Oper} {σ : Env} {w : World} {N : Nat} {ds : Md} {K : Env → World → Prop} {x y : Operand} {t ty e : TypeId}
theorem str_size (s : List UInt8) : (str s).size = s.length := by simp [str, ByteArray.size]
theorem str_app (a b : List UInt8) : str a ++ str b = str (a ++ b) := ByteArray.mk_append_mk a b
theorem str_of (s : ByteArray) : ∃ l, s = str l := ⟨s.data.toList, by cases s; simp [str]⟩
theorem str_extract (s : List UInt8) (l h : Nat) : (str s).extract l h = str ((s.drop l).take (h - l)) := by
  apply ByteArray.ext
  simp [str, ByteArray.data_extract, List.extract_eq_take_drop]
theorem Yl_addStr {a b : List UInt8} (ho : o.op = .binOp .add t x y ty) (hx : ev σ x = some (.string (str a))) (hy : ev σ y = some (.string (str b))) (hl : a.length + b.length ≤ 9223372036854775807) : Yl P o σ w (.string (str (a ++ b))) := ⟨fun N ds f ha => by
  have h := run_string_add_sum (P := P) w (str a) (str b) (by rw [str_size, str_size]; exact hl)
  rw [str_app] at h
  simp [execOp, ho, ha.eval hx, ha.eval hy, binOp, eqGuard, h]⟩
theorem Yl_eqlStrT {a b : List UInt8} (ho : o.op = .binOp .eql t x y ty) (hx : ev σ x = some (.string (str a))) (hy : ev σ y = some (.string (str b))) (h : a = b) : Yl P o σ w (.bool true) := by
  have := Yl_eqlStr (P := P) (w := w) ho hx hy
  rwa [decide_eq_true h] at this
theorem Yl_eqlStrF {a b : List UInt8} (ho : o.op = .binOp .eql t x y ty) (hx : ev σ x = some (.string (str a))) (hy : ev σ y = some (.string (str b))) (h : ¬ a = b) : Yl P o σ w (.bool false) := by
  have := Yl_eqlStr (P := P) (w := w) ho hx hy
  rwa [decide_eq_false h] at this
theorem Yl_neqStrF {a b : List UInt8} (ho : o.op = .binOp .neq t x y ty) (hx : ev σ x = some (.string (str a))) (hy : ev σ y = some (.string (str b))) (h : a = b) : Yl P o σ w (.bool false) := by
  have := Yl_neqStr (P := P) (w := w) ho hx hy
  rwa [decide_eq_false (fun q => q h)] at this
theorem Yl_neqStrT {a b : List UInt8} (ho : o.op = .binOp .neq t x y ty) (hx : ev σ x = some (.string (str a))) (hy : ev σ y = some (.string (str b))) (h : ¬ a = b) : Yl P o σ w (.bool true) := by
  have := Yl_neqStr (P := P) (w := w) ho hx hy
  rwa [decide_eq_true h] at this
theorem Yl_lenStr {s : List UInt8} (ho : o.op = .call { callee := .builtin .len, args := #[x], argTypes := #[t] }) (hx : ev σ x = some (.string (str s))) [h : Und P t .string] : Yl P o σ w (.int .i64 (s.length : Nat)) := by
  have := Yl_len_str (P := P) (w := w) ho hx
  rwa [str_size] at this
theorem Yl_sliceStr {s : List UInt8} {l h : Nat} {lo hi : Option Operand} {vl vh : Option Value} (ho : o.op = .slice t x lo hi none) (hx : ev σ x = some (.string (str s))) (hlo : evo σ lo = some vl) (hhi : evo σ hi = some vh) [hu : Und P t .string] (hh : Bnd vh s.length s.length h) (hl : Bnd vl 0 h l) :
    Yl P o σ w (.string (str ((s.drop l).take (h - l)))) := by
  rw [← str_extract]
  exact Yl_slice_str ho hx hlo hhi (by rw [str_size]; exact hh) hl
theorem Yl_indexStr {s : List UInt8} {k : IntKind} {i : Int} {b : UInt8} (ho : o.op = .index t x y) (hx : ev σ x = some (.string (str s))) (hy : ev σ y = some (.int k i)) [h : Und P t .string] (h0 : 0 ≤ i) (hb : s[i.toNat]? = some b) :
    Yl P o σ w (.int .u8 (b.toNat : Int)) := by
  have hlt := (List.getElem?_eq_some_iff.1 hb).1
  have := Yl_index_str (P := P) (w := w) (s := str s) ho hx hy h0 (by rw [str_size]; exact hlt)
  have e : (str s)[i.toNat]'(by rw [str_size]; exact hlt) = b := by
    obtain ⟨_, he⟩ := List.getElem?_eq_some_iff.1 hb
    rw [← he]; rfl
  rwa [e] at this
/-! ### errors that may be nil -/
theorem run_eqlIfSome {d : TypeId} {u : Value} {ms : Array (String × TypeId)} [h : Und P t (.interface ms)] : (Op.equal t (.iface d u) .nilIface).run P w = .ok false w := by
  have key : ∀ d', (Op.equalIn (d' + 1) t (.iface d u) .nilIface).run P w = .ok false w := fun d' => by
    rw [Op.equalIn]; simp [run_underlying h.und]
  exact key 9999
theorem run_eqlIfNil {ms : Array (String × TypeId)} [h : Und P t (.interface ms)] : (Op.equal t .nilIface .nilIface).run P w = .ok true w := by
  have key : ∀ d', (Op.equalIn (d' + 1) t .nilIface .nilIface).run P w = .ok true w := fun d' => by
    rw [Op.equalIn]; simp [run_underlying h.und]
  exact key 9999
theorem Yl_neqIfSome {d : TypeId} {u : Value} {ms : Array (String × TypeId)} (ho : o.op = .binOp .neq t x y ty) (hx : ev σ x = some (.iface d u)) (hy : ev σ y = some .nilIface) [h : Und P t (.interface ms)] : Yl P o σ w (.bool true) := ⟨fun N ds f ha => by
  simp only [execOp, ho, ha.eval hx, ha.eval hy, eqGuard_at_iface, binOp, Sem.run_bind, Sem.run_pure, Result.andThen_ok, run_eqlIfSome (ms := ms)]; rfl⟩
theorem Yl_neqIfNil {ms : Array (String × TypeId)} (ho : o.op = .binOp .neq t x (.const .nilIface) ty) (hx : ev σ x = some .nilIface) [h : Und P t (.interface ms)] : Yl P o σ w (.bool false) := ⟨fun N ds f ha => by
  have hy : f.eval (.const .nilIface) = .nilIface := rfl
  simp only [execOp, ho, ha.eval hx, hy, eqGuard_nil_constR, binOp, Sem.run_bind, Sem.run_pure, Result.andThen_ok, run_eqlIfNil (ms := ms)]; rfl⟩
theorem St.strBytes {W : World} {F : Nat → Prop} {rs : List Res} (hS : St W F rs w) (e : TypeId) (s : List UInt8) : St W F (bytes (some ⟨w.heap.size, 0, none⟩) s :: rs) (Lib.bytesWorld w e (str s)) := by
  have h1 := hS.drew.alloc (.cells (Lib.bytesCells w e (str s)) e)
  have h2 := h1.set (w' := Lib.bytesWorld w e (str s)) (o' := .cells (Lib.bytesCells w e (str s)) e ((Lib.bytesCells w e (str s)).size, (Lib.bytesCells w e (str s)).size + 1))
    ⟨by rw [Lib.bytesWorld_size]; simp [World.alloc, World.drew, -World.alloc_eq, -World.drew_eq], Lib.bytesWorld_at_new w e (str s), fun k hk => by
      have hk : k ≠ w.heap.size := hk
      rcases Nat.lt_or_ge k w.heap.size with h | h
      · rw [Lib.bytesWorld_at_old w e (str s) k h]
        simp [World.alloc, World.drew, -World.alloc_eq, -World.drew_eq, Array.getElem?_push, hk]
      · rw [Array.getElem?_eq_none (by rw [Lib.bytesWorld_size]; omega), Array.getElem?_eq_none (by simp [World.alloc, World.drew, -World.alloc_eq, -World.drew_eq]; omega)],
      rfl, rfl, rfl⟩
  refine h2.head fun h hh => ?_
  refine .inr ⟨w.heap.size, 0, _, e, _, rfl, hh, fun i v hv => ?_⟩
  have hlt := (List.getElem?_eq_some_iff.1 hv).1
  rw [bv_length] at hlt
  rw [bv_get hlt] at hv
  rw [← Option.some.inj hv, Nat.zero_add]
  unfold Lib.bytesCells
  rw [Array.getElem?_append_left (by simp [str]; exact hlt)]
  simp [str, hlt]
theorem X_strBytes {src dst : TypeId} {s : List UInt8} {d : Nat} {W : World} {F : Nat → Prop} {rs : List Res} (ho : o.op = .convert src dst x) (hx : ev σ x = some (.string (str s))) [hs : Und P src .string] [hd : Und P dst (.slice e)] [he : Und P e (.int .u8)]
    (hdst : o.dst = some d) (hN : Nat.blt d N = true) (hS : St W F rs w) (h : ∀ b c w', St W F (bytes (some ⟨b, 0, none⟩) s :: rs) w' → s.length ≤ c → K ((d, .slice (some ⟨b, 0, none⟩) s.length c) :: σ) w') : X P o N ds σ w K := ⟨fun f ha K' Q' hK => by
  have hr := Lib.run_convert_string_bytes (P := P) w src dst e (str s) hs.und hd.und he.und
  have hexec : (execOp f.eval o).run P w = .ok (.value (.slice (some ⟨w.heap.size, 0, none⟩) s.length (grownCap w (str s).size 0 e))) (Lib.bytesWorld w e (str s)) := by
    simp only [execOp, ho, ha.eval hx, Sem.run_bind, hr, Result.andThen_ok, str_size]
    rfl
  unfold Oper.wp
  rw [hexec]
  have := hK _ _ _ (ha.put (lt_of_blt hN) (.slice (some ⟨w.heap.size, 0, none⟩) s.length (grownCap w (str s).size 0 e))) (h _ _ _ (hS.strBytes e s) (by have := grownCap_ge w (str s).size 0 e; rw [str_size] at this; rw [str_size]; exact this))
  rw [← hdst] at this
  exact this⟩
end
end Cr
namespace Go.Proofs
open Go.Shelf
def Tryz.laysM171_ren : Go.Shelf.Ren := ⟨fun | 171 => 209 | 243 => 248 | 246 => 284 | 283 => 313 | 284 => 314 | 285 => 315 | 286 => 316 | 129 => 272 | 317 => 329 | 318 => 330 | 319 => 331 | 320 => 332 | 337 => 338 | 338 => 339 | n => n, fun | 3 => 3 | 9 => 9 | 2 => 2 | 4 => 4 | 171 => 469 | 0 => 0 | 53 => 292 | 37 => 40 | 5 => 5 | 173 => 471 | 212 => 485 | 51 => 201 | 20 => 20 | 213 => 486 | 46 => 326 | 232 => 93 | 233 => 281 | n => n, fun | 17 => 5 | 18 => 8 | 19 => 9 | n => n⟩
theorem Tryz.laysM171 : Go.Proofs.LaysM.n171 Tryz.prog Tryz.laysM171_ren := {
  mixed := by kernel_rfl
  f129 := Tryz.func272.trans (congrArg some (by kernel_rfl))
  f171 := Tryz.func209.trans (congrArg some (by kernel_rfl))
  f243 := Tryz.func248.trans (congrArg some (by kernel_rfl))
  f246 := Tryz.func284.trans (congrArg some (by kernel_rfl))
  f283 := Tryz.func313.trans (congrArg some (by kernel_rfl))
  f284 := Tryz.func314.trans (congrArg some (by kernel_rfl))
  f285 := Tryz.func315.trans (congrArg some (by kernel_rfl))
  f286 := Tryz.func316.trans (congrArg some (by kernel_rfl))
  f317 := Tryz.func329.trans (congrArg some (by kernel_rfl))
  f318 := Tryz.func330.trans (congrArg some (by kernel_rfl))
  f319 := Tryz.func331.trans (congrArg some (by kernel_rfl))
  f320 := Tryz.func332.trans (congrArg some (by kernel_rfl))
  f337 := Tryz.func338.trans (congrArg some (by kernel_rfl))
  f338 := Tryz.func339.trans (congrArg some (by kernel_rfl))
  t0 := Tryz.underlying0
  a0 := Tryz.isAgg0
  z0 := Tryz.sizeOf0
  v0 := Tryz.zeroValue0
  t2 := Tryz.underlying2
  a2 := Tryz.isAgg2
  z2 := Tryz.sizeOf2
  v2 := Tryz.zeroValue2
  t3 := Tryz.underlying3
  a3 := Tryz.isAgg3
  z3 := Tryz.sizeOf3
  v3 := Tryz.zeroValue3
  t4 := Tryz.underlying4
  a4 := Tryz.isAgg4
  z4 := Tryz.sizeOf4
  v4 := Tryz.zeroValue4
  t5 := Tryz.underlying5
  a5 := Tryz.isAgg5
  z5 := Tryz.sizeOf5
  v5 := Tryz.zeroValue5
  t9 := Tryz.underlying9
  a9 := Tryz.isAgg9
  z9 := Tryz.sizeOf9
  v9 := Tryz.zeroValue9
  t20 := Tryz.underlying20
  a20 := Tryz.isAgg20
  z20 := Tryz.sizeOf20
  v20 := Tryz.zeroValue20
  t37 := Tryz.underlying40
  a37 := Tryz.isAgg40
  z37 := Tryz.sizeOf40
  v37 := Tryz.zeroValue40
  t46 := Tryz.underlying326
  a46 := Tryz.isAgg326
  z46 := Tryz.sizeOf326
  v46 := Tryz.zeroValue326
  t51 := Tryz.underlying201
  a51 := Tryz.isAgg201
  z51 := Tryz.sizeOf201
  v51 := Tryz.zeroValue201
  t53 := Tryz.underlying292
  a53 := Tryz.isAgg292
  z53 := Tryz.sizeOf292
  v53 := Tryz.zeroValue292
  t171 := Tryz.underlying469
  a171 := Tryz.isAgg469
  z171 := Tryz.sizeOf469
  v171 := Tryz.zeroValue469
  t173 := Tryz.underlying471
  a173 := Tryz.isAgg471
  z173 := Tryz.sizeOf471
  v173 := Tryz.zeroValue471
  t212 := Tryz.underlying485
  a212 := Tryz.isAgg485
  z212 := Tryz.sizeOf485
  v212 := Tryz.zeroValue485
  t213 := Tryz.underlying486
  a213 := Tryz.isAgg486
  z213 := Tryz.sizeOf486
  t232 := Tryz.underlying93
  a232 := Tryz.isAgg93
  z232 := Tryz.sizeOf93
  v232 := Tryz.zeroValue93
  t233 := Tryz.underlying281
  a233 := Tryz.isAgg281
  z233 := Tryz.sizeOf281
  v233 := Tryz.zeroValue281
  g17 := by kernel_rfl
  g18 := by kernel_rfl
  g19 := by kernel_rfl
  i0 := by kernel_rfl
  i2 := by kernel_rfl
  i3 := by kernel_rfl
  i4 := by kernel_rfl
  i5 := by kernel_rfl
  i9 := by kernel_rfl
  i20 := by kernel_rfl
  i37 := by kernel_rfl
  i46 := by kernel_rfl
  i51 := by kernel_rfl
  i53 := by kernel_rfl
  i171 := by kernel_rfl
  i173 := by kernel_rfl
  i212 := by kernel_rfl
  i232 := by kernel_rfl
  i233 := by kernel_rfl
  m17 := by kernel_rfl
  m18 := by kernel_rfl
  m19 := by kernel_rfl }
open Go.RowKit Go.Sort Go.Lib in
/-- strconv.Itoa: "Itoa is equivalent to FormatInt(int64(i), 10).": i's DECIMAL NUMERAL ('Lib.itoa': a '-' where i is negative, then the digits), FOR EVERY int. The world behind the call: the world before it, new blocks behind the heap (the library's 'var a [24]byte'), draws. (LAID: no walk: one application.) -/
theorem Tryz.strconv_Itoa (n : Int) (h0 : -9223372036854775808 ≤ n) (h1 : n ≤ 9223372036854775807) (w : World) (htab : Lib.TabIs Tryz.prog w "internal/strconv.uint64pow10" .u64 Lib.pow10Tab) :
    Calls Tryz.prog 209 #[.int .i64 n] w fun e w' => e = .returned (.string ⟨(Lib.itoa n).toArray⟩) ∧ ∃ k os, w' = grow (w.drewN k) os := Any.strconv_Itoa Tryz.laysM171 n h0 h1 w htab
def Tryz.laysC172_ren : Go.Shelf.Ren := ⟨fun | 172 => 308 | 244 => 326 | 245 => 327 | 247 => 333 | 279 => 334 | 280 => 335 | 281 => 336 | 282 => 337 | 287 => 340 | 316 => 341 | 171 => 209 | 205 => 342 | 321 => 343 | 322 => 344 | 243 => 248 | 246 => 284 | 283 => 313 | 284 => 314 | 285 => 315 | 286 => 316 | 129 => 272 | 317 => 329 | 318 => 330 | 319 => 331 | 320 => 332 | 337 => 338 | 338 => 339 | n => n, fun | 9 => 9 | 3 => 3 | 75 => 401 | 76 => 402 | 4 => 4 | 5 => 5 | 167 => 487 | 37 => 40 | 0 => 0 | 85 => 488 | 2 => 2 | 168 => 490 | 53 => 292 | 175 => 493 | 46 => 326 | 210 => 496 | 127 => 438 | 145 => 500 | 143 => 498 | 21 => 21 | 171 => 469 | 173 => 471 | 212 => 485 | 51 => 201 | 20 => 20 | 213 => 486 | 232 => 93 | 233 => 281 | 80 => 404 | n => n, fun | 15 => 6 | 16 => 7 | 17 => 5 | 18 => 8 | 19 => 9 | n => n⟩
theorem Tryz.laysC172 : Go.Proofs.LaysC.n172 Tryz.prog Tryz.laysC172_ren := {
  mixed := by kernel_rfl
  f129 := Tryz.func272.trans (congrArg some (by kernel_rfl))
  f171 := Tryz.func209.trans (congrArg some (by kernel_rfl))
  f172 := Tryz.func308.trans (congrArg some (by kernel_rfl))
  f205 := Tryz.func342.trans (congrArg some (by kernel_rfl))
  f243 := Tryz.func248.trans (congrArg some (by kernel_rfl))
  f244 := Tryz.func326.trans (congrArg some (by kernel_rfl))
  f245 := Tryz.func327.trans (congrArg some (by kernel_rfl))
  f246 := Tryz.func284.trans (congrArg some (by kernel_rfl))
  f247 := Tryz.func333.trans (congrArg some (by kernel_rfl))
  f279 := Tryz.func334.trans (congrArg some (by kernel_rfl))
  f280 := Tryz.func335.trans (congrArg some (by kernel_rfl))
  f281 := Tryz.func336.trans (congrArg some (by kernel_rfl))
  f282 := Tryz.func337.trans (congrArg some (by kernel_rfl))
  f283 := Tryz.func313.trans (congrArg some (by kernel_rfl))
  f284 := Tryz.func314.trans (congrArg some (by kernel_rfl))
  f285 := Tryz.func315.trans (congrArg some (by kernel_rfl))
  f286 := Tryz.func316.trans (congrArg some (by kernel_rfl))
  f287 := Tryz.func340.trans (congrArg some (by kernel_rfl))
  f316 := Tryz.func341.trans (congrArg some (by kernel_rfl))
  f317 := Tryz.func329.trans (congrArg some (by kernel_rfl))
  f318 := Tryz.func330.trans (congrArg some (by kernel_rfl))
  f319 := Tryz.func331.trans (congrArg some (by kernel_rfl))
  f320 := Tryz.func332.trans (congrArg some (by kernel_rfl))
  f321 := Tryz.func343.trans (congrArg some (by kernel_rfl))
  f322 := Tryz.func344.trans (congrArg some (by kernel_rfl))
  f337 := Tryz.func338.trans (congrArg some (by kernel_rfl))
  f338 := Tryz.func339.trans (congrArg some (by kernel_rfl))
  t0 := Tryz.underlying0
  a0 := Tryz.isAgg0
  z0 := Tryz.sizeOf0
  v0 := Tryz.zeroValue0
  t2 := Tryz.underlying2
  a2 := Tryz.isAgg2
  z2 := Tryz.sizeOf2
  v2 := Tryz.zeroValue2
  t3 := Tryz.underlying3
  a3 := Tryz.isAgg3
  z3 := Tryz.sizeOf3
  v3 := Tryz.zeroValue3
  t4 := Tryz.underlying4
  a4 := Tryz.isAgg4
  z4 := Tryz.sizeOf4
  v4 := Tryz.zeroValue4
  t5 := Tryz.underlying5
  a5 := Tryz.isAgg5
  z5 := Tryz.sizeOf5
  v5 := Tryz.zeroValue5
  t9 := Tryz.underlying9
  a9 := Tryz.isAgg9
  z9 := Tryz.sizeOf9
  v9 := Tryz.zeroValue9
  t20 := Tryz.underlying20
  a20 := Tryz.isAgg20
  z20 := Tryz.sizeOf20
  v20 := Tryz.zeroValue20
  t21 := Tryz.underlying21
  a21 := Tryz.isAgg21
  z21 := Tryz.sizeOf21
  v21 := Tryz.zeroValue21
  t37 := Tryz.underlying40
  a37 := Tryz.isAgg40
  z37 := Tryz.sizeOf40
  v37 := Tryz.zeroValue40
  t46 := Tryz.underlying326
  a46 := Tryz.isAgg326
  z46 := Tryz.sizeOf326
  v46 := Tryz.zeroValue326
  t51 := Tryz.underlying201
  a51 := Tryz.isAgg201
  z51 := Tryz.sizeOf201
  v51 := Tryz.zeroValue201
  t53 := Tryz.underlying292
  a53 := Tryz.isAgg292
  z53 := Tryz.sizeOf292
  v53 := Tryz.zeroValue292
  t75 := Tryz.underlying401
  a75 := Tryz.isAgg401
  z75 := Tryz.sizeOf401
  v75 := Tryz.zeroValue401
  t76 := Tryz.underlying402
  a76 := Tryz.isAgg402
  z76 := Tryz.sizeOf402
  v76 := Tryz.zeroValue402
  t85 := Tryz.underlying488
  a85 := Tryz.isAgg488
  z85 := Tryz.sizeOf488
  v85 := Tryz.zeroValue488
  t127 := Tryz.underlying438
  a127 := Tryz.isAgg438
  z127 := Tryz.sizeOf438
  v127 := Tryz.zeroValue438
  t143 := Tryz.underlying498
  a143 := Tryz.isAgg498
  z143 := Tryz.sizeOf498
  v143 := Tryz.zeroValue498
  t145 := Tryz.underlying500
  a145 := Tryz.isAgg500
  z145 := Tryz.sizeOf500
  v145 := Tryz.zeroValue500
  t167 := Tryz.underlying487
  a167 := Tryz.isAgg487
  z167 := Tryz.sizeOf487
  v167 := Tryz.zeroValue487
  t168 := Tryz.underlying490
  a168 := Tryz.isAgg490
  z168 := Tryz.sizeOf490
  v168 := Tryz.zeroValue490
  t171 := Tryz.underlying469
  a171 := Tryz.isAgg469
  z171 := Tryz.sizeOf469
  v171 := Tryz.zeroValue469
  t173 := Tryz.underlying471
  a173 := Tryz.isAgg471
  z173 := Tryz.sizeOf471
  v173 := Tryz.zeroValue471
  t175 := Tryz.underlying493
  a175 := Tryz.isAgg493
  z175 := Tryz.sizeOf493
  v175 := Tryz.zeroValue493
  t210 := Tryz.underlying496
  a210 := Tryz.isAgg496
  z210 := Tryz.sizeOf496
  v210 := Tryz.zeroValue496
  t212 := Tryz.underlying485
  a212 := Tryz.isAgg485
  z212 := Tryz.sizeOf485
  v212 := Tryz.zeroValue485
  t213 := Tryz.underlying486
  a213 := Tryz.isAgg486
  z213 := Tryz.sizeOf486
  t232 := Tryz.underlying93
  a232 := Tryz.isAgg93
  z232 := Tryz.sizeOf93
  v232 := Tryz.zeroValue93
  t233 := Tryz.underlying281
  a233 := Tryz.isAgg281
  z233 := Tryz.sizeOf281
  v233 := Tryz.zeroValue281
  g15 := by kernel_rfl
  g16 := by kernel_rfl
  g17 := by kernel_rfl
  g18 := by kernel_rfl
  g19 := by kernel_rfl
  t80 := Tryz.underlying404
  a80 := Tryz.isAgg404
  z80 := Tryz.sizeOf404
  v80 := Tryz.zeroValue404
  i0 := by kernel_rfl
  i2 := by kernel_rfl
  i3 := by kernel_rfl
  i4 := by kernel_rfl
  i5 := by kernel_rfl
  i9 := by kernel_rfl
  i20 := by kernel_rfl
  i21 := by kernel_rfl
  i37 := by kernel_rfl
  i46 := by kernel_rfl
  i51 := by kernel_rfl
  i53 := by kernel_rfl
  i75 := by kernel_rfl
  i76 := by kernel_rfl
  i80 := by kernel_rfl
  i85 := by kernel_rfl
  i127 := by kernel_rfl
  i143 := by kernel_rfl
  i145 := by kernel_rfl
  i167 := by kernel_rfl
  i168 := by kernel_rfl
  i171 := by kernel_rfl
  i173 := by kernel_rfl
  i175 := by kernel_rfl
  i210 := by kernel_rfl
  i212 := by kernel_rfl
  i232 := by kernel_rfl
  i233 := by kernel_rfl
  m15 := by kernel_rfl
  m16 := by kernel_rfl
  m17 := by kernel_rfl
  m18 := by kernel_rfl
  m19 := by kernel_rfl
  c0 := by kernel_rfl
  c2 := by kernel_rfl
  c3 := by kernel_rfl
  c4 := by kernel_rfl
  c5 := by kernel_rfl
  c9 := by kernel_rfl
  c20 := by kernel_rfl
  c21 := by kernel_rfl
  c37 := by kernel_rfl
  c46 := by kernel_rfl
  c51 := by kernel_rfl
  c53 := by kernel_rfl
  c75 := by kernel_rfl
  c76 := by kernel_rfl
  c80 := by kernel_rfl
  c85 := by kernel_rfl
  c127 := by kernel_rfl
  c143 := by kernel_rfl
  c145 := by kernel_rfl
  c167 := by kernel_rfl
  c168 := by kernel_rfl
  c171 := by kernel_rfl
  c173 := by kernel_rfl
  c175 := by kernel_rfl
  c210 := by kernel_rfl
  c212 := by kernel_rfl
  c213 := by kernel_rfl
  c232 := by kernel_rfl
  c233 := by kernel_rfl }
open Go.RowKit in
/-- strconv.Atoi, AT EVERY STRING THAT SPELLS AN int ('Lib.atoiAll .. = .ok v'; of whatever length: leading zeros count): v, AND NO ERROR. The world: as it was, or with the one new row that '[]byte(..)' lays. (LAID: no walk: one application.) -/
theorem Tryz.strconv_Atoi_ok (s : ByteArray) (hmax : s.size ≤ 9223372036854775806) (v : Int) (h : Lib.atoiAll s.data.toList = .ok v) (w : World) :
    Calls Tryz.prog 308 #[.string s] w fun e w' => e = .returned (.tuple #[.int .i64 v, .nilIface]) ∧ (w' = w ∨ ∃ t, w' = Lib.bytesWorld w 5 t) := Any.strconv_Atoi_ok Tryz.laysC172 s hmax v h w
open Go.RowKit in
theorem Tryz.strconv_Atoi_range_var (s : ByteArray) (hlim : s.size ≤ 281474976710656) (h : Lib.atoiAll s.data.toList = .range) (tp : TypeId) (p : Value) (w : World) (hvar : w.var? Tryz.prog "strconv.ErrRange" = some #[.iface tp p]) :
    Calls Tryz.prog 308 #[.string s] w fun e w' => ∃ N, e = .returned (.tuple #[.int .i64 (Lib.atoiSat s.data.toList), .iface 490 (.pointer (some ⟨N, 0, none⟩))]) ∧ w.heap.size ≤ N ∧ w'.heap[N]? = some (.cells #[.string ⟨#[65, 116, 111, 105]⟩, .string s, .iface tp p] 496 (0, 0)) ∧ Below w.heap.size w w' := Any.strconv_Atoi_range_var Tryz.laysC172 s hlim h tp p w hvar
def Tryz.lays189_ren : Go.Shelf.Ren := ⟨fun | 189 => 171 | 125 => 227 | 257 => 226 | 128 => 271 | 129 => 272 | 294 => 262 | 295 => 263 | 296 => 264 | 297 => 265 | 298 => 266 | 299 => 267 | 216 => 268 | 300 => 269 | 301 => 270 | 328 => 301 | 329 => 302 | 330 => 303 | 331 => 304 | 332 => 305 | 215 => 306 | 343 => 325 | n => n, fun | 28 => 90 | 3 => 3 | 46 => 326 | 0 => 0 | 51 => 201 | 53 => 292 | 4 => 4 | 183 => 416 | 182 => 415 | 131 => 184 | 5 => 5 | 9 => 9 | 218 => 450 | 222 => 454 | 228 => 477 | 229 => 478 | n => n, fun | n => n⟩
theorem Tryz.lays189 : Go.Proofs.Lays.n189 Tryz.prog Tryz.lays189_ren := {
  mixed := by kernel_rfl
  f125 := Tryz.func227.trans (congrArg some (by kernel_rfl))
  f128 := Tryz.func271.trans (congrArg some (by kernel_rfl))
  f129 := Tryz.func272.trans (congrArg some (by kernel_rfl))
  f189 := Tryz.func171.trans (congrArg some (by kernel_rfl))
  f215 := Tryz.func306.trans (congrArg some (by kernel_rfl))
  f216 := Tryz.func268.trans (congrArg some (by kernel_rfl))
  f257 := Tryz.func226.trans (congrArg some (by kernel_rfl))
  f294 := Tryz.func262.trans (congrArg some (by kernel_rfl))
  f295 := Tryz.func263.trans (congrArg some (by kernel_rfl))
  f296 := Tryz.func264.trans (congrArg some (by kernel_rfl))
  f297 := Tryz.func265.trans (congrArg some (by kernel_rfl))
  f298 := Tryz.func266.trans (congrArg some (by kernel_rfl))
  f299 := Tryz.func267.trans (congrArg some (by kernel_rfl))
  f300 := Tryz.func269.trans (congrArg some (by kernel_rfl))
  f301 := Tryz.func270.trans (congrArg some (by kernel_rfl))
  f328 := Tryz.func301.trans (congrArg some (by kernel_rfl))
  f329 := Tryz.func302.trans (congrArg some (by kernel_rfl))
  f330 := Tryz.func303.trans (congrArg some (by kernel_rfl))
  f331 := Tryz.func304.trans (congrArg some (by kernel_rfl))
  f332 := Tryz.func305.trans (congrArg some (by kernel_rfl))
  f343 := Tryz.func325.trans (congrArg some (by kernel_rfl))
  t0 := Tryz.underlying0
  a0 := Tryz.isAgg0
  z0 := Tryz.sizeOf0
  v0 := Tryz.zeroValue0
  t3 := Tryz.underlying3
  a3 := Tryz.isAgg3
  z3 := Tryz.sizeOf3
  v3 := Tryz.zeroValue3
  t4 := Tryz.underlying4
  a4 := Tryz.isAgg4
  z4 := Tryz.sizeOf4
  v4 := Tryz.zeroValue4
  t5 := Tryz.underlying5
  a5 := Tryz.isAgg5
  z5 := Tryz.sizeOf5
  v5 := Tryz.zeroValue5
  t9 := Tryz.underlying9
  a9 := Tryz.isAgg9
  z9 := Tryz.sizeOf9
  v9 := Tryz.zeroValue9
  t28 := Tryz.underlying90
  a28 := Tryz.isAgg90
  z28 := Tryz.sizeOf90
  v28 := Tryz.zeroValue90
  t46 := Tryz.underlying326
  a46 := Tryz.isAgg326
  z46 := Tryz.sizeOf326
  v46 := Tryz.zeroValue326
  t51 := Tryz.underlying201
  a51 := Tryz.isAgg201
  z51 := Tryz.sizeOf201
  v51 := Tryz.zeroValue201
  t53 := Tryz.underlying292
  a53 := Tryz.isAgg292
  z53 := Tryz.sizeOf292
  v53 := Tryz.zeroValue292
  t131 := Tryz.underlying184
  a131 := Tryz.isAgg184
  z131 := Tryz.sizeOf184
  v131 := Tryz.zeroValue184
  t182 := Tryz.underlying415
  a182 := Tryz.isAgg415
  z182 := Tryz.sizeOf415
  v182 := Tryz.zeroValue415
  t183 := Tryz.underlying416
  a183 := Tryz.isAgg416
  z183 := Tryz.sizeOf416
  v183 := Tryz.zeroValue416
  t218 := Tryz.underlying450
  a218 := Tryz.isAgg450
  z218 := Tryz.sizeOf450
  v218 := Tryz.zeroValue450
  t222 := Tryz.underlying454
  a222 := Tryz.isAgg454
  z222 := Tryz.sizeOf454
  v222 := Tryz.zeroValue454
  t228 := Tryz.underlying477
  a228 := Tryz.isAgg477
  z228 := Tryz.sizeOf477
  v228 := Tryz.zeroValue477
  t229 := Tryz.underlying478
  a229 := Tryz.isAgg478
  z229 := Tryz.sizeOf478
  v229 := Tryz.zeroValue478 }
open Go.Sort Go.RowKit in
theorem Tryz.slices_Sort_int (blk off cap : Nat) (zs : List Int) (w : World) (hH : Holds (Value.int .i64) w blk off zs.toArray) (hblk : blk < w.heap.size) (hsz : zs.length < 4611686018427387904) :
    Calls Tryz.prog 171 #[.slice (some ⟨blk, off, none⟩) zs.length cap] w fun e w' =>
      e = .returned (.tuple #[]) ∧ ∃ n os, w' = grow (putRow (Value.int .i64) (Sort.ahead w n) blk off (zs.mergeSort fun x y => decide (x ≤ y)).toArray) os := Any.slices_Sort_int Tryz.lays189 blk off cap zs w hH hblk hsz
def Tryz.laysM157_ren : Go.Shelf.Ren := ⟨fun | 157 => 207 | 229 => 246 | 199 => 247 | 261 => 283 | 311 => 311 | 312 => 312 | n => n, fun | 9 => 9 | 31 => 154 | 3 => 3 | 5 => 5 | 4 => 4 | 119 => 392 | 0 => 0 | 40 => 394 | 152 => 428 | 21 => 21 | 154 => 430 | 51 => 201 | 141 => 432 | 196 => 461 | 193 => 458 | 198 => 464 | 49 => 462 | 194 => 459 | 201 => 467 | 226 => 482 | 46 => 326 | 227 => 483 | n => n, fun | 0 => 0 | 6 => 2 | n => n⟩
theorem Tryz.laysM157 : Go.Proofs.LaysM.n157 Tryz.prog Tryz.laysM157_ren := {
  mixed := by kernel_rfl
  f157 := Tryz.func207.trans (congrArg some (by kernel_rfl))
  f199 := Tryz.func247.trans (congrArg some (by kernel_rfl))
  f229 := Tryz.func246.trans (congrArg some (by kernel_rfl))
  f261 := Tryz.func283.trans (congrArg some (by kernel_rfl))
  f311 := Tryz.func311.trans (congrArg some (by kernel_rfl))
  f312 := Tryz.func312.trans (congrArg some (by kernel_rfl))
  t0 := Tryz.underlying0
  a0 := Tryz.isAgg0
  z0 := Tryz.sizeOf0
  v0 := Tryz.zeroValue0
  t3 := Tryz.underlying3
  a3 := Tryz.isAgg3
  z3 := Tryz.sizeOf3
  v3 := Tryz.zeroValue3
  t4 := Tryz.underlying4
  a4 := Tryz.isAgg4
  z4 := Tryz.sizeOf4
  v4 := Tryz.zeroValue4
  t5 := Tryz.underlying5
  a5 := Tryz.isAgg5
  z5 := Tryz.sizeOf5
  v5 := Tryz.zeroValue5
  t9 := Tryz.underlying9
  a9 := Tryz.isAgg9
  z9 := Tryz.sizeOf9
  v9 := Tryz.zeroValue9
  t21 := Tryz.underlying21
  a21 := Tryz.isAgg21
  z21 := Tryz.sizeOf21
  v21 := Tryz.zeroValue21
  t31 := Tryz.underlying154
  a31 := Tryz.isAgg154
  z31 := Tryz.sizeOf154
  v31 := Tryz.zeroValue154
  t40 := Tryz.underlying394
  a40 := Tryz.isAgg394
  z40 := Tryz.sizeOf394
  v40 := Tryz.zeroValue394
  t46 := Tryz.underlying326
  a46 := Tryz.isAgg326
  z46 := Tryz.sizeOf326
  v46 := Tryz.zeroValue326
  t49 := Tryz.underlying462
  a49 := Tryz.isAgg462
  z49 := Tryz.sizeOf462
  v49 := Tryz.zeroValue462
  t51 := Tryz.underlying201
  a51 := Tryz.isAgg201
  z51 := Tryz.sizeOf201
  v51 := Tryz.zeroValue201
  t119 := Tryz.underlying392
  a119 := Tryz.isAgg392
  z119 := Tryz.sizeOf392
  t141 := Tryz.underlying432
  a141 := Tryz.isAgg432
  z141 := Tryz.sizeOf432
  v141 := Tryz.zeroValue432
  t152 := Tryz.underlying428
  a152 := Tryz.isAgg428
  z152 := Tryz.sizeOf428
  v152 := Tryz.zeroValue428
  t154 := Tryz.underlying430
  a154 := Tryz.isAgg430
  z154 := Tryz.sizeOf430
  v154 := Tryz.zeroValue430
  t193 := Tryz.underlying458
  a193 := Tryz.isAgg458
  z193 := Tryz.sizeOf458
  v193 := Tryz.zeroValue458
  t194 := Tryz.underlying459
  a194 := Tryz.isAgg459
  z194 := Tryz.sizeOf459
  v194 := Tryz.zeroValue459
  t196 := Tryz.underlying461
  a196 := Tryz.isAgg461
  z196 := Tryz.sizeOf461
  v196 := Tryz.zeroValue461
  t198 := Tryz.underlying464
  a198 := Tryz.isAgg464
  z198 := Tryz.sizeOf464
  v198 := Tryz.zeroValue464
  t201 := Tryz.underlying467
  a201 := Tryz.isAgg467
  z201 := Tryz.sizeOf467
  v201 := Tryz.zeroValue467
  t226 := Tryz.underlying482
  a226 := Tryz.isAgg482
  z226 := Tryz.sizeOf482
  v226 := Tryz.zeroValue482
  t227 := Tryz.underlying483
  a227 := Tryz.isAgg483
  z227 := Tryz.sizeOf483
  v227 := Tryz.zeroValue483
  g0 := by kernel_rfl
  g6 := by kernel_rfl
  i0 := by kernel_rfl
  i3 := by kernel_rfl
  i4 := by kernel_rfl
  i5 := by kernel_rfl
  i9 := by kernel_rfl
  i21 := by kernel_rfl
  i31 := by kernel_rfl
  i40 := by kernel_rfl
  i46 := by kernel_rfl
  i49 := by kernel_rfl
  i51 := by kernel_rfl
  i141 := by kernel_rfl
  i152 := by kernel_rfl
  i154 := by kernel_rfl
  i193 := by kernel_rfl
  i194 := by kernel_rfl
  i196 := by kernel_rfl
  i198 := by kernel_rfl
  i201 := by kernel_rfl
  i226 := by kernel_rfl
  i227 := by kernel_rfl
  m0 := by kernel_rfl
  m6 := by kernel_rfl }
open Go.RowKit Go.Lib in
/-- strings.Fields on ASCII bytes. (The table: 'Lib.TabIs', as strings.TrimSpace's contract asks it.) (LAID: no walk: one application.) -/
theorem Tryz.strings_Fields_laid (s : ByteArray) (w : World) (hs : s.size < 4294967281) (hascii : ∀ (j : Nat) b, s.data.toList[j]? = some b → b.toNat < 128) (htab : Lib.TabIs Tryz.prog w "strings.asciiSpace" .u8 Lib.asciiSpaceTab) :
    Calls Tryz.prog 207 #[.string s] w fun e w' =>
      e = .returned (.slice (some ⟨w.heap.size, 0, none⟩) (Lib.fields s.data.toList).length (Lib.fields s.data.toList).length) ∧ w' = w.alloc (.cells ((Lib.fields s.data.toList).map fun l => Value.string ⟨l.toArray⟩).toArray 9) := Any.strings_Fields_laid Tryz.laysM157 s w hs hascii htab
def Tryz.lays107_ren : Go.Shelf.Ren := ⟨fun | 107 => 121 | 108 => 173 | n => n, fun | 28 => 90 | 3 => 3 | 4 => 4 | 0 => 0 | n => n, fun | n => n⟩
theorem Tryz.lays107 : Go.Proofs.Lays.n107 Tryz.prog Tryz.lays107_ren := {
  mixed := by kernel_rfl
  f107 := Tryz.func121.trans (congrArg some (by kernel_rfl))
  f108 := Tryz.func173.trans (congrArg some (by kernel_rfl))
  t0 := Tryz.underlying0
  a0 := Tryz.isAgg0
  z0 := Tryz.sizeOf0
  v0 := Tryz.zeroValue0
  t3 := Tryz.underlying3
  a3 := Tryz.isAgg3
  z3 := Tryz.sizeOf3
  v3 := Tryz.zeroValue3
  t4 := Tryz.underlying4
  a4 := Tryz.isAgg4
  z4 := Tryz.sizeOf4
  v4 := Tryz.zeroValue4
  t28 := Tryz.underlying90
  a28 := Tryz.isAgg90
  z28 := Tryz.sizeOf90
  v28 := Tryz.zeroValue90 }
open Go.Lib in
/-- slices.Contains at []int: "Contains reports whether v is present in s.": IT RETURNS 'elements.contains v'; the world is as it was. ITS CALLEE slices.Index IS MET BY ITS OWN CONTRACT OFF THE SHELF (lay that first): no loop is walked here. (LAID: no walk: one application.) -/
theorem Tryz.slices_Contains_int (b off n c : Nat) (zs : List Int) (x : Int) (w : World) (hz : n ≤ zs.length) (hbig : n ≤ 9223372036854775807) (hc : ∀ j, j < zs.length → w.cell? ⟨b, off + j, none⟩ = some (.int .i64 (zs.getD j 0))) :
    Calls Tryz.prog 121 #[.slice (some ⟨b, off, none⟩) n c, .int .i64 x] w fun e w' => e = .returned (.bool ((zs.take n).contains x)) ∧ w' = w := Any.slices_Contains_int Tryz.lays107 b off n c zs x w hz hbig hc
open Go.Lib in
/-- The same at a slice of length 0, a nil one too. (LAID: no walk: one application.) -/
theorem Tryz.slices_Contains_int_empty (a : Option Addr) (c : Nat) (x : Int) (w : World) :
    Calls Tryz.prog 121 #[.slice a 0 c, .int .i64 x] w fun e w' => e = .returned (.bool false) ∧ w' = w := Any.slices_Contains_int_empty Tryz.lays107 a c x w
def Tryz.lays110_ren : Go.Shelf.Ren := ⟨fun | 110 => 74 | 109 => 137 | n => n, fun | 31 => 154 | 9 => 9 | 4 => 4 | 3 => 3 | 0 => 0 | n => n, fun | n => n⟩
theorem Tryz.lays110 : Go.Proofs.Lays.n110 Tryz.prog Tryz.lays110_ren := {
  mixed := by kernel_rfl
  f109 := Tryz.func137.trans (congrArg some (by kernel_rfl))
  f110 := Tryz.func74.trans (congrArg some (by kernel_rfl))
  t0 := Tryz.underlying0
  a0 := Tryz.isAgg0
  z0 := Tryz.sizeOf0
  v0 := Tryz.zeroValue0
  t3 := Tryz.underlying3
  a3 := Tryz.isAgg3
  z3 := Tryz.sizeOf3
  v3 := Tryz.zeroValue3
  t4 := Tryz.underlying4
  a4 := Tryz.isAgg4
  z4 := Tryz.sizeOf4
  v4 := Tryz.zeroValue4
  t9 := Tryz.underlying9
  a9 := Tryz.isAgg9
  z9 := Tryz.sizeOf9
  v9 := Tryz.zeroValue9
  t31 := Tryz.underlying154
  a31 := Tryz.isAgg154
  z31 := Tryz.sizeOf154
  v31 := Tryz.zeroValue154 }
open Go.Lib in
/-- slices.Contains at []string: "Contains reports whether v is present in s.": IT RETURNS 'Lib.containsS (the elements) v', which is true just where v is among them ('Lib.containsS_iff'); the world is as it was. ITS CALLEE slices.Index IS MET BY ITS OWN CONTRACT OFF THE SHELF (lay that first): no loop is walked here. (LAID: no walk: one application.) -/
theorem Tryz.slices_Contains_string (b off n c : Nat) (zs : List ByteArray) (x : ByteArray) (w : World) (hz : n ≤ zs.length) (hbig : n ≤ 9223372036854775807) (hc : ∀ j, j < zs.length → w.cell? ⟨b, off + j, none⟩ = some (.string (zs.getD j ByteArray.empty))) :
    Calls Tryz.prog 74 #[.slice (some ⟨b, off, none⟩) n c, .string x] w fun e w' => e = .returned (.bool (Lib.containsS (zs.take n) x)) ∧ w' = w := Any.slices_Contains_string Tryz.lays110 b off n c zs x w hz hbig hc
open Go.Lib in
/-- The same at a slice of length 0, a nil one too. (LAID: no walk: one application.) -/
theorem Tryz.slices_Contains_string_empty (a : Option Addr) (c : Nat) (x : ByteArray) (w : World) :
    Calls Tryz.prog 74 #[.slice a 0 c, .string x] w fun e w' => e = .returned (.bool false) ∧ w' = w := Any.slices_Contains_string_empty Tryz.lays110 a c x w
open Go.RowKit Go.Sort in
/-- .. and plain. (LAID: no walk: one application.) -/
theorem Tryz.slices_Sort_int_none (p : Option Addr) (cap : Nat) (w : World) :
    Calls Tryz.prog 171 #[.slice p 0 cap] w fun e w' => e = .returned (.tuple #[]) ∧ w' = w := Any.slices_Sort_int_none Tryz.lays189 p cap w
end Go.Proofs
namespace Cr
open Go Go.Proofs
set_option maxRecDepth 100000
set_option maxHeartbeats 4000000
attribute [local irreducible] Calls

theorem bclone_ (a : Option Addr) (n c : Nat) (s : List UInt8) (W : World) (hs : Rd W (bytes a s)) (hn : s.length = n) (hlim : n ≤ 1073741824) :
    Calls Tryz.prog 48 #[.slice a n c] W (Ret fun v w => ∃ a' c', v = .slice a' n c' ∧ (a' = none ↔ a = none) ∧ n ≤ c' ∧ St W noF [own 5 1 a' c' (bv s)] w) := by
  have hS := St.start W
  cases a with
  | none =>
    have h0 : bv s = [] := hs.none_nil
    obtain rfl : n = 0 := by rw [← hn, ← bv_length s, h0]; rfl
    refine calls_C Tryz.func48 rfl Tryz.ntmps48 rfl ?_
    repeat (first | (refine G_id ?_; first | refine G_nil ?_ | refine G_plain rfl rfl ?_) | (refine X_id ?_; first | refine X_yl (Yl_move rfl rfl) rfl rfl ?_ | refine X_yl (Yl_assign rfl rfl) rfl rfl ?_ | refine X_yl (Yl_eqlNilSlice rfl rfl rfl) rfl rfl ?_) | (refine C_id ?_; first | refine C_seq ?_ | refine C_region ?_ | refine C_ret ?_ | refine C_cond_t rfl ?_) | (refine E_id ?_; first | refine E_code ?_ | refine E_then_ret ?_ | refine E_ret1 rfl (Rv_tmp rfl) (Ret.mk ?_)))
    refine ⟨none, 0, rfl, by simp, by omega, ?_⟩
    rw [h0]
    exact hS.own_none _ _ _
  | some ad =>
    refine calls_C Tryz.func48 rfl Tryz.ntmps48 rfl ?_
    repeat (first | (refine G_id ?_; first | refine G_nil ?_ | refine G_plain rfl rfl ?_) | (refine X_id ?_; first | refine X_yl (Yl_move rfl rfl) rfl rfl ?_ | refine X_yl (Yl_assign rfl rfl) rfl rfl ?_ | refine X_yl (Yl_eqlNilSlice rfl rfl rfl) rfl rfl ?_ | refine X_buildSlice rfl rfl rfl rfl rfl rfl rfl rfl hS (fun _ _ hS _ => ?_)) | (refine C_id ?_; first | refine C_seq ?_ | refine C_region ?_ | refine C_skip ?_ | refine C_cond_f rfl ?_) | (refine E_id ?_; first | refine E_code ?_))
    rename_i b w hb
    have hs := hs.below hb
    repeat (first | fail)
    refine X_append rfl rfl rfl rfl rfl hS rfl (by omega) hs (by simp [hn]) bv_one (by omega) (by simp only [maxLen]; omega) (fun a' c' w hS hc hnil => ?_)
    repeat (first | (refine G_id ?_; first | refine G_nil ?_ | refine G_plain rfl rfl ?_) | (refine X_id ?_; first | refine X_yl (Yl_assign rfl rfl) rfl rfl ?_) | (refine C_id ?_; first | refine C_ret ?_) | (refine E_id ?_; first | refine E_code ?_ | refine E_ret1 rfl (Rv_tmp rfl) (Ret.mk ?_)))
    refine ⟨a', c', by rw [Nat.zero_add], by rw [hnil]; simp, by omega, hS⟩
theorem bequal_ (a b : Option Addr) (n m c c' : Nat) (s t : List UInt8) (W : World) (ha : Rd W (bytes a s)) (hb : Rd W (bytes b t)) (hn : s.length = n) (hm : t.length = m) :
    Calls Tryz.prog 62 #[.slice a n c, .slice b m c'] W (Ret fun v w => v = .bool (decide (s = t)) ∧ W = w) := by
  refine calls_C Tryz.func62 rfl Tryz.ntmps62 rfl ?_
  repeat (first | (refine G_id ?_; first | refine G_nil ?_ | refine G_plain rfl rfl ?_) | (refine X_id ?_; first | refine X_yl (Yl_move rfl rfl) rfl rfl ?_ | refine X_yl (Yl_assign rfl rfl) rfl rfl ?_) | (refine C_id ?_; first | refine C_seq ?_ | refine C_region ?_) | (refine E_id ?_; first | refine E_code ?_))
  refine X_yl (Yl_bytesStr rfl rfl ha hn) rfl rfl ?_
  repeat (first | (refine G_id ?_; first | refine G_plain rfl rfl ?_) | (refine X_id ?_; first | refine X_yl (Yl_move rfl rfl) rfl rfl ?_))
  refine X_yl (Yl_bytesStr rfl rfl hb hm) rfl rfl ?_
  repeat (first | (refine G_id ?_; first | refine G_nil ?_ | refine G_plain rfl rfl ?_) | (refine X_id ?_; first | refine X_yl (Yl_assign rfl rfl) rfl rfl ?_ | refine X_yl (Yl_eqlStr rfl rfl rfl) rfl rfl ?_) | (refine C_id ?_; first | refine C_ret ?_) | (refine E_id ?_; first | refine E_code ?_ | refine E_ret1 rfl (Rv_tmp rfl) (Ret.mk ?_)))
  exact ⟨rfl, rfl⟩
end Cr
namespace Cr
open Go Go.Proofs
set_option maxRecDepth 100000
set_option maxHeartbeats 4000000
attribute [local irreducible] Calls

/-- A global variable's block, whole. -/
def glob (g : Nat) (cs : List Value) : Res := fun h => ∃ t fz, h = single g (.cells cs.toArray t fz)
theorem glob_var {P : Program} {w : World} {g : Nat} {cs : List Value} {n : String} (hg : P.globalNamed n = some g) (H : Rd w (glob g cs)) : w.var? P n = some cs.toArray := by
  obtain ⟨h, ⟨t, fz, rfl⟩, ha⟩ := H
  have hb := ha g _ (single_self _ _)
  unfold World.var?
  rw [hg]
  simp only [Option.bind_some]
  rw [hb]
theorem glob_of_var {P : Program} {w : World} {g : Nat} {cs : Array Value} {n : String} (hg : P.globalNamed n = some g) (H : w.var? P n = some cs) : Rd w (glob g cs.toList) := by
  unfold World.var? at H
  rw [hg] at H
  simp only [Option.bind_some] at H
  cases hb : w.heap[g]? with
  | none => rw [hb] at H; cases H
  | some o =>
    cases o with
    | cells c t fz =>
      rw [hb] at H
      obtain rfl : c = cs := by simpa using H
      refine ⟨single g (.cells c t fz), ⟨t, fz, by simp⟩, fun b o e => ?_⟩
      obtain ⟨rfl, rfl⟩ := of_single e
      exact hb
    | _ => rw [hb] at H; cases H
/-- What the library's number functions read: the powers of ten, the error of numbers too great. -/
def Lg (W : World) (F : Nat → Prop) : Prop := Ro W F (glob 5 (Lib.pow10Tab.map fun z => Value.int .u64 z)) ∧ ∃ tp p, Ro W F (glob 7 [.iface tp p])
theorem Lg.mono {W W' : World} {F F' : Nat → Prop} (H : Lg W F) (hm : ∀ r, Ro W F r → Ro W' F' r) : Lg W' F' := by
  obtain ⟨h1, tp, p, h2⟩ := H
  exact ⟨hm _ h1, tp, p, hm _ h2⟩
theorem itoa_ (n : Int) (W : World) (F : Nat → Prop) (hG : Lg W F) (h0 : -9223372036854775808 ≤ n) (h1 : n ≤ 9223372036854775807) :
    Calls Tryz.prog 209 #[.int .i64 n] W (Ret fun v w => v = .string (str (Lib.itoa n)) ∧ St W noF [] w) := by
  refine (Tryz.strconv_Itoa n h0 h1 W (glob_var (by kernel_rfl) hG.1.start)).mono ?_
  rintro e w ⟨rfl, k, os, rfl⟩
  refine ⟨_, rfl, rfl, (St.start W).below ⟨rfl, rfl, rfl, by simp [Sort.grow], fun j hj => ?_⟩⟩
  show (W.heap ++ os)[j]? = _
  rw [Array.getElem?_append_left hj]
theorem atoi_ (s : List UInt8) (W : World) (F : Nat → Prop) (hG : Lg W F) (hl : s.length ≤ 1099511627776) (hs : (∃ n, Lib.atoiAll s = .ok n) ∨ Lib.atoiAll s = .range) :
    Calls Tryz.prog 308 #[.string (str s)] W (Ret fun v w => (∃ n er, v = .tuple #[.int .i64 n, er] ∧ ((Lib.atoiAll s = .ok n ∧ er = .nilIface) ∨ (Lib.atoiAll s = .range ∧ ∃ t p, er = .iface t p))) ∧ St W noF [] w) := by
  have hz : (str s).size = s.length := str_size s
  have ht : (str s).data.toList = s := by simp [str]
  rcases hs with ⟨n, h⟩ | h
  · refine (Tryz.strconv_Atoi_ok (str s) (by omega) n (by rw [ht]; exact h) W).mono ?_
    rintro e w ⟨rfl, hw⟩
    refine ⟨_, rfl, ⟨n, _, rfl, .inl ⟨h, rfl⟩⟩, ?_⟩
    rcases hw with rfl | ⟨t, rfl⟩
    · exact St.start _
    · exact (St.start W).below (Lib.bytesWorld_below W _ t)
  · obtain ⟨tp, p, he⟩ := hG.2
    have hv := glob_var (P := Tryz.prog) (n := "strconv.ErrRange") (by kernel_rfl) he.start
    refine (Tryz.strconv_Atoi_range_var (str s) (by omega) (by rw [ht]; exact h) tp p W hv).mono ?_
    rintro e w ⟨N, rfl, _, _, hb⟩
    exact ⟨_, rfl, ⟨_, _, rfl, .inr ⟨h, _, _, rfl⟩⟩, (St.start W).below hb⟩
end Cr
namespace Go.Proofs.YtflbhldcnjmkkaaGreatDoor
open Go.ChangeShapes Go.WideShapes Go.ChangeAt Go.RowKit
set_option maxRecDepth 100000
def tab32 : List Int := [0, 1, 28, 2, 29, 14, 24, 3, 30, 22, 20, 15, 25, 17, 4, 8, 31, 27, 13, 23, 21, 19, 16, 7, 26, 12, 18, 6, 11, 5, 10, 9]
def tab64 : List Int := [0, 1, 56, 2, 57, 49, 28, 3, 61, 58, 42, 50, 38, 29, 17, 4, 62, 47, 59, 36, 45, 43, 51, 22, 53, 39, 33, 30, 24, 18, 12, 5, 63, 55, 48, 27, 60, 41, 37, 16, 46, 35, 44, 21, 52, 32, 23, 11, 54, 26, 40, 15, 34, 20, 31, 10, 25, 14, 19, 9, 13, 8, 7, 6]
def rangeText : List UInt8 := [118, 97, 108, 117, 101, 32, 111, 117, 116, 32, 111, 102, 32, 114, 97, 110, 103, 101]
def syntaxText : List UInt8 := [105, 110, 118, 97, 108, 105, 100, 32, 115, 121, 110, 116, 97, 120]
theorem errStar : "*" ++ "errors.errorString" = "*errors.errorString" := by decide
theorem errRow (u : TypeId) (h : Tryz.prog.typeName? 3 u = some "*errors.errorString") : u = 498 :=
  typeName_ptr_named (nm := "errors.errorString") (by rw [errStar]; kernel_rfl) (by kernel_rfl) (by decide) u (by rw [errStar]; exact h)
noncomputable def lowBlock : Nat := (World.holding Tryz.prog default ⟨#[], #[], []⟩).heap.size
def u8s (l : List Int) : List Value := l.map fun n => Value.int .u8 n
def spaces16 : List Value := [.int .u16 9, .int .u16 13, .int .u16 1, .int .u16 32, .int .u16 133, .int .u16 101, .int .u16 160, .int .u16 5760, .int .u16 5600, .int .u16 8192, .int .u16 8202, .int .u16 1, .int .u16 8232, .int .u16 8233, .int .u16 1, .int .u16 8239, .int .u16 8287, .int .u16 48, .int .u16 12288, .int .u16 12288, .int .u16 1]
/-- A world for a witness: the settled one, the listed variables as their initialisers lay them. -/
noncomputable def lawWorldE (os : Os) : World :=
  let w0 := World.holding Tryz.prog os ⟨#[.cells #[.string (Cr.str rangeText)] 500, .cells #[.string (Cr.str syntaxText)] 500, .cells spaces16.toArray 464, .cells #[.slice (some ⟨lowBlock + 2, 0, none⟩) 7 7, .slice none 0 0, .int .i64 2] 461], #[], []⟩
  { w0 with heap := ((((((((w0.heap.modify 8 (tabOf (u8s tab32))).modify 9 (tabOf (u8s tab64))).modify 5 (tabOf (Lib.pow10Tab.map fun z => Value.int .u64 z))).modify 7 (tabOf [.iface 498 (.pointer (some ⟨lowBlock, 0, none⟩))])).modify 6 (tabOf [.iface 498 (.pointer (some ⟨lowBlock + 1, 0, none⟩))])).modify 2 (tabOf [.pointer (some ⟨lowBlock + 3, 0, none⟩)])).modify 0 (tabOf (u8s Lib.asciiSpaceTab))).modify 3 (tabOf (Cr.ints .u32 Cr.roundL))).modify 1 (tabOf (Cr.ints .u32 Cr.firstL)) }
end Go.Proofs.YtflbhldcnjmkkaaGreatDoor
