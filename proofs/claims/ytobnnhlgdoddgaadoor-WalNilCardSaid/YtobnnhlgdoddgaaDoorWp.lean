/-
  The walk of this seat's proofs: slots by number ('Env'), one judgement for each form of code, one lemma for each operation that touches no memory. Over any program.
-/
import Derived.Test.YtobnnhlgdoddgaaDoorSl
import Derived.Test.YtobnnhlgdoddgaaDoorOrd
import Derived.RangeFuncLeaves
import Derived.RangeFuncCalls
import Derived.TacticsIn
namespace Cr
open Go

abbrev Env := List (Nat × Value)
def look : Env → Nat → Option Value
  | [], _ => none
  | (k, v) :: r, n => bif Nat.beq k n then some v else look r n
def ev (σ : Env) : Operand → Option Value
  | .tmp t => look σ t
  | .const v => some v
  | .global g => some (.pointer (some ⟨g, 0, none⟩))
  | .func f => some (.func (.func f) #[] #[])

/-- What a frame is in: its deferred calls; the round of a range over a function that it is (if it is one). -/
structure Md where
  ds : List Deferred
  ro : Option Nat
abbrev md0 : Md := ⟨[], none⟩
def Fc (m : Md) : Fence := { Fence.wide with round := m.ro }
theorem Fc_none {m : Md} (h : m.ro = none) : Fc m = Fence.wide := by unfold Fc; rw [h]; rfl
theorem Fc_fn (m : Md) (f : FuncId) : (Fc m).fn f := trivial
theorem Fc_depth (m : Md) {n : Nat} : (Fc m).depth.isSome = true → 1 ≤ n := fun h => by simp [Fc, Fence.wide] at h

/-- The frame's slots hold what σ says. -/
structure Fr (σ : Env) (N : Nat) (ds : Md) (a : Act) : Prop where
  size : a.tmps.size = N
  defers : a.defers = ds.ds
  at_ : ∀ n v, look σ n = some v → a.tmps[n]? = some v

theorem Fr.eval {σ : Env} {N : Nat} {ds : Md} {a : Act} (h : Fr σ N ds a) {x : Operand} {v : Value} (hx : ev σ x = some v) : a.eval x = v := by
  cases x with
  | tmp t => have := h.at_ t v hx; simp [Act.eval, this]
  | _ => simpa [ev, Act.eval] using hx
theorem look_cons_self (d : Nat) (v : Value) (σ : Env) : look ((d, v) :: σ) d = some v := by simp [look]
theorem look_cons_ne {d n : Nat} (v : Value) (σ : Env) (h : d ≠ n) : look ((d, v) :: σ) n = look σ n := by
  have : Nat.beq d n = false := by
    cases e : Nat.beq d n with
    | false => rfl
    | true => exact absurd (Nat.eq_of_beq_eq_true e) h
  simp [look, this]
theorem Fr.put {σ : Env} {N : Nat} {ds : Md} {a : Act} (h : Fr σ N ds a) {d : Nat} (hd : d < N) (v : Value) : Fr ((d, v) :: σ) N ds (a.put (some d) v) := by
  refine ⟨by simp [Act.put, h.size], h.defers, fun n u hu => ?_⟩
  by_cases e : d = n
  · subst e
    rw [look_cons_self] at hu
    simp only [Act.put]
    rw [Array.getElem?_setIfInBounds_self_of_lt (by rw [h.size]; exact hd)]
    exact hu
  · rw [look_cons_ne _ _ e] at hu
    simp only [Act.put]
    rw [Array.getElem?_setIfInBounds_ne e]
    exact h.at_ n u hu
theorem Fr.put_none {σ : Env} {N : Nat} {ds : Md} {a : Act} (h : Fr σ N ds a) (v : Value) : Fr σ N ds (a.put none v) := h
theorem lt_of_blt {a b : Nat} (h : Nat.blt a b = true) : a < b := Nat.le_of_ble_eq_true h
def subs (σ : Env) : Env → Prop
  | [] => True
  | (n, v) :: r => look σ n = some v ∧ subs σ r
theorem Fr.sub {σ σ' : Env} {N : Nat} {ds : Md} {a : Act} (h : Fr σ N ds a) (hs : subs σ σ') : Fr σ' N ds a := by
  refine ⟨h.size, h.defers, ?_⟩
  induction σ' with
  | nil => intro n v hv; cases hv
  | cons x r ih =>
    obtain ⟨k, u⟩ := x
    intro n v hv
    by_cases e : k = n
    · subst e; rw [look_cons_self] at hv; exact h.at_ _ _ (hs.1.trans hv)
    · rw [look_cons_ne _ _ e] at hv; exact ih hs.2 n v hv

/-! ### the judgements -/
section
variable (P : Program)
/-- One operation: then K. -/
structure X (o : Oper) (N : Nat) (ds : Md) (σ : Env) (w : World) (K : Env → World → Prop) : Prop where
  run : ∀ a, Fr σ N ds a → ∀ (K' : Act → World → Prop) (Q : Exit → Act → World → Prop), (∀ σ' w' a', Fr σ' N ds a' → K σ' w' → K' a' w') → o.wp P a w K' Q
/-- The operations of a region, in the text's order. -/
structure G (ops : Array Oper) (Q : Exit → Act → World → Prop) (l : List Oper) (N : Nat) (ds : Md) (σ : Env) (w : World) : Prop where
  run : ∀ a, Fr σ N ds a → wpListIn (Fc ds) 0 P ops Q l a w
/-- The operations of a region that draws its order, in an order of ours. -/
structure GO (ops : Array Oper) (K : Act → World → Prop) (ord : List (Nat × Bool)) (invs : Invs) (N : Nat) (ds : Md) (σ : Env) (w : World) : Prop where
  run : ∀ a, Fr σ N ds a → ∀ invs', (∀ p ∈ invs', p ∈ invs ∨ ∀ w, p.2 w) → wpOrd P ops K ord invs' a w
structure C (c : Code) (Q : Exit → Act → World → Prop) (N : Nat) (ds : Md) (σ : Env) (w : World) : Prop where
  run : ∀ a, Fr σ N ds a → c.wpIn (Fc ds) 0 P Q a w
end
structure E (Q : Exit → Act → World → Prop) (e : Exit) (N : Nat) (ds : Md) (σ : Env) (w : World) : Prop where
  run : ∀ a, Fr σ N ds a → Q e a w

section
variable {P : Program} {ops : Array Oper} {Q : Exit → Act → World → Prop} {N : Nat} {ds : Md} {σ : Env} {w : World} {rest : List Oper} {o : Oper}

theorem G_nil (h : E Q .normal N ds σ w) : G P ops Q [] N ds σ w := ⟨fun a ha => h.run a ha⟩
/-- The operation is no 'defer' statement. -/
def nodef : Op → Bool
  | .defer _ => false
  | _ => true
theorem op_in {a : Act} {K : Act → World → Prop} (hnd : nodef o.op = true) (h : o.wp P a w K Q) : o.wpIn (Fc ds) 0 P a w K Q := by
  have hsem : o.semAt (Fc ds).round a.eval = execOp a.eval o := Oper.semAt_eq _ _ _ fun c hc => by rw [hc] at hnd; cases hnd
  refine ⟨fun _ _ => trivial, ?_⟩
  rw [hsem]
  unfold Oper.wp at h
  generalize (execOp a.eval o).run P w = r at *
  cases r with
  | ok x w' =>
    cases x <;> simp only [Oper.upon] at h <;> simp only [Oper.uponIn] <;> first | exact h | skip
    case enter f args => exact ⟨Fc_depth ds, show CallsIn Fence.wide _ _ _ _ _ _ from callsIn_wide.2 (h.mono fun e w' he => by cases e <;> exact he)⟩
    case row r args => exact ⟨Fc_depth ds, fun c cs _ => by
      obtain ⟨v, w', hr, hs⟩ := h c cs
      exact ⟨v, w', hr, stepsIn_wide.2 hs⟩⟩
  | halt x w' => cases x <;> simp only [Oper.upon] at h <;> simp only [Oper.uponIn] <;> exact h
theorem G_plain (hg : o.guard = none) (hnd : nodef o.op = true) (h : X P o N ds σ w (fun σ' w' => G P ops Q rest N ds σ' w')) : G P ops Q (o :: rest) N ds σ w := ⟨fun a ha =>
  wpListIn_plain hg fun K hK => op_in hnd (h.run a ha K Q fun _ _ a' ha' hG => hK _ _ (hG.run a' ha'))⟩
theorem wanted_of {j d : Nat} {b b' : Bool} (hg : o.guard = some (j, b)) (hd : (ops[j]?).bind (·.dst) = some d) (hl : look σ d = some (.bool b')) {a : Act} (ha : Fr σ N ds a) : Region.wanted o (yielded ops a.tmps) = (b' == b) := by
  simp [Region.wanted, hg, yielded, hd, ha.at_ d _ hl]
theorem wanted_undef {j d : Nat} {b : Bool} (hg : o.guard = some (j, b)) (hd : (ops[j]?).bind (·.dst) = some d) (hl : look σ d = some undef) {a : Act} (ha : Fr σ N ds a) : Region.wanted o (yielded ops a.tmps) = false := by
  simp [Region.wanted, hg, yielded, hd, ha.at_ d _ hl, undef]
theorem G_yes {j d : Nat} {b : Bool} (hg : o.guard = some (j, b)) (hd : (ops[j]?).bind (·.dst) = some d) (hl : look σ d = some (.bool b)) (hnd : nodef o.op = true)
    (h : X P o N ds σ w (fun σ' w' => G P ops Q rest N ds σ' w')) : G P ops Q (o :: rest) N ds σ w := ⟨fun a ha => by
  unfold wpListIn
  rw [if_pos (by rw [wanted_of hg hd hl ha]; simp)]
  exact op_in hnd (h.run a ha _ Q fun _ _ a' ha' hG => hG.run a' ha')⟩
theorem G_no {j d t : Nat} {b b' : Bool} (hg : o.guard = some (j, b)) (hd : (ops[j]?).bind (·.dst) = some d) (hl : look σ d = some (.bool b')) (hb : (b' == b) = false) (ht : o.dst = some t) (hN : Nat.blt t N = true)
    (h : G P ops Q rest N ds ((t, undef) :: σ) w) : G P ops Q (o :: rest) N ds σ w := ⟨fun a ha => by
  unfold wpListIn
  rw [if_neg (by rw [wanted_of hg hd hl ha, hb]; simp), ht]
  exact ⟨fun _ _ => trivial, h.run _ (ha.put (lt_of_blt hN) _)⟩⟩
theorem G_no_undef {j d t : Nat} {b : Bool} (hg : o.guard = some (j, b)) (hd : (ops[j]?).bind (·.dst) = some d) (hl : look σ d = some undef) (ht : o.dst = some t) (hN : Nat.blt t N = true)
    (h : G P ops Q rest N ds ((t, undef) :: σ) w) : G P ops Q (o :: rest) N ds σ w := ⟨fun a ha => by
  unfold wpListIn
  rw [if_neg (by rw [wanted_undef hg hd hl ha]; simp), ht]
  exact ⟨fun _ _ => trivial, h.run _ (ha.put (lt_of_blt hN) _)⟩⟩

theorem Fr.recall {σ : Env} {N : Nat} {ds : Md} {a : Act} (h : Fr σ N ds a) {d : Nat} {v : Value} (hl : look σ d = some v) : Fr ((d, v) :: σ) N ds a := by
  refine ⟨h.size, h.defers, fun n u hu => ?_⟩
  by_cases e : d = n
  · subst e; rw [look_cons_self] at hu; exact h.at_ _ _ (hl.trans hu)
  · rw [look_cons_ne _ _ e] at hu; exact h.at_ n u hu
theorem G_split {d : Nat} {p : Prop} [Decidable p] (hl : look σ d = some (.bool (decide p))) {l : List Oper}
    (ht : p → G P ops Q l N ds ((d, .bool true) :: σ) w) (hf : ¬ p → G P ops Q l N ds ((d, .bool false) :: σ) w) : G P ops Q l N ds σ w := ⟨fun a ha => by
  by_cases h : p
  · exact (ht h).run a (ha.recall (by rw [hl]; simp [h]))
  · exact (hf h).run a (ha.recall (by rw [hl]; simp [h]))⟩
theorem G_split_bool {d : Nat} {b : Bool} (hl : look σ d = some (.bool b)) {l : List Oper}
    (ht : b = true → G P ops Q l N ds ((d, .bool true) :: σ) w) (hf : b = false → G P ops Q l N ds ((d, .bool false) :: σ) w) : G P ops Q l N ds σ w := ⟨fun a ha => by
  cases b
  · exact (hf rfl).run a (ha.recall hl)
  · exact (ht rfl).run a (ha.recall hl)⟩

/-- The operation yields v, and touches nothing. -/
structure Yl (P : Program) (o : Oper) (σ : Env) (w : World) (v : Value) : Prop where
  run : ∀ N ds a, Fr σ N ds a → (execOp a.eval o).run P w = .ok (.value v) w

theorem X_yl {v : Value} {d : Nat} {K : Env → World → Prop} (hy : Yl P o σ w v) (hd : o.dst = some d) (hN : Nat.blt d N = true) (h : K ((d, v) :: σ) w) : X P o N ds σ w K := ⟨fun a ha K' Q' hK => by
  unfold Oper.wp
  rw [hy.run N ds a ha]
  have := hK _ _ _ (ha.put (lt_of_blt hN) v) h
  rw [← hd] at this
  exact this⟩

/-! ### a region that draws its order -/
variable {K : Act → World → Prop} {invs : Invs} {r : List (Nat × Bool)} {i : Nat}
theorem GO_nil (h : E Q .normal N ds σ w) : GO P ops (Q .normal) [] invs N ds σ w := ⟨fun a ha _ _ => h.run a ha⟩
theorem GO_pure {v : Value} {d : Nat} (hi : ops[i]? = some o) (hg : o.guard = none) (hy : ∀ w, Yl P o σ w v) (hd : o.dst = some d) (hN : Nat.blt d N = true) (h : GO P ops K r invs N ds ((d, v) :: σ) w) : GO P ops K ((i, true) :: r) invs N ds σ w :=
  ⟨fun a ha invs' hs => ⟨o, v, fun _ => True, hi, .inl ⟨by simp [Region.wanted, hg], fun w _ => (hy w).run N ds a ha⟩, trivial, by
    rw [hd]; exact h.run _ (ha.put (lt_of_blt hN) v) _ fun p hp => by
      cases hp with
      | head => exact .inr fun _ => trivial
      | tail _ hp => exact hs p hp⟩⟩
theorem GO_read {v : Value} {d : Nat} (I : World → Prop) (hi : ops[i]? = some o) (hg : o.guard = none) (hI : I w) (hy : ∀ w, I w → Yl P o σ w v) (hd : o.dst = some d) (hN : Nat.blt d N = true)
    (h : GO P ops K r ((i, I) :: invs) N ds ((d, v) :: σ) w) : GO P ops K ((i, true) :: r) invs N ds σ w :=
  ⟨fun a ha invs' hs => ⟨o, v, I, hi, .inl ⟨by simp [Region.wanted, hg], fun w hw => (hy w hw).run N ds a ha⟩, hI, by
    rw [hd]; exact h.run _ (ha.put (lt_of_blt hN) v) _ fun p hp => by
      cases hp with
      | head => exact .inl (List.mem_cons_self ..)
      | tail _ hp => exact (hs p hp).imp (List.mem_cons_of_mem _) id⟩⟩
theorem GO_yes {j d' : Nat} {b : Bool} {v : Value} {d : Nat} (hi : ops[i]? = some o) (hg : o.guard = some (j, b)) (hj : (ops[j]?).bind (·.dst) = some d') (hl : look σ d' = some (.bool b)) (hy : ∀ w, Yl P o σ w v) (hd : o.dst = some d) (hN : Nat.blt d N = true)
    (h : GO P ops K r invs N ds ((d, v) :: σ) w) : GO P ops K ((i, true) :: r) invs N ds σ w :=
  ⟨fun a ha invs' hs => ⟨o, v, fun _ => True, hi, .inl ⟨by rw [wanted_of hg hj hl ha]; simp, fun w _ => (hy w).run N ds a ha⟩, trivial, by
    rw [hd]; exact h.run _ (ha.put (lt_of_blt hN) v) _ fun p hp => by
      cases hp with
      | head => exact .inr fun _ => trivial
      | tail _ hp => exact hs p hp⟩⟩
theorem GO_yes_read {j d' : Nat} {b : Bool} {v : Value} {d : Nat} (I : World → Prop) (hi : ops[i]? = some o) (hg : o.guard = some (j, b)) (hj : (ops[j]?).bind (·.dst) = some d') (hl : look σ d' = some (.bool b)) (hI : I w) (hy : ∀ w, I w → Yl P o σ w v) (hd : o.dst = some d) (hN : Nat.blt d N = true)
    (h : GO P ops K r ((i, I) :: invs) N ds ((d, v) :: σ) w) : GO P ops K ((i, true) :: r) invs N ds σ w :=
  ⟨fun a ha invs' hs => ⟨o, v, I, hi, .inl ⟨by rw [wanted_of hg hj hl ha]; simp, fun w hw => (hy w hw).run N ds a ha⟩, hI, by
    rw [hd]; exact h.run _ (ha.put (lt_of_blt hN) v) _ fun p hp => by
      cases hp with
      | head => exact .inl (List.mem_cons_self ..)
      | tail _ hp => exact (hs p hp).imp (List.mem_cons_of_mem _) id⟩⟩
theorem GO_no {j d' : Nat} {b b' : Bool} {d : Nat} (hi : ops[i]? = some o) (hg : o.guard = some (j, b)) (hj : (ops[j]?).bind (·.dst) = some d') (hl : look σ d' = some (.bool b')) (hb : (b' == b) = false) (hd : o.dst = some d) (hN : Nat.blt d N = true)
    (h : GO P ops K r invs N ds ((d, undef) :: σ) w) : GO P ops K ((i, true) :: r) invs N ds σ w :=
  ⟨fun a ha invs' hs => ⟨o, undef, fun _ => True, hi, .inr ⟨by rw [wanted_of hg hj hl ha, hb], rfl⟩, trivial, by
    rw [hd]; exact h.run _ (ha.put (lt_of_blt hN) undef) _ fun p hp => by
      cases hp with
      | head => exact .inr fun _ => trivial
      | tail _ hp => exact hs p hp⟩⟩
theorem GO_no_undef {j d' : Nat} {b : Bool} {d : Nat} (hi : ops[i]? = some o) (hg : o.guard = some (j, b)) (hj : (ops[j]?).bind (·.dst) = some d') (hl : look σ d' = some undef) (hd : o.dst = some d) (hN : Nat.blt d N = true)
    (h : GO P ops K r invs N ds ((d, undef) :: σ) w) : GO P ops K ((i, true) :: r) invs N ds σ w :=
  ⟨fun a ha invs' hs => ⟨o, undef, fun _ => True, hi, .inr ⟨by rw [wanted_undef hg hj hl ha], rfl⟩, trivial, by
    rw [hd]; exact h.run _ (ha.put (lt_of_blt hN) undef) _ fun p hp => by
      cases hp with
      | head => exact .inr fun _ => trivial
      | tail _ hp => exact hs p hp⟩⟩
theorem keepAll_spec {k : Nat} {w : World} : ∀ {invs : Invs}, keepAll ops k invs w → ∀ p ∈ invs, dep ops ops.size k p.1 = true ∨ p.2 w
  | [], _, _, hp => by cases hp
  | _ :: _, h, p, hp => by
    cases hp with
    | head => exact h.1
    | tail _ hp => exact keepAll_spec h.2 p hp
theorem GO_hard (hi : ops[i]? = some o) (hg : o.guard = none) (h : X P o N ds σ w (fun σ' w' => keepAll ops i invs w' ∧ GO P ops K r invs N ds σ' w')) : GO P ops K ((i, false) :: r) invs N ds σ w :=
  ⟨fun a ha invs' hs => by
    show wpOp P ops (onlyK K) i _ a w
    unfold wpOp
    simp only [hi]
    rw [if_pos (by simp [Region.wanted, hg])]
    exact .inl (h.run a ha _ _ fun σ' w' a' ha' ⟨hk, hG⟩ => ⟨fun p hp hd _ => by
      rcases hs p hp with hp | hp
      · exact (keepAll_spec hk p hp).resolve_left (by rw [hd]; simp)
      · exact hp w', hG.run a' ha' invs' hs⟩)⟩
theorem GO_hard_yes {j d' : Nat} {b : Bool} (hi : ops[i]? = some o) (hg : o.guard = some (j, b)) (hj : (ops[j]?).bind (·.dst) = some d') (hl : look σ d' = some (.bool b)) (h : X P o N ds σ w (fun σ' w' => keepAll ops i invs w' ∧ GO P ops K r invs N ds σ' w')) : GO P ops K ((i, false) :: r) invs N ds σ w :=
  ⟨fun a ha invs' hs => by
    show wpOp P ops (onlyK K) i _ a w
    unfold wpOp
    simp only [hi]
    rw [if_pos (by rw [wanted_of hg hj hl ha]; simp)]
    exact .inl (h.run a ha _ _ fun σ' w' a' ha' ⟨hk, hG⟩ => ⟨fun p hp hd _ => by
      rcases hs p hp with hp | hp
      · exact (keepAll_spec hk p hp).resolve_left (by rw [hd]; simp)
      · exact hp w', hG.run a' ha' invs' hs⟩)⟩
theorem GO_hard_no {j d' : Nat} {b b' : Bool} {d : Nat} (hi : ops[i]? = some o) (hg : o.guard = some (j, b)) (hj : (ops[j]?).bind (·.dst) = some d') (hl : look σ d' = some (.bool b')) (hb : (b' == b) = false) (hd : o.dst = some d) (hN : Nat.blt d N = true)
    (h : GO P ops K r invs N ds ((d, undef) :: σ) w) : GO P ops K ((i, false) :: r) invs N ds σ w :=
  ⟨fun a ha invs' hs => by
    show wpOp P ops (onlyK K) i _ a w
    unfold wpOp
    simp only [hi]
    rw [if_neg (by rw [wanted_of hg hj hl ha, hb]; simp), hd]
    exact ⟨fun _ _ _ h => h, h.run _ (ha.put (lt_of_blt hN) undef) invs' hs⟩⟩

/-! ### code -/
variable {x y : Code} {c : Operand}
theorem C_seq (h : C P x (Exit.then (y.wpIn (Fc ds) 0 P Q) Q) N ds σ w) : C P (.seq x y) Q N ds σ w := ⟨fun a ha => wpIn_seq (h.run a ha)⟩
theorem E_code (h : C P y Q N ds σ w) : E (Exit.then (y.wpIn (Fc ds) 0 P Q) Q) .normal N ds σ w := ⟨fun a ha => h.run a ha⟩
theorem C_region {id : Nat} {l : List Oper} (h : G P l.toArray Q l N ds σ w) : C P (.region id l.toArray false) Q N ds σ w := ⟨fun a ha => wpIn_region_lit (h.run a ha)⟩
theorem C_plain (hro : ds.ro = none) (h : ∀ a, Fr σ N ds a → x.wp P Q a w) : C P x Q N ds σ w := ⟨fun a ha => by rw [Fc_none hro]; exact wpIn_wide.2 (h a ha)⟩
theorem C_toPlain (hro : ds.ro = none) (h : C P x Q N ds σ w) : ∀ a, Fr σ N ds a → x.wp P Q a w := fun a ha => by have := h.run a ha; rw [Fc_none hro] at this; exact wpIn_wide.1 this
theorem C_label {l : Nat} (h : E Q .normal N ds σ w) : C P (.label l) Q N ds σ w := ⟨fun a ha => wpIn_label (h.run a ha)⟩
theorem C_scope (hro : ds.ro = none) (h : C P x (Exit.noGoto Q) N ds σ w) : C P (.scope x) Q N ds σ w := C_plain hro fun a ha => wp_scope_straight (C_toPlain hro h a ha)
theorem E_noGoto {e : Exit} (he : ∀ l, e ≠ .goto l) (h : E Q e N ds σ w) : E (Exit.noGoto Q) e N ds σ w := ⟨fun a ha => by cases e <;> first | exact h.run a ha | exact absurd rfl (he _)⟩
theorem C_ord {id : Nat} {l : List Oper} (ord : List (Nat × Bool)) (hm : P.follows .mixedOrders = true)
    (hB : (Region.noSelect l.toArray && (ord.length == l.toArray.size) && ordB l.toArray ord (Array.replicate l.toArray.size false)) = true)
    (hro : ds.ro = none) (h : GO P l.toArray (Q .normal) ord [] N ds σ w.drew) : C P (.region id l.toArray true) Q N ds σ w := C_plain hro fun a ha =>
  wp_region_ord ord hm hB (h.run a ha [] fun _ hp => by cases hp)
theorem C_skip (h : E Q .normal N ds σ w) : C P .skip Q N ds σ w := ⟨fun a ha => wpIn_skip (h.run a ha)⟩
theorem C_ret (h : E Q .ret N ds σ w) : C P .ret Q N ds σ w := ⟨fun a ha => wpIn_ret (h.run a ha)⟩
theorem C_exit {id : Nat} (h : E Q (.exit id) N ds σ w) : C P (.exit id) Q N ds σ w := ⟨fun a ha => wpIn_exit (h.run a ha)⟩
theorem C_block {id : Nat} (h : C P x (Exit.inBlock id Q) N ds σ w) : C P (.block id x) Q N ds σ w := ⟨fun a ha => wpIn_block (h.run a ha)⟩
theorem C_cond {b : Bool} (hc : ev σ c = some (.bool b)) (ht : b = true → C P x Q N ds σ w) (hf : b = false → C P y Q N ds σ w) : C P (.cond c x y) Q N ds σ w := ⟨fun a ha =>
  wpIn_cond_split (ha.eval hc) (fun h => (ht h).run a ha) (fun h => (hf h).run a ha)⟩
theorem C_cond_dec {p : Prop} [Decidable p] (hc : ev σ c = some (.bool (decide p))) (ht : p → C P x Q N ds σ w) (hf : ¬ p → C P y Q N ds σ w) : C P (.cond c x y) Q N ds σ w :=
  C_cond hc (fun h => ht (of_decide_eq_true h)) (fun h => hf (of_decide_eq_false h))
theorem C_cond_dt {p : Prop} [Decidable p] (hc : ev σ c = some (.bool (decide p))) (hp : p) (ht : C P x Q N ds σ w) : C P (.cond c x y) Q N ds σ w := C_cond_dec hc (fun _ => ht) (fun h => absurd hp h)
theorem C_cond_df {p : Prop} [Decidable p] (hc : ev σ c = some (.bool (decide p))) (hp : ¬ p) (hf : C P y Q N ds σ w) : C P (.cond c x y) Q N ds σ w := C_cond_dec hc (fun h => absurd h hp) (fun _ => hf)
theorem C_cond_t (hc : ev σ c = some (.bool true)) (ht : C P x Q N ds σ w) : C P (.cond c x y) Q N ds σ w := ⟨fun a ha => wpIn_cond_true (ha.eval hc) (ht.run a ha)⟩
theorem C_cond_f (hc : ev σ c = some (.bool false)) (hf : C P y Q N ds σ w) : C P (.cond c x y) Q N ds σ w := ⟨fun a ha => wpIn_cond_false (ha.eval hc) (hf.run a ha)⟩
theorem C_sub {σ' : Env} (hs : subs σ σ') (h : C P x Q N ds σ' w) : C P x Q N ds σ w := ⟨fun a ha => h.run a (ha.sub hs)⟩
theorem wpIn_loop_ghost {α : Type} {F : Fence} {n : Nat} {body : Code} {a : Act} (I : α → Act → World → Prop) (μ : α → Nat) (z0 : α) (h0 : I z0 a w)
    (round : ∀ z a w, I z a w → body.wpIn F n P (Exit.then (fun a' w' => ∃ z', I z' a' w' ∧ μ z' < μ z) Q) a w) : (Code.loop body).wpIn F n P Q a w := by
  intro b k cs hro hb hr
  have key : ∀ j z a w, μ z = j → I z a w →
      ∃ e a' w', Q e a' w' ∧ ArrivesIn (Machine.fenced P F) P (lone (b.atR a (.code body :: .inLoop body :: k)) cs w) b k cs e a' w' := by
    intro j
    induction j using Nat.strongRecOn with
    | _ j ih =>
      intro z a w hn hI
      obtain ⟨e, a1, w1, hq, harr⟩ := round z a w hI b (.inLoop body :: k) cs hro hb hr
      cases e with
      | normal =>
        obtain ⟨z', hI', hlt⟩ := hq
        obtain ⟨e2, a2, w2, hq2, harr2⟩ := ih (μ z') (hn ▸ hlt) z' a1 w1 rfl hI'
        exact ⟨e2, a2, w2, hq2, .of_steps (StepsIn.trans harr (.one (fenced_calm hb hr rfl) stepR_inLoop)) harr2⟩
      | exit id => exact ⟨_, a1, w1, hq, .pass (x := .inLoop body) rfl (fun _ _ => .inl (by simp)) harr⟩
      | goto l => exact ⟨_, a1, w1, hq, .pass (x := .inLoop body) rfl (fun _ _ => .inl (by simp)) harr⟩
      | ret => exact ⟨_, a1, w1, hq, .pass (x := .inLoop body) rfl (fun _ _ => .inl (by simp)) harr⟩
      | panic ch => exact ⟨_, a1, w1, hq, .pass (x := .inLoop body) rfl (fun _ _ => .inl (by simp)) harr⟩
      | outgrown => exact ⟨_, a1, w1, hq, .pass (x := .inLoop body) rfl (fun _ _ => .inl (by simp)) harr⟩
  obtain ⟨e, a', w', hq, harr⟩ := key _ z0 a w rfl h0
  exact ⟨e, a', w', hq, .of_steps (.one (fenced_calm hb hr rfl) stepR_loop) harr⟩
theorem C_loop {α : Type} (S : α → Env) (R : α → World → Prop) (μ : α → Nat) (x0 : α) (hσ : subs σ (S x0)) (hR : R x0 w)
    (round : ∀ z w, R z w → C P x (Exit.then (fun a' w' => ∃ z', (Fr (S z') N ds a' ∧ R z' w') ∧ μ z' < μ z) Q) N ds (S z) w) : C P (.loop x) Q N ds σ w := ⟨fun _ ha =>
  wpIn_loop_ghost (fun z a w => Fr (S z) N ds a ∧ R z w) μ x0 ⟨ha.sub hσ, hR⟩ fun z a w ⟨hF, hR⟩ => (round z w hR).run a hF⟩
theorem E_round {α : Type} {S : α → Env} {R : α → World → Prop} {μ : α → Nat} {z : α} (z' : α) (hσ : subs σ (S z')) (hR : R z' w) (hμ : μ z' < μ z) :
    E (Exit.then (fun a' w' => ∃ z', (Fr (S z') N ds a' ∧ R z' w') ∧ μ z' < μ z) Q) .normal N ds σ w := ⟨fun _ ha => ⟨z', ⟨ha.sub hσ, hR⟩, hμ⟩⟩

theorem E_then_ret {K : Act → World → Prop} (h : E Q .ret N ds σ w) : E (Exit.then K Q) .ret N ds σ w := ⟨h.run⟩
theorem E_then_exit {K : Act → World → Prop} {id : Nat} (h : E Q (.exit id) N ds σ w) : E (Exit.then K Q) (.exit id) N ds σ w := ⟨h.run⟩
theorem E_blk_n {id : Nat} (h : E Q .normal N ds σ w) : E (Exit.inBlock id Q) .normal N ds σ w := ⟨h.run⟩
theorem E_blk_ret {id : Nat} (h : E Q .ret N ds σ w) : E (Exit.inBlock id Q) .ret N ds σ w := ⟨h.run⟩
theorem E_blk_same {id : Nat} (h : E Q .normal N ds σ w) : E (Exit.inBlock id Q) (.exit id) N ds σ w := ⟨fun a ha => by
  simp only [Exit.inBlock, if_true]; exact h.run a ha⟩
theorem E_blk_ne {id id' : Nat} (hne : (id' == id) = false) (h : E Q (.exit id') N ds σ w) : E (Exit.inBlock id Q) (.exit id') N ds σ w := ⟨fun a ha => by
  have : id' ≠ id := by simpa using hne
  simp only [Exit.inBlock, if_neg this]; exact h.run a ha⟩

/-! ### a function's entry and its end -/
def enum : Nat → List Value → Env
  | _, [] => []
  | n, v :: l => (n, v) :: enum (n + 1) l
theorem look_enum : ∀ (l : List Value) (n k : Nat) (v : Value), look (enum n l) k = some v → n ≤ k ∧ l[k - n]? = some v
  | [], _, _, _, h => by cases h
  | u :: l, n, k, v, h => by
    by_cases e : n = k
    · subst e; rw [enum, look_cons_self] at h; simp at h; simp [h]
    · rw [enum, look_cons_ne _ _ e] at h
      obtain ⟨h1, h2⟩ := look_enum l (n + 1) k v h
      refine ⟨by omega, ?_⟩
      rw [show k - n = (k - (n + 1)) + 1 by omega]; simpa using h2
/-- What a function's body must achieve: R at its end, deferred calls and marks taken in. -/
abbrev BP (P : Program) (fn : Func) (R : Ending → World → Prop) : Exit → Act → World → Prop := bodyPostM (Fc md0) 0 P fn R
theorem enum_fr {fn : Func} {args : List Value} (hN : fn.ntmps = N) (hl : Nat.ble args.length N = true) : Fr (enum 0 args) N md0 { tmps := args.toArray ++ Array.replicate (fn.ntmps - args.toArray.size) undef, defers := [] } := by
  refine ⟨?_, rfl, fun n v hv => ?_⟩
  · have : args.length ≤ N := Nat.le_of_ble_eq_true hl
    simp [hN]; omega
  · obtain ⟨_, h2⟩ := look_enum args 0 n v hv
    have hlt : n < args.length := by
      rcases Nat.lt_or_ge n args.length with h | h
      · exact h
      · rw [List.getElem?_eq_none (by omega)] at h2; cases h2
    simp only [Nat.sub_zero] at h2
    simp [Array.getElem?_append, hlt, ← h2]
theorem calls_C {f : FuncId} {fn : Func} {body : Code} {args : List Value} {R : Ending → World → Prop} (hf : P.funcs[f]? = some fn) (hb : fn.body = some body) (hN : fn.ntmps = N) (hl : Nat.ble args.length N = true)
    (h : C P body (BP P fn R) N md0 (enum 0 args) w) : Calls P f args.toArray w R :=
  (callsIn_wide (n := 0)).1 (callsIn_of_wp_marks (F := Fence.wide) hf hb trivial (h.run _ (enum_fr hN hl)) rfl)

def Rv (P : Program) (σ : Env) (w : World) : ResultVar → Value → Prop
  | .tmp t, v => look σ t = some v
  | .cell t ty, v => ∃ a, look σ t = some (.pointer (some a)) ∧ (loadVar ty a).run P w = .ok v w
theorem Rv_tmp {t : Nat} {v : Value} (h : look σ t = some v) : Rv P σ w (.tmp t) v := h
theorem Rv_cell {t : Nat} {ty : TypeId} {v : Value} {a : Addr} (h : look σ t = some (.pointer (some a))) (hl : (loadVar ty a).run P w = .ok v w) : Rv P σ w (.cell t ty) v := ⟨a, h, hl⟩
def rvSem (tmps : Array Value) : ResultVar → Sem Value
  | .tmp t => pure (tmps.getD t undef)
  | .cell a t => do loadVar t (← asAddr (tmps.getD a undef))
theorem results_eq (fn : Func) (tmps : Array Value) : results fn tmps = (do
    let vs ← fn.results.mapM (rvSem tmps)
    pure (if h : vs.size = 1 then vs[0] else .tuple vs)) := rfl
theorem Rv.run {rv : ResultVar} {v : Value} (h : Rv P σ w rv v) {a : Act} (ha : Fr σ N ds a) : (rvSem a.tmps rv).run P w = .ok v w := by
  cases rv with
  | tmp t => have := ha.at_ t v h; simp [rvSem, this]
  | cell t ty =>
    obtain ⟨ad, h1, h2⟩ := h
    have := ha.at_ t _ h1
    simp [rvSem, this, asAddr, h2]
theorem BP_end {fn : Func} {R : Ending → World → Prop} {a : Act} {v : Value} (ha : a.defers = []) (hr : (results fn a.tmps).run P w = .ok v w) (hR : R (.returned v) w) : BP P fn R .ret a w ∧ BP P fn R .normal a w := by
  have : LeavesInM (Fc md0) 0 P fn a.tmps R a.defers .returning w := by rw [ha]; exact ⟨v, hr, hR⟩
  exact ⟨this, this⟩
theorem E_ret0 {fn : Func} {R : Ending → World → Prop} (h : fn.results = #[]) (hR : R (.returned (.tuple #[])) w) : E (BP P fn R) .ret N md0 σ w :=
  ⟨fun _ ha => (BP_end ha.defers (by simp [results, h]) hR).1⟩
theorem E_end0 {fn : Func} {R : Ending → World → Prop} (h : fn.results = #[]) (hR : R (.returned (.tuple #[])) w) : E (BP P fn R) .normal N md0 σ w :=
  ⟨fun _ ha => (BP_end ha.defers (by simp [results, h]) hR).2⟩
theorem E_ret1 {fn : Func} {R : Ending → World → Prop} {r0 : ResultVar} {v0 : Value} (h : fn.results = #[r0]) (h0 : Rv P σ w r0 v0) (hR : R (.returned v0) w) : E (BP P fn R) .ret N md0 σ w :=
  ⟨fun a ha => (BP_end ha.defers (by rw [results_eq, h]; have e0 := h0.run ha; simp [e0]) hR).1⟩
theorem E_ret2 {fn : Func} {R : Ending → World → Prop} {r0 r1 : ResultVar} {v0 v1 : Value} (h : fn.results = #[r0, r1]) (h0 : Rv P σ w r0 v0) (h1 : Rv P σ w r1 v1) (hR : R (.returned (.tuple #[v0, v1])) w) : E (BP P fn R) .ret N md0 σ w :=
  ⟨fun a ha => (BP_end ha.defers (by rw [results_eq, h]; have e0 := h0.run ha; have e1 := h1.run ha; simp [e0, e1]) hR).1⟩
theorem E_ret3 {fn : Func} {R : Ending → World → Prop} {r0 r1 r2 : ResultVar} {v0 v1 v2 : Value} (h : fn.results = #[r0, r1, r2]) (h0 : Rv P σ w r0 v0) (h1 : Rv P σ w r1 v1) (h2 : Rv P σ w r2 v2) (hR : R (.returned (.tuple #[v0, v1, v2])) w) : E (BP P fn R) .ret N md0 σ w :=
  ⟨fun a ha => (BP_end ha.defers (by rw [results_eq, h]; have e0 := h0.run ha; have e1 := h1.run ha; have e2 := h2.run ha; simp [e0, e1, e2]) hR).1⟩
theorem E_ret4 {fn : Func} {R : Ending → World → Prop} {r0 r1 r2 r3 : ResultVar} {v0 v1 v2 v3 : Value} (h : fn.results = #[r0, r1, r2, r3]) (h0 : Rv P σ w r0 v0) (h1 : Rv P σ w r1 v1) (h2 : Rv P σ w r2 v2) (h3 : Rv P σ w r3 v3) (hR : R (.returned (.tuple #[v0, v1, v2, v3])) w) : E (BP P fn R) .ret N md0 σ w :=
  ⟨fun a ha => (BP_end ha.defers (by rw [results_eq, h]; have e0 := h0.run ha; have e1 := h1.run ha; have e2 := h2.run ha; have e3 := h3.run ha; simp [e0, e1, e2, e3]) hR).1⟩
theorem E_ret5 {fn : Func} {R : Ending → World → Prop} {r0 r1 r2 r3 r4 : ResultVar} {v0 v1 v2 v3 v4 : Value} (h : fn.results = #[r0, r1, r2, r3, r4]) (h0 : Rv P σ w r0 v0) (h1 : Rv P σ w r1 v1) (h2 : Rv P σ w r2 v2) (h3 : Rv P σ w r3 v3) (h4 : Rv P σ w r4 v4) (hR : R (.returned (.tuple #[v0, v1, v2, v3, v4])) w) : E (BP P fn R) .ret N md0 σ w :=
  ⟨fun a ha => (BP_end ha.defers (by rw [results_eq, h]; have e0 := h0.run ha; have e1 := h1.run ha; have e2 := h2.run ha; have e3 := h3.run ha; have e4 := h4.run ha; simp [e0, e1, e2, e3, e4]) hR).1⟩
end
end Cr
