/-
  A statement whose order of evaluation Go leaves open, walked in ONE order of our choice: operations that touch no memory, or only read what the others leave alone, may be taken first.
-/
import Derived.WalkKit
import Derived.StillTail
namespace Cr
open Go

def onlyK (K : Act → World → Prop) : Exit → Act → World → Prop
  | .normal, a, w => K a w
  | _, _, _ => False

section
variable {P : Program} {ops : Array Oper}

theorem upon_weaken {o : Oper} {a : Act} {K : Act → World → Prop} {Q Q' : Exit → Act → World → Prop} (hq : ∀ e a w, Q e a w → Q' e a w) {r : Result Next}
    (h : o.upon P a K Q r) : o.upon P a K Q' r := by
  cases r with
  | ok n w =>
    cases n <;> simp only [Oper.upon] at h ⊢ <;> first | exact h | skip
    exact h.mono fun e w' he => by cases e <;> first | exact he | exact hq _ _ _ he | (obtain ⟨a, w, h⟩ := he; exact ⟨a, w, hq _ _ _ h⟩)
  | halt x w => cases x <;> simp only [Oper.upon] at h ⊢ <;> first | exact h | exact hq _ _ _ h
theorem wpOp_weaken {i : Nat} {a : Act} {w : World} {K : Act → World → Prop} {Q Q' : Exit → Act → World → Prop} (hq : ∀ e a w, Q e a w → Q' e a w)
    (h : wpOp P ops Q i K a w) : wpOp P ops Q' i K a w := by
  unfold wpOp at *
  split
  · rename_i ho; simpa [ho] using h
  · rename_i o ho
    simp only [ho] at h
    split
    · rename_i hw; simp only [hw, if_true] at h
      exact h.imp (upon_weaken hq) fun ⟨x, a, w, y⟩ => ⟨x, a, w, hq _ _ _ y⟩
    · rename_i hw; simp only [hw] at h; exact h
theorem wpAny_weaken {md : Region.Mode} {Q Q' : Exit → Act → World → Prop} (hq : ∀ e a w, Q e a w → Q' e a w) : ∀ (fuel : Nat) (listed : Array Bool) (a : Act) (w : World),
    wpAny P md ops Q fuel listed a w → wpAny P md ops Q' fuel listed a w
  | 0, _, _, _, h => ⟨h.1, hq _ _ _ h.2⟩
  | fuel + 1, _, _, _, h => ⟨fun h0 => hq _ _ _ (h.1 h0), fun i hi => wpOp_mono (fun a' w' => wpAny_weaken hq fuel _ a' w') (wpOp_weaken hq (h.2 i hi))⟩

/-- The operation yields v, in whatever world that meets I; the world stays. -/
def SoftAt (P : Program) (ops : Array Oper) (o : Oper) (v : Value) (I : World → Prop) (a : Act) : Prop :=
  (Region.wanted o (yielded ops a.tmps) = true ∧ ∀ w, I w → (execOp a.eval o).run P w = .ok (.value v) w) ∨ (Region.wanted o (yielded ops a.tmps) = false ∧ v = undef)

theorem SoftAt.of_same {o : Oper} {v : Value} {I : World → Prop} {a a' : Act} (hy : SoftAt P ops o v I a) (he : execOp a'.eval o = execOp a.eval o)
    (hw : Region.wanted o (yielded ops a'.tmps) = Region.wanted o (yielded ops a.tmps)) : SoftAt P ops o v I a' := by
  unfold SoftAt at *
  rw [he, hw]; exact hy

theorem SoftAt.wpOp {i : Nat} {o : Oper} {v : Value} {I : World → Prop} {a : Act} {w : World} {Q : Exit → Act → World → Prop} (hi : ops[i]? = some o) (hy : SoftAt P ops o v I a) (hI : I w) {K : Act → World → Prop}
    (h : K (a.put o.dst v) w) : wpOp P ops Q i K a w := by
  unfold Go.wpOp
  simp only [hi]
  rcases hy with ⟨hw, hv⟩ | ⟨hw, rfl⟩
  · simp only [hw, if_true, Oper.wp, hv w hI, Oper.upon]; exact .inl h
  · simp only [hw, Bool.false_eq_true, if_false]; exact h

theorem wpOp_put {j : Nat} {oi oj : Oper} {v : Value} {I : World → Prop} (hj : ops[j]? = some oj) (hap : oi.apart ops oj = true)
    (hsi : ∀ cs b, oi.op ≠ .select cs b) (hsj : ∀ cs b, oj.op ≠ .select cs b) {K K0 : Act → World → Prop} {a : Act} {w : World}
    (hy : SoftAt P ops oi v I a) (h : wpOp P ops (onlyK K0) j K (a.put oi.dst v) w) :
    wpOp P ops (onlyK K0) j (fun a' w' => SoftAt P ops oi v I a' ∧ K (a'.put oi.dst v) w') a w := by
  obtain ⟨h1, h2, h3⟩ := Oper.apart_spec hap
  have keep : ∀ (a : Act), SoftAt P ops oi v I a → ∀ u, SoftAt P ops oi v I (a.put oj.dst u) := fun a hy u =>
    hy.of_same (execOp_put oi hsi a oj.dst u h3) (wanted_put oi a oj.dst u h3)
  unfold wpOp at *
  simp only [hj] at *
  rw [wanted_put oj a oi.dst v h1] at h
  have nolet : ¬ LetsOut (onlyK K0) := fun ⟨_, _, h⟩ => h
  split
  · rename_i hw
    simp only [hw, if_true] at h
    rcases h with h | h
    · left
      unfold Oper.wp at *
      rw [execOp_put oj hsj a oi.dst v h1] at h
      generalize (execOp a.eval oj).run P w = r at *
      cases r with
      | ok n w' =>
        cases n <;> simp only [Oper.upon] at h ⊢
        case value u => exact ⟨keep a hy u, by rw [← Act.put_comm a v u h2]; exact h⟩
        case skip => exact ⟨keep a hy _, by rw [← Act.put_comm a v undef h2]; exact h⟩
        case defer d =>
          refine ⟨?_, ?_⟩
          · have hd : SoftAt P ops oi v I { a with defers := d :: a.defers } := hy
            exact keep _ hd _
          · have e : ({ a.put oi.dst v with defers := d :: (a.put oi.dst v).defers } : Act) = ({ a with defers := d :: a.defers } : Act).put oi.dst v := by
              cases oi.dst <;> rfl
            rw [e] at h
            rw [← Act.put_comm _ v undef h2]; exact h
        case enter f args =>
          exact h.mono fun e w'' he => by
            cases e with
            | returned u => exact ⟨keep a hy u, by rw [← Act.put_comm a v u h2]; exact he⟩
            | panicked c => exact he
            | outgrown => exact he
        case row r args => exact h.mono fun u w'' he => ⟨keep a hy u, by rw [← Act.put_comm a v u h2]; exact he⟩
      | halt x w' => cases x <;> simp only [Oper.upon] at h ⊢ <;> exact h
    · exact (nolet h.2).elim
  · rename_i hw
    simp only [hw] at h
    exact ⟨keep a hy _, by rw [← Act.put_comm a v undef h2]; exact h⟩

/-- Does j wait for i, at some removes? -/
def dep (ops : Array Oper) : Nat → Nat → Nat → Bool
  | 0, _, _ => false
  | n + 1, j, i => match ops[j]? with
    | none => false
    | some o => o.after.any fun e => Region.binds .any e && (e.on == i || dep ops n e.on i)

abbrev Invs := List (Nat × (World → Prop))
/-- What an operation k must leave standing. -/
def keepAll (ops : Array Oper) (k : Nat) : Invs → World → Prop
  | [], _ => True
  | (i, I) :: r, w => (dep ops ops.size k i = true ∨ I w) ∧ keepAll ops k r w
def allHold : Invs → World → Prop
  | [], _ => True
  | (_, I) :: r, w => I w ∧ allHold r w

def wpAnyI (P : Program) (ops : Array Oper) (K : Act → World → Prop) : Nat → Array Bool → Invs → Act → World → Prop
  | 0, listed, _, a, w => Region.ready .any ops listed = [] ∧ K a w
  | f + 1, listed, invs, a, w =>
    (Region.ready .any ops listed = [] → K a w) ∧
    ∀ i ∈ Region.ready .any ops listed, wpOp P ops (onlyK K) i (fun a' w' => (∀ p ∈ invs, dep ops ops.size i p.1 = false → p.2 w → p.2 w') ∧ wpAnyI P ops K f (listed.setIfInBounds i true) invs a' w') a w

theorem wpAnyI_less {K : Act → World → Prop} {invs invs' : Invs} (hs : ∀ p ∈ invs', p ∈ invs) : ∀ (f : Nat) (listed : Array Bool) (a : Act) (w : World), wpAnyI P ops K f listed invs a w → wpAnyI P ops K f listed invs' a w
  | 0, _, _, _, h => h
  | f + 1, _, _, _, h => ⟨h.1, fun i hi => wpOp_mono (fun a' w' ⟨h1, h2⟩ => ⟨fun p hp => h1 p (hs p hp), wpAnyI_less hs f _ a' w' h2⟩) (h.2 i hi)⟩
theorem wpAny_of_I {K : Act → World → Prop} {invs : Invs} : ∀ (f : Nat) (listed : Array Bool) (a : Act) (w : World), wpAnyI P ops K f listed invs a w → wpAny P .any ops (onlyK K) f listed a w
  | 0, _, _, _, h => h
  | f + 1, _, _, _, h => ⟨h.1, fun i hi => wpOp_mono (fun a' w' h' => wpAny_of_I f _ a' w' h'.2) (h.2 i hi)⟩

def Closed (ops : Array Oper) (listed : Array Bool) : Prop :=
  ∀ j oj, ops[j]? = some oj → listed.getD j false = true → ∀ e ∈ oj.after, Region.binds .any e = true → listed.getD e.on false = true
theorem Closed.set {i : Nat} {listed : Array Bool} (inv : Closed ops listed) (hi : i ∈ Region.ready .any ops listed) : Closed ops (listed.setIfInBounds i true) := by
  obtain ⟨_, oi, hoi, hall⟩ := mem_ready.1 hi
  intro j oj hj hl e he hb
  by_cases hij : i = j
  · subst hij
    have : oj = oi := Option.some.inj (hj.symm.trans hoi)
    subst this
    exact getD_set_true (hall e he hb)
  · rw [getD_set_ne false hij] at hl
    exact getD_set_true (inv j oj hj hl e he hb)
theorem dep_listed {listed : Array Bool} (inv : Closed ops listed) {i : Nat} : ∀ (n j : Nat) (o : Oper), ops[j]? = some o → (∀ e ∈ o.after, Region.binds .any e = true → listed.getD e.on false = true) →
    dep ops n j i = true → listed.getD i false = true
  | 0, _, _, _, _, h => by cases h
  | n + 1, j, o, ho, hall, h => by
    simp only [dep, ho] at h
    obtain ⟨e, he, h2⟩ := Array.any_eq_true'.1 h
    simp only [Bool.and_eq_true, Bool.or_eq_true, beq_iff_eq] at h2
    have hl := hall e he h2.1
    rcases h2.2 with h3 | h3
    · rw [← h3]; exact hl
    · cases ho' : ops[e.on]? with
      | none => cases n <;> simp [dep, ho'] at h3
      | some o' => exact dep_listed inv n e.on o' ho' (fun e' he' hb' => inv e.on o' ho' hl e' he' hb') h3
theorem dep_of_ready {listed : Array Bool} (inv : Closed ops listed) {i j : Nat} (hj : j ∈ Region.ready .any ops listed) (hi : listed.getD i true = false) (n : Nat) : dep ops n j i = false := by
  obtain ⟨_, o, ho, hall⟩ := mem_ready.1 hj
  cases h : dep ops n j i with
  | false => rfl
  | true => have := dep_listed inv n j o ho hall h; rw [getD_both hi] at this; cases this

theorem wpAnyI_first {K : Act → World → Prop} {i : Nat} {oi : Oper} {v : Value} {I : World → Prop} (hi : ops[i]? = some oi) (hsel : ∀ (j : Nat) (o : Oper) cs b, ops[j]? = some o → o.op ≠ .select cs b) :
    ∀ (fuel : Nat) (listed : Array Bool) (invs : Invs) (a : Act) (w : World), Closed ops listed →
      (∀ j oj, ops[j]? = some oj → j ≠ i → listed.getD j true = false → (∀ e ∈ oj.after, Region.binds .any e = true → e.on ≠ i) → oi.apart ops oj = true) →
      i ∈ Region.ready .any ops listed → SoftAt P ops oi v I a → I w →
      wpAnyI P ops K fuel (listed.setIfInBounds i true) ((i, I) :: invs) (a.put oi.dst v) w → wpAnyI P ops K (fuel + 1) listed invs a w := by
  intro fuel
  induction fuel with
  | zero =>
    intro listed invs a w inv _ hr hy hI H
    refine ⟨fun h => (by rw [h] at hr; cases hr), fun j hj => ?_⟩
    by_cases hji : j = i
    · subst hji; exact hy.wpOp hi hI ⟨fun _ _ _ h => h, H⟩
    · have := ready_mono hj hji
      rw [H.1] at this
      cases this
  | succ fuel ih =>
    intro listed invs a w inv hfree hr hy hI H
    refine ⟨fun h => (by rw [h] at hr; cases hr), fun j hj => ?_⟩
    by_cases hji : j = i
    · subst hji; exact hy.wpOp hi hI ⟨fun _ _ _ h => h, wpAnyI_less (fun p hp => List.mem_cons_of_mem _ hp) _ _ _ _ H⟩
    · have h1 := H.2 j (ready_mono hj hji)
      obtain ⟨hjun, oj, hoj, hall⟩ := mem_ready.1 hj
      have hun := (mem_ready.1 hr).1
      have hnot : ∀ e ∈ oj.after, Region.binds .any e = true → e.on ≠ i := fun e he hb heq => by
        have h1 := hall e he hb
        rw [heq, getD_both hun] at h1
        cases h1
      have hdep : dep ops ops.size j i = false := dep_of_ready inv hj hun _
      have h2 := wpOp_put hoj (hfree j oj hoj hji hjun hnot) (fun cs b => hsel i oi cs b hi) (fun cs b => hsel j oj cs b hoj) hy h1
      have hfree' : ∀ k ok, ops[k]? = some ok → k ≠ i → (listed.setIfInBounds j true).getD k true = false →
          (∀ e ∈ ok.after, Region.binds .any e = true → e.on ≠ i) → oi.apart ops ok = true := fun k ok hk hki hun hno => by
        refine hfree k ok hk hki ?_ hno
        by_cases hjk : j = k
        · subst hjk; exact hjun
        · rw [getD_set_ne true hjk] at hun; exact hun
      refine wpOp_mono (fun a' w' ⟨h3, h4, h5⟩ => ⟨fun p hp => h4 p (List.mem_cons_of_mem _ hp), ?_⟩) h2
      refine ih (listed.setIfInBounds j true) invs a' w' (inv.set hj) hfree' (ready_mono hr (Ne.symm hji)) h3 (h4 (i, I) (List.mem_cons_self ..) hdep hI) ?_
      rw [Array.setIfInBounds_comm _ _ hji]
      exact h5

/-- THE WALK IN OUR ORDER: (i, true): a soft operation; (i, false): the only one that is ready. -/
def wpOrd (P : Program) (ops : Array Oper) (K : Act → World → Prop) : List (Nat × Bool) → Invs → Act → World → Prop
  | [], _, a, w => K a w
  | (i, true) :: r, invs, a, w => ∃ o v I, ops[i]? = some o ∧ SoftAt P ops o v I a ∧ I w ∧ wpOrd P ops K r ((i, I) :: invs) (a.put o.dst v) w
  | (i, false) :: r, invs, a, w => wpOp P ops (onlyK K) i (fun a' w' => (∀ p ∈ invs, dep ops ops.size i p.1 = false → p.2 w → p.2 w') ∧ wpOrd P ops K r invs a' w') a w

def ordB (ops : Array Oper) : List (Nat × Bool) → Array Bool → Bool
  | [], listed => (Region.ready .any ops listed).isEmpty
  | (i, true) :: r, listed => (Region.ready .any ops listed).contains i && Region.free .any ops listed i && ordB ops r (listed.setIfInBounds i true)
  | (i, false) :: r, listed => decide (Region.ready .any ops listed = [i]) && ordB ops r (listed.setIfInBounds i true)

theorem wpAnyI_of_ord {K : Act → World → Prop} (hsel : ∀ (j : Nat) (o : Oper) cs b, ops[j]? = some o → o.op ≠ .select cs b) : ∀ (r : List (Nat × Bool)) (listed : Array Bool) (invs : Invs) (a : Act) (w : World), Closed ops listed → ordB ops r listed = true →
    wpOrd P ops K r invs a w → wpAnyI P ops K r.length listed invs a w
  | [], listed, invs, a, w, _, hB, h => ⟨by simpa [ordB] using hB, h⟩
  | (i, true) :: r, listed, invs, a, w, hc, hB, h => by
    obtain ⟨o, v, I, ho, hy, hI, h⟩ := h
    simp only [ordB, Bool.and_eq_true] at hB
    obtain ⟨⟨hr, hf⟩, hB'⟩ := hB
    have hr' : i ∈ Region.ready .any ops listed := by simpa using hr
    exact wpAnyI_first ho hsel r.length listed invs a w hc (Region.free_spec ho hf) hr' hy hI (wpAnyI_of_ord hsel r _ _ _ _ (hc.set hr') hB' h)
  | (i, false) :: r, listed, invs, a, w, hc, hB, h => by
    simp only [ordB, Bool.and_eq_true, decide_eq_true_eq] at hB
    have hr' : i ∈ Region.ready .any ops listed := by rw [hB.1]; simp
    refine ⟨fun h0 => (by rw [h0] at hr'; cases hr'), fun j hj => ?_⟩
    rw [hB.1] at hj
    obtain rfl : j = i := by simpa using hj
    exact wpOp_mono (fun a' w' ⟨h1, h2⟩ => ⟨h1, wpAnyI_of_ord hsel r _ _ _ _ (hc.set hr') hB.2 h2⟩) h

theorem wp_region_ord {id : Nat} {Q : Exit → Act → World → Prop} {a : Act} {w : World} (ord : List (Nat × Bool)) (hm : P.follows .mixedOrders = true)
    (hB : (Region.noSelect ops && (ord.length == ops.size) && ordB ops ord (Array.replicate ops.size false)) = true)
    (h : wpOrd P ops (Q .normal) ord [] a w.drew) : (Code.region id ops true).wp P Q a w := by
  simp only [Bool.and_eq_true, beq_iff_eq] at hB
  obtain ⟨⟨hsel, hl⟩, hB⟩ := hB
  have hc : Closed ops (Array.replicate ops.size false) := fun j oj _ hl => (by rw [getD_replicate_false] at hl; cases hl)
  refine wp_region_any hm ?_
  have h1 := wpAny_of_I _ _ _ _ (wpAnyI_of_ord (Region.noSelect_spec hsel) ord _ [] a w.drew hc hB h)
  rw [hl] at h1
  exact wpAny_weaken (fun e a w hq => by cases e <;> first | exact hq | exact hq.elim) _ _ _ _ h1
end
end Cr
