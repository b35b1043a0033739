/-
  Maps with keys of an integer type or strings: made, looked up, updated. Over any program.
-/
import Derived.Test.YtobnnhlgdoddgaaDoorBit3
import Derived.MapKept
namespace Cr
open Go Go.MapKept
set_option maxRecDepth 10000
/-- Keys of one kind. -/
class Key (d : TypeDesc) {α : Type} [DecidableEq α] (mk : α → Value) : Prop where
  same : ∀ a b, Instr.sameNow d (mk a) (mk b) = some (decide (a = b))
  isKey : ∀ a, IsKey d (mk a)
  bits : ∀ a n, Instr.sameBits n (mk a) (mk a) = true
instance : Key (.int .i64) (Value.int .i64) := ⟨fun a b => by
  have : (a == b) = decide (a = b) := by by_cases h : a = b <;> simp [h]
  simp [Instr.sameNow, this], fun a => by simp [IsKey], fun a n => by cases n <;> simp [Instr.sameBits]⟩
/-- What a map holds: keys with their values, in the order in which they came. -/
def mapr {α : Type} (mk : α → Value) (r : Nat) (L : List (α × Value)) : Res := fun h => ∃ (es : Array MapEntry) (clock : Nat), es.toList.map (fun e => (e.key, e.val)) = L.map (fun x => (mk x.1, x.2)) ∧ pts r (.map es clock) h
section
variable {α : Type} [DecidableEq α]
def getM (k : α) : List (α × Value) → Option Value
  | [] => none
  | x :: l => if k = x.1 then some x.2 else getM k l
def setM (k : α) (v : Value) : List (α × Value) → List (α × Value)
  | [] => [(k, v)]
  | x :: l => if k = x.1 then (k, v) :: l else x :: setM k v l
theorem findNow_get {d : TypeDesc} {mk : α → Value} [hk : Key d mk] (k : α) : ∀ (L : List (α × Value)) (es : List MapEntry) (i : Nat), es.map (fun e => (e.key, e.val)) = L.map (fun x => (mk x.1, x.2)) →
    ∃ r, Instr.findNow d (mk k) es i = some r ∧ r.map (·.2) = getM k L ∧ (∀ p, r = some p → i ≤ p.1 ∧ ∃ e, es[p.1 - i]? = some e ∧ e.key = mk k ∧ (es.modify (p.1 - i) fun e => { e with key := mk k, val := p.2 }).map (fun e => (e.key, e.val)) = L.map (fun x => (mk x.1, x.2)))
  | [], [], i, _ => ⟨none, rfl, rfl, fun p h => by cases h⟩
  | [], _ :: _, _, h => by simp at h
  | _ :: _, [], _, h => by simp at h
  | x :: L, e :: es, i, h => by
    simp only [List.map_cons, List.cons.injEq, Prod.mk.injEq] at h
    obtain ⟨⟨h1, h2⟩, h3⟩ := h
    unfold Instr.findNow getM
    rw [h1, hk.same]
    by_cases hkx : k = x.1
    · subst hkx
      refine ⟨some (i, e.val), by simp, by simp [h2], fun p hp => ?_⟩
      cases hp
      exact ⟨Nat.le_refl _, e, by simp, h1, by simp [h2, h3]⟩
    · obtain ⟨r, g1, g2, g3⟩ := findNow_get (d := d) k L es (i + 1) h3
      refine ⟨r, by simp [hkx, g1], by rw [g2, if_neg hkx], fun p hp => ?_⟩
      obtain ⟨h4, e', h5, h6, h7⟩ := g3 p hp
      have e1 : p.1 - i = (p.1 - (i + 1)) + 1 := by omega
      refine ⟨by omega, e', by rw [e1]; simpa using h5, h6, ?_⟩
      rw [e1, List.modify_succ_cons, List.map_cons, h7, h1, h2]
      rfl
variable {P : Program} {o : Oper} {σ : Env} {w : World} {x y : Operand} {t kt et : TypeId} {N : Nat} {ds : Md} {K : Env → World → Prop} {mk : α → Value} {dd : TypeDesc}
theorem X_makeMap {β : Type} {d : Nat} {W : World} {F : Nat → Prop} {rs : List Res} (mk : β → Value) (ho : o.op = .makeMap t none) (hd : o.dst = some d) (hN : Nat.blt d N = true) (hS : St W F rs w)
    (hk : ∀ r w', St W F (mapr mk r [] :: rs) w' → K ((d, .map (some r)) :: σ) w') : X P o N ds σ w K := ⟨fun f ha K' Q' hK => by
  unfold Oper.wp
  have hexec : (execOp f.eval o).run P w = .ok (.value (.map (some w.heap.size))) (w.alloc (.map #[] 0)) := by
    have : (Instr.makeMap t none).run P w = .ok (.map (some w.heap.size)) (w.alloc (.map #[] 0)) := rfl
    simp [execOp, ho, this]
  rw [hexec]
  have := hK _ _ _ (ha.put (lt_of_blt hN) (.map (some w.heap.size))) (hk w.heap.size _ ((hS.alloc (.map #[] 0)).head fun h hh => ⟨#[], 0, by simp, hh⟩))
  rw [← hd] at this
  exact this⟩
theorem Yl_lookup {r : Nat} {L : List (α × Value)} {k : α} {z : Value} {n m : Nat} (ho : o.op = .lookup t x y false) (hx : ev σ x = some (.map (some r))) (hy : ev σ y = some (mk k)) [hu : Und P t (.map kt et)] [hkt : Und P kt dd] [hK : Key dd mk] [hi : Inf P et z n m]
    (hr : Rd w (mapr mk r L)) : Yl P o σ w ((getM k L).getD z) := ⟨fun N ds f ha => by
  obtain ⟨h, ⟨es, clock, hes, rfl⟩, hag⟩ := hr
  have hb : w.heap[r]? = some (.map es clock) := hag r _ (single_self _ _)
  obtain ⟨q, g1, g2, _⟩ := findNow_get (hk := hK) k L es.toList 0 hes
  obtain ⟨i, hi', hz', _⟩ := info_parts hi.inf
  have hc := run_checkKey (P := P) (w := w) hkt.und (hK.isKey k) es.isEmpty 9999
  have hf := run_findKey (P := P) (w := w) hkt.und g1
  have hg : (getObj r).run P w = .ok (.map es clock) w := by simp [getObj, Sem.run, hb]
  simp only [execOp, ho, ha.eval hx, ha.eval hy, Instr.lookup, Sem.run_bind, run_underlying hu.und, hg, hc, hf, Result.andThen_ok, Sem.run_pure]
  rw [← g2]
  cases q <;> simp [zeroValue, typeInfo, hi', hz']⟩
theorem setM_none {k : α} {v : Value} : ∀ {L : List (α × Value)}, getM k L = none → setM k v L = L ++ [(k, v)]
  | [], _ => rfl
  | x :: L, h => by
    unfold getM at h
    split at h
    · cases h
    · rename_i hne
      simp [setM, hne, setM_none h]
theorem setM_some {k : α} {v : Value} : ∀ (L : List (α × Value)) (es : List MapEntry) (i : Nat), es.map (fun e => (e.key, e.val)) = L.map (fun x => (mk x.1, x.2)) → ∀ [Key dd mk] (j : Nat) (u : Value), Instr.findNow dd (mk k) es i = some (some (j, u)) →
    (es.modify (j - i) fun e => { e with key := mk k, val := v }).map (fun e => (e.key, e.val)) = (setM k v L).map (fun x => (mk x.1, x.2)) ∧ i ≤ j ∧ (es[j - i]?).map (·.key) = some (mk k)
  | [], [], i, _, _, j, u, h => by simp [Instr.findNow] at h
  | [], _ :: _, _, h, _, _, _, _ => by simp at h
  | _ :: _, [], _, h, _, _, _, _ => by simp at h
  | x :: L, e :: es, i, h, hK, j, u, hf => by
    simp only [List.map_cons, List.cons.injEq, Prod.mk.injEq] at h
    obtain ⟨⟨h1, h2⟩, h3⟩ := h
    unfold Instr.findNow at hf
    rw [h1, hK.same] at hf
    unfold setM
    by_cases hkx : k = x.1
    · subst hkx
      simp at hf
      obtain ⟨rfl, _⟩ := hf
      simp [h3, h1]
    · simp [hkx] at hf
      obtain ⟨g1, g2, g3⟩ := setM_some (v := v) L es (i + 1) h3 j u hf
      have e1 : j - i = (j - (i + 1)) + 1 := by omega
      refine ⟨?_, by omega, by rw [e1]; simpa using g3⟩
      rw [e1, List.modify_succ_cons, List.map_cons, g1, if_neg hkx, h1, h2]
      rfl
theorem X_mapUpdate {r : Nat} {L : List (α × Value)} {k : α} {v : Value} {W : World} {F : Nat → Prop} {rs : List Res} {z : Operand} (ho : o.op = .mapUpdate t x y z) (hx : ev σ x = some (.map (some r))) (hy : ev σ y = some (mk k)) (hz : ev σ z = some v) [hu : Und P t (.map kt et)] [hkt : Und P kt dd] [hK : Key dd mk]
    (hd : o.dst = none) (hS : St W F (mapr mk r L :: rs) w) (hk : ∀ w', St W F (mapr mk r (setM k v L) :: rs) w' → K σ w') : X P o N ds σ w K := ⟨fun f ha K' Q' hKK => by
  obtain ⟨h, ⟨h1, h2, ⟨es, clock, hes, hp⟩, hs, hdj, hun⟩, s⟩ := hS
  have hS2 : St W F (pts r (.map es clock) :: rs) w := ⟨h, ⟨h1, h2, hp, hs, hdj, hun⟩, s⟩
  have hb : w.heap[r]? = some (.map es clock) := hS2.get
  obtain ⟨q, g1, g2, _⟩ := findNow_get (hk := hK) k L es.toList 0 hes
  have hc := run_checkKey (P := P) (w := w) hkt.und (hK.isKey k) false 9999
  have hf := run_findKey (P := P) (w := w) hkt.und g1
  have hg : (getObj r).run P w = .ok (.map es clock) w := by simp [getObj, Sem.run, hb]
  have hset : ∀ o', (setObj r o').run P w = .ok () { w with heap := w.heap.setIfInBounds r o' } := fun o' => run_setObj_map o' hb
  unfold Oper.wp
  have key : ∃ es' clock', (execOp f.eval o).run P w = .ok .skip { w with heap := w.heap.setIfInBounds r (.map es' clock') } ∧ es'.toList.map (fun e => (e.key, e.val)) = (setM k v L).map (fun x => (mk x.1, x.2)) := by
    cases hq : q with
    | none =>
      subst hq
      refine ⟨es.push { key := mk k, val := v, born := clock }, clock + 1, ?_, ?_⟩
      · simp only [execOp, ho, ha.eval hx, ha.eval hy, ha.eval hz, Instr.mapUpdate, Sem.run_bind, run_underlying hu.und, hg, hc, hf, hset, Result.andThen_ok, Sem.run_pure]
      · rw [setM_none (by rw [← g2]; rfl)]
        simp [hes]
    | some p =>
      obtain ⟨j, u⟩ := p
      subst hq
      obtain ⟨g4, g5, g6⟩ := setM_some (v := v) L es.toList 0 hes j u g1
      simp only [Nat.sub_zero] at g4 g6
      have hek : ((es[j]?).map (·.key)).getD (mk k) = mk k := by
        rw [← Array.getElem?_toList, g6]; rfl
      refine ⟨es.modify j fun e => { e with key := mk k, val := v }, clock, ?_, ?_⟩
      · simp only [execOp, ho, ha.eval hx, ha.eval hy, ha.eval hz, Instr.mapUpdate, Sem.run_bind, run_underlying hu.und, hg, hc, hf, hset, Result.andThen_ok, Sem.run_pure, hek, Instr.keyThatStays, hK.bits, if_true]
      · simpa [Array.toList_modify] using g4
  obtain ⟨es', clock', hexec, hes'⟩ := key
  rw [hexec]
  have u := setBlock_put (o' := .map es' clock') hb
  refine hKK _ _ _ (?_ : Fr σ N ds _) (hk _ ((hS2.set u).head fun h hh => ⟨es', clock', hes', hh⟩))
  rw [hd]; exact ha⟩
end
end Cr
