/-
  Maps that are gone through: a map's entries bear stamps, all below its clock and no two alike; lookups, updates, deletions; 'range' in whatever order. Over any program.
  Closed runs, 6: the operations that read memory, and those that make an object of their own. Over any program.
  Closed runs, 7: the operations that make an object of their own. Over any program.
  Closed runs, 8: the operations that change memory: stores, and append. Over any program.
  Closed runs, 9: append, over named memory. Over any program.
  Closed runs, 10: all operations that change memory ('mainOp_ok'). Over any program.
-/
import Derived.Test.YtooeiknmpndcgaaGreatDoorTrl6
import Derived.Laws.IdiomRangeMap
namespace Cr
open Go Go.MapKept
set_option maxRecDepth 10000

structure StampOk (es : Array MapEntry) (clock : Nat) : Prop where
 low : ∀ e ∈ es.toList, e.born < clock
 apart : (es.toList.map (·.born)).Nodup
def kvs (es : Array MapEntry) : List (Value × Value) := es.toList.map fun e => (e.key, e.val)
def mapq {α : Type} (mk : α → Value) (r : Nat) (L : List (α × Value)) : Res := fun h => ∃ (es : Array MapEntry) (clock : Nat), kvs es = L.map (fun x => (mk x.1, x.2)) ∧ StampOk es clock ∧ pts r (.map es clock) h
section
variable {α : Type}
theorem St.openMap {W : World} {F : Nat → Prop} {mk : α → Value} {r : Nat} {L : List (α × Value)} {rs : List Res} {w : World} (hS : St W F (mapq mk r L :: rs) w) : ∃ es clock, kvs es = L.map (fun x => (mk x.1, x.2)) ∧ StampOk es clock ∧ St W F (pts r (.map es clock) :: rs) w := by
 obtain ⟨h, ⟨h1, h2, ⟨es, clock, a, b, hp⟩, hs, hd, hu⟩, s⟩ := hS
 exact ⟨es, clock, a, b, h, ⟨h1, h2, hp, hs, hd, hu⟩, s⟩
theorem Ro.openMap {W : World} {F : Nat → Prop} {mk : α → Value} {r : Nat} {L : List (α × Value)} (H : Ro W F (mapq mk r L)) : ∃ es clock, kvs es = L.map (fun x => (mk x.1, x.2)) ∧ StampOk es clock ∧ Ro W F (pts r (.map es clock)) := by
 obtain ⟨h, ⟨es, clock, a, b, hp⟩, ha⟩ := H
 exact ⟨es, clock, a, b, h, hp, ha⟩
theorem Rd.openMap {w : World} {mk : α → Value} {r : Nat} {L : List (α × Value)} (H : Rd w (mapq mk r L)) : ∃ es clock, kvs es = L.map (fun x => (mk x.1, x.2)) ∧ StampOk es clock ∧ Rd w (Cr.pts r (.map es clock)) := by
 obtain ⟨h, ⟨es, clock, a, b, hp⟩, ha⟩ := H
 exact ⟨es, clock, a, b, h, hp, ha⟩
theorem Rd.mapq_r {w : World} {mk : α → Value} {r : Nat} {L : List (α × Value)} (H : Rd w (mapq mk r L)) : Rd w (mapr mk r L) := by
 obtain ⟨h, ⟨es, clock, a, b, hp⟩, ha⟩ := H
 exact ⟨h, ⟨es, clock, a, hp⟩, ha⟩
end
def delM {α : Type} [DecidableEq α] (k : α) : List (α × Value) → List (α × Value)
 | [] => []
 | x :: l => if k = x.1 then l else x :: delM k l
section
variable {α : Type} [DecidableEq α]
theorem findNow_del {d : TypeDesc} {mk : α → Value} [hk : Key d mk] (k : α) : ∀ (L : List (α × Value)) (es : List MapEntry) (i : Nat), es.map (fun e => (e.key, e.val)) = L.map (fun x => (mk x.1, x.2)) →
  (Instr.findNow d (mk k) es i = some none ∧ delM k L = L) ∨ ∃ j v, Instr.findNow d (mk k) es i = some (some (j, v)) ∧ i ≤ j ∧ j - i < es.length ∧ (es.eraseIdx (j - i)).map (fun e => (e.key, e.val)) = (delM k L).map (fun x => (mk x.1, x.2))
 | [], [], i, _ => .inl ⟨rfl, rfl⟩
 | [], _ :: _, _, h => by simp at h
 | _ :: _, [], _, h => by simp at h
 | x :: L, e :: es, i, h => by
  simp only [List.map_cons, List.cons.injEq, Prod.mk.injEq] at h
  obtain ⟨⟨h1, h2⟩, h3⟩ := h
  unfold Instr.findNow delM
  rw [h1, hk.same]
  by_cases hkx : k = x.1
  ·right
   exact ⟨i, e.val, by simp [hkx], Nat.le_refl _, by simp, by simp [hkx, h3]⟩
  ·rcases findNow_del (d := d) k L es (i + 1) h3 with ⟨g1, g2⟩ | ⟨j, v, g1, g2, g4, g3⟩
   ·left
    exact ⟨by simp [hkx, g1], by simp [hkx, g2]⟩
   ·right
    have e1 : j - i = (j - (i + 1)) + 1 := by omega
    refine ⟨j, v, by simp [hkx, g1], by omega, by simp; omega, ?_⟩
    rw [e1, List.eraseIdx_cons_succ, List.map_cons, g3, if_neg hkx, h1, h2]
    rfl
variable {P : Program} {o : Oper} {σ : Env} {w : World} {x y : Operand} {t kt et : TypeId} {N : Nat} {ds : Md} {K : Env → World → Prop} {mk : α → Value} {dd : TypeDesc}
theorem X_makeMapQ {β : Type} {d : Nat} {W : World} {F : Nat → Prop} {rs : List Res} (mk : β → Value) (ho : o.op = .makeMap t none) (hd : o.dst = some d) (hN : Nat.blt d N = true) (hS : St W F rs w)
  (hk : ∀ r w', St W F (mapq mk r [] :: rs) w' → K ((d, .map (some r)) :: σ) w') : X P o N ds σ w K := ⟨fun f ha K' Q' hK => by
 unfold Oper.wp
 have hexec : (execOp f.eval o).run P w = .ok (.value (.map (some w.heap.size))) (w.alloc (.map #[] 0)) := by
  have : (Instr.makeMap t none).run P w = .ok (.map (some w.heap.size)) (w.alloc (.map #[] 0)) := rfl
  simp [execOp, ho, this]
 rw [hexec]
 have := hK _ _ _ (ha.put (lt_of_blt hN) (.map (some w.heap.size))) (hk w.heap.size _ ((hS.alloc (.map #[] 0)).head fun h hh => ⟨#[], 0, rfl, ⟨by simp, by simp⟩, hh⟩))
 rw [← hd] at this
 exact this⟩
theorem Yl_lookupOk {r : Nat} {L : List (α × Value)} {k : α} {z : Value} {n m : Nat} (ho : o.op = .lookup t x y true) (hx : ev σ x = some (.map (some r))) (hy : ev σ y = some (mk k)) [hu : Und P t (.map kt et)] [hkt : Und P kt dd] [hK : Key dd mk] [hi : Inf P et z n m]
  (hr : Rd w (mapr mk r L)) : Yl P o σ w (.tuple #[(getM k L).getD z, .bool (getM k L).isSome]) := ⟨fun N ds f ha => by
 obtain ⟨h, ⟨es, clock, hes, rfl⟩, hag⟩ := hr
 have hb : w.heap[r]? = some (.map es clock) := hag r _ (single_self _ _)
 obtain ⟨q, g1, g2, _⟩ := findNow_get (hk := hK) k L es.toList 0 hes
 obtain ⟨i, hi', hz', _⟩ := info_parts hi.inf
 have hc := run_checkKey (P := P) (w := w) hkt.und (hK.isKey k) es.isEmpty 9999
 have hf := run_findKey (P := P) (w := w) hkt.und g1
 have hg : (getObj r).run P w = .ok (.map es clock) w := by simp [getObj, Sem.run, hb]
 simp only [execOp, ho, ha.eval hx, ha.eval hy, Instr.lookup, Sem.run_bind, run_underlying hu.und, hg, hc, hf, Result.andThen_ok, Sem.run_pure]
 rw [← g2]
 cases q <;> simp [zeroValue, typeInfo, hi', hz']⟩
theorem stamp_push {es : Array MapEntry} {clock : Nat} (h : StampOk es clock) (k v : Value) : StampOk (es.push { key := k, val := v, born := clock }) (clock + 1) := by
 refine ⟨fun e he => ?_, ?_⟩
 ·simp only [Array.toList_push, List.mem_append, List.mem_singleton] at he
  rcases he with he | rfl
  ·have := h.low e he; omega
  ·exact Nat.lt_succ_self _
 ·rw [Array.toList_push, List.map_append, List.nodup_append]
  refine ⟨h.apart, by simp, fun a ha b hb => ?_⟩
  obtain ⟨e, he, rfl⟩ := List.mem_map.1 ha
  have := h.low e he
  simp at hb
  omega
theorem stamp_modify {es : Array MapEntry} {clock : Nat} (h : StampOk es clock) (j : Nat) (f : MapEntry → MapEntry) (hf : ∀ e, (f e).born = e.born) : StampOk (es.modify j f) clock := by
 have e1 : (es.modify j f).toList.map (·.born) = es.toList.map (·.born) := by
  rw [Array.toList_modify]
  generalize es.toList = l
  induction l generalizing j with
  | nil => simp
  | cons x l ih =>
   cases j with
   | zero => simp [hf]
   | succ j => simp [ih]
 refine ⟨fun e he => ?_, by rw [e1]; exact h.apart⟩
 have : e.born ∈ (es.modify j f).toList.map (·.born) := List.mem_map.2 ⟨e, he, rfl⟩
 rw [e1] at this
 obtain ⟨e', he', hb⟩ := List.mem_map.1 this
 rw [← hb]
 exact h.low e' he'
theorem stamp_erase {es : Array MapEntry} {clock : Nat} (h : StampOk es clock) (j : Nat) (hj : j < es.size) : StampOk (es.eraseIdx j hj) clock := by
 have hsub : (es.eraseIdx j hj).toList.Sublist es.toList := by rw [Array.toList_eraseIdx]; exact List.eraseIdx_sublist _ _
 exact ⟨fun e he => h.low e (hsub.subset he), h.apart.sublist (hsub.map _)⟩
theorem X_mapUpdateQ {r : Nat} {L : List (α × Value)} {k : α} {v : Value} {W : World} {F : Nat → Prop} {rs : List Res} {z : Operand} (ho : o.op = .mapUpdate t x y z) (hx : ev σ x = some (.map (some r))) (hy : ev σ y = some (mk k)) (hz : ev σ z = some v) [hu : Und P t (.map kt et)] [hkt : Und P kt dd] [hK : Key dd mk]
  (hd : o.dst = none) (hS : St W F (mapq mk r L :: rs) w) (hk : ∀ w', St W F (mapq mk r (setM k v L) :: rs) w' → K σ w') : X P o N ds σ w K := ⟨fun f ha K' Q' hKK => by
 obtain ⟨es, clock, hes, hst, hS2⟩ := hS.openMap
 have hb : w.heap[r]? = some (.map es clock) := hS2.get
 obtain ⟨q, g1, g2, _⟩ := findNow_get (hk := hK) k L es.toList 0 hes
 have hc := run_checkKey (P := P) (w := w) hkt.und (hK.isKey k) false 9999
 have hf := run_findKey (P := P) (w := w) hkt.und g1
 have hg : (getObj r).run P w = .ok (.map es clock) w := by simp [getObj, Sem.run, hb]
 have hset : ∀ o', (setObj r o').run P w = .ok () { w with heap := w.heap.setIfInBounds r o' } := fun o' => run_setObj_map o' hb
 unfold Oper.wp
 have key : ∃ es' clock', (execOp f.eval o).run P w = .ok .skip { w with heap := w.heap.setIfInBounds r (.map es' clock') } ∧ kvs es' = (setM k v L).map (fun x => (mk x.1, x.2)) ∧ StampOk es' clock' := by
  cases hq : q with
  | none =>
   subst hq
   refine ⟨es.push { key := mk k, val := v, born := clock }, clock + 1, ?_, ?_, stamp_push hst _ _⟩
   ·simp only [execOp, ho, ha.eval hx, ha.eval hy, ha.eval hz, Instr.mapUpdate, Sem.run_bind, run_underlying hu.und, hg, hc, hf, hset, Result.andThen_ok, Sem.run_pure]
   ·rw [setM_none (by rw [← g2]; rfl)]
    have hes' : es.toList.map (fun e => (e.key, e.val)) = L.map (fun x => (mk x.1, x.2)) := hes
    simp [kvs, hes']
  | some p =>
   obtain ⟨j, u⟩ := p
   subst hq
   obtain ⟨g4, g5, g6⟩ := setM_some (v := v) L es.toList 0 hes j u g1
   simp only [Nat.sub_zero] at g4 g6
   have hek : ((es[j]?).map (·.key)).getD (mk k) = mk k := by
    rw [← Array.getElem?_toList, g6]; rfl
   refine ⟨es.modify j fun e => { e with key := mk k, val := v }, clock, ?_, ?_, stamp_modify hst _ _ (fun _ => rfl)⟩
   ·simp only [execOp, ho, ha.eval hx, ha.eval hy, ha.eval hz, Instr.mapUpdate, Sem.run_bind, run_underlying hu.und, hg, hc, hf, hset, Result.andThen_ok, Sem.run_pure, hek, Instr.keyThatStays, hK.bits, if_true]
   ·simpa [kvs, Array.toList_modify] using g4
 obtain ⟨es', clock', hexec, hes', hst'⟩ := key
 rw [hexec]
 have u := setBlock_put (o' := .map es' clock') hb
 refine hKK _ _ _ (?_ : Fr σ N ds _) (hk _ ((hS2.set u).head fun h hh => ⟨es', clock', hes', hst', hh⟩))
 rw [hd]; exact ha⟩
end
/-! ### going through a map -/
def leftL (es : Array MapEntry) (seen : Array Nat) : List MapEntry := es.toList.filter fun e => !seen.contains e.born
theorem leftL_start (es : Array MapEntry) : leftL es #[] = es.toList := by simp [leftL]
theorem perm_of_nodup (e : MapEntry) : ∀ (l : List MapEntry), (l.map (·.born)).Nodup → e ∈ l → l.Perm (e :: l.filter fun x => !(x.born == e.born))
 | x :: l, hn, he => by
  have hn' : x.born ∉ l.map (·.born) ∧ (l.map (·.born)).Nodup := List.nodup_cons.1 hn
  by_cases hx : x.born = e.born
  ·rcases List.mem_cons.1 he with rfl | he
   ·have : l.filter (fun x => !(x.born == e.born)) = l := List.filter_eq_self.2 fun y hy => by
     have : y.born ≠ e.born := fun q => hn'.1 (by rw [← q]; exact List.mem_map.2 ⟨y, hy, rfl⟩)
     simpa using this
    rw [List.filter_cons_of_neg (by simp), this]
   ·exact absurd (show x.born ∈ l.map (·.born) by rw [hx]; exact List.mem_map.2 ⟨e, he, rfl⟩) hn'.1
  ·have he' : e ∈ l := (List.mem_cons.1 he).resolve_left fun q => hx (by rw [q])
   have ih := perm_of_nodup e l hn'.2 he'
   rw [List.filter_cons_of_pos (by simpa using hx)]
   exact (ih.cons x).trans (.swap _ _ _)
theorem leftL_step {es : Array MapEntry} {clock : Nat} (h : StampOk es clock) {seen : Array Nat} {e : MapEntry} (he : e ∈ leftL es seen) : (leftL es seen).Perm (e :: leftL es (seen.push e.born)) := by
 have hn : ((leftL es seen).map (·.born)).Nodup := h.apart.sublist ((List.filter_sublist ..).map _)
 have h1 := perm_of_nodup e _ hn he
 have h2 : leftL es (seen.push e.born) = (leftL es seen).filter fun x => !(x.born == e.born) := by
  unfold leftL
  rw [List.filter_filter]
  refine List.filter_congr fun x _ => ?_
  have e3 : (x.born == e.born) = decide (x.born = e.born) := by by_cases h : x.born = e.born <;> simp [h]
  simp [e3, Bool.and_comm]
 rw [h2]
 exact h1
section
variable {P : Program} {o : Oper} {σ : Env} {w : World} {x y : Operand} {t kt et : TypeId} {N : Nat} {ds : Md} {K : Env → World → Prop}
theorem run_next_at (w : World) (ty : TypeId) (it bm since c0 : Nat) (seen : Array Nat) (es : Array MapEntry) (clock : Nat) (hi : w.heap[it]? = some (.mapIter (some bm) since seen c0)) (hb : w.heap[bm]? = some (.map es clock)) (hold : ∀ x ∈ es.toList, x.born < since) (hsc : since ≤ c0) :
  (leftL es seen = [] ∧ (Instr.next (.pointer (some ⟨it, 0, none⟩)) false ty).run P w = .ok (.tuple #[.bool false]) w) ∨
  ∃ e ∈ leftL es seen, ∃ w1 : World, (w1 = w ∨ w1 = w.drew) ∧ (Instr.next (.pointer (some ⟨it, 0, none⟩)) false ty).run P w = .ok (.tuple #[.bool true, e.key, e.val]) { w1 with heap := w1.heap.setIfInBounds it (.mapIter (some bm) since (seen.push e.born) clock) } := by
 simp only [Instr.next, getObj, Sem.run_bind, Sem.run, hi, hb, Result.andThen, next_test_false seen es since c0 hold hsc, Bool.false_eq_true, if_false]
 have hLe : leftL es seen = (Array.filter (fun e => !seen.contains e.born) es).toList := by simp [leftL]
 rw [hLe]
 have hmem : ∀ x ∈ (Array.filter (fun e => !seen.contains e.born) es).toList, x.born < since := fun x hx => hold x (by simp at hx ⊢; exact hx.1)
 generalize Array.filter (fun e => !seen.contains e.born) es = L at hmem ⊢
 have e1 : L.filter (fun x => decide (x.born < since)) = L := Array.filter_eq_self.2 (fun x hx => by simpa using hmem x (by simpa using hx))
 have e2 : L.filter (fun x => decide (x.born ≥ since)) = #[] := by
  rw [Array.filter_eq_empty_iff]
  intro x hx
  have := hmem x (by simpa using hx)
  simp
  omega
 simp only [e1, e2, Array.append_empty]
 by_cases h0 : L.size = 0
 ·left
  have : L = #[] := Array.eq_empty_of_size_eq_zero h0
  subst this
  refine ⟨rfl, ?_⟩
  simp [choose, Sem.run, Question.forced]
 ·right
  have hne : L.isEmpty = false := by simp [Array.isEmpty, h0]
  simp only [hne, Bool.false_eq_true, if_false, Array.empty_append, Array.size_map]
  have hch : ∃ (j : Nat) (w1 : World), j < L.size ∧ (w1 = w ∨ w1 = w.drew) ∧ (choose (Question.mapNext L.size)).run P w = .ok j w1 := by
   by_cases hf : L.size ≤ 1
   ·exact ⟨0, w, by omega, .inl rfl, by simp [choose, Sem.run, Question.forced, hf]⟩
   ·exact ⟨_, w.drew, Nat.mod_lt _ (by omega), .inr rfl, by
     simp only [choose, Sem.run, Question.forced, decide_eq_true_eq, hf, if_false, Question.cut]
     rfl⟩
  obtain ⟨j, w1, hj, hal, hrun⟩ := hch
  refine ⟨L[j], by simp, w1, hal, ?_⟩
  have hi1 : w1.heap[it]? = some (.mapIter (some bm) since seen c0) := by rcases hal with rfl | rfl <;> exact hi
  have hset : ∀ o' : Obj, (setObj it o').run P w1 = .ok () { w1 with heap := w1.heap.setIfInBounds it o' } := fun o' => by simp [setObj, Sem.run, hi1]
  simp only [hrun, Array.getElem?_map, Array.getElem?_eq_getElem hj, Option.map_some, Sem.run_bind, hset, Result.andThen]
  rfl
theorem X_rangeMap {bm d : Nat} {es : Array MapEntry} {clock : Nat} {W : World} {F : Nat → Prop} {rs : List Res} (ho : o.op = .range t x) (hx : ev σ x = some (.map (some bm))) [hu : Und P t (.map kt et)] (hm : Rd w (pts bm (.map es clock))) (hd : o.dst = some d) (hN : Nat.blt d N = true) (hS : St W F rs w)
  (hk : ∀ it w', St W F (pts it (.mapIter (some bm) clock #[] clock) :: rs) w' → RowKit.Below w.heap.size w w' → K ((d, .pointer (some ⟨it, 0, none⟩)) :: σ) w') : X P o N ds σ w K := ⟨fun f ha K' Q' hK => by
 have hb : w.heap[bm]? = some (.map es clock) := by obtain ⟨h, rfl, hag⟩ := hm; exact hag bm _ (single_self _ _)
 unfold Oper.wp
 have hexec : (execOp f.eval o).run P w = .ok (.value (.pointer (some ⟨w.heap.size, 0, none⟩))) (w.alloc (.mapIter (some bm) clock #[] clock)) := by
  simp [execOp, ho, ha.eval hx, run_range_map w t kt et bm es clock hu.und hb]
 rw [hexec]
 have := hK _ _ _ (ha.put (lt_of_blt hN) (.pointer (some ⟨w.heap.size, 0, none⟩))) (hk w.heap.size _ (hS.alloc _) ((RowKit.Below.refl _ _).alloc (Nat.le_refl _) _))
 rw [← hd] at this
 exact this⟩
theorem X_nextMap {it bm d : Nat} {es : Array MapEntry} {clock : Nat} {seen : Array Nat} {W : World} {F : Nat → Prop} {rs : List Res} (ho : o.op = .next x false) (hx : ev σ x = some (.pointer (some ⟨it, 0, none⟩))) (hst : StampOk es clock) (hm : Rd w (pts bm (.map es clock))) (hd : o.dst = some d) (hN : Nat.blt d N = true)
  (hS : St W F (pts it (.mapIter (some bm) clock seen clock) :: rs) w) (h0 : leftL es seen = [] → K ((d, .tuple #[.bool false]) :: σ) w)
  (h1 : ∀ e, e ∈ leftL es seen → ∀ w', St W F (pts it (.mapIter (some bm) clock (seen.push e.born) clock) :: rs) w' → K ((d, .tuple #[.bool true, e.key, e.val]) :: σ) w') : X P o N ds σ w K := ⟨fun f ha K' Q' hK => by
 have hb : w.heap[bm]? = some (.map es clock) := by obtain ⟨h, rfl, hag⟩ := hm; exact hag bm _ (single_self _ _)
 have hi : w.heap[it]? = some (.mapIter (some bm) clock seen clock) := hS.get
 unfold Oper.wp
 rcases run_next_at (P := P) w o.type it bm clock clock seen es clock hi hb hst.low (Nat.le_refl _) with ⟨g1, g2⟩ | ⟨e, he, w1, hw1, g2⟩
 ·have hexec : (execOp f.eval o).run P w = .ok (.value (.tuple #[.bool false])) w := by
   simp [execOp, ho, ha.eval hx, g2]
  rw [hexec]
  have := hK _ _ _ (ha.put (lt_of_blt hN) (.tuple #[.bool false])) (h0 g1)
  rw [← hd] at this
  exact this
 ·have hexec : (execOp f.eval o).run P w = .ok (.value (.tuple #[.bool true, e.key, e.val])) { w1 with heap := w1.heap.setIfInBounds it (.mapIter (some bm) clock (seen.push e.born) clock) } := by
   simp [execOp, ho, ha.eval hx, g2]
  rw [hexec]
  have hS1 : St W F (pts it (.mapIter (some bm) clock seen clock) :: rs) w1 := by
   rcases hw1 with rfl | rfl
   ·exact hS
   ·exact hS.drew
  have := hK _ _ _ (ha.put (lt_of_blt hN) (.tuple #[.bool true, e.key, e.val])) (h1 e he _ (hS1.set (setBlock_put (o' := .mapIter (some bm) clock (seen.push e.born) clock) hS1.get)))
  rw [← hd] at this
  exact this⟩
end
end Cr
namespace Cr.Cl
open Go Go.MapKept
set_option maxRecDepth 4000
section
variable {P : Program} {Γ : Ctx} {Ω : Opq} {ρ : Rho} {o : Oper} {σ : Env} {w : World} {e : Envs} {h : Heap}

def HeapRd (Ω : Opq) (ρ : Rho) (h : Heap) (w : World) : Prop := ∀ n ob, h.get n = some ob → Rd w (resO Ω ρ n ob)
theorem row_of_pts {b : Nat} {vs : List Value} {t : TypeId} {g : Frag} (hp : pts b (.cells vs.toArray t (0, 0)) g) : row (some ⟨b, 0, none⟩) vs g :=
 .inr ⟨b, 0, vs.toArray, t, _, rfl, hp, fun i v hv => by simpa using hv⟩
theorem rowOf_ok (hR : HeapRd Ω ρ h w) {n : Nat} {c : List SV} (hc : rowOf h n = some c) : ∃ L vs, ρ n = some L ∧ RepL ρ c vs ∧ Rd w (row (some ⟨L.1, 0, none⟩) vs) := by
 unfold rowOf at hc
 split at hc
 ·rename_i t c' hg; cases hc
  obtain ⟨g, ⟨L, vs, h1, h2, h3⟩, ha⟩ := hR _ _ hg
  exact ⟨L, vs, h1, h2, g, row_of_pts h3, ha⟩
 ·rename_i t sz c' hg; cases hc
  obtain ⟨g, ⟨L, vs, h1, h2, h3⟩, ha⟩ := hR _ _ hg
  exact ⟨L, vs, h1, h2, g, h3.row, ha⟩
 ·rename_i c' hg; cases hc
  obtain ⟨g, ⟨L, vs, h1, h2, h3⟩, ha⟩ := hR _ _ hg
  exact ⟨L, vs, h1, h2, g, h3, ha⟩
 ·cases hc
theorem loadS_ok (hΓ : CtxTy P Γ) (hR : HeapRd Ω ρ h w) {t : TypeId} {n off : Nat} {s : SV} (hl : loadS Γ h t n off = some s) : ∃ L v, ρ n = some L ∧ Rep ρ s v ∧ (loadVar t ⟨L.1, off, none⟩).run P w = .ok v w := by
 unfold loadS at hl
 split at hl
 ·rename_i c hc
  obtain ⟨L, vs, hL, hv, hr⟩ := rowOf_ok hR hc
  unfold part at hl
  split at hl
  ·rename_i i hi
   have hT := hΓ t i hi
   have hs : Siz P t i.size := siz_of hΓ hi
   rcases cond_some hl with ⟨hb, hl⟩ | ⟨hb, hl⟩
   ·replace hl := cond_none hl; obtain ⟨hle, hl⟩ := hl; cases hl
    have hle := ble_le hle
    have hlen : ((vs.drop off).take i.size).length = i.size := by simp [RepL.length hv]; omega
    refine ⟨L, .agg ((vs.drop off).take i.size).toArray, hL, ⟨_, RepL.seg hv off i.size, rfl⟩, ?_⟩
    have hc := hr.seg off i.size
    simp only [adr, Nat.zero_add] at hc
    have : Siz P t ((vs.drop off).take i.size).length := by rw [hlen]; exact hs
    exact run_loadAgg (h := ⟨fun w => by rw [hT.agg w, hb]⟩) (hs := this) hc
   ·obtain ⟨v, h1, h2⟩ := RepL.get hv hl
    refine ⟨L, v, hL, h2, ?_⟩
    have hc := hr.cells off v h1
    simp only [adr, Nat.zero_add] at hc
    have := hT.agg w
    rw [hb] at this
    simp [loadVar, this, load, Sem.run, hc]
  ·cases hl
 ·cases hl
theorem keq_ok {d : TypeDesc} {k a : SV} {kv av : Value} {b : Bool} (hk : Rep ρ k kv) (ha : Rep ρ a av) (h : keq d k a = some b) : Instr.sameNow d kv av = some b := by
 unfold keq at h
 split at h
 ·replace h := cond_none h; obtain ⟨h1, h⟩ := h
  have := ikeq_ok h1; subst this
  cases h; cases hk; cases ha
  rw [ieq_ok]
  simp only [Instr.sameNow, if_true]
  congr 1
 ·cases h; obtain ⟨h1, rfl⟩ := hk; obtain ⟨h2, rfl⟩ := ha
  rw [bs_str, bs_str]
  have e : ∀ x y : List UInt8, (x == y) = decide (x = y) := fun x y => by by_cases q : x = y <;> simp [q]
  simp only [Instr.sameNow, Go.beq_toListBytes, str_toList, ← bsmap_eq h1 h2, e]
 ·cases h; cases hk; cases ha; rfl
 ·cases h
theorem keyOk_ok {d : TypeDesc} {k : SV} {kv : Value} (hk : Rep ρ k kv) (h : keyOk d k = true) : IsKey d kv := by
 unfold keyOk at h
 split at h
 ·cases hk; exact ikeq_ok h
 ·obtain ⟨_, rfl⟩ := hk; trivial
 ·cases hk; trivial
 ·cases h
theorem findK_ok {d : TypeDesc} {k : SV} {kv : Value} (hk : Rep ρ k kv) : ∀ (es : List (SV × SV × Nat)) (l : List MapEntry) (i : Nat) (r : Option SV), RepE ρ es l → findK d k es = some r →
  (r = none ∧ Instr.findNow d kv l i = some none) ∨ ∃ s j u, r = some s ∧ Rep ρ s u ∧ Instr.findNow d kv l i = some (some (i + j, u)) ∧ j < l.length
 | [], l, i, r, he, h => by
  cases he
  simp only [findK, Option.some.injEq] at h; subst h
  exact .inl ⟨rfl, rfl⟩
 | (a, v, n) :: es, l, i, r, ⟨e, l', h1, h2, h3, h4, hl⟩, h => by
  subst hl
  simp only [findK] at h
  split at h
  ·rename_i hq; cases h
   have := keq_ok hk h1 hq
   exact .inr ⟨v, 0, e.val, rfl, h2, by simp [Instr.findNow, this], by simp⟩
  ·rename_i hq
   have := keq_ok hk h1 hq
   rcases findK_ok hk es l' (i + 1) r h4 h with ⟨g1, g2⟩ | ⟨s, j, u, g1, g2, g3, g4⟩
   ·exact .inl ⟨g1, by simp [Instr.findNow, this, g2]⟩
   ·refine .inr ⟨s, j + 1, u, g1, g2, ?_, by simp; omega⟩
    simp only [Instr.findNow, this, g3]
    rw [show i + 1 + j = i + (j + 1) by omega]
  ·cases h
theorem entriesOf_ok (hR : HeapRd Ω ρ h w) {v : SV} {u : Value} (hu : Rep ρ v u) {es : List (SV × SV × Nat)} (he : entriesOf h v = some es) : (u = .map none ∧ es = []) ∨ ∃ r l cl, u = .map (some r) ∧ RepE ρ es l ∧ w.heap[r]? = some (.map l.toArray cl) := by
 unfold entriesOf at he
 split at he
 ·cases he; cases hu; exact .inl ⟨rfl, rfl⟩
 ·rename_i n
  split at he
  ·rename_i es' cl hg
   cases he
   obtain ⟨L, hL, rfl⟩ := hu
   obtain ⟨g, ⟨L', l, h1, h2, h3⟩, ha⟩ := hR _ _ hg
   rw [hL] at h1; cases h1
   exact .inr ⟨L.1, l, cl, rfl, h2, ha _ _ (by rw [h3]; exact single_self _ _)⟩
  ·cases he
 ·cases he
theorem segOf_ok (hR : HeapRd Ω ρ h w) {sz n : Nat} {v : SV} {a : Option Addr} {m c : Nat} (hu : Rep ρ v (.slice a m c)) {cs : List SV} (hs : segOf h sz n v = some cs) : ∃ vs, RepL ρ cs vs ∧ vs.length = n * sz ∧ Rd w (row a vs) := by
 have key : ∀ (o off : Nat) (L : Nat × Nat), ρ o = some L → a = some ⟨L.1, off, none⟩ → (match rowOf h o with | some c => bif Nat.ble (off + n * sz) c.length then some (seg c off (n * sz)) else none | none => none) = some cs → ∃ vs, RepL ρ cs vs ∧ vs.length = n * sz ∧ Rd w (row a vs) := by
  intro o off L hL ha hs
  subst ha
  split at hs
  ·rename_i c' hc
   replace hs := cond_none hs; obtain ⟨hle, hs⟩ := hs; cases hs
   have hle := ble_le hle
   obtain ⟨L', vs, h1, h2, h3⟩ := rowOf_ok hR hc
   rw [hL] at h1; cases h1
   refine ⟨_, RepL.seg h2 off (n * sz), by simp [RepL.length h2]; omega, h3.mono ?_⟩
   have := row.part (a := some ⟨L.1, 0, none⟩) (cs := vs) (cs' := (vs.drop off).take (n * sz)) (i := off) (fun j v hv => by
    rw [List.getElem?_take] at hv; split at hv
    ·simpa using hv
    ·cases hv)
   simpa [adr] using this
  ·cases hs
 unfold segOf at hs
 split at hs
 ·replace hs := cond_none hs; obtain ⟨h0, hs⟩ := hs; cases hs
  have := beq_eq h0; subst this
  exact ⟨[], rfl, by simp, Rd_nil _ _⟩
 ·replace hs := cond_none hs; obtain ⟨h0, hs⟩ := hs; cases hs
  have := beq_eq h0; subst this
  exact ⟨[], rfl, by simp, Rd_nil _ _⟩
 ·obtain ⟨L, hL, _, hq⟩ := hu
  cases hq
  exact key _ _ L hL rfl hs
 ·replace hs := cond_none hs; obtain ⟨h0, hs⟩ := hs
  have := beq_eq h0; subst this
  obtain ⟨L, hL, _, hq⟩ := hu
  cases hq
  exact key _ _ L hL rfl hs
 ·cases hs
theorem byteList_ok : ∀ (c : List SV) (l : List Nat) (vs : List Value), byteList c = some l → RepL ρ c vs → (∀ x ∈ l, x < 256) ∧ vs = bv (l.map UInt8.ofNat)
 | [], l, vs, h, hv => by
  simp only [byteList, Option.some.injEq] at h; subst h; cases hv
  exact ⟨fun _ hx => (List.not_mem_nil hx).elim, rfl⟩
 | x :: r, l, vs, h, ⟨v, l', h1, h2, hl⟩ => by
  subst hl
  unfold byteList at h
  split at h
  ·rename_i q; cases q
  ·rename_i n r' q
   cases q
   replace h := cond_none h; obtain ⟨hn, h⟩ := h
   have hn := blt_lt hn
   split at h
   ·rename_i l2 hl2
    cases h
    obtain ⟨g1, g2⟩ := byteList_ok r l2 l' hl2 h2
    cases h1
    refine ⟨fun y hy => ?_, ?_⟩
    ·rcases List.mem_cons.1 hy with rfl | hy
     ·exact hn
     ·exact g1 y hy
    ·rw [g2]; simp [bv, Nat.mod_eq_of_lt hn]
   ·cases h
  ·cases h
theorem zeroV_ok (hΓ : CtxTy P Γ) {t : TypeId} {ti : TI} (hti : Γ.ty.get t = some ti) {z : SV} (h : zeroV ti = some z) : ∃ u, Rep ρ z u ∧ (zeroValue t).run P w = .ok u w := by
 obtain ⟨u, h1, h2, h3, h4⟩ := (hΓ t ti hti).inf
 obtain ⟨i, hi', hz', _⟩ := info_parts h1.inf
 have hq : (zeroValue t).run P w = .ok u w := by simp [zeroValue, typeInfo, hi', hz']
 refine ⟨u, ?_, hq⟩
 unfold zeroV at h
 have hz := ofVs_ok (ρ := ρ) _ _ h2
 rcases cond_some h with ⟨hb, h⟩ | ⟨hb, h⟩
 ·cases h
  obtain ⟨l, rfl⟩ := h3 hb
  exact ⟨l.toList, by simpa [Value.cells] using hz, by simp⟩
 ·split at h
  ·rename_i v hv
   cases h
   rw [h4 hb, hv] at hz
   obtain ⟨x, l', q1, q2, q3⟩ := hz
   simp at q3
   obtain ⟨rfl, _⟩ := q3
   exact q1
  ·cases h
theorem readOp_ok (hΓ : CtxTy P Γ) (he : EnvR ρ e σ) (hR : HeapRd Ω ρ h w) {s : SV} (hs : readOp Γ e h o.op = some s) : Gives P ρ o σ w s := by
 unfold readOp at hs
 split at hs
 ·rename_i t x ho
  split at hs
  ·rename_i n off hx
   obtain ⟨u, ⟨L, hL, rfl⟩, hx⟩ := opnd_ok he hx
   obtain ⟨L', v, h1, h2, h3⟩ := loadS_ok hΓ hR hs
   rw [hL] at h1; cases h1
   exact ⟨v, h2, ⟨fun N ds a ha => by simp [execOp, ho, ha.eval hx, Instr.loadAt, Instr.sureAddr, h3]⟩⟩
  ·cases hs
 ·rename_i t x k ok ho
  split at hs
  ·rename_i kt el hd
   split at hs
   ·rename_i d hdk
    split at hs
    ·rename_i ti hti
     split at hs
     ·rename_i z hz
      split at hs
      ·rename_i v hv
       split at hs
       ·rename_i k' hk
        split at hs
        ·rename_i es hes
         obtain ⟨u, hu, hx⟩ := opnd_ok he hv
         obtain ⟨kv, hkv, hy⟩ := opnd_ok he hk
         obtain ⟨zu, hz1, hz2⟩ := zeroV_ok (w := w) hΓ hti hz
         have i1 := (und_ok hΓ hd).und
         have i2 := (und_ok hΓ hdk).und
         unfold findKey at hs
         have main : ∀ (l : List MapEntry) (r : Option SV), RepE ρ es l → (bif keyOk d k' then findK d k' es else none) = some r →
           (∀ N ds a, Fr σ N ds a → ∀ q, (Instr.findKey kt kv l).run P w = .ok q w → (∀ b, (Instr.checkKey b 10000 kt kv).run P w = .ok () w) → (execOp a.eval o).run P w = .ok (.value (if ok then .tuple #[(q.map (·.2)).getD zu, .bool q.isSome] else (q.map (·.2)).getD zu)) w) →
           Gives P ρ o σ w (match r with | some v => (bif ok then .tup [v, .b true] else v) | none => (bif ok then .tup [z, .b false] else z)) := by
          intro l r hl hr hrun
          replace hr := cond_none hr; obtain ⟨hko, hr⟩ := hr
          have hck : ∀ b, (Instr.checkKey b 10000 kt kv).run P w = .ok () w := fun b => run_checkKey (n := 9999) i2 (keyOk_ok hkv hko) b
          rcases findK_ok hkv es l 0 r hl hr with ⟨rfl, g⟩ | ⟨s', j, u', rfl, g1, g, _⟩
          ·have hf := run_findKey (P := P) (w := w) i2 g
           cases ok
           ·exact ⟨zu, hz1, ⟨fun N ds a ha => by rw [hrun N ds a ha _ hf hck]; rfl⟩⟩
           ·exact ⟨.tuple #[zu, .bool false], ⟨[zu, .bool false], RepL.cons hz1 (RepL.cons rfl rfl), rfl⟩, ⟨fun N ds a ha => by rw [hrun N ds a ha _ hf hck]; rfl⟩⟩
          ·have hf := run_findKey (P := P) (w := w) i2 g
           cases ok
           ·exact ⟨u', g1, ⟨fun N ds a ha => by rw [hrun N ds a ha _ hf hck]; rfl⟩⟩
           ·exact ⟨.tuple #[u', .bool true], ⟨[u', .bool true], RepL.cons g1 (RepL.cons rfl rfl), rfl⟩, ⟨fun N ds a ha => by rw [hrun N ds a ha _ hf hck]; rfl⟩⟩
         have fin : ∃ r, (bif keyOk d k' then findK d k' es else none) = some r ∧ s = (match r with | some v => (bif ok then .tup [v, .b true] else v) | none => (bif ok then .tup [z, .b false] else z)) := by
          split at hs
          ·rename_i v' q; cases hs; exact ⟨some v', q, rfl⟩
          ·rename_i q; cases hs; exact ⟨none, q, rfl⟩
          ·cases hs
         obtain ⟨r, hr, rfl⟩ := fin
         rcases entriesOf_ok hR hu hes with ⟨rfl, rfl⟩ | ⟨q, l, cl, rfl, hl, hb⟩
         ·refine main [] r rfl hr fun N ds a ha q hq hck => ?_
          simp only [execOp, ho, ha.eval hx, ha.eval hy, Instr.lookup, Sem.run_bind, run_underlying i1, hck, hq, Result.andThen_ok, Sem.run_pure]
          cases q <;> cases ok <;> simp [hz2]
         ·refine main l r hl hr fun N ds a ha q' hq hck => ?_
          have hg : (getObj q).run P w = .ok (.map l.toArray cl) w := by simp [getObj, Sem.run, hb]
          simp only [execOp, ho, ha.eval hx, ha.eval hy, Instr.lookup, Sem.run_bind, run_underlying i1, hg, hck, hq, Result.andThen_ok, Sem.run_pure]
          cases q' <;> cases ok <;> simp [hz2]
        ·cases hs
       ·cases hs
      ·cases hs
     ·cases hs
    ·cases hs
   ·cases hs
  ·cases hs
 ·rename_i s' d x ho
  split at hs
  ·rename_i el hds
   split at hs
   ·rename_i hel
    split at hs
    ·rename_i hdd
     split at hs
     ·rename_i v hv
      split at hs
      ·rename_i n hn
       split at hs
       ·rename_i c hc
        split at hs
        ·rename_i l hl
         cases hs
         obtain ⟨u, hu, hx⟩ := opnd_ok he hv
         obtain ⟨a, cp, rfl, _⟩ := lenOf_ok hu hn
         obtain ⟨vs, h1, h2, h3⟩ := segOf_ok hR hu hc
         obtain ⟨g1, g2⟩ := byteList_ok c l vs hl h1
         subst g2
         refine ⟨_, ⟨g1, rfl⟩, ?_⟩
         rw [bs_str]
         exact Yl_bytesStr (hs := und_ok hΓ hds) (he := und_ok hΓ hel) (hd := und_ok hΓ hdd) ho hx h3 (by simpa using h2)
        ·cases hs
       ·cases hs
      ·cases hs
     ·cases hs
    ·cases hs
   ·cases hs
  ·cases hs
 ·rename_i args ts ho
  split at hs
  ·rename_i x t r hargs hts
   split at hs
   ·rename_i kt et hd
    split at hs
    ·rename_i v hv
     split at hs
     ·rename_i es hes
      cases hs
      obtain ⟨u, hu, hx⟩ := opnd_ok he hv
      refine ⟨_, rfl, ⟨fun N ds a ha => ?_⟩⟩
      obtain ⟨c, hc⟩ := run_builtin ho (by rw [hargs]; exact evs_one hx) ha
      have hU := (und_ok hΓ hd).und
      obtain ⟨ts⟩ := ts
      simp only at hts; subst hts
      rw [hc]
      rcases entriesOf_ok hR hu hes with ⟨rfl, rfl⟩ | ⟨q, l, cl, rfl, hl, hb⟩
      ·simp [builtin, Builtin.len_, run_underlying hU, goInt]
      ·have hg : (getObj q).run P w = .ok (.map l.toArray cl) w := by simp [getObj, Sem.run, hb]
       have hlen : ∀ (es : List (SV × SV × Nat)) (l : List MapEntry), RepE ρ es l → l.length = es.length := by
        intro es
        induction es with
        | nil => intro l h; cases h; rfl
        | cons q es ih => intro l h; obtain ⟨k, v, n⟩ := q; obtain ⟨e, l', _, _, _, h4, rfl⟩ := h; simp [ih l' h4]
       simp [builtin, Builtin.len_, run_underlying hU, goInt, hg, hlen es l hl]
     ·cases hs
    ·cases hs
   ·cases hs
  ·cases hs
 ·cases hs
end
end Cr.Cl
namespace Cr.Cl
open Go Go.MapKept
set_option maxRecDepth 4000
section
variable {P : Program} {Γ : Ctx} {Ω : Opq} {ρ : Rho} {o : Oper} {σ : Env} {w : World} {e : Envs} {N : Nat} {ds : Md} {K : Env → World → Prop}
theorem rep_length (z : List SV) : ∀ n, (rep n z).length = n * z.length
 | 0 => by simp [rep]
 | n + 1 => by simp [rep, rep_length z n, Nat.add_mul]; omega
theorem RepL.rep {z : List SV} {zs : List Value} (h : RepL ρ z zs) : ∀ n, RepL ρ (Cl.rep n z) (List.replicate n zs).flatten
 | 0 => RepL.nil
 | n + 1 => by rw [List.replicate_succ, List.flatten_cons]; exact RepL.append h (RepL.rep h n)
theorem rep_get (zs : List Value) : ∀ (n i : Nat), i < n * zs.length → (List.replicate n zs).flatten[i]? = zs[i % zs.length]?
 | 0, i, h => by simp at h
 | n + 1, i, h => by
  rw [List.replicate_succ, List.flatten_cons]
  by_cases q : i < zs.length
  ·rw [List.getElem?_append_left q, Nat.mod_eq_of_lt q]
  ·have h' : i < n * zs.length + zs.length := by rw [Nat.add_mul, Nat.one_mul] at h; exact h
   have h2 : i % zs.length = (i - zs.length) % zs.length := Nat.mod_eq_sub_mod (by omega)
   rw [List.getElem?_append_right (by omega), rep_get zs n (i - zs.length) (by omega), ← h2]
theorem range_rep (zs : Array Value) (n : Nat) : (Array.range (n * zs.size)).map (zs[· % zs.size]!) = (List.replicate n zs.toList).flatten.toArray := by
  apply Array.ext'
  apply List.ext_getElem?
  intro i
  by_cases h : i < n * zs.size
  · have h0 : 0 < zs.size := by rcases Nat.eq_zero_or_pos zs.size with q | q; · rw [q] at h; simp at h
                                · exact q
    have hm : i % zs.size < zs.size := Nat.mod_lt _ h0
    have := rep_get zs.toList n i (by simpa using h)
    simp only [Array.length_toList] at this
    rw [show ((List.replicate n zs.toList).flatten.toArray).toList = (List.replicate n zs.toList).flatten from rfl, this]
    simp [h, hm]
  · rw [List.getElem?_eq_none (by simpa using h), List.getElem?_eq_none]
    simp only [List.length_flatten, List.map_replicate, List.sum_replicate_nat]
    simpa using h
theorem X_newSl {T sz a c d : Nat} {l : List Value} {ls : List SV} {W : World} {F : Nat → Prop} {rs : List Res} {n : Nat}
  (hrun : ∀ f, Fr σ N ds f → (execOp f.eval o).run P w = .ok (.value (.slice (some ⟨w.heap.size, 0, none⟩) a c)) (w.alloc (.cells l.toArray T)))
  (hac : a ≤ c) (hl : l.length = c * sz) (hc : c ≤ maxLen) (hr : RepL ρ ls l) (hn : ρ n = none) (hd : o.dst = some d) (hN : Nat.blt d N = true) (hS : St W F rs w)
  (hk : ∀ L v w', Rep (ρ.add n L) (Mk.at (.sl a c) n) v → St W F (resO Ω (ρ.add n L) n (.grow T sz ls) :: rs) w' → K ((d, v) :: σ) w') : X P o N ds σ w K := ⟨fun f ha K' Q' hK => by
 unfold Oper.wp
 rw [hrun f ha]
 have := hK _ _ _ (ha.put (lt_of_blt hN) (.slice (some ⟨w.heap.size, 0, none⟩) a c)) (hk (w.heap.size, c) _ _ ⟨_, Rho.add_self _ _ _, hac, rfl⟩ ((hS.alloc (.cells l.toArray T)).head fun g hg =>
  ⟨(w.heap.size, c), l, Rho.add_self _ _ _, RepL.mono (Rho.add_le hn) _ _ hr, own_of_pts hl hc (by simp) g hg⟩))
 rw [← hd] at this
 exact this⟩
theorem allocOp_ok (hΓ : CtxTy P Γ) (he : EnvR ρ e σ) {ob : SO} {mk : Mk} (h : allocOp Γ e o.op = some (ob, mk)) {d n : Nat} (hn : ρ n = none) (hd : o.dst = some d) (hN : Nat.blt d N = true) {W : World} {F : Nat → Prop} {rs : List Res} (hS : St W F rs w)
    (hk : ∀ L v w', Rep (ρ.add n L) (mk.at n) v → St W F (resO Ω (ρ.add n L) n ob :: rs) w' → K ((d, v) :: σ) w') : X P o N ds σ w K := by
  unfold allocOp at h
  split at h
  · rename_i t ho
    split at h
    · rename_i ti hti
      cases h
      obtain ⟨z, h1, h2, _, _⟩ := (hΓ t ti hti).inf
      refine X_alloc (l := z.cells.toList) ho (h := h1) (hl := ⟨by simp⟩) hd hN hS fun b w' hS' _ => hk (b, 0) _ w' ⟨_, Rho.add_self _ _ _, rfl⟩ (hS'.head fun g hg => ⟨(b, 0), _, Rho.add_self _ _ _, ofVs_ok _ _ h2, hg⟩)
    · cases h
  · rename_i t x ho
    split at h
    · rename_i v hv
      cases h
      obtain ⟨u, hu, hx⟩ := opnd_ok he hv
      refine X_box (l := u.cells.toList) ho hx (hl := ⟨by simp⟩) hd hN hS fun b w' hS' _ => hk (b, 0) _ w' ⟨_, Rho.add_self _ _ _, rfl⟩ (hS'.head fun g hg => ⟨(b, 0), _, Rho.add_self _ _ _, RepL.mono (Rho.add_le hn) _ _ (Rep.cells hu), hg⟩)
    · cases h
  · rename_i t len parts ho
    split at h
    · rename_i el hdd
      split at h
      · rename_i ti hti
        split at h
        · rename_i ps hps
          replace h := cond_none h; obtain ⟨hsm, h⟩ := h
          replace h := cond_none h; obtain ⟨hsm2, h⟩ := h
          split at h
          · rename_i l hl
            cases h
            have hsm := ble_le hsm
            have hsm2 := ble_le hsm2
            obtain ⟨z, h1, h2, _, _⟩ := (hΓ el ti hti).inf
            obtain ⟨i, hi', hz', hsz, hby⟩ := info_parts h1.inf
            have hzs := h1.zs
            obtain ⟨pv, ls, g1, g2, g3, g4⟩ := fill_ok he _ _ _ _ _ hps hl (RepL.rep (ofVs_ok (ρ := ρ) _ _ h2) len)
            have hu := (und_ok hΓ hdd).und
            have hzl : ti.zero.length = ti.size := by have := RepL.length (ofVs_ok (ρ := ρ) _ _ h2); simp at this; omega
            refine X_newSl (T := el) (sz := ti.size) (l := ls) (fun f hf => ?_) (Nat.le_refl _) (by rw [RepL.length g2, g4, rep_length, hzl]) (by simp only [maxLen]; omega) g2 hn hd hN hS hk
            have e1 : parts.map (fun x => (x.1, f.eval x.2)) = pv.toArray := by rw [← hf.evalps g1]; apply Array.ext'; simp
            have hsm3 : ¬ (16777216 < len * ti.size) := by omega
            have hfl : Instr.fill (fun i => some (i * ti.size, ti.size)) ((Array.range (len * ti.size)).map (z.cells[· % z.cells.size]!)) pv = some ls.toArray := by
              rw [← hzs, range_rep]
              rw [← hzs] at g3
              exact g3
            simp only [execOp, ho, e1, Sem.run_bind, Instr.buildSlice, run_underlying hu, Result.andThen_ok, run_sizeOf (h := siz_of hΓ hti), hsm3, if_false]
            by_cases h00 : len * ti.size = 0
            · have er : (Array.range 0).map (z.cells[· % z.cells.size]!) = #[] := by simp [Array.range]
              have er2 : Array.range 0 = #[] := by simp [Array.range]
              have hlz : ls = [] := by
                apply List.eq_nil_of_length_eq_zero
                rw [RepL.length g2, g4, rep_length, hzl, h00]
              have hfl0 : Instr.fill (fun i => some (i * ti.size, ti.size)) #[] pv = some ls.toArray := by
                rw [h00, er] at hfl; exact hfl
              simp [h00, newRow, er2, hfl0]
            · simp [h00, newRow, zeroValue, typeInfo, hi', hz']
              rw [hfl]
              simp
          · cases h
        · cases h
      · cases h
    · cases h
  · rename_i t r ho
    have hm : (Instr.makeMap t none).run P w = .ok (.map (some w.heap.size)) (w.alloc (.map #[] 0)) := rfl
    have fin : ob = .mp [] 0 → mk = .m → (∀ f, Fr σ N ds f → (execOp f.eval o).run P w = .ok (.value (.map (some w.heap.size))) (w.alloc (.map #[] 0))) → X P o N ds σ w K := by
      rintro rfl rfl hrun
      refine ⟨fun f hf K' Q' hK => ?_⟩
      unfold Oper.wp
      rw [hrun f hf]
      have := hK _ _ _ (hf.put (lt_of_blt hN) (.map (some w.heap.size))) (hk (w.heap.size, 0) _ _ ⟨_, Rho.add_self _ _ _, rfl⟩ ((hS.alloc (.map #[] 0)).head fun g hg => ⟨(w.heap.size, 0), [], Rho.add_self _ _ _, rfl, hg⟩))
      rw [← hd] at this
      exact this
    split at h
    · cases h
      exact fin rfl rfl fun f hf => by simp [execOp, ho, hm]
    · rename_i x
      split at h
      · rename_i kt et hdd
        split at h
        · rename_i k i hx
          cases h
          obtain ⟨u, hu, hx⟩ := opnd_ok he hx
          cases hu
          exact fin rfl rfl fun f hf => by
            have hu := (und_ok hΓ hdd).und
            simp only [execOp, ho, Option.map_some, hf.eval hx, Instr.makeMap, Sem.run_bind, run_underlying hu, Result.andThen_ok, asInt]
            rfl
        · cases h
      · cases h
  · rename_i t l c ho
    split at h
    · rename_i el hdd
      split at h
      · rename_i ti hti
        split at h
        · rename_i k a hx
          split at h
          · rename_i k' b hy
            replace h := cond_none h; obtain ⟨h1, h⟩ := h
            replace h := cond_none h; obtain ⟨h2, h⟩ := h
            replace h := cond_none h; obtain ⟨h3, h⟩ := h
            cases h
            have h1 := ble_le h1; have h2 := ble_le h2; have h3 := ble_le h3
            obtain ⟨u, hu, hx⟩ := opnd_ok he hx
            obtain ⟨u', hu', hy⟩ := opnd_ok he hy
            cases hu; cases hu'
            obtain ⟨z, q1, q2, _, _⟩ := (hΓ el ti hti).inf
            obtain ⟨i, hi', hz', hsz, hby⟩ := info_parts q1.inf
            have hzs := q1.zs
            have hu := (und_ok hΓ hdd).und
            have hr := run_make (P := P) w t el i z hu hi' hz' k k' (.ofNat a) (.ofNat b) (by simp) (by simpa using h1) (by have h2' : ti.bytes * b ≤ 1000000000 := by { rw [Nat.mul_comm]; exact h2 }; have h2'' : ((ti.bytes * b : Nat) : Int) ≤ 1000000000 := Int.ofNat_le.2 h2'; rw [hby]; show (ti.bytes : Int) * ((b : Nat) : Int) ≤ 281474976710656; rw [← Int.natCast_mul]; omega) (by show ((b : Nat) : Int) ≤ 9223372036854775807; omega)
            refine X_newSl (T := el) (sz := ti.size) (l := (List.replicate b z.cells.toList).flatten) (fun f hf => ?_) h1 (by simp [List.length_flatten, hzs]) (by simp only [maxLen]; omega) (RepL.rep (ofVs_ok _ _ q2) b) hn hd hN hS hk
            have e : madeCells z.cells (b * i.size) = (List.replicate b z.cells.toList).flatten.toArray := by
              rw [hsz, ← hzs]; exact range_rep z.cells b
            simp only [Int.ofNat_eq_natCast, Int.toNat_natCast] at hr
            rw [e] at hr
            simp [execOp, ho, hf.eval hx, hf.eval hy, hr]
          · cases h
        · cases h
      · cases h
    · cases h
  · rename_i s' dt x ho
    split at h
    · rename_i hs
      split at h
      · rename_i el hdd
        split at h
        · rename_i hel
          split at h
          · rename_i l hl
            replace h := cond_none h; obtain ⟨h1, h⟩ := h
            cases h
            obtain ⟨u, ⟨h256, rfl⟩, hx⟩ := opnd_ok he hl
            refine X_strBytes (s := l.map UInt8.ofNat) (hs := und_ok hΓ hs) (hd := und_ok hΓ hdd) (he := und_ok hΓ hel) ho hx hd hN hS fun b c w' hS' hc => ?_
            simp only [List.length_map] at hc ⊢
            refine hk (b, c) _ w' ⟨(b, c), Rho.add_self _ _ _, by simpa using hc, by simp⟩ (hS'.head fun g hg => ⟨(b, c), _, Rho.add_self _ _ _, ?_, hg⟩)
            have key : ∀ l : List Nat, (∀ x ∈ l, x < 256) → RepL (ρ.add n (b, c)) (bytesS l) (bv (l.map UInt8.ofNat)) := by
              intro l
              induction l with
              | nil => intro _; exact RepL.nil
              | cons q l ih =>
                intro hq
                refine RepL.cons ?_ (ih fun x hx => hq x (List.mem_cons_of_mem _ hx))
                have : q < 256 := hq q (List.mem_cons_self ..)
                show Value.int .u8 _ = Value.int .u8 _
                simp [Nat.mod_eq_of_lt this]
            exact key l h256
          · cases h
        · cases h
      · cases h
    · cases h
  · cases h
end
end Cr.Cl
namespace Cr.Cl
open Go Go.MapKept
set_option maxRecDepth 4000
section
variable {P : Program} {Γ : Ctx} {Ω : Opq} {ρ : Rho} {o : Oper} {σ : Env} {w : World} {e : Envs} {N : Nat} {ds : Md} {K : Env → World → Prop}
def putV (d : Option Tmp) (v : Value) (σ : Env) : Env := match d with | some d => (d, v) :: σ | none => σ
def dstOk (N : Nat) (d : Option Tmp) : Prop := ∀ k, d = some k → Nat.blt k N = true
theorem Fr.putV {N : Nat} {ds : Md} {a : Act} (h : Fr σ N ds a) {d : Option Tmp} (hN : dstOk N d) (v : Value) : Fr (Cl.putV d v σ) N ds (a.put d v) := by
 cases d with
 | none => exact h
 | some d => exact h.put (lt_of_blt (hN d rfl)) v
theorem X_exec {v : Value} {w' : World} (hrun : ∀ a, Fr σ N ds a → (execOp a.eval o).run P w = .ok (.value v) w' ∨ ((execOp a.eval o).run P w = .ok .skip w' ∧ v = undef)) (hN : dstOk N o.dst) (h : K (putV o.dst v σ) w') : X P o N ds σ w K := ⟨fun a ha K' Q' hK => by
 unfold Oper.wp
 rcases hrun a ha with hr | ⟨hr, rfl⟩
 ·rw [hr]; exact hK _ _ _ (Fr.putV ha hN v) h
 ·rw [hr]; exact hK _ _ _ (Fr.putV ha hN undef) h⟩
theorem St.heapRd {W : World} {F : Nat → Prop} {h : Heap} {rs : List Res} (hS : St W F (res Ω ρ h ++ rs) w) : HeapRd Ω ρ h w := fun _ _ hg => St.rdO hg hS
theorem storeS_ok {W : World} {F : Nat → Prop} {h h' : Heap} {rs : List Res} (hS : St W F (res Ω ρ h ++ rs) w) {n off : Nat} (hn : n < top) {vs : List SV} {us : List Value} (hv : RepL ρ vs us) {L : Nat × Nat} (hL : ρ n = some L) (hs : storeS h n off vs = some h') :
  us ≠ [] ∧ (∀ u ∈ us, u.oneCell' = true) ∧ ∃ w', (storeCells ⟨L.1, off, none⟩ us 0).run P w = .ok () w' ∧ St W F (res Ω ρ h' ++ rs) w' := by
 unfold storeS at hs
 replace hs := cond_none hs; obtain ⟨h1, hs⟩ := hs
 have hall : vs.all one1 = true ∧ us ≠ [] := by
  cases vs with
  | nil => cases h1
  | cons a r => obtain ⟨u, l', _, _, rfl⟩ := hv; exact ⟨h1, by simp⟩
 have h1c := RepL.ones hv hall.1
 refine ⟨hall.2, h1c, ?_⟩
 have hlen := RepL.length hv
 split at hs
 ·rename_i t c hg
  replace hs := cond_none hs; obtain ⟨hle, hs⟩ := hs; cases hs
  have hle := ble_le hle
  obtain ⟨f, ⟨f1, f2, ⟨L', ws, g1, g2, g3⟩, hs2, hd, hu⟩, s⟩ := St.out hn hg hS
  rw [hL] at g1; cases g1
  have hS2 : St W F (pts L.1 (.cells ws.toArray t (0, 0)) :: (res Ω ρ (h.erase n) ++ rs)) w := ⟨f, ⟨f1, f2, g3, hs2, hd, hu⟩, s⟩
  have hb := hS2.get
  have hw := RepL.length g2
  have hst := run_storeCells_at P L.1 off t us 0 ws.toArray w hb (by simp; omega) h1c
  simp only [Nat.add_zero] at hst
  have u := setBlock_row hb (splice ws off us).toArray
  refine ⟨_, hst, St.back _ hn hg ((hS2.set u).head fun g hg => ⟨L, splice ws off us, hL, RepL.lput g2 hv off, hg⟩)⟩
 ·rename_i t sz c hg
  replace hs := cond_none hs; obtain ⟨hle, hs⟩ := hs; cases hs
  have hle := ble_le hle
  obtain ⟨f, ⟨f1, f2, ⟨L', ws, g1, g2, g3⟩, hs2, hd, hu⟩, s⟩ := St.out hn hg hS
  rw [hL] at g1; cases g1
  have hw := RepL.length g2
  have hus : 0 < us.length := List.length_pos_iff.2 hall.2
  obtain ⟨hl1, hcm, ⟨h0, _⟩ | ⟨b, cs, hb1, rfl, hcz, ht⟩⟩ := g3
  ·rw [h0, Nat.zero_mul] at hl1; omega
  ·cases hb1
   have hS2 : St W F (pts L.1 (.cells cs t (0, 0)) :: (res Ω ρ (h.erase n) ++ rs)) w := ⟨f, ⟨_, f2, rfl, hs2, hd, hu⟩, s⟩
   have hb := hS2.get
   have hst := run_storeCells_at P L.1 off t us 0 cs w hb (by rw [hcz]; omega) h1c
   simp only [Nat.add_zero] at hst
   have u := setBlock_row hb (splice cs.toList off us).toArray
   refine ⟨_, hst, St.back _ hn hg ((hS2.set u).head fun g hg => ⟨L, splice ws off us, hL, RepL.lput g2 hv off, own_of_pts (l := splice cs.toList off us) (by rw [splice_length (by simp; omega)]; simpa using hcz) hcm ?_ g hg⟩)⟩
   rw [splice_length (by omega)]
   have e1 : cs.toList = ws ++ cs.toList.drop ws.length := by
    have := List.take_append_drop ws.length cs.toList
    rw [ht] at this; exact this.symm
   rw [e1, splice_append (by omega), List.take_append_of_le_length (by rw [splice_length (by omega)]; omega), List.take_of_length_le (by rw [splice_length (by omega)]; omega)]
 ·cases hs

/-! ### append -/
inductive AppArg (P : Program) (el size : Nat) (xt : TypeId) : Value → Nat → List Value → World → Prop where
 | sl {a2 : Option Addr} {m c2 : Nat} {news : List Value} {w : World} {e' : TypeId} (hu : P.underlying xt = some (.slice e')) (hr : Rd w (row a2 news)) (hl : news.length = m * size) : AppArg P el size xt (.slice a2 m c2) m news w
 | zs {k kk : IntKind} {m : Nat} {z : Value} {n b : Nat} {w : World} (hu : P.underlying xt = some (.int kk)) (hz : Inf P el z n b) (hn : n = size) (hm : m * b ≤ 1000000000) (hm2 : m ≤ 1000000000) : AppArg P el size xt (.int k (.ofNat m)) m (List.replicate m z.cells.toList).flatten w
 | st {l : List UInt8} {w : World} (hu : P.underlying xt = some .string) (hs : size = 1) : AppArg P el size xt (.string (str l)) l.length (bv l) w
theorem AppArg.drew {el size xt : Nat} {x : Value} {m : Nat} {news : List Value} (h : AppArg P el size xt x m news w) : AppArg P el size xt x m news w.drew := by
 cases h with
 | sl hu hr hl => exact .sl hu (by obtain ⟨g, hg, ha⟩ := hr; exact ⟨g, hg, ha⟩) hl
 | zs hu hz hn hm hm2 => exact .zs hu hz hn hm hm2
 | st hu hs => exact .st hu hs
theorem zeroCells_rep (z : Array Value) (n : Nat) : Builtin.zeroCells z n = (List.replicate n z.toList).flatten.toArray := by
 unfold Builtin.zeroCells; exact range_rep z n
theorem AppArg.length {el size xt : Nat} {x : Value} {m : Nat} {news : List Value} (h : AppArg P el size xt x m news w) : news.length = m * size := by
 cases h with
 | sl hu hr hl => exact hl
 | zs hu hz hn hm hm2 => have := hz.zs; simp [List.length_flatten, this, hn]
 | st hu hs => subst hs; simp
theorem firstCells_str (l : List UInt8) : (Builtin.firstCells 1 l.length (.string (str l))).run P w = .ok (bv l).toArray w := by
 simp [Builtin.firstCells, bv, str]
theorem append_room {t tx ty el size bytes n m c : Nat} {a : Option Addr} {x : Value} {news : List Value} {z : Value} (hu : P.underlying t = some (.slice el)) (hi : Inf P el z size bytes) (hx : AppArg P el size tx x m news w) (hroom : n + m ≤ c) {w' : World}
  (hst : match a with | some b => (storeCells (b.add (n * size)) news 0).run P w = .ok () w' | none => w' = w) :
  (Builtin.append_ #[t, tx] ty #[.slice a n c, x]).run P w = .ok (.slice a (n + m) c) w' := by
 obtain ⟨i, hi', hz', hsz, hby⟩ := info_parts hi.inf
 subst hsz hby
 cases hx with
 | sl hxu hr hl =>
  have hf := fun c2 => firstCells_row (P := P) (size := i.size) (m := m) (c := c2) hr hl
  cases a with
  | none => simp at hst; subst hst; simp [Builtin.append_, run_underlying hu, run_underlying hxu, Go.sizeOf, typeInfo, hi', Builtin.lenOf, hf, hroom]
  | some b => simp at hst; simp [Builtin.append_, run_underlying hu, run_underlying hxu, Go.sizeOf, typeInfo, hi', Builtin.lenOf, hf, hroom, hst]
 | zs hxu hz hn hm hm2 =>
  obtain ⟨i2, hi2, hz2, hsz2, hby2⟩ := info_parts hz.inf
  rw [hi'] at hi2; cases hi2
  rw [hz'] at hz2; cases hz2
  have hwr : IntKind.i64.wrap (m : Int) = m := w64 (by omega) (by omega)
  have h48 : ¬ ((281474976710656 : Int) < (m : Int) * (i.bytes : Int)) := by
   rw [← hby2] at hm
   have : ((m * i.bytes : Nat) : Int) ≤ 1000000000 := Int.ofNat_le.2 hm
   rw [← Int.natCast_mul]; omega
  have hneg : ¬ ((m : Int) < 0) := by omega
  have hzz := hz.zs
  have hzv : ∀ w0, (zeroValue el).run P w0 = .ok z w0 := fun w0 => by simp [zeroValue, typeInfo, hi', hz']
  by_cases h0 : m * i.size = 0
  ·have he : (List.replicate m z.cells.toList).flatten = [] := by
    apply List.eq_nil_of_length_eq_zero
    simp [List.length_flatten, hzz, ← hsz2, h0]
   rw [he] at hst
   cases a with
   | none => simp at hst; subst hst; simp [Builtin.append_, run_underlying hu, run_underlying hxu, Go.sizeOf, typeInfo, hi', asInt, asIntOf, hwr, h48, hneg, hroom, h0]
   | some b => simp [Builtin.append_, run_underlying hu, run_underlying hxu, Go.sizeOf, typeInfo, hi', asInt, asIntOf, hwr, h48, hneg, hroom, h0, hst]
  ·cases a with
   | none => simp at hst; subst hst; simp [Builtin.append_, run_underlying hu, run_underlying hxu, Go.sizeOf, typeInfo, hi', asInt, asIntOf, hwr, h48, hneg, hroom, hzv]
   | some b => simp only at hst; simp [Builtin.append_, run_underlying hu, run_underlying hxu, Go.sizeOf, typeInfo, hi', asInt, asIntOf, hwr, h48, hneg, hroom, h0, hzv, zeroCells_rep, hst]
 | st hxu hs =>
  have hf := firstCells_str (P := P) (w := w) ‹List UInt8›
  rw [← hs] at hf
  cases a with
  | none => simp at hst; subst hst; simp [Builtin.append_, run_underlying hu, run_underlying hxu, Go.sizeOf, typeInfo, hi', Builtin.lenOf, str_size, hf, hroom]
  | some b => simp at hst; simp [Builtin.append_, run_underlying hu, run_underlying hxu, Go.sizeOf, typeInfo, hi', Builtin.lenOf, str_size, hf, hroom, hst]
theorem append_new {t tx ty el size bytes n m c : Nat} {a : Option Addr} {x : Value} {cs news : List Value} {z : Value} {W : World} {F : Nat → Prop} {rs : List Res} (hu : P.underlying t = some (.slice el)) (hi : Inf P el z size bytes) (hx : AppArg P el size tx x m news w) (hroom : ¬ n + m ≤ c)
  (hS : St W F rs w) (hold : Rd w (row a cs)) (hcs : cs.length = n * size) (hfit : (n + m) * bytes ≤ 140737488355328) (hmax : n + m ≤ maxLen) :
  ∃ b c' w', (Builtin.append_ #[t, tx] ty #[.slice a n c, x]).run P w = .ok (.slice (some ⟨b, 0, none⟩) (n + m) c') w' ∧ St W F (own el size (some ⟨b, 0, none⟩) c' (cs ++ news) :: rs) w' ∧ n + m ≤ c' := by
 obtain ⟨i, hi', hz', hsz, hby⟩ := info_parts hi.inf
 have hz := hi.zs
 have hlen1 := hx.length
 subst hsz hby
 have hlt : ((n + m : Nat) : Int) ≤ 9223372036854775807 := by simp only [maxLen] at hmax; omega
 have hge : n + m ≤ grownCap w (n + m) c el := grownCap_ge w (n + m) c el
 have hcm : grownCap w (n + m) c el ≤ maxLen := grownCap_le_maxLen w (n + m) c el hmax
 have hmin : ¬ (9223372036854775807 < ((n : Int) + (m : Int))) := by omega
 have h48 : ¬ (281474976710656 < Builtin.nextslicecap (n + m) c * i.bytes) := by have := growslice_fits (show c < n + m by omega) hfit; omega
 have hod : (Builtin.firstCells i.size n (.slice a n c)).run P w.drew = .ok cs.toArray w.drew := firstCells_row (P := P) (size := i.size) (by
   obtain ⟨g, hg, ha⟩ := hold; exact ⟨g, hg, ha⟩) hcs
 have hzv : ∀ w0, (zeroValue el).run P w0 = .ok z w0 := fun w0 => by simp [zeroValue, typeInfo, hi', hz']
 let blk := cs.toArray ++ news.toArray ++ Builtin.zeroCells z.cells (grownCap w (n + m) c el - (n + m))
 refine ⟨w.heap.size, grownCap w (n + m) c el, w.drew.alloc (.cells blk el), ?_, ?_, hge⟩
 ·cases hx.drew with
  | sl hxu hr hl =>
   have hf := fun c2 => firstCells_row (P := P) (size := i.size) (m := m) (c := c2) hr hl
   simp [Builtin.append_, run_underlying hu, run_underlying hxu, Go.sizeOf, typeInfo, zeroValue, hi', hz', Builtin.lenOf, hroom, hmin, h48, Question.forced, hod, hf, newRow, grownCap, blk]
  | zs hxu hzz hn hm hm2 =>
   obtain ⟨i2, hi2, hz2, hsz2, hby2⟩ := info_parts hzz.inf
   rw [hi'] at hi2; cases hi2
   rw [hz'] at hz2; cases hz2
   have hwr : IntKind.i64.wrap (m : Int) = m := w64 (by omega) (by omega)
   have h48' : ¬ ((281474976710656 : Int) < (m : Int) * (i.bytes : Int)) := by
    rw [← hby2] at hm
    have : ((m * i.bytes : Nat) : Int) ≤ 1000000000 := Int.ofNat_le.2 hm
    rw [← Int.natCast_mul]; omega
   have hneg : ¬ ((m : Int) < 0) := by omega
   by_cases h0 : m * i.size = 0
   ·have he : (List.replicate m z.cells.toList).flatten = [] := by
     apply List.eq_nil_of_length_eq_zero
     simp [List.length_flatten, hz, h0]
    simp [Builtin.append_, run_underlying hu, run_underlying hxu, Go.sizeOf, typeInfo, hi', asInt, asIntOf, hwr, h48', hneg, hroom, hmin, h48, h0, he, Question.forced, hod, newRow, grownCap, blk, zeroValue, hz']
   ·simp [Builtin.append_, run_underlying hu, run_underlying hxu, Go.sizeOf, typeInfo, hi', asInt, asIntOf, hwr, h48', hneg, hroom, hmin, h48, h0, Question.forced, hod, newRow, grownCap, blk, zeroValue, hz', zeroCells_rep]
  | st hxu hs =>
   have hf := firstCells_str (P := P) (w := w.drew) ‹List UInt8›
   rw [← hs] at hf
   simp [Builtin.append_, run_underlying hu, run_underlying hxu, Go.sizeOf, typeInfo, zeroValue, hi', hz', Builtin.lenOf, str_size, hroom, hmin, h48, Question.forced, hod, hf, newRow, grownCap, blk]
 ·have hlen : blk.toList.length = grownCap w (n + m) c el * i.size := by
   simp only [blk, Array.length_toList, Array.size_append, List.size_toArray, size_zeroCells, hz, hcs, hlen1, ← Nat.add_mul]
   congr 1; omega
  have h3 := hS.drew.alloc (.cells blk el)
  refine St.imp h3 fun g hg => hg.mono_head ?_
  have key := own_of_pts (T := el) (e := i.size) (c := grownCap w (n + m) c el) (b := w.heap.size) (l := blk.toList) (cs := cs ++ news) hlen hcm (by simp only [blk, Array.toList_append]; exact List.take_left)
  simpa using key
end
end Cr.Cl
namespace Cr.Cl
open Go Go.MapKept
set_option maxRecDepth 4000
section
variable {P : Program} {Γ : Ctx} {Ω : Opq} {ρ : Rho} {w : World}
theorem own_store {T e cap n m b : Nat} {vs news : List Value} {W : World} {F : Nat → Prop} {rest : List Res} (hS : St W F (own T e (some ⟨b, 0, none⟩) cap vs :: rest) w) (hle : n * e ≤ vs.length) (hl : news.length = m * e) (hroom : n + m ≤ cap) (hne : news ≠ []) (h1 : ∀ u ∈ news, u.oneCell' = true) :
  ∃ w', (storeCells ⟨b, n * e, none⟩ news 0).run P w = .ok () w' ∧ St W F (own T e (some ⟨b, 0, none⟩) cap (vs.take (n * e) ++ news) :: rest) w' := by
 obtain ⟨f, ⟨f1, f2, ho, hs, hd, hu⟩, s⟩ := hS
 have hpos : 0 < news.length := List.length_pos_iff.2 hne
 have hfit0 : n * e + m * e ≤ cap * e := by rw [← Nat.add_mul]; exact Nat.mul_le_mul_right _ hroom
 obtain ⟨hl1, hcm, ⟨h0, _⟩ | ⟨b', cs, hb1, rfl, hcz, ht⟩⟩ := ho
 ·rw [h0] at hfit0; simp at hfit0; omega
 ·cases hb1
  have hS2 : St W F (pts b (.cells cs T (0, 0)) :: rest) w := ⟨f, ⟨_, f2, rfl, hs, hd, hu⟩, s⟩
  have hb := hS2.get
  have hst := run_storeCells_at P b (n * e) T news 0 cs w hb (by rw [hcz]; omega) h1
  simp only [Nat.add_zero] at hst
  have u := setBlock_row hb (splice cs.toList (n * e) news).toArray
  refine ⟨_, hst, (hS2.set u).head fun g hg => own_of_pts (l := splice cs.toList (n * e) news) (by rw [splice_length (by simp; omega)]; simpa using hcz) hcm ?_ g hg⟩
  have e1 : cs.toList.take (n * e) = vs.take (n * e) := by
   have := congrArg (List.take (n * e)) ht
   rw [List.take_take, Nat.min_eq_left hle] at this
   exact this
  unfold splice
  rw [e1]
  exact List.take_left
theorem appSl_ok {m m' : Mem} (hb : ρ.below m.n) (htop : m.n ≤ top) {W : World} {F : Nat → Prop} {rs : List Res} (hS : St W F (res Ω ρ m.h ++ rs) w) {st xt ty el : TypeId} {ti : TI} (hU : P.underlying st = some (.slice el)) {z : Value} (hi : Inf P el z ti.size ti.bytes)
  (hnew : m.h.get m.n = none) {s' : SV} {xv : Value} {xs : List SV} {news : List Value} {k : Nat} (hx : AppArg P el ti.size xt xv k news w) (hxs : RepL ρ xs news) (_ : 0 < ti.size) (htop' : m.n < top) (_ : ∀ u ∈ news, u.oneCell' = true) (_ : news ≠ []) (_ : news.length = k * ti.size) {o off len cap : Nat} {sv : Value} (hs : Rep ρ (.sl o off len cap) sv) (hmax : len + k ≤ maxLen) (hfit : (len + k) * ti.bytes ≤ 140737488355328) (h : appSl m ti el xs k o off len cap = some (s', m')) :
  ∃ ρ' v w', ρ.ext m.n m'.n ρ' ∧ ρ'.below m'.n ∧ m'.n ≤ top ∧ Rep ρ' s' v ∧ (Builtin.append_ #[st, xt] ty #[sv, xv]).run P w = .ok v w' ∧ St W F (res Ω ρ' m'.h ++ rs) w' := by
 unfold appSl at h
 obtain ⟨L, hL, hlc, hq⟩ := hs
 cases hq
 rcases cond_some h with ⟨hr, h⟩ | ⟨hr, h⟩
 ·have hr := ble_le hr
  split at h
  ·rename_i h' hst
   cases h
   have ho : o < top := by
    rcases Nat.lt_or_ge o m.n with q | q
    ·omega
    ·rw [hb o q] at hL; cases hL
   obtain ⟨_, _, w', g1, g2⟩ := storeS_ok (P := P) hS ho hxs hL hst
   have := append_room (ty := ty) hU hi hx (n := len) (m := k) (c := cap) (a := some ⟨L.1, off, none⟩) hr (w' := w') (by simp only [add_lit]; exact g1)
   exact ⟨ρ, _, w', Rho.ext.rfl, hb, htop, ⟨L, hL, by omega, rfl⟩, this, g2⟩
  ·cases h
 ·have hr : ¬ (len + k ≤ cap) := fun q => by rw [nble] at hr; simp at hr; omega
  split at h
  ·rename_i c0 hc0
   cases h
   obtain ⟨vs, q1, q2, q3⟩ := segOf_ok (Ω := Ω) (a := some ⟨L.1, off, none⟩) (m := len) (c := cap) (St.heapRd hS) (v := .sl o off len cap) ⟨L, hL, hlc, rfl⟩ hc0
   obtain ⟨b, c', w', hrun, hS', hc'⟩ := append_new (ty := ty) hU hi hx hr hS q3 q2 hfit hmax
   have hle := Rho.add_le (L := (b, c')) (hb m.n (Nat.le_refl _))
   refine ⟨ρ.add m.n (b, c'), _, w', Rho.ext.add (hb m.n (Nat.le_refl _)), hb.add _, by show m.n + 1 ≤ top; omega, ⟨(b, c'), Rho.add_self _ _ _, by simpa using hc', by simp⟩, hrun, ?_⟩
   exact St.new htop' hnew (St.head (St.mono' hle hS') fun g hg => ⟨(b, c'), _, Rho.add_self _ _ _, RepL.mono hle _ _ (RepL.append q1 hxs), hg⟩)
  ·cases h
theorem appSlu_ok {m m' : Mem} (hb : ρ.below m.n) (htop : m.n ≤ top) {W : World} {F : Nat → Prop} {rs : List Res} (hS : St W F (res Ω ρ m.h ++ rs) w) {st xt ty el : TypeId} {ti : TI} (hU : P.underlying st = some (.slice el)) {z : Value} (hi : Inf P el z ti.size ti.bytes)
  (hnew : m.h.get m.n = none) {s' : SV} {xv : Value} {xs : List SV} {news : List Value} {k : Nat} (hx : AppArg P el ti.size xt xv k news w) (hxs : RepL ρ xs news) (hsz0 : 0 < ti.size) (htop' : m.n < top) (hones : ∀ u ∈ news, u.oneCell' = true) (hne : news ≠ []) (hlx : news.length = k * ti.size) {o sz j len : Nat} {sv : Value} (hs : Rep ρ (.slu o sz j len) sv) (hmax : len + k ≤ maxLen) (hfit : (len + k) * ti.bytes ≤ 140737488355328) (h : appSlu m ti el xs k o sz j len = some (s', m')) :
  ∃ ρ' v w', ρ.ext m.n m'.n ρ' ∧ ρ'.below m'.n ∧ m'.n ≤ top ∧ Rep ρ' s' v ∧ (Builtin.append_ #[st, xt] ty #[sv, xv]).run P w = .ok v w' ∧ St W F (res Ω ρ' m'.h ++ rs) w' := by
 unfold appSlu at h
 replace h := cond_none h; obtain ⟨h4, h⟩ := h
 simp only [Bool.and_eq_true] at h4
 obtain ⟨h4, h5⟩ := h4
 have h4 := beq_eq h4; have h5 := beq_eq h5
 subst h5; subst h4
 obtain ⟨L, hL, hlc, hq⟩ := hs
 cases hq
 simp only [Nat.zero_mul, Nat.sub_zero, Nat.zero_add] at *
 have ho : o < top := by
  rcases Nat.lt_or_ge o m.n with q | q
  ·omega
  ·rw [hb o q] at hL; cases hL
 split at h
 ·rename_i t sz' c0 hg
  replace h := cond_none h; obtain ⟨h6, h⟩ := h
  simp only [Bool.and_eq_true] at h6
  obtain ⟨⟨h6, h7⟩, h8⟩ := h6
  have h6 := beq_eq h6; have h7 := beq_eq h7; have h8 := ble_le h8
  subst h7; subst h6
  rcases cond_some h with ⟨hr, h⟩ | ⟨hr, h⟩
  ·have hr := ble_le hr
   split at h
   ·rename_i h' hst
    cases h
    -- the known cells lie within the capacity
    have hcap : len + k ≤ L.2 := by
     obtain ⟨f, ⟨L', ws, g1, g2, g3⟩, _⟩ := St.rdO hg hS
     rw [hL] at g1; cases g1
     have := g3.1
     rw [RepL.length g2] at this
     exact Nat.le_of_mul_le_mul_right (Nat.le_trans hr this) hsz0
    obtain ⟨_, _, w', g1, g2⟩ := storeS_ok (P := P) hS ho hxs hL hst
    have := append_room (ty := ty) hU hi hx (n := len) (m := k) (c := L.2) (a := some ⟨L.1, 0, none⟩) hcap (w' := w') (by simp only [add_lit, Nat.zero_add]; exact g1)
    exact ⟨ρ, _, w', Rho.ext.rfl, hb, htop, ⟨L, hL, by omega, by simp⟩, this, g2⟩
   ·cases h
  ·cases h
   have hS1 := St.out ho hg hS
   have hnew' : (m.h.erase o).get m.n = none := by
    have := Tr.get_setF (α := SO) none 24 m.h o m.n (by simp only [top] at ho; omega)
    show Tr.get (Tr.setF none 24 m.h o) m.n = none
    rw [this, hnew]; simp
   obtain ⟨f, ⟨f1, f2, ⟨L', ws, g1, g2, g3⟩, hs2, hd, hu'⟩, s⟩ := hS1
   rw [hL] at g1; cases g1
   have hS2 : St W F (own t ti.size (some ⟨L.1, 0, none⟩) L.2 ws :: (res Ω ρ (m.h.erase o) ++ rs)) w := ⟨f, ⟨f1, f2, g3, hs2, hd, hu'⟩, s⟩
   have hwl := RepL.length g2
   by_cases hroom : len + k ≤ L.2
   ·obtain ⟨w', q1, q2⟩ := own_store (P := P) hS2 (n := len) (m := k) (by omega) hlx hroom hne hones
    have := append_room (ty := ty) hU hi hx (n := len) (m := k) (c := L.2) (a := some ⟨L.1, 0, none⟩) hroom (w' := w') (by simp only [add_lit, Nat.zero_add]; exact q1)
    have hle := Rho.add_le (L := L) (hb m.n (Nat.le_refl _))
    refine ⟨ρ.add m.n L, _, w', Rho.ext.add (hb m.n (Nat.le_refl _)), hb.add _, by show m.n + 1 ≤ top; omega, ⟨L, Rho.add_self _ _ _, by omega, by simp⟩, this, ?_⟩
    exact St.new htop' hnew' (St.head (St.mono' hle q2) fun g hg => ⟨L, _, Rho.add_self _ _ _, RepL.mono hle _ _ (RepL.append (RepL.take _ g2) hxs), hg⟩)
   ·have hrd : Rd w (row (some ⟨L.1, 0, none⟩) (ws.take (len * ti.size))) := (hS2.rd (List.mem_cons_self ..)).own_row.mono (by
     have := row.part (a := some ⟨L.1, 0, none⟩) (cs := ws) (cs' := ws.take (len * ti.size)) (i := 0) (fun j v hv => by
      rw [List.getElem?_take] at hv; split at hv
      ·simpa using hv
      ·cases hv)
     simpa [adr] using this)
    obtain ⟨b, c', w', hrun, hS', hc'⟩ := append_new (ty := ty) hU hi hx hroom hS2.drop hrd (by simp; omega) hfit hmax
    have hle := Rho.add_le (L := (b, c')) (hb m.n (Nat.le_refl _))
    refine ⟨ρ.add m.n (b, c'), _, w', Rho.ext.add (hb m.n (Nat.le_refl _)), hb.add _, by show m.n + 1 ≤ top; omega, ⟨(b, c'), Rho.add_self _ _ _, by simpa using hc', by simp⟩, hrun, ?_⟩
    exact St.new htop' hnew' (St.head (St.mono' hle hS') fun g hg => ⟨(b, c'), _, Rho.add_self _ _ _, RepL.mono hle _ _ (RepL.append (RepL.take _ g2) hxs), hg⟩)
 ·cases h
theorem appendS_ok (hΓ : CtxTy P Γ) {m m' : Mem} (hb : ρ.below m.n) (htop : m.n ≤ top) {W : World} {F : Nat → Prop} {rs : List Res} (hS : St W F (res Ω ρ m.h ++ rs) w) {st xt ty el : TypeId} {ti : TI} (hu : und Γ st = some (.slice el)) (hti : Γ.ty.get el = some ti)
  (hnew : m.h.get m.n = none) {s s' : SV} {sv xv : Value} {xs : List SV} {news : List Value} {k : Nat} (hs : Rep ρ s sv) (hx : AppArg P el ti.size xt xv k news w) (hxs : RepL ρ xs news) (h : appendS m ti el s xs k = some (s', m')) :
  ∃ ρ' v w', ρ.ext m.n m'.n ρ' ∧ ρ'.below m'.n ∧ m'.n ≤ top ∧ Rep ρ' s' v ∧ (Builtin.append_ #[st, xt] ty #[sv, xv]).run P w = .ok v w' ∧ St W F (res Ω ρ' m'.h ++ rs) w' := by
 have hU := (und_ok hΓ hu).und
 obtain ⟨z, hi, hz2, _, _⟩ := (hΓ el ti hti).inf
 have hlx := hx.length
 unfold appendS at h
 replace h := cond_none h; obtain ⟨h1, h⟩ := h
 simp only [Bool.and_eq_true] at h1
 obtain ⟨⟨hone, hsz0⟩, htop'⟩ := h1
 have hsz0 := blt_lt hsz0
 have htop' := blt_lt htop'
 have hones := RepL.ones hxs hone
 split at h
 ·rename_i n hn
  replace h := cond_none h; obtain ⟨h2, h⟩ := h
  simp only [Bool.and_eq_true] at h2
  obtain ⟨h2, h3⟩ := h2
  have h2 := ble_le h2; have h3 := ble_le h3
  obtain ⟨a, c, rfl, hnc⟩ := lenOf_ok hs hn
  have hmax : n + k ≤ maxLen := by simp only [maxLen]; omega
  have hfit : (n + k) * ti.bytes ≤ 140737488355328 := by omega
  rcases cond_some h with ⟨hk, h⟩ | ⟨hk, h⟩
  ·have hk := beq_eq hk; subst hk
   cases h
   have : news = [] := List.eq_nil_of_length_eq_zero (by simpa using hlx)
   subst this
   have := append_room (ty := ty) hU hi hx (n := n) (m := 0) (c := c) (a := a) (by omega) (w' := w) (by cases a <;> simp [storeCells])
   exact ⟨ρ, _, w, Rho.ext.rfl, hb, htop, hs, this, hS⟩
  ·have hk0 : k ≠ 0 := by intro q; subst q; cases hk
   have hne : news ≠ [] := by
    intro q; subst q
    have hlx' : k * ti.size = 0 := by simpa using hlx.symm
    rcases Nat.mul_eq_zero.1 hlx' with q | q
    ·exact hk0 q
    ·omega
   split at h
   ·cases h
    cases hs
    have hno : ¬ (0 + k ≤ 0) := by omega
    obtain ⟨b, c', w', hrun, hS', hc'⟩ := append_new (ty := ty) (a := none) (cs := []) hU hi hx hno hS (Rd_nil _ _) (by simp) hfit hmax
    have hle := Rho.add_le (L := (b, c')) (hb m.n (Nat.le_refl _))
    refine ⟨ρ.add m.n (b, c'), _, w', Rho.ext.add (hb m.n (Nat.le_refl _)), hb.add _, by show m.n + 1 ≤ top; omega, ⟨(b, c'), Rho.add_self _ _ _, by simpa using hc', by simp⟩, hrun, ?_⟩
    refine St.new htop' hnew (St.head (St.mono' hle hS') fun g hg => ⟨(b, c'), news, Rho.add_self _ _ _, RepL.mono hle _ _ hxs, by simpa using hg⟩)
   ·simp only [lenOf, Option.some.injEq] at hn; subst hn
    exact appSl_ok hb htop hS hU hi hnew hx hxs hsz0 htop' hones hne hlx hs hmax hfit h
   ·simp only [lenOf, Option.some.injEq] at hn; subst hn
    exact appSlu_ok hb htop hS hU hi hnew hx hxs hsz0 htop' hones hne hlx hs hmax hfit h
   ·cases h
 ·cases h
end
end Cr.Cl
namespace Cr.Cl
open Go Go.MapKept
set_option maxRecDepth 4000
section
variable {P : Program} {Γ : Ctx} {Ω : Opq} {ρ : Rho} {o : Oper} {σ : Env} {w : World} {e : Envs}
theorem keq_eq {d : TypeDesc} {k a : SV} {kv av : Value} (hk : Rep ρ k kv) (ha : Rep ρ a av) (h : keq d k a = some true) : av = kv := by
 unfold keq at h
 split at h
 ·replace h := cond_none h; obtain ⟨h1, h⟩ := h
  have := ikeq_ok h1; subst this
  simp only [Option.some.injEq, ieq_ok, decide_eq_true_eq] at h
  subst h; cases hk; cases ha; rfl
 ·simp only [Option.some.injEq, leq_ok, decide_eq_true_eq] at h
  subst h; obtain ⟨_, rfl⟩ := hk; obtain ⟨_, rfl⟩ := ha; rfl
 ·simp only [Option.some.injEq, beq_iff_eq] at h
  subst h; cases hk; cases ha; rfl
 ·cases h
theorem sameBits_key {d : TypeDesc} {k : SV} {kv : Value} (hk : Rep ρ k kv) (h : keyOk d k = true) (n : Nat) : Instr.sameBits n kv kv = true := by
 unfold keyOk at h
 split at h
 ·cases hk; cases n <;> simp [Instr.sameBits]
 ·obtain ⟨_, rfl⟩ := hk; cases n <;> simp [Instr.sameBits, Go.beq_toListBytes]
 ·cases hk; cases n <;> simp [Instr.sameBits]
 ·cases h
theorem setK_ok {d : TypeDesc} {k v : SV} {kv vv : Value} (hk : Rep ρ k kv) (hv : Rep ρ v vv) : ∀ (es : List (SV × SV × Nat)) (l : List MapEntry) (i : Nat) (r : SV), RepE ρ es l → findK d k es = some (some r) →
  ∃ j u, Instr.findNow d kv l i = some (some (i + j, u)) ∧ (l[j]?).map (·.key) = some kv ∧ RepE ρ (setK d k v es) (l.modify j fun e => { e with key := kv, val := vv })
 | [], l, i, r, he, h => by cases h
 | (a, u, n) :: es, l, i, r, ⟨e, l', h1, h2, h3, h4, hl⟩, h => by
  subst hl
  simp only [findK] at h
  split at h
  ·rename_i hq
   have := keq_ok hk h1 hq
   refine ⟨0, e.val, by simp [Instr.findNow, this], by simp [keq_eq hk h1 hq], ?_⟩
   simp only [setK, hq, List.modify_zero_cons]
   exact ⟨{ e with key := kv, val := vv }, l', hk, hv, h3, h4, rfl⟩
  ·rename_i hq
   have := keq_ok hk h1 hq
   obtain ⟨j, u', g1, g2, g3⟩ := setK_ok hk hv es l' (i + 1) r h4 h
   refine ⟨j + 1, u', ?_, by simpa using g2, ?_⟩
   ·simp only [Instr.findNow, this, g1]
    rw [show i + 1 + j = i + (j + 1) by omega]
   ·simp only [setK, hq, List.modify_succ_cons]
    exact ⟨e, _, h1, h2, h3, g3, rfl⟩
  ·cases h
theorem delK_ok {d : TypeDesc} {k : SV} {kv : Value} (hk : Rep ρ k kv) : ∀ (es : List (SV × SV × Nat)) (l : List MapEntry) (i : Nat) (r : Option SV), RepE ρ es l → findK d k es = some r →
  (Instr.findNow d kv l i = some none ∧ delK d k es = es) ∨ ∃ j u, Instr.findNow d kv l i = some (some (i + j, u)) ∧ j < l.length ∧ RepE ρ (delK d k es) (l.eraseIdx j)
 | [], l, i, r, he, h => by cases he; exact .inl ⟨rfl, rfl⟩
 | (a, u, n) :: es, l, i, r, ⟨e, l', h1, h2, h3, h4, hl⟩, h => by
  subst hl
  simp only [findK] at h
  split at h
  ·rename_i hq
   have := keq_ok hk h1 hq
   refine .inr ⟨0, e.val, by simp [Instr.findNow, this], by simp, ?_⟩
   simp only [delK, hq, List.eraseIdx_zero, List.tail_cons]
   exact h4
  ·rename_i hq
   have := keq_ok hk h1 hq
   rcases delK_ok hk es l' (i + 1) r h4 h with ⟨g1, g2⟩ | ⟨j, u', g1, g2, g3⟩
   ·exact .inl ⟨by simp [Instr.findNow, this, g1], by simp only [delK, hq, g2]⟩
   ·refine .inr ⟨j + 1, u', ?_, by simp; omega, ?_⟩
    ·simp only [Instr.findNow, this, g1]
     rw [show i + 1 + j = i + (j + 1) by omega]
    ·simp only [delK, hq, List.eraseIdx_cons_succ]
     exact ⟨e, _, h1, h2, h3, g3, rfl⟩
  ·cases h
theorem RepE.append : ∀ {es : List (SV × SV × Nat)} {l : List MapEntry} {k v : SV} {kv vv : Value} {n : Nat}, RepE ρ es l → Rep ρ k kv → Rep ρ v vv → RepE ρ (es ++ [(k, v, n)]) (l ++ [⟨kv, vv, n⟩])
 | [], _, _, _, _, _, _, h, hk, hv => by cases h; exact ⟨_, [], hk, hv, rfl, rfl, rfl⟩
 | (_, _, _) :: _, _, _, _, _, _, _, ⟨e, l', h1, h2, h3, h4, hl⟩, hk, hv => by subst hl; exact ⟨e, _, h1, h2, h3, RepE.append h4 hk hv, rfl⟩
theorem St.mapAt {W : World} {F : Nat → Prop} {h : Heap} {n : Nat} {es : List (SV × SV × Nat)} {cl : Nat} {rs : List Res} (hn : n < top) (hg : h.get n = some (.mp es cl)) (hS : St W F (res Ω ρ h ++ rs) w) {L : Nat × Nat} (hL : ρ n = some L) :
  ∃ l, RepE ρ es l ∧ w.heap[L.1]? = some (.map l.toArray cl) ∧ ∀ (es' : List (SV × SV × Nat)) (l' : List MapEntry) (cl' : Nat), RepE ρ es' l' → St W F (res Ω ρ (h.set n (.mp es' cl')) ++ rs) { w with heap := w.heap.setIfInBounds L.1 (.map l'.toArray cl') } := by
 obtain ⟨f, ⟨f1, f2, ⟨L', l, g1, g2, g3⟩, hs2, hd, hu⟩, s⟩ := St.out hn hg hS
 rw [hL] at g1; cases g1
 have hS2 : St W F (pts L.1 (.map l.toArray cl) :: (res Ω ρ (h.erase n) ++ rs)) w := ⟨f, ⟨f1, f2, g3, hs2, hd, hu⟩, s⟩
 refine ⟨l, g2, hS2.get, fun es' l' cl' hr => ?_⟩
 exact St.back _ hn hg ((hS2.set (setBlock_put (o' := .map l'.toArray cl') hS2.get)).head fun g hg => ⟨L, l', hL, hr, hg⟩)
def Does (P : Program) (Ω : Opq) (ρ : Rho) (o : Oper) (σ : Env) (w : World) (W : World) (F : Nat → Prop) (rs : List Res) (n : Nat) (s : SV) (m' : Mem) : Prop :=
 ∃ ρ' v w', ρ.ext n m'.n ρ' ∧ ρ'.below m'.n ∧ m'.n ≤ top ∧ Rep ρ' s v ∧ (∀ N ds a, Fr σ N ds a → (execOp a.eval o).run P w = .ok (.value v) w' ∨ ((execOp a.eval o).run P w = .ok .skip w' ∧ v = undef)) ∧ St W F (res Ω ρ' m'.h ++ rs) w'
theorem lt_of_loc {n k : Nat} {L : Nat × Nat} (hb : ρ.below n) (ht : n ≤ top) (h : ρ k = some L) : k < top := by
 rcases Nat.lt_or_ge k n with q | q
 ·omega
 ·rw [hb k q] at h; cases h
theorem storeOp_ok (hΓ : CtxTy P Γ) (he : EnvR ρ e σ) {m m' : Mem} (hb : ρ.below m.n) (ht : m.n ≤ top) {W : World} {F : Nat → Prop} {rs : List Res} (hS : St W F (res Ω ρ m.h ++ rs) w) {t : TypeId} {x y : Operand} (ho : o.op = .store t x y) {s : SV} (h : mainOp Γ e m (.store t x y) = some (s, m')) : Does P Ω ρ o σ w W F rs m.n s m' := by
 simp only [mainOp] at h
 split at h
 ·rename_i n off hx
  split at h
  ·rename_i v hy
   split at h
   ·rename_i sz hsz
    replace h := cond_none h; obtain ⟨hl, h⟩ := h
    split at h
    ·rename_i h' hst
     cases h
     have hl := beq_eq hl
     obtain ⟨u, ⟨L, hL, rfl⟩, hx⟩ := opnd_ok he hx
     obtain ⟨u', hu', hy⟩ := opnd_ok he hy
     have hc := Rep.cells hu'
     obtain ⟨_, _, w', g1, g2⟩ := storeS_ok (P := P) hS (lt_of_loc hb ht hL) hc hL hst
     have hs := siz_ok hΓ hsz
     have hlen : u'.cells.size = sz := by have := RepL.length hc; simp at this; omega
     refine ⟨ρ, undef, w', Rho.ext.rfl, hb, ht, ⟨[], rfl, rfl⟩, fun N ds a ha => .inr ⟨?_, rfl⟩, g2⟩
     simp [execOp, ho, ha.eval hx, ha.eval hy, Instr.storeAt, Instr.sureAddr, storeVar, run_sizeOf (n := sz), hlen, g1]
    ·cases h
   ·cases h
  ·cases h
 ·cases h
theorem convOp_ok (hΓ : CtxTy P Γ) (he : EnvR ρ e σ) {m m' : Mem} (hb : ρ.below m.n) (ht : m.n ≤ top) {W : World} {F : Nat → Prop} {rs : List Res} (hS : St W F (res Ω ρ m.h ++ rs) w) {s0 d0 : TypeId} {x : Operand} (ho : o.op = .convert s0 d0 x) {s : SV} (h : mainOp Γ e m (.convert s0 d0 x) = some (s, m')) : Does P Ω ρ o σ w W F rs m.n s m' := by
 simp only [mainOp] at h
 replace h := cond_none h; obtain ⟨hsd, h⟩ := h
 have hsd := beq_eq hsd; subst hsd
 split at h
 ·rename_i el hd
  split at h
  ·rename_i hel
   split at h
   ·rename_i n k c hx
    split at h
    ·rename_i t sz cs hg
     replace h := cond_none h; obtain ⟨hq, h⟩ := h
     simp only [Bool.and_eq_true] at hq
     have hsz := beq_eq hq.1; have hpos := blt_lt hq.2
     subst hsz
     cases h
     obtain ⟨u, ⟨L, hL, hkc, rfl⟩, hx⟩ := opnd_ok he hx
     have hn := lt_of_loc hb ht hL
     obtain ⟨f, ⟨f1, f2, ⟨L', vs, g1, g2, g3⟩, hs2, hdj, hun⟩, st⟩ := St.out hn hg hS
     rw [hL] at g1; cases g1
     have hlen := RepL.length g2
     obtain ⟨hle, hcm, ⟨h0, _⟩ | ⟨b', cells, hbe, rfl, hcz, htk⟩⟩ := g3
     ·rw [h0, Nat.zero_mul] at hle; omega
     ·cases hbe
      have hS2 : St W F (pts L.1 (.cells cells t (0, 0)) :: (res Ω ρ (m.h.erase n) ++ rs)) w := ⟨f, ⟨_, f2, rfl, hs2, hdj, hun⟩, st⟩
      have hbk := hS2.get
      have uu : SetBlock w (w.freeze ⟨L.1, cells.size, none⟩ 1) L.1 (.cells cells t (cells.size, cells.size + 1)) := by
       unfold World.freeze
       rw [if_neg (by omega)]
       refine ⟨by simp, ?_, fun k hk => ?_, rfl, rfl, rfl⟩
       ·rw [Array.getElem?_modify, if_pos rfl, hbk]; rfl
       ·rw [Array.getElem?_modify, if_neg (Ne.symm hk)]
      have hsh : (shape L.1).run P w = .ok (some (t, cells.size)) w := by simp [shape, Sem.run, World.shape?, hbk]
      have hms : (markStringish ⟨L.1, 0, none⟩).run P w = .ok () (w.freeze ⟨L.1, cells.size, none⟩ 1) := by
       unfold markStringish
       rw [Sem.run_bind, hsh]
       rfl
      have i1 := (und_ok hΓ hd).und
      have i2 := (und_ok hΓ hel).und
      refine ⟨ρ, _, _, Rho.ext.rfl, hb, ht, ⟨L, hL, hkc, rfl⟩, fun N ds a ha => .inl ?_, St.back (.ro cs) hn hg ((hS2.set uu).head fun g hg => ⟨L, vs, hL, g2, .inr ⟨L.1, 0, cells, t, _, rfl, hg, fun i v hv => ?_⟩⟩)⟩
      ·simp [execOp, ho, ha.eval hx, convert, run_underlying i1, run_underlying i2, hms, Result.andThen]
      ·rw [← htk, List.getElem?_take] at hv
       split at hv
       ·simpa using hv
       ·cases hv
    ·cases h
   ·cases h
  ·cases h
 ·cases h
theorem mapOp_ok (hΓ : CtxTy P Γ) (he : EnvR ρ e σ) {m m' : Mem} (hb : ρ.below m.n) (ht : m.n ≤ top) {W : World} {F : Nat → Prop} {rs : List Res} (hS : St W F (res Ω ρ m.h ++ rs) w) {t : TypeId} {x k v : Operand} (ho : o.op = .mapUpdate t x k v ∨ o.op = .insert t x k v) {s : SV} (h : mainOp Γ e m (.mapUpdate t x k v) = some (s, m')) : Does P Ω ρ o σ w W F rs m.n s m' := by
 simp only [mainOp] at h
 split at h
 ·rename_i kt et hd
  split at h
  ·rename_i d hdk
   split at h
   ·rename_i n hx
    split at h
    ·rename_i k' hk
     split at h
     ·rename_i v' hv
      split at h
      ·rename_i es cl hg
       obtain ⟨u, ⟨L, hL, rfl⟩, hx⟩ := opnd_ok he hx
       obtain ⟨kv, hkv, hk⟩ := opnd_ok he hk
       obtain ⟨vv, hvv, hv⟩ := opnd_ok he hv
       have i1 := (und_ok hΓ hd).und
       have i2 := (und_ok hΓ hdk).und
       obtain ⟨l, g1, g2, g3⟩ := St.mapAt (lt_of_loc hb ht hL) hg hS hL
       have hgo : (getObj L.1).run P w = .ok (.map l.toArray cl) w := by simp [getObj, Sem.run, g2]
       have hset : ∀ o', (setObj L.1 o').run P w = .ok () { w with heap := w.heap.setIfInBounds L.1 o' } := fun o' => run_setObj_map o' g2
       have hex : ∀ a N ds, Fr σ N ds a → execOp a.eval o = (do Instr.mapUpdate t (.map (some L.1)) kv vv; pure .skip) := fun a N ds ha => by
        rcases ho with ho | ho <;> simp [execOp, ho, ha.eval hx, ha.eval hk, ha.eval hv]
       have hko : keyOk d k' = true ∧ ∀ r, findKey d k' es = some r → findK d k' es = some r := by
        unfold findKey at h
        cases q : keyOk d k' with
        | false => simp only [q, cond_false] at h; cases h
        | true => exact ⟨rfl, fun r hr => by simpa [findKey, q] using hr⟩
       have hck : (Instr.checkKey false 10000 kt kv).run P w = .ok () w := run_checkKey (n := 9999) i2 (keyOk_ok hkv hko.1) _
       split at h
       ·rename_i r hr
        cases h
        obtain ⟨j, u', q1, q2, q3⟩ := setK_ok hkv hvv es l 0 r g1 (hko.2 _ hr)
        have hf := run_findKey (P := P) (w := w) i2 q1
        simp only [Nat.zero_add] at hf
        refine ⟨ρ, undef, _, Rho.ext.rfl, hb, ht, ⟨[], rfl, rfl⟩, fun N ds a ha => .inr ⟨?_, rfl⟩, g3 _ _ cl q3⟩
        have hek : ((l.toArray[j]?).map (·.key)).getD kv = kv := by simp [q2]
        rw [hex a N ds ha]
        simp only [Instr.mapUpdate, Sem.run_bind, run_underlying i1, hgo, hck, hf, hset, Result.andThen_ok, Sem.run_pure, hek, Instr.keyThatStays, sameBits_key hkv hko.1, if_true]
        simp
       ·rename_i hr
        cases h
        rcases findK_ok hkv es l 0 none g1 (hko.2 _ hr) with ⟨_, q1⟩ | ⟨_, _, _, q, _⟩
        ·have hf := run_findKey (P := P) (w := w) i2 q1
         refine ⟨ρ, undef, _, Rho.ext.rfl, hb, ht, ⟨[], rfl, rfl⟩, fun N ds a ha => .inr ⟨?_, rfl⟩, g3 _ _ (cl + 1) (RepE.append (n := cl) g1 hkv hvv)⟩
         rw [hex a N ds ha]
         simp only [Instr.mapUpdate, Sem.run_bind, run_underlying i1, hgo, hck, hf, hset, Result.andThen_ok, Sem.run_pure]
         simp
        ·cases q
       ·cases h
      ·cases h
     ·cases h
    ·cases h
   ·cases h
  ·cases h
 ·cases h
theorem srcOf_ok {h : Heap} (hR : HeapRd Ω ρ h w) {sz a n : Nat} {x : SV} {xv : Value} (hx : Rep ρ x xv) {xs : List SV} (hs : srcOf h sz a x = some (n, xs)) :
  ∃ us b, RepL ρ xs us ∧ n = Nat.min b a ∧ (Builtin.lenOf xv).run P w = .ok b w ∧ (Builtin.firstCells sz (Nat.min b a) xv).run P w = .ok us.toArray w ∧ (Nat.min b a = 0 → us = []) := by
 unfold srcOf at hs
 split at hs
 ·rename_i l
  cases hs
  obtain ⟨h256, rfl⟩ := hx
  have key : ∀ l : List Nat, (∀ x ∈ l, x < 256) → RepL ρ (bytesS l) (bv (l.map UInt8.ofNat)) := by
   intro l
   induction l with
   | nil => intro _; exact RepL.nil
   | cons q l ih =>
    intro hq
    refine RepL.cons ?_ (ih fun x hx => hq x (List.mem_cons_of_mem _ hx))
    have : q < 256 := hq q (List.mem_cons_self ..)
    show Value.int .u8 _ = Value.int .u8 _
    simp [Nat.mod_eq_of_lt this]
  refine ⟨bv ((l.take (Nat.min l.length a)).map UInt8.ofNat), l.length, key _ fun x hx => h256 x (List.mem_of_mem_take hx), rfl, by simp [Builtin.lenOf, bs_size], ?_, fun q => by simp [q, bv]⟩
  simp [Builtin.firstCells, bs, bv, List.map_take]
 ·split at hs
  ·rename_i b hb
   split at hs
   ·rename_i c hc
    cases hs
    obtain ⟨q, cp, rfl, _⟩ := lenOf_ok hx hb
    obtain ⟨us, q1, q2, q3⟩ := segOf_ok hR hx hc
    refine ⟨us, b, q1, rfl, by simp [Builtin.lenOf], ?_, fun q => List.eq_nil_of_length_eq_zero (by rw [q2, q]; simp)⟩
    have := firstCells_row (P := P) (size := sz) (m := Nat.min b a) (c := cp) q3 q2
    cases q <;> exact this
   ·cases hs
  ·cases hs
theorem dstAt_ok {sz o off n c : Nat} {d : SV} {a : Option Addr} (hd : Rep ρ d (.slice a n c)) (h : dstAt sz d = some (o, off)) : ∃ L, ρ o = some L ∧ a = some ⟨L.1, off, none⟩ := by
 unfold dstAt at h
 split at h
 ·cases h; obtain ⟨L, hL, _, hq⟩ := hd; cases hq; exact ⟨L, hL, rfl⟩
 ·replace h := cond_none h; obtain ⟨h1, h⟩ := h
  have h1 := beq_eq h1; subst h1
  cases h; obtain ⟨L, hL, _, hq⟩ := hd; cases hq; exact ⟨L, hL, rfl⟩
 ·cases h
theorem evMain_ok (hΓ : CtxTy P Γ) {m m' : Mem} (hb : ρ.below m.n) (ht : m.n ≤ top) {W : World} {F : Nat → Prop} {rs : List Res} (hS : St W F (res Ω ρ m.h ++ rs) w) {b : Builtin} {ars : List SV} {vs : List Value} (hv : RepL ρ ars vs) {ts : Array TypeId} {ty : TypeId} {s : SV} (h : evMain Γ m b ars ts.toList = some (s, m')) :
  ∃ ρ' v w', ρ.ext m.n m'.n ρ' ∧ ρ'.below m'.n ∧ m'.n ≤ top ∧ Rep ρ' s v ∧ (∀ cs, (builtin b ts ty cs vs.toArray).run P w = .ok (.value v) w') ∧ St W F (res Ω ρ' m'.h ++ rs) w' := by
 have hR := St.heapRd hS
 unfold evMain at h
 split at h
 ·-- append
  rename_i s0 x st xt hts
  obtain ⟨sv, _, hs, ⟨xv, _, hx, hnil, rfl⟩, rfl⟩ := hv
  cases hnil
  split at h
  ·rename_i el hd
   split at h
   ·rename_i ti hti
    split at h
    ·rename_i d hdx
     have hux := (und_ok hΓ hdx).und
     have fin : ∀ (xs : List SV) (news : List Value) (k : Nat), AppArg P el ti.size xt xv k news w → RepL ρ xs news → appendS m ti el s0 xs k = some (s, m') →
       ∃ ρ' v w', ρ.ext m.n m'.n ρ' ∧ ρ'.below m'.n ∧ m'.n ≤ top ∧ Rep ρ' s v ∧ (∀ cs, (builtin .append ts ty cs #[sv, xv]).run P w = .ok (.value v) w') ∧ St W F (res Ω ρ' m'.h ++ rs) w' := by
      intro xs news k ha hxs h
      obtain ⟨ρ', v, w', q1, q2, q3, q4, q5, q6⟩ := appendS_ok (ty := ty) hΓ hb ht hS hd hti (St.fresh hS hb (Nat.le_refl _)) hs ha hxs h
      refine ⟨ρ', v, w', q1, q2, q3, q4, fun cs => ?_, q6⟩
      have : ts = #[st, xt] := by apply Array.ext'; simpa using hts
      subst this
      simp [builtin, q5]
     obtain ⟨z, hi, hz2, _, _⟩ := (hΓ el ti hti).inf
     split at h
     ·rename_i kk k0 k
      replace h := cond_none h; obtain ⟨h1, h⟩ := h
      replace h := cond_none h; obtain ⟨h2, h⟩ := h
      have h1 := ble_le h1; have h2 := ble_le h2
      cases hx
      exact fin _ _ k (.zs hux hi rfl h2 h1) (RepL.rep (ofVs_ok _ _ hz2) k) h
     ·split at h
      ·rename_i k hk
       split at h
       ·rename_i xs hxs
        obtain ⟨a, c, rfl, _⟩ := lenOf_ok hx hk
        obtain ⟨us, q1, q2, q3⟩ := segOf_ok hR hx hxs
        exact fin _ _ k (.sl hux q3 q2) q1 h
       ·cases h
      ·cases h
     ·rename_i l
      replace h := cond_none h; obtain ⟨h1, h⟩ := h
      have h1 := beq_eq h1
      obtain ⟨h256, rfl⟩ := hx
      rw [bs_str] at fin
      have hl : (l.map UInt8.ofNat).length = l.length := by simp
      have := AppArg.st (P := P) (el := el) (size := ti.size) (xt := xt) (l := l.map UInt8.ofNat) (w := w) hux h1
      rw [hl] at this
      rw [bs_str]
      refine fin _ _ l.length this ?_ h
      have key : ∀ l : List Nat, (∀ x ∈ l, x < 256) → RepL ρ (bytesS l) (bv (l.map UInt8.ofNat)) := by
       intro l
       induction l with
       | nil => intro _; exact RepL.nil
       | cons q l ih =>
        intro hq
        refine RepL.cons ?_ (ih fun x hx => hq x (List.mem_cons_of_mem _ hx))
        have : q < 256 := hq q (List.mem_cons_self ..)
        show Value.int .u8 _ = Value.int .u8 _
        simp [Nat.mod_eq_of_lt this]
      exact key l h256
     ·cases h
    ·cases h
   ·cases h
  ·cases h
 ·-- copy
  rename_i d x st r hts
  obtain ⟨dv, _, hdv, ⟨xv, _, hxv, hnil, rfl⟩, rfl⟩ := hv
  cases hnil
  have ht0 : ts[0]? = some st := by have := congrArg (·[0]?) hts; simpa using this
  split at h
  ·rename_i el hd
   split at h
   ·rename_i sz hsz
    split at h
    ·rename_i a ha
     split at h
     ·rename_i n xs hsrc
      obtain ⟨da, dc, rfl, _⟩ := lenOf_ok hdv ha
      have hU := (und_ok hΓ hd).und
      have hS' := siz_ok hΓ hsz
      obtain ⟨us, b, q1, q2, q3, q4, q5⟩ := srcOf_ok (P := P) hR hxv hsrc
      subst q2
      rcases cond_some h with ⟨h0, h⟩ | ⟨h0, h⟩
      ·have h0 := beq_eq h0
       cases h
       have hus : us = [] := q5 h0
       subst hus
       rw [h0] at q4
       refine ⟨ρ, _, w, Rho.ext.rfl, hb, ht, rfl, fun cs => ?_, hS⟩
       cases da <;> simp [builtin, Builtin.copy_, ht0, run_underlying hU, q3, run_sizeOf (n := sz), q4, goInt, h0, storeCells]
      ·split at h
       ·rename_i on off hdst
        split at h
        ·rename_i h' hst
         cases h
         obtain ⟨L, hL, rfl⟩ := dstAt_ok hdv hdst
         obtain ⟨_, _, w', g1, g2⟩ := storeS_ok (P := P) hS (lt_of_loc hb ht hL) q1 hL hst
         refine ⟨ρ, _, w', Rho.ext.rfl, hb, ht, rfl, fun cs => ?_, g2⟩
         simp [builtin, Builtin.copy_, ht0, run_underlying hU, q3, run_sizeOf (n := sz), q4, goInt, g1]
        ·cases h
       ·cases h
     ·cases h
    ·cases h
   ·cases h
  ·cases h
 ·-- clear
  rename_i d st r hts
  obtain ⟨dv, _, hdv, hnil, rfl⟩ := hv
  cases hnil
  have ht0 : ts[0]? = some st := by have := congrArg (·[0]?) hts; simpa using this
  split at h
  ·rename_i el hd
   split at h
   ·rename_i ti hti
    split at h
    ·rename_i n hn
     obtain ⟨da, dc, rfl, _⟩ := lenOf_ok hdv hn
     have hU := (und_ok hΓ hd).und
     rcases cond_some h with ⟨h0, h⟩ | ⟨h0, h⟩
     ·have h0 := beq_eq h0; subst h0
      cases h
      refine ⟨ρ, _, w, Rho.ext.rfl, hb, ht, ⟨[], rfl, rfl⟩, fun cs => ?_, hS⟩
      cases da <;> simp [builtin, Builtin.clear_, ht0, run_underlying hU]
     ·split at h
      ·rename_i on off hdst
       split at h
       ·rename_i h' hst
        cases h
        obtain ⟨L, hL, rfl⟩ := dstAt_ok hdv hdst
        obtain ⟨z, hi, hz2, _, _⟩ := (hΓ el ti hti).inf
        obtain ⟨i, hi', hz', _, _⟩ := info_parts hi.inf
        obtain ⟨_, _, w', g1, g2⟩ := storeS_ok (P := P) hS (lt_of_loc hb ht hL) (RepL.rep (ofVs_ok _ _ hz2) n) hL hst
        refine ⟨ρ, _, w', Rho.ext.rfl, hb, ht, ⟨[], rfl, rfl⟩, fun cs => ?_, g2⟩
        have hzv : (zeroValue el).run P w = .ok z w := by simp [zeroValue, typeInfo, hi', hz']
        obtain ⟨m0, rfl⟩ : ∃ m0, n = m0 + 1 := ⟨n - 1, by have : n ≠ 0 := (fun q => by subst q; cases h0); omega⟩
        simp [builtin, Builtin.clear_, ht0, run_underlying hU, hzv, zeroCells_rep, g1]
       ·cases h
      ·cases h
    ·cases h
   ·cases h
  ·cases h
 ·-- delete
  rename_i n k t r hts
  obtain ⟨_, _, ⟨L, hL, rfl⟩, ⟨kv, _, hkv, hnil, rfl⟩, rfl⟩ := hv
  cases hnil
  split at h
  ·rename_i kt et hd
   split at h
   ·rename_i d hdk
    split at h
    ·rename_i es cl hg
     split at h
     ·rename_i q hq
      cases h
      have i1 := (und_ok hΓ hd).und
      have i2 := (und_ok hΓ hdk).und
      unfold findKey at hq
      replace hq := cond_none hq; obtain ⟨hko, hq⟩ := hq
      obtain ⟨l, g1, g2, g3⟩ := St.mapAt (lt_of_loc hb ht hL) hg hS hL
      have hgo : (getObj L.1).run P w = .ok (.map l.toArray cl) w := by simp [getObj, Sem.run, g2]
      have hset : ∀ o', (setObj L.1 o').run P w = .ok () { w with heap := w.heap.setIfInBounds L.1 o' } := fun o' => run_setObj_map o' g2
      have hck : ∀ b, (Instr.checkKey b 10000 kt kv).run P w = .ok () w := fun b => run_checkKey (n := 9999) i2 (keyOk_ok hkv hko) _
      have ht0 : ts[0]? = some t := by have := congrArg (·[0]?) hts; simpa using this
      rcases delK_ok hkv es l 0 q g1 hq with ⟨q1, q2⟩ | ⟨j, u, q1, q2, q3⟩
      ·have hf := run_findKey (P := P) (w := w) i2 q1
       refine ⟨ρ, _, _, Rho.ext.rfl, hb, ht, ⟨[], rfl, rfl⟩, fun cs => ?_, by rw [q2]; exact g3 _ _ cl g1⟩
       simp [builtin, Builtin.delete_, ht0, run_underlying i1, hgo, hck, hf, hset, Result.andThen]
      ·have hf := run_findKey (P := P) (w := w) i2 q1
       simp only [Nat.zero_add] at hf
       refine ⟨ρ, _, _, Rho.ext.rfl, hb, ht, ⟨[], rfl, rfl⟩, fun cs => ?_, g3 _ _ cl q3⟩
       have e1 : l.toArray.eraseIdxIfInBounds j = (l.eraseIdx j).toArray := by unfold Array.eraseIdxIfInBounds; rw [dif_pos (by simpa using q2)]; simp
       simp [builtin, Builtin.delete_, ht0, run_underlying i1, hgo, hck, hf, hset, Result.andThen]
     ·cases h
    ·cases h
   ·cases h
  ·cases h
 ·cases h
theorem mainOp_ok (hΓ : CtxTy P Γ) (he : EnvR ρ e σ) {m m' : Mem} (hb : ρ.below m.n) (ht : m.n ≤ top) {W : World} {F : Nat → Prop} {rs : List Res} (hS : St W F (res Ω ρ m.h ++ rs) w) {s : SV} (h : mainOp Γ e m o.op = some (s, m')) : Does P Ω ρ o σ w W F rs m.n s m' := by
 generalize hop : o.op = op at h
 cases op
 case store => exact storeOp_ok hΓ he hb ht hS hop h
 case convert => exact convOp_ok hΓ he hb ht hS hop h
 case mapUpdate => exact mapOp_ok hΓ he hb ht hS (.inl hop) h
 case insert => exact mapOp_ok hΓ he hb ht hS (.inr hop) h
 case call c =>
  obtain ⟨callee, args, ts⟩ := c
  cases callee
  case builtin b =>
   simp only [mainOp] at h
   split at h
   ·rename_i ars has
    obtain ⟨vs, hvs, hev⟩ := opnds_ok he has
    obtain ⟨ρ', v, w', q1, q2, q3, q4, q5, q6⟩ := evMain_ok (ty := o.type) hΓ hb ht hS hvs h
    refine ⟨ρ', v, w', q1, q2, q3, q4, fun N ds a ha => .inl ?_, q6⟩
    obtain ⟨cs, hc⟩ := run_builtin hop hev ha
    rw [hc, q5 cs]
   ·cases h
  all_goals (simp only [mainOp] at h; cases h)
 all_goals (simp only [mainOp] at h; cases h)
end
end Cr.Cl
