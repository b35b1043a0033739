/-
  Maps with keys of an integer type or strings: made,looked up,updated. Over any program.
  Layer 4 (wal): Check.
  Layer 4 (wal): a log in memory,what it tells; steps.
  Layer 4 (wal): lay.
  Layer 4 (wal): entry.
  Layer 4 (wal): clear; Once.Do.
-/
import Derived.Test.YteonaddammjopaaGreatDoorCgl3
import Derived.MapKept
import Derived.Test.YteonaddammjopaaGreatDoorCgl5
namespace Cr
open Go Go.MapKept
set_option maxRecDepth 10000
class Key (d : TypeDesc) {α : Type} [DecidableEq α] (mk : α → Value) : Prop where
 same : ∀ a b,Instr.sameNow d (mk a) (mk b) = some (decide (a = b))
 isKey : ∀ a,IsKey d (mk a)
 bits : ∀ a n,Instr.sameBits n (mk a) (mk a) = true
instance : Key (.int .i64) (Value.int .i64) := ⟨fun a b => by
 have : (a == b) = decide (a = b) := by by_cases h : a = b <;> simp [h]
 simp [Instr.sameNow,this],fun a => by simp [IsKey],fun a n => by cases n <;> simp [Instr.sameBits]⟩
def mapr {α : Type} (mk : α → Value) (r : Nat) (L : List (α × Value)) : Res := fun h => ∃ (es : Array MapEntry) (clock : Nat),es.toList.map (fun e => (e.key,e.val)) = L.map (fun x => (mk x.1,x.2)) ∧ pts r (.map es clock) h
section
variable {α : Type} [DecidableEq α]
def getM (k : α) : List (α × Value) → Option Value
 | [] => none
 | x :: l => if k = x.1 then some x.2 else getM k l
def setM (k : α) (v : Value) : List (α × Value) → List (α × Value)
 | [] => [(k,v)]
 | x :: l => if k = x.1 then (k,v) :: l else x :: setM k v l
theorem Zfe {d : TypeDesc} {mk : α → Value} [hk : Key d mk] (k : α) : ∀ (L : List (α × Value)) (es : List MapEntry) (i : Nat),es.map (fun e => (e.key,e.val)) = L.map (fun x => (mk x.1,x.2)) →
  ∃ r,Instr.findNow d (mk k) es i = some r ∧ r.map (·.2) = getM k L ∧ (∀ p,r = some p → i ≤ p.1 ∧ ∃ e,es[p.1 - i]? = some e ∧ e.key = mk k ∧ (es.modify (p.1 - i) fun e => { e with key := mk k,val := p.2 }).map (fun e => (e.key,e.val)) = L.map (fun x => (mk x.1,x.2)))
 | [],[],i,_ => ⟨none,rfl,rfl,fun p h => by cases h⟩
 | [],_ :: _,_,h => by simp at h
 | _ :: _,[],_,h => by simp at h
 | x :: L,e :: es,i,h => by
  simp only [List.map_cons,List.cons.injEq,Prod.mk.injEq] at h
  obtain ⟨⟨h1,h2⟩,h3⟩ := h
  unfold Instr.findNow getM
  rw [h1,hk.same]
  by_cases hkx : k = x.1
  ·subst hkx
   refine ⟨some (i,e.val),by simp,by simp [h2],fun p hp => ?_⟩
   cases hp
   exact ⟨Nat.le_refl _,e,by simp,h1,by simp [h2,h3]⟩
  ·obtain ⟨r,g1,g2,g3⟩ := Zfe (d := d) k L es (i + 1) h3
   refine ⟨r,by simp [hkx,g1],by rw [g2,if_neg hkx],fun p hp => ?_⟩
   obtain ⟨h4,e',h5,h6,h7⟩ := g3 p hp
   have e1 : p.1 - i = (p.1 - (i + 1)) + 1 := by omega
   refine ⟨by omega,e',by rw [e1]; simpa using h5,h6,?_⟩
   rw [e1,List.modify_succ_cons,List.map_cons,h7,h1,h2]
   rfl
variable {P : Program} {o : Oper} {σ : Env} {w : World} {x y : Operand} {t kt et : TypeId} {N : Nat} {ds : Md} {K : Env → World → Prop} {mk : α → Value} {dd : TypeDesc}
theorem X_makeMap {β : Type} {d : Nat} {W : World} {F : Nat → Prop} {rs : List Res} (mk : β → Value) (ho : o.op = .makeMap t none) (hd : o.dst = some d) (hN : Nat.blt d N = true) (hS : St W F rs w)
  (hk : ∀ r w',St W F (mapr mk r [] :: rs) w' → K ((d,.map (some r)) :: σ) w') : X P o N ds σ w K := ⟨fun f ha K' Q' hK => by
 unfold Oper.wp
 have hexec : (execOp f.eval o).run P w = .ok (.value (.map (some w.heap.size))) (w.alloc (.map #[] 0)) := by
  have : (Instr.makeMap t none).run P w = .ok (.map (some w.heap.size)) (w.alloc (.map #[] 0)) := rfl
  simp [execOp,ho,this]
 rw [hexec]
 have := hK _ _ _ (ha.put (Zbp hN) (.map (some w.heap.size))) (hk w.heap.size _ ((hS.alloc (.map #[] 0)).head fun h hh => ⟨#[],0,by simp,hh⟩))
 rw [← hd] at this
 exact this⟩
theorem Zmh {r : Nat} {L : List (α × Value)} {k : α} {z : Value} {n m : Nat} (ho : o.op = .lookup t x y false) (hx : ev σ x = some (.map (some r))) (hy : ev σ y = some (mk k)) [hu : Und P t (.map kt et)] [hkt : Und P kt dd] [hK : Key dd mk] [hi : Inf P et z n m]
  (hr : Rd w (mapr mk r L)) : Yl P o σ w ((getM k L).getD z) := ⟨fun N ds f ha => by
 obtain ⟨h,⟨es,clock,hes,rfl⟩,hag⟩ := hr
 have hb : w.heap[r]? = some (.map es clock) := hag r _ (Zbz _ _)
 obtain ⟨q,g1,g2,_⟩ := Zfe (hk := hK) k L es.toList 0 hes
 obtain ⟨i,hi',hz',_⟩ := info_parts hi.inf
 have hc := run_checkKey (P := P) (w := w) hkt.und (hK.isKey k) es.isEmpty 9999
 have hf := run_findKey (P := P) (w := w) hkt.und g1
 have hg : (getObj r).run P w = .ok (.map es clock) w := by simp [getObj,Sem.run,hb]
 simp only [execOp,ho,ha.eval hx,ha.eval hy,Instr.lookup,Sem.run_bind,run_underlying hu.und,hg,hc,hf,Result.andThen_ok,Sem.run_pure]
 rw [← g2]
 cases q <;> simp [zeroValue,typeInfo,hi',hz']⟩
theorem Zk2 {k : α} {v : Value} : ∀ {L : List (α × Value)},getM k L = none → setM k v L = L ++ [(k,v)]
 | [],_ => rfl
 | x :: L,h => by
  unfold getM at h
  split at h
  ·cases h
  ·rename_i hne
   simp [setM,hne,Zk2 h]
theorem Zk1 {k : α} {v : Value} : ∀ (L : List (α × Value)) (es : List MapEntry) (i : Nat),es.map (fun e => (e.key,e.val)) = L.map (fun x => (mk x.1,x.2)) → ∀ [Key dd mk] (j : Nat) (u : Value),Instr.findNow dd (mk k) es i = some (some (j,u)) →
  (es.modify (j - i) fun e => { e with key := mk k,val := v }).map (fun e => (e.key,e.val)) = (setM k v L).map (fun x => (mk x.1,x.2)) ∧ i ≤ j ∧ (es[j - i]?).map (·.key) = some (mk k)
 | [],[],i,_,_,j,u,h => by simp [Instr.findNow] at h
 | [],_ :: _,_,h,_,_,_,_ => by simp at h
 | _ :: _,[],_,h,_,_,_,_ => by simp at h
 | x :: L,e :: es,i,h,hK,j,u,hf => by
  simp only [List.map_cons,List.cons.injEq,Prod.mk.injEq] at h
  obtain ⟨⟨h1,h2⟩,h3⟩ := h
  unfold Instr.findNow at hf
  rw [h1,hK.same] at hf
  unfold setM
  by_cases hkx : k = x.1
  ·subst hkx
   simp at hf
   obtain ⟨rfl,_⟩ := hf
   simp [h3,h1]
  ·simp [hkx] at hf
   obtain ⟨g1,g2,g3⟩ := Zk1 (v := v) L es (i + 1) h3 j u hf
   have e1 : j - i = (j - (i + 1)) + 1 := by omega
   refine ⟨?_,by omega,by rw [e1]; simpa using g3⟩
   rw [e1,List.modify_succ_cons,List.map_cons,g1,if_neg hkx,h1,h2]
   rfl
theorem Zmi {r : Nat} {L : List (α × Value)} {k : α} {v : Value} {W : World} {F : Nat → Prop} {rs : List Res} {z : Operand} (ho : o.op = .mapUpdate t x y z) (hx : ev σ x = some (.map (some r))) (hy : ev σ y = some (mk k)) (hz : ev σ z = some v) [hu : Und P t (.map kt et)] [hkt : Und P kt dd] [hK : Key dd mk]
  (hd : o.dst = none) (hS : St W F (mapr mk r L :: rs) w) (hk : ∀ w',St W F (mapr mk r (setM k v L) :: rs) w' → K σ w') : X P o N ds σ w K := ⟨fun f ha K' Q' hKK => by
 obtain ⟨h,⟨h1,h2,⟨es,clock,hes,hp⟩,hs,hdj,hun⟩,s⟩ := hS
 have hS2 : St W F (pts r (.map es clock) :: rs) w := ⟨h,⟨h1,h2,hp,hs,hdj,hun⟩,s⟩
 have hb : w.heap[r]? = some (.map es clock) := hS2.get
 obtain ⟨q,g1,g2,_⟩ := Zfe (hk := hK) k L es.toList 0 hes
 have hc := run_checkKey (P := P) (w := w) hkt.und (hK.isKey k) false 9999
 have hf := run_findKey (P := P) (w := w) hkt.und g1
 have hg : (getObj r).run P w = .ok (.map es clock) w := by simp [getObj,Sem.run,hb]
 have hset : ∀ o',(setObj r o').run P w = .ok () { w with heap := w.heap.setIfInBounds r o' } := fun o' => run_setObj_map o' hb
 unfold Oper.wp
 have key : ∃ es' clock',(execOp f.eval o).run P w = .ok .skip { w with heap := w.heap.setIfInBounds r (.map es' clock') } ∧ es'.toList.map (fun e => (e.key,e.val)) = (setM k v L).map (fun x => (mk x.1,x.2)) := by
  cases hq : q with
  | none =>
   subst hq
   refine ⟨es.push { key := mk k,val := v,born := clock },clock + 1,?_,?_⟩
   ·simp only [execOp,ho,ha.eval hx,ha.eval hy,ha.eval hz,Instr.mapUpdate,Sem.run_bind,run_underlying hu.und,hg,hc,hf,hset,Result.andThen_ok,Sem.run_pure]
   ·rw [Zk2 (by rw [← g2]; rfl)]
    simp [hes]
  | some p =>
   obtain ⟨j,u⟩ := p
   subst hq
   obtain ⟨g4,g5,g6⟩ := Zk1 (v := v) L es.toList 0 hes j u g1
   simp only [Nat.sub_zero] at g4 g6
   have hek : ((es[j]?).map (·.key)).getD (mk k) = mk k := by
    rw [← Array.getElem?_toList,g6]; rfl
   refine ⟨es.modify j fun e => { e with key := mk k,val := v },clock,?_,?_⟩
   ·simp only [execOp,ho,ha.eval hx,ha.eval hy,ha.eval hz,Instr.mapUpdate,Sem.run_bind,run_underlying hu.und,hg,hc,hf,hset,Result.andThen_ok,Sem.run_pure,hek,Instr.keyThatStays,hK.bits,if_true]
   ·simpa [Array.toList_modify] using g4
 obtain ⟨es',clock',hexec,hes'⟩ := key
 rw [hexec]
 have u := Zcf (o' := .map es' clock') hb
 refine hKK _ _ _ (?_ : Fr σ N ds _) (hk _ ((hS2.set u).head fun h hh => ⟨es',clock',hes',hh⟩))
 rw [hd]; exact ha⟩
end
end Cr
namespace Cr
open Go Go.Proofs
set_option maxRecDepth 100000
set_option maxHeartbeats 4000000
attribute [local irreducible] Calls

def badW (x : Int × List UInt8) : Bool := decide (x.1 < 0) || decide (¬ (x.2.length : Int) = 64)
def Zcy (l : List (Int × List UInt8)) : Nat → Bool
 | 0 => false
 | i + 1 => Zcy l i || decide ((l.getD i (0,[])).1 ∈ (l.take i).map (·.1))
def Zdm (l : List (Int × List UInt8)) : Int := if l.any badW then 1 else if Zcy l l.length then 8 else 0
def Zk4 (l : List (Int × List UInt8)) : Nat → List (Int × Value)
 | 0 => []
 | i + 1 => setM (l.getD i (0,[])).1 (.bool true) (Zk4 l i)
theorem Zls (k k' : Int) (v : Value) : ∀ L,getM k (setM k' v L) = if k = k' then some v else getM k L
 | [] => by by_cases h : k = k' <;> simp [setM,getM,h]
 | x :: L => by
  unfold setM
  by_cases h : k' = x.1
  ·subst h
   by_cases h2 : k = x.1 <;> simp [getM,h2]
  ·rw [if_neg h]
   unfold getM
   rw [Zls k k' v L]
   by_cases h1 : k = x.1
   ·have : ¬ k = k' := fun e => h (by rw [← e,h1])
    simp [h1,Ne.symm h]
   ·simp [h1]
theorem Zpu (l : List (Int × List UInt8)) (k : Int) : ∀ i,i ≤ l.length → (getM k (Zk4 l i)).getD (.bool false) = .bool (decide (k ∈ (l.take i).map (·.1)))
 | 0,_ => by simp [Zk4,getM]
 | i + 1,h => by
  have ih := Zpu l k i (by omega)
  simp only [Zk4]
  rw [Zls,List.take_succ_eq_append_getElem (by omega)]
  have e : l.getD i (0,[]) = l[i] := by simp [List.getD_eq_getElem?_getD,show i < l.length by omega]
  have e2 : (l.take i ++ [l[i]]).map (·.1) = (l.take i).map (·.1) ++ [l[i].1] := by rw [List.map_append]; rfl
  rw [e,e2]
  simp only [List.mem_append,List.mem_singleton]
  by_cases hk : k = l[i].1
  ·rw [if_pos hk,decide_eq_true (Or.inr hk)]; rfl
  ·rw [if_neg hk,ih]
   congr 1
   exact decide_eq_decide.2 ⟨Or.inl,fun h => h.resolve_right hk⟩
theorem Zl2 (a : Option Addr) (c : Nat) (l : List Wr) (W : World) (hW : Wrs W noF a l) (hl : l.length ≤ 1048576) (hx64 : ∀ v ∈ l,v.x.s.length ≤ 140737488355328) :
  Calls Tryz.prog 166 #[.slice a l.length c] W (Ret fun v w => v = .int .i64 (Zdm (l.map Wr.data)) ∧ St W noF [] w) := by
 have hS := St.start W
 obtain ⟨d,hd⟩ : ∃ d,d = l.map Wr.data := ⟨_,rfl⟩
 rw [← hd]
 have hdl : d.length = l.length := by rw [hd]; simp
 refine Zas Tryz.func166 rfl Tryz.ntmps166 rfl ?_
 repeat (first|(refine G_id ?_;first|refine Zah ?_|refine Zab rfl rfl ?_)|(refine X_id ?_;first|refine X_yl (Zac rfl rfl) rfl rfl ?_)|(refine C_id ?_;first|refine Zak ?_|refine Zaa ?_)|(refine E_id ?_;first|refine Zae ?_))
 refine X_makeMap (Value.int .i64) rfl rfl rfl hS (fun r w hS => ?_)
 repeat (first|(refine G_id ?_;first|refine Zah ?_|refine Zab rfl rfl ?_)|(refine X_id ?_;first|refine X_yl (Zad rfl rfl) rfl rfl ?_|refine X_yl (Zac rfl rfl) rfl rfl ?_|refine X_yl (Zbt rfl rfl) rfl rfl ?_)|(refine C_id ?_;first|refine Zak ?_|refine Zaa ?_|refine Zaq ?_)|(refine E_id ?_;first|refine Zae ?_))
 refine Zb7 (α := Nat) (fun i => [(3,.map (some r)),(4,.bool (Zcy d i)),(8,.slice a l.length c),(9,.int .i64 (l.length : Nat)),(10,.int .i64 (i : Nat))])
  (fun i w => i ≤ l.length ∧ (∀ x ∈ d.take i,badW x = false) ∧ St W noF [mapr (Value.int .i64) r (Zk4 d i)] w) (fun i => l.length - i) 0 ⟨rfl,rfl,rfl,rfl,rfl,trivial⟩ ⟨Nat.zero_le _,by simp,hS⟩ ?_
 clear hS
 rintro i w ⟨hi,hbad,hS⟩
 by_cases hlt : i < l.length
 ·have hx0 : l[i]? = some l[i] := List.getElem?_eq_getElem hlt
  generalize l[i] = v at hx0
  have hv64 := hx64 v (List.mem_of_getElem? hx0)
  have hdi : d[i]? = some v.data := by rw [hd]; simp [hx0]
  have hdg : d.getD i (0,[]) = (v.no,v.x.s) := by rw [List.getD_eq_getElem?_getD,hdi]; rfl
  have hr := hW.row
  have hxs : ((l.flatMap Wr.cells).drop (i * 2)).take 2 = [.int .i64 v.no,.slice v.x.a v.x.s.length v.x.c] := Zoz hx0
  obtain ⟨ab,ao,rfl⟩ := (hW.row.rd hS).base (by intro e; rw [e] at hxs; simp at hxs)
  have hbadr : badW v.data = true → Zdm d = 1 := fun h => by
   unfold Zdm
   rw [if_pos (List.any_eq_true.2 ⟨_,List.mem_of_getElem? hdi,h⟩)]
  by_cases hn : v.no < 0
  ·repeat (first|(refine G_id ?_;first|refine Zah ?_|refine Zab rfl rfl ?_|refine G_no rfl rfl rfl rfl rfl rfl ?_)|(refine X_id ?_;first|refine X_yl (Zad rfl rfl) rfl rfl ?_|refine X_yl (Zac rfl rfl) rfl rfl ?_|refine X_yl (Zaf rfl rfl rfl) rfl rfl ?_|refine X_yl (Zbr rfl rfl rfl) rfl rfl ?_|refine X_yl (Za3 rfl rfl rfl (by omega)) rfl rfl ?_|refine X_yl (Zau rfl rfl rfl (by omega) (by omega) (by first|assumption|exact ⟨_,_,rfl⟩)) rfl rfl ?_|refine X_yl (Zao rfl rfl hS.cell) rfl rfl ?_|refine X_yl (Zbc rfl rfl ((hr.rd hS).cellsX (by omega) hxs rfl)) rfl rfl ?_|refine Za1 rfl rfl rfl rfl hS (fun _ hS _ => ?_)|refine Zbe rfl rfl rfl hS (fun _ _ hS _ => ?_))|(refine C_id ?_;first|refine Zak ?_|refine Zaa ?_|refine Zaq ?_|refine Za2 ?_|refine Zaw ?_|refine Zam rfl ?_)|(refine E_id ?_;first|refine Zae ?_|refine Zat ?_|refine Zbh ?_|refine Zax rfl (Zap rfl) (Ret.mk ?_)))
   exact ⟨by rw [hbadr (by simp [badW,Wr.data,hn])],hS.drops⟩
  ·by_cases h64 : (v.x.s.length : Int) = 64
   ·have hgood : badW v.data = false := by unfold badW Wr.data; rw [decide_eq_false hn]; simp [h64]
    obtain ⟨b,hb⟩ : ∃ b,b = Zcy d i := ⟨_,rfl⟩
    rw [← hb]
    have ht : Zcy d (i + 1) = (b || decide (v.no ∈ (d.take i).map (·.1))) := by rw [Zcy,hdg,← hb]
    have hb1 : ∀ x ∈ d.take (i + 1),badW x = false := fun x hx => by
     have hid : i < d.length := by omega
     rw [List.take_succ_eq_append_getElem hid] at hx
     have hvd : d[i] = v.data := by
      have := List.getElem?_eq_getElem hid
      rw [hdi] at this
      exact (Option.some.inj this).symm
     rw [hvd] at hx
     rcases List.mem_append.1 hx with h | h
     ·exact hbad x h
     ·rw [List.mem_singleton.1 h]; exact hgood
    cases b
    ·repeat (first|(refine G_id ?_;first|refine Zah ?_|refine Zab rfl rfl ?_|refine Zcu rfl rfl rfl rfl ?_)|(refine X_id ?_;first|refine X_yl (Zad rfl rfl) rfl rfl ?_|refine X_yl (Zaf rfl rfl rfl) rfl rfl ?_|refine X_yl (Zbb rfl rfl rfl) rfl rfl ?_|refine X_yl (Zbt rfl rfl) rfl rfl ?_|refine X_yl (Zb1 rfl rfl rfl (by omega)) rfl rfl ?_|refine X_yl (Za3 rfl rfl rfl (by omega)) rfl rfl ?_|refine X_yl (Za7 rfl rfl rfl (by omega)) rfl rfl ?_|refine X_yl (Zau rfl rfl rfl (by omega) (by omega) (by first|assumption|exact ⟨_,_,rfl⟩)) rfl rfl ?_|refine X_yl (Zao rfl rfl hS.cell) rfl rfl ?_|refine X_yl (Zbc rfl rfl ((hr.rd hS).cellsX (by omega) hxs rfl)) rfl rfl ?_|refine Za1 rfl rfl rfl rfl hS (fun _ hS _ => ?_)|refine Zbe rfl rfl rfl hS (fun _ _ hS _ => ?_))|(refine C_id ?_;first|refine Zak ?_|refine Zaa ?_|refine Zaq ?_|refine Zaw ?_|refine Zam rfl ?_|refine Zaj rfl ?_)|(refine E_id ?_;first|refine Zae ?_))
     refine X_yl (Zmh (mk := Value.int .i64) (k := v.no) rfl rfl rfl (hS.rd (List.mem_cons_of_mem _ (List.mem_cons_self ..)))) rfl rfl ?_
     rw [Zpu d v.no i (by omega)]
     repeat (first|(refine G_id ?_;first|refine Zah ?_|refine Zab rfl rfl ?_)|(refine X_id ?_;first|refine X_yl (Zad rfl rfl) rfl rfl ?_|refine X_yl (Zac rfl rfl) rfl rfl ?_|refine X_yl (Zaf rfl rfl rfl) rfl rfl ?_|refine X_yl (Zbb rfl rfl rfl) rfl rfl ?_|refine X_yl (Zao rfl rfl hS.cell) rfl rfl ?_)|(refine C_id ?_;first|refine Zaa ?_)|(refine E_id ?_;first|refine Zae ?_))
     replace hS := hS.pick [1]
     refine Zmi (mk := Value.int .i64) (k := v.no) rfl rfl rfl rfl rfl hS (fun w hS => ?_)
     repeat (first|(refine G_id ?_;first|refine Zah ?_|refine Zab rfl rfl ?_)|(refine X_id ?_;first|refine X_yl (Zad rfl rfl) rfl rfl ?_|refine X_yl (Zbk rfl rfl rfl (w64 (by omega) (by omega))) rfl rfl ?_)|(refine C_id ?_;first|refine Zaa ?_)|(refine E_id ?_;first|refine Zae ?_|refine Zbf ?_))
     refine Zbu (i + 1) ⟨rfl,by rw [ht]; rfl,rfl,rfl,rfl,trivial⟩ ⟨by omega,hb1,?_⟩ (by omega)
     simp only [Zk4,hdg]
     exact hS
    ·repeat (first|(refine G_id ?_;first|refine Zah ?_|refine Zab rfl rfl ?_|refine Zcu rfl rfl rfl rfl ?_|refine G_no rfl rfl rfl rfl rfl rfl ?_)|(refine X_id ?_;first|refine X_yl (Zad rfl rfl) rfl rfl ?_|refine X_yl (Zac rfl rfl) rfl rfl ?_|refine X_yl (Zaf rfl rfl rfl) rfl rfl ?_|refine X_yl (Zbr rfl rfl rfl) rfl rfl ?_|refine X_yl (Zbb rfl rfl rfl) rfl rfl ?_|refine X_yl (Zbt rfl rfl) rfl rfl ?_|refine X_yl (Zb1 rfl rfl rfl (by omega)) rfl rfl ?_|refine X_yl (Za3 rfl rfl rfl (by omega)) rfl rfl ?_|refine X_yl (Za7 rfl rfl rfl (by omega)) rfl rfl ?_|refine X_yl (Zau rfl rfl rfl (by omega) (by omega) (by first|assumption|exact ⟨_,_,rfl⟩)) rfl rfl ?_|refine X_yl (Zao rfl rfl hS.cell) rfl rfl ?_|refine X_yl (Zbc rfl rfl ((hr.rd hS).cellsX (by omega) hxs rfl)) rfl rfl ?_|refine Za1 rfl rfl rfl rfl hS (fun _ hS _ => ?_)|refine Zbe rfl rfl rfl hS (fun _ _ hS _ => ?_))|(refine C_id ?_;first|refine Zak ?_|refine Zaa ?_|refine Zaq ?_|refine Zaw ?_|refine Zam rfl ?_|refine Zaj rfl ?_)|(refine E_id ?_;first|refine Zae ?_))
     replace hS := hS.pick [1]
     refine Zmi (mk := Value.int .i64) (k := v.no) rfl rfl rfl rfl rfl hS (fun w hS => ?_)
     repeat (first|(refine G_id ?_;first|refine Zah ?_|refine Zab rfl rfl ?_)|(refine X_id ?_;first|refine X_yl (Zad rfl rfl) rfl rfl ?_|refine X_yl (Zbk rfl rfl rfl (w64 (by omega) (by omega))) rfl rfl ?_)|(refine C_id ?_;first|refine Zaa ?_)|(refine E_id ?_;first|refine Zae ?_|refine Zbf ?_))
     refine Zbu (i + 1) ⟨rfl,by rw [ht]; rfl,rfl,rfl,rfl,trivial⟩ ⟨by omega,hb1,?_⟩ (by omega)
     simp only [Zk4,hdg]
     exact hS
   ·repeat (first|(refine G_id ?_;first|refine Zah ?_|refine Zab rfl rfl ?_|refine Zcu rfl rfl rfl rfl ?_)|(refine X_id ?_;first|refine X_yl (Zad rfl rfl) rfl rfl ?_|refine X_yl (Zac rfl rfl) rfl rfl ?_|refine X_yl (Zaf rfl rfl rfl) rfl rfl ?_|refine X_yl (Zbb rfl rfl rfl) rfl rfl ?_|refine X_yl (Zbt rfl rfl) rfl rfl ?_|refine X_yl (Zc0 rfl rfl rfl (by omega)) rfl rfl ?_|refine X_yl (Za3 rfl rfl rfl (by omega)) rfl rfl ?_|refine X_yl (Za7 rfl rfl rfl (by omega)) rfl rfl ?_|refine X_yl (Zau rfl rfl rfl (by omega) (by omega) (by first|assumption|exact ⟨_,_,rfl⟩)) rfl rfl ?_|refine X_yl (Zao rfl rfl hS.cell) rfl rfl ?_|refine X_yl (Zbc rfl rfl ((hr.rd hS).cellsX (by omega) hxs rfl)) rfl rfl ?_|refine Za1 rfl rfl rfl rfl hS (fun _ hS _ => ?_)|refine Zbe rfl rfl rfl hS (fun _ _ hS _ => ?_))|(refine C_id ?_;first|refine Zak ?_|refine Zaa ?_|refine Zaq ?_|refine Za2 ?_|refine Zaw ?_|refine Zam rfl ?_)|(refine E_id ?_;first|refine Zae ?_|refine Zat ?_|refine Zbh ?_|refine Zax rfl (Zap rfl) (Ret.mk ?_)))
    exact ⟨by rw [hbadr (by simp [badW,Wr.data,h64])],hS.drops⟩
 ·obtain rfl : i = l.length := by omega
  have hany : d.any badW = false := by
   rw [← hdl,List.take_length] at hbad
   simpa using hbad
  cases ht : Zcy d l.length
  ·rw [show Zdm d = 0 by unfold Zdm; rw [if_neg (by simp [hany]),hdl,ht]; rfl]
   repeat (first|(refine G_id ?_;first|refine Zah ?_|refine Zab rfl rfl ?_)|(refine X_id ?_;first|refine X_yl (Zad rfl rfl) rfl rfl ?_|refine X_yl (Zac rfl rfl) rfl rfl ?_|refine X_yl (Za7 rfl rfl rfl (by omega)) rfl rfl ?_)|(refine C_id ?_;first|refine Zak ?_|refine Zaa ?_|refine Za2 ?_|refine Zaw ?_|refine Zb0 ?_|refine Zaj rfl ?_)|(refine E_id ?_;first|refine Zae ?_|refine Zav ?_|refine Zaz ?_|refine Zax rfl (Zap rfl) (Ret.mk ?_)))
   exact ⟨rfl,hS.drops⟩
  ·rw [show Zdm d = 8 by unfold Zdm; rw [if_neg (by simp [hany]),hdl,ht]; rfl]
   repeat (first|(refine G_id ?_;first|refine Zah ?_|refine Zab rfl rfl ?_)|(refine X_id ?_;first|refine X_yl (Zad rfl rfl) rfl rfl ?_|refine X_yl (Zac rfl rfl) rfl rfl ?_|refine X_yl (Za7 rfl rfl rfl (by omega)) rfl rfl ?_)|(refine C_id ?_;first|refine Zak ?_|refine Zaa ?_|refine Za2 ?_|refine Zb0 ?_|refine Zam rfl ?_|refine Zaj rfl ?_)|(refine E_id ?_;first|refine Zae ?_|refine Zat ?_|refine Zav ?_|refine Zaz ?_|refine Zax rfl (Zap rfl) (Ret.mk ?_)))
   exact ⟨rfl,hS.drops⟩
end Cr
namespace Cr
open Go Go.Proofs
set_option maxRecDepth 100000
set_option maxHeartbeats 4000000
attribute [local irreducible] Calls

abbrev logCells (p : Nat) (o s m : Int) (j : Nat) (done : Int) (rd : Bool) : List Value := [.pointer (some ⟨p,0,none⟩),.int .u32 o,.int .i32 s,.int .u32 m,.int .i64 (j : Nat),.int .i64 done,.bool rd]
abbrev Zdr (lp p : Nat) (o s m : Int) (j : Nat) (done : Int) (rd : Bool) : Res := pts lp (.cells (logCells p o s m j done rd).toArray 231)
section
variable (lp p : Nat) (o s m : Int) (j : Nat) (done : Int) (rd : Bool) (D : DiskM) (W : World)
theorem Zft (hL : Rd W (Zdr lp p o s m j done rd)) (hD : Rd W (disk p D)) (hj : j ≤ 4096) :
  Calls Tryz.prog 165 #[.pointer (some ⟨lp,0,none⟩)] W (Ret fun v w => v = .int .i64 ((D.laid.length : Int) - 1 - j) ∧ St W noF [] w) := by
 have hc := hL.pts
 have hS := St.start W
 have hm := hD.disk.1.most
 have hLo := hL.ro
 have hDo := hD.ro
 refine Zas Tryz.func165 rfl Tryz.ntmps165 rfl ?_
 repeat (first|(refine G_id ?_;first|refine Zah ?_|refine Zab rfl rfl ?_)|(refine X_id ?_;first|refine X_yl (Zad rfl rfl) rfl rfl ?_|refine X_yl (Zac rfl rfl) rfl rfl ?_|refine X_yl (Zbg rfl rfl rfl) rfl rfl ?_)|(refine C_id ?_;first|refine Zak ?_|refine Zaa ?_|refine Zaw ?_|refine Zaj rfl ?_)|(refine E_id ?_;first|refine Zae ?_))
 refine Zci (.s 0 (.s 1 (.s 2 (.s 3 (.s 6 (.s 7 (.s 8 (.s 9 (.h 4 (.s 5 (.s 10 (.s 11 .nil))) .no))))))))) mixed (by kernel_rfl) rfl ?_
 have hS := hS.drew
 have hc := (hLo.rd hS).pts
 repeat (first|(refine X_id ?_;first|(refine Zan 113 rfl rfl rfl rfl rfl (Zn2 p D _ (hDo.rd hS)) ?_;rintro _ _ ⟨rfl,rfl⟩))|(refine C_id ?_;first|refine Za2 ?_)|(refine E_id ?_;first|refine Zae ?_|refine Zax rfl (Zap rfl) (Ret.mk ?_))|(refine Zbj ?_;first|refine Zbw ?_|refine Zag rfl rfl (fun _ => Zad rfl rfl) rfl rfl ?_|refine Zag rfl rfl (fun _ => Zac rfl rfl) rfl rfl ?_|refine Zag rfl rfl (fun _ => Zai rfl rfl) rfl rfl ?_|refine Zag rfl rfl (fun _ => Zaf rfl rfl rfl) rfl rfl ?_|refine Zag rfl rfl (fun _ => Zdn rfl rfl rfl (w64 (by omega) (by omega))) rfl rfl ?_|refine Zbi (fun w' => w'.cell? _ = some _) rfl rfl (Zal (by assumption)) (fun _ hc => Zao rfl rfl hc) rfl rfl ?_|refine Za8 rfl rfl ?_)|(refine Za5 ?_;first|refine And.intro (by repeat (first|exact trivial|refine And.intro (.inl (by decide +kernel)) ?_|refine And.intro (.inr (by first|assumption|exact hS.cell|exact Zal (by assumption)|exact hS.cellI (by omega)|exact hS.cellIP (by omega)|exact hS.cellsN|exact hS.cellB (by omega)|exact hS.cellBA (by omega)|exact hS.cellO 0 (by omega)|exact hS.cellO 1 (by omega)|exact hS.cellIA (by omega)|exact Zal (hc.rd hS).pts|exact hS.cellO 4 (by omega)|exact hS.cellO 5 (by omega)|exact hS.cellO 6 (by omega)|exact hS.cellO 7 (by omega)|exact hS.cellO 8 (by omega)|exact hS.cellO 9 (by omega)|exact hS.cellO 10 (by omega)|exact hS.cellO 11 (by omega)|exact hS.cellO 12 (by omega)|exact hS.cellO 13 (by omega)|exact hS.cellO 2 (by omega)|exact hS.cellO 3 (by omega))) ?_)) ?_))
 exact ⟨rfl,hS⟩
theorem Zr4 (hL : Rd W (Zdr lp p o s m j done rd)) (hj : j ≤ 4096) :
  Calls Tryz.prog 168 #[.pointer (some ⟨lp,0,none⟩)] W (Ret fun v w => v = .int .i64 ((j : Int) / 2) ∧ W = w) := by
 have hc := hL.pts
 have hS := St.start W
 refine Zas Tryz.func168 rfl Tryz.ntmps168 rfl ?_
 repeat (first|(refine G_id ?_;first|refine Zah ?_|refine Zab rfl rfl ?_)|(refine X_id ?_;first|refine X_yl (Zad rfl rfl) rfl rfl ?_|refine X_yl (Zac rfl rfl) rfl rfl ?_|refine X_yl (Zai rfl rfl) rfl rfl ?_|refine X_yl (Zaf rfl rfl rfl) rfl rfl ?_|refine X_yl (Zmf rfl rfl rfl (by omega) (by omega) (by omega)) rfl rfl ?_|refine X_yl (Zbg rfl rfl rfl) rfl rfl ?_|refine X_yl (Zao rfl rfl (Zal (by assumption))) rfl rfl ?_)|(refine C_id ?_;first|refine Zak ?_|refine Zaa ?_|refine Za2 ?_|refine Zaw ?_|refine Zaj rfl ?_)|(refine E_id ?_;first|refine Zae ?_|refine Zax rfl (Zap rfl) (Ret.mk ?_)))
 exact ⟨rfl,rfl⟩
def hasM (n : Int) (l : List (Int × List UInt8)) : Bool := l.all fun x => decide (x.1 < n)
theorem whas_ (a : Option Addr) (c : Nat) (l : List Wr) (hL : Rd W (Zdr lp p o s m j done rd)) (hD : Rd W (disk p D)) (hj : j ≤ 4096) (hW : Wrs W noF a l) (hl : l.length ≤ 1048576) :
  Calls Tryz.prog 167 #[.pointer (some ⟨lp,0,none⟩),.slice a l.length c] W (Ret fun v w => v = .bool (hasM ((D.laid.length : Int) - 1 - j) (l.map Wr.data)) ∧ St W noF [] w) := by
 have hS := St.start W
 have hLo := hL.ro
 have hDo := hD.ro
 obtain ⟨n,hn⟩ : ∃ n,n = (D.laid.length : Int) - 1 - j := ⟨_,rfl⟩
 rw [← hn]
 refine Zas Tryz.func167 rfl Tryz.ntmps167 rfl ?_
 repeat (first|(refine G_id ?_;first|refine Zah ?_|refine Zab rfl rfl ?_)|(refine X_id ?_;first|refine X_yl (Zad rfl rfl) rfl rfl ?_|refine X_yl (Zac rfl rfl) rfl rfl ?_|refine X_yl (Zbt rfl rfl) rfl rfl ?_)|(refine C_id ?_;first|refine Zak ?_|refine Zaa ?_|refine Zaq ?_)|(refine E_id ?_;first|refine Zae ?_))
 refine Zb7 (α := Nat) (fun i => [(0,.pointer (some ⟨lp,0,none⟩)),(7,.slice a l.length c),(8,.int .i64 (l.length : Nat)),(9,.int .i64 (i : Nat))])
  (fun i w => i ≤ l.length ∧ (∀ v ∈ l.take i,v.no < n) ∧ St W noF [] w) (fun i => l.length - i) 0 ⟨rfl,rfl,rfl,rfl,trivial⟩ ⟨Nat.zero_le _,by simp,hS⟩ ?_
 clear hS
 rintro i w ⟨hi,hok,hS⟩
 by_cases hlt : i < l.length
 ·have hx0 : l[i]? = some l[i] := List.getElem?_eq_getElem hlt
  have htk := List.take_succ_eq_append_getElem hlt
  generalize l[i] = v at hx0 htk
  have hr := hW.row
  have hxs : ((l.flatMap Wr.cells).drop (i * 2)).take 2 = [.int .i64 v.no,.slice v.x.a v.x.s.length v.x.c] := Zoz hx0
  obtain ⟨ab,ao,rfl⟩ := (hW.row.rd hS).base (by intro e; rw [e] at hxs; simp at hxs)
  by_cases hno : v.no < n
  ·repeat (first|(refine G_id ?_;first|refine Zah ?_|refine Zab rfl rfl ?_)|(refine X_id ?_;first|refine X_yl (Za3 rfl rfl rfl (by omega)) rfl rfl ?_|refine X_yl (Zau rfl rfl rfl (by omega) (by omega) (by first|assumption|exact ⟨_,_,rfl⟩)) rfl rfl ?_|refine X_yl (Zbc rfl rfl ((hr.rd hS).cellsX (by omega) hxs rfl)) rfl rfl ?_|refine Za1 rfl rfl rfl rfl hS (fun _ hS _ => ?_)|refine Zbe rfl rfl rfl hS (fun _ _ hS _ => ?_))|(refine C_id ?_;first|refine Zak ?_|refine Zaa ?_|refine Zaq ?_|refine Zaw ?_|refine Zam rfl ?_)|(refine E_id ?_;first|refine Zae ?_))
   refine Zci (.s 0 (.s 1 (.s 2 (.h 3 (.s 4 .nil) .no)))) mixed (by kernel_rfl) rfl ?_
   have hS := hS.drew
   repeat (first|(refine G_id ?_;first|refine Zah ?_|refine Zab rfl rfl ?_)|(refine X_id ?_;first|(refine Zbm 165 rfl rfl rfl rfl rfl hS (Zft lp p o s m j done rd D _ (hLo.rd hS) (hDo.rd hS) hj) ?_;rintro _ _ rfl hS)|refine X_yl (Zad rfl rfl) rfl rfl ?_|refine X_yl (Zbk rfl rfl rfl (w64 (by omega) (by omega))) rfl rfl ?_)|(refine C_id ?_;first|refine Zaa ?_|refine Zaw ?_|refine Zaj rfl ?_)|(refine E_id ?_;first|refine Zae ?_|refine Zbf ?_)|(refine Zbj ?_;first|refine Zbw ?_|refine Zag rfl rfl (fun _ => Zad rfl rfl) rfl rfl ?_|refine Zag rfl rfl (fun _ => Zaf rfl rfl rfl) rfl rfl ?_|refine Zag rfl rfl (fun _ => Zdv rfl rfl rfl (by omega)) rfl rfl ?_|refine Zbi (fun w' => w'.cell? _ = some _) rfl rfl hS.cell (fun _ hc => Zao rfl rfl hc) rfl rfl ?_|refine Za8 rfl rfl ?_)|(refine Za5 ?_;first|refine And.intro (by repeat (first|exact trivial|refine And.intro (.inl (by decide +kernel)) ?_|refine And.intro (.inr (by first|assumption|exact hS.cell|exact Zal (by assumption)|exact hS.cellI (by omega)|exact hS.cellIP (by omega)|exact hS.cellsN|exact ((hr.rd hS).cellX (by omega) hx)|exact hS.cellB (by omega)|exact hS.cellBA (by omega)|exact ((hr.rd hS).cellF (by first|omega|(dsimp only;omega)) hx)|exact hS.cellO 0 (by omega)|exact hS.cellO 1 (by omega)|exact hS.cellIA (by omega)|exact Zal (hc.rd hS).pts|exact hS.cellO 4 (by omega)|exact hS.cellO 5 (by omega)|exact hS.cellO 6 (by omega)|exact hS.cellO 7 (by omega)|exact hS.cellO 8 (by omega)|exact hS.cellO 9 (by omega)|exact hS.cellO 10 (by omega)|exact hS.cellO 11 (by omega)|exact hS.cellO 12 (by omega)|exact hS.cellO 13 (by omega)|exact hS.cellO 2 (by omega)|exact hS.cellO 3 (by omega))) ?_)) ?_))
   refine Zbu (i + 1) ⟨rfl,rfl,rfl,rfl,trivial⟩ ⟨by omega,?_,hS.drops⟩ (by omega)
   rw [htk]
   intro x hx
   rcases List.mem_append.1 hx with h | h
   ·exact hok x h
   ·rw [List.mem_singleton.1 h]; exact hno
  ·repeat (first|(refine G_id ?_;first|refine Zah ?_|refine Zab rfl rfl ?_)|(refine X_id ?_;first|refine X_yl (Za3 rfl rfl rfl (by omega)) rfl rfl ?_|refine X_yl (Zau rfl rfl rfl (by omega) (by omega) (by first|assumption|exact ⟨_,_,rfl⟩)) rfl rfl ?_|refine X_yl (Zbc rfl rfl ((hr.rd hS).cellsX (by omega) hxs rfl)) rfl rfl ?_|refine Za1 rfl rfl rfl rfl hS (fun _ hS _ => ?_)|refine Zbe rfl rfl rfl hS (fun _ _ hS _ => ?_))|(refine C_id ?_;first|refine Zak ?_|refine Zaa ?_|refine Zaq ?_|refine Zaw ?_|refine Zam rfl ?_)|(refine E_id ?_;first|refine Zae ?_))
   refine Zci (.s 0 (.s 1 (.s 2 (.h 3 (.s 4 .nil) .no)))) mixed (by kernel_rfl) rfl ?_
   have hS := hS.drew
   repeat (first|(refine G_id ?_;first|refine Zah ?_|refine Zab rfl rfl ?_)|(refine X_id ?_;first|(refine Zbm 165 rfl rfl rfl rfl rfl hS (Zft lp p o s m j done rd D _ (hLo.rd hS) (hDo.rd hS) hj) ?_;rintro _ _ rfl hS)|refine X_yl (Zac rfl rfl) rfl rfl ?_)|(refine C_id ?_;first|refine Zak ?_|refine Zaa ?_|refine Za2 ?_|refine Zam rfl ?_)|(refine E_id ?_;first|refine Zae ?_|refine Zat ?_|refine Zbh ?_|refine Zax rfl (Zap rfl) (Ret.mk ?_))|(refine Zbj ?_;first|refine Zbw ?_|refine Zag rfl rfl (fun _ => Zad rfl rfl) rfl rfl ?_|refine Zag rfl rfl (fun _ => Zaf rfl rfl rfl) rfl rfl ?_|refine Zag rfl rfl (fun _ => Zda rfl rfl rfl (by omega)) rfl rfl ?_|refine Zbi (fun w' => w'.cell? _ = some _) rfl rfl hS.cell (fun _ hc => Zao rfl rfl hc) rfl rfl ?_|refine Za8 rfl rfl ?_)|(refine Za5 ?_;first|refine And.intro (by repeat (first|exact trivial|refine And.intro (.inl (by decide +kernel)) ?_|refine And.intro (.inr (by first|assumption|exact hS.cell|exact Zal (by assumption)|exact hS.cellI (by omega)|exact hS.cellIP (by omega)|exact hS.cellsN|exact ((hr.rd hS).cellX (by omega) hx)|exact hS.cellB (by omega)|exact hS.cellBA (by omega)|exact ((hr.rd hS).cellF (by first|omega|(dsimp only;omega)) hx)|exact hS.cellO 0 (by omega)|exact hS.cellO 1 (by omega)|exact hS.cellIA (by omega)|exact Zal (hc.rd hS).pts|exact hS.cellO 4 (by omega)|exact hS.cellO 5 (by omega)|exact hS.cellO 6 (by omega)|exact hS.cellO 7 (by omega)|exact hS.cellO 8 (by omega)|exact hS.cellO 9 (by omega)|exact hS.cellO 10 (by omega)|exact hS.cellO 11 (by omega)|exact hS.cellO 12 (by omega)|exact hS.cellO 13 (by omega)|exact hS.cellO 2 (by omega)|exact hS.cellO 3 (by omega))) ?_)) ?_))
   refine ⟨?_,hS.drops⟩
   have : hasM n (l.map Wr.data) = false := by
    unfold hasM
    rw [List.all_eq_false]
    exact ⟨v.data,List.mem_map.2 ⟨v,List.mem_of_getElem? hx0,rfl⟩,by simp [Wr.data,hno]⟩
   rw [this]
 ·obtain rfl : i = l.length := by omega
  repeat (first|(refine G_id ?_;first|refine Zah ?_|refine Zab rfl rfl ?_)|(refine X_id ?_;first|refine X_yl (Zac rfl rfl) rfl rfl ?_|refine X_yl (Za7 rfl rfl rfl (by omega)) rfl rfl ?_)|(refine C_id ?_;first|refine Zak ?_|refine Zaa ?_|refine Za2 ?_|refine Zb0 ?_|refine Zaj rfl ?_)|(refine E_id ?_;first|refine Zae ?_|refine Zav ?_|refine Zaz ?_|refine Zax rfl (Zap rfl) (Ret.mk ?_)))
  refine ⟨?_,hS⟩
  have : hasM n (l.map Wr.data) = true := by
   unfold hasM
   rw [List.all_eq_true]
   intro x hx
   obtain ⟨v,hv,rfl⟩ := List.mem_map.1 hx
   rw [List.take_length] at hok
   exact decide_eq_true (hok v hv)
  rw [this]
end

/-! ### steps -/
def Ze1 (x : Int × DiskM) (no : Int) (b : List UInt8) : Int × DiskM := if x.1 = 0 then x.2.write no b else x
def Zet (x : Int × DiskM) : Int × DiskM := if x.1 = 0 then x.2.flush else x
abbrev Zjl (sp p : Nat) (e : Int) : Res := pts sp (.cells #[.pointer (some ⟨p,0,none⟩),.int .i64 e] 296)
theorem Zkw (sp p : Nat) (x : Int × DiskM) (no : Int) (a : Option Addr) (n c : Nat) (b : List UInt8) (W : World) (F : Nat → Prop) (hS : St W F [Zjl sp p x.1,disk p x.2] W) (hb : Ro W F (bytes a b)) (hn : b.length = n) (hline : x.2.line.length < 1073741824) :
  Calls Tryz.prog 170 #[.pointer (some ⟨sp,0,none⟩),.int .i64 no,.slice a n c] W (Ret fun _ w => True ∧ St W F [Zjl sp p (Ze1 x no b).1,disk p (Ze1 x no b).2] w) := by
 obtain ⟨e,D⟩ := x
 simp only at hS hline ⊢
 by_cases he : e = 0
 ·subst he
  refine Zas Tryz.func170 rfl Tryz.ntmps170 rfl ?_
  repeat (first|(refine G_id ?_;first|refine Zah ?_|refine Zab rfl rfl ?_)|(refine X_id ?_;first|refine X_yl (Zad rfl rfl) rfl rfl ?_|refine X_yl (Zai rfl rfl) rfl rfl ?_|refine X_yl (Zaf rfl rfl rfl) rfl rfl ?_|refine X_yl (Zej rfl rfl rfl (by omega)) rfl rfl ?_|refine X_yl (Zao rfl rfl hS.cell) rfl rfl ?_)|(refine C_id ?_;first|refine Zak ?_|refine Zaa ?_|refine Zam rfl ?_)|(refine E_id ?_;first|refine Zae ?_))
  obtain ⟨_,hc,hr,hw,hbk⟩ := hS.call [false,true]
  refine Zan _ rfl rfl rfl rfl rfl (write_ p D no a n c b _ _ hc (hw _ hb) hn hline) ?_
  rintro _ w ⟨rfl,hS⟩
  replace hS := hbk hS
  clear hc hr hw hbk
  repeat (first|(refine G_id ?_;first|refine Zah ?_|refine Zab rfl rfl ?_)|(refine X_id ?_;first|refine X_yl (Zai rfl rfl) rfl rfl ?_|refine X_yl (Zaf rfl rfl rfl) rfl rfl ?_|refine Za1 rfl rfl rfl rfl hS (fun _ hS _ => ?_))|(refine E_id ?_;first|refine Zer rfl (Ret.mk ?_)))
  refine ⟨trivial,?_⟩
  simp only [Ze1,if_true]
  have hS := hS.pick [1,0]
  exact hS
 ·refine Zas Tryz.func170 rfl Tryz.ntmps170 rfl ?_
  repeat (first|(refine G_id ?_;first|refine Zah ?_|refine Zab rfl rfl ?_)|(refine X_id ?_;first|refine X_yl (Zad rfl rfl) rfl rfl ?_|refine X_yl (Zai rfl rfl) rfl rfl ?_|refine X_yl (Zaf rfl rfl rfl) rfl rfl ?_|refine X_yl (Zd9 rfl rfl rfl (by omega)) rfl rfl ?_|refine X_yl (Zao rfl rfl hS.cell) rfl rfl ?_)|(refine C_id ?_;first|refine Zak ?_|refine Zaa ?_|refine Zaw ?_|refine Zaj rfl ?_)|(refine E_id ?_;first|refine Zae ?_|refine Zer rfl (Ret.mk ?_)))
  refine ⟨trivial,?_⟩
  simp only [Ze1,if_neg he]
  exact hS
theorem Zn1 (sp p : Nat) (x : Int × DiskM) (W : World) (F : Nat → Prop) (hS : St W F [Zjl sp p x.1,disk p x.2] W) (hline : x.2.line.length < 1073741824) :
  Calls Tryz.prog 172 #[.pointer (some ⟨sp,0,none⟩)] W (Ret fun _ w => True ∧ St W F [Zjl sp p (Zet x).1,disk p (Zet x).2] w) := by
 obtain ⟨e,D⟩ := x
 simp only at hS hline ⊢
 by_cases he : e = 0
 ·subst he
  refine Zas Tryz.func172 rfl Tryz.ntmps172 rfl ?_
  repeat (first|(refine G_id ?_;first|refine Zah ?_|refine Zab rfl rfl ?_)|(refine X_id ?_;first|refine X_yl (Zad rfl rfl) rfl rfl ?_|refine X_yl (Zai rfl rfl) rfl rfl ?_|refine X_yl (Zaf rfl rfl rfl) rfl rfl ?_|refine X_yl (Zej rfl rfl rfl (by omega)) rfl rfl ?_|refine X_yl (Zao rfl rfl hS.cell) rfl rfl ?_)|(refine C_id ?_;first|refine Zak ?_|refine Zaa ?_|refine Zam rfl ?_)|(refine E_id ?_;first|refine Zae ?_))
  obtain ⟨_,hc,hr,hw,hbk⟩ := hS.call [false,true]
  refine Zan _ rfl rfl rfl rfl rfl (flush_ p D _ _ hc hline) ?_
  rintro _ w ⟨rfl,hS⟩
  replace hS := hbk hS
  clear hc hr hw hbk
  repeat (first|(refine G_id ?_;first|refine Zah ?_|refine Zab rfl rfl ?_)|(refine X_id ?_;first|refine X_yl (Zai rfl rfl) rfl rfl ?_|refine X_yl (Zaf rfl rfl rfl) rfl rfl ?_|refine Za1 rfl rfl rfl rfl hS (fun _ hS _ => ?_))|(refine E_id ?_;first|refine Zer rfl (Ret.mk ?_)))
  refine ⟨trivial,?_⟩
  simp only [Zet,if_true]
  have hS := hS.pick [1,0]
  exact hS
 ·refine Zas Tryz.func172 rfl Tryz.ntmps172 rfl ?_
  repeat (first|(refine G_id ?_;first|refine Zah ?_|refine Zab rfl rfl ?_)|(refine X_id ?_;first|refine X_yl (Zad rfl rfl) rfl rfl ?_|refine X_yl (Zai rfl rfl) rfl rfl ?_|refine X_yl (Zaf rfl rfl rfl) rfl rfl ?_|refine X_yl (Zd9 rfl rfl rfl (by omega)) rfl rfl ?_|refine X_yl (Zao rfl rfl hS.cell) rfl rfl ?_)|(refine C_id ?_;first|refine Zak ?_|refine Zaa ?_|refine Zaw ?_|refine Zaj rfl ?_)|(refine E_id ?_;first|refine Zae ?_|refine Zer rfl (Ret.mk ?_)))
  refine ⟨trivial,?_⟩
  simp only [Zet,if_neg he]
  exact hS
end Cr
namespace Cr
open Go Go.Proofs
set_option maxRecDepth 100000
set_option maxHeartbeats 4000000
attribute [local irreducible] Calls

theorem Zti (D : DiskM) (no : Int) (b : List UInt8) : (D.write no b).2.line.length ≤ D.line.length + 1 ∧ (D.write no b).2.laid.length = D.laid.length := by
 unfold DiskM.write
 split
 ·simp
 ·split
  ·simp
  ·split <;> simp [DiskM.used]
theorem flush_line (D : DiskM) : D.flush.2.line.length ≤ D.line.length ∧ D.flush.2.laid.length = D.laid.length := by
 unfold DiskM.flush
 split
 ·simp
 ·split <;> simp [DiskM.used,DiskM.flushed,Zb4]
theorem Ze3 (x : Int × DiskM) (no : Int) (b : List UInt8) : (Ze1 x no b).2.line.length ≤ x.2.line.length + 1 ∧ (Ze1 x no b).2.laid.length = x.2.laid.length := by
 unfold Ze1
 split
 ·exact Zti x.2 no b
 ·simp
theorem Zmw (x : Int × DiskM) : (Zet x).2.line.length ≤ x.2.line.length ∧ (Zet x).2.laid.length = x.2.laid.length := by
 unfold Zet
 split
 ·exact flush_line x.2
 ·simp
def Zhk (k : Int) (x : Int × DiskM) (l : List (Int × List UInt8)) : Int × DiskM := l.foldl (fun x v => Ze1 x (k + v.1) v.2) x
theorem putsM_snoc (k : Int) (x : Int × DiskM) {l : List (Int × List UInt8)} {i : Nat} {v : Int × List UInt8} (h : l[i]? = some v) : Zhk k x (l.take (i + 1)) = Ze1 (Zhk k x (l.take i)) (k + v.1) v.2 := by
 obtain ⟨hi,rfl⟩ := List.getElem?_eq_some_iff.1 h
 rw [List.take_succ_eq_append_getElem hi]
 unfold Zhk
 rw [List.foldl_append]
 rfl
theorem Zm4 (k : Int) : ∀ (l : List (Int × List UInt8)) (x : Int × DiskM),(Zhk k x l).2.line.length ≤ x.2.line.length + l.length ∧ (Zhk k x l).2.laid.length = x.2.laid.length
 | [],x => by simp [Zhk]
 | v :: l,x => by
  have h1 := Ze3 x (k + v.1) v.2
  have h2 := Zm4 k l (Ze1 x (k + v.1) v.2)
  simp only [Zhk,List.foldl_cons,List.length_cons] at h2 ⊢
  exact ⟨by omega,by rw [h2.2,h1.2]⟩
def layM (rd fs : List Int) (j : Nat) (x : Int × DiskM) (number : Int) (l : List (Int × List UInt8)) : Int × DiskM := Zet (Ze1 (Zet (Zhk (1 + j) x l)) 0 (Zfz rd fs number))
theorem wlay_ (lp sp p : Nat) (o s m : Int) (j : Nat) (done : Int) (rdn : Bool) (x : Int × DiskM) (number : Int) (a : Option Addr) (c : Nat) (l : List Wr) (rd fs : List Int) (W : World) (F : Nat → Prop) (hG : Gl W F rd fs) (hW : Wrs W F a l)
  (hj : j ≤ 4096) (hl : l.length ≤ 1048576) (hno : ∀ v ∈ l,-4611686018427387904 ≤ v.no ∧ v.no ≤ 4611686018427387904) (hline : x.2.line.length + l.length + 1 < 1073741824) (hS : St W F [Zdr lp p o s m j done rdn,Zjl sp p x.1,disk p x.2] W) :
  Calls Tryz.prog 163 #[.pointer (some ⟨lp,0,none⟩),.pointer (some ⟨sp,0,none⟩),.int .i64 number,.slice a l.length c] W (Ret fun v w => v = .int .i64 (layM rd fs j x number (l.map Wr.data)).1 ∧
   St W F [Zdr lp p o s m j (if (layM rd fs j x number (l.map Wr.data)).1 = 0 then number else done) rdn,Zjl sp p (layM rd fs j x number (l.map Wr.data)).1,disk p (layM rd fs j x number (l.map Wr.data)).2] w) := by
 obtain ⟨d,hd⟩ : ∃ d,d = l.map Wr.data := ⟨_,rfl⟩
 have hdl : d.length = l.length := by rw [hd]; simp
 rw [← hd]
 refine Zas Tryz.func163 rfl Tryz.ntmps163 rfl ?_
 repeat (first|(refine G_id ?_;first|refine Zah ?_|refine Zab rfl rfl ?_)|(refine X_id ?_;first|refine X_yl (Zad rfl rfl) rfl rfl ?_|refine X_yl (Zac rfl rfl) rfl rfl ?_|refine X_yl (Zbt rfl rfl) rfl rfl ?_)|(refine C_id ?_;first|refine Zak ?_|refine Zaa ?_|refine Zaq ?_)|(refine E_id ?_;first|refine Zae ?_))
 refine Zb7 (α := Nat) (fun i => [(0,.pointer (some ⟨lp,0,none⟩)),(1,.pointer (some ⟨sp,0,none⟩)),(2,.int .i64 number),(11,.slice a l.length c),(12,.int .i64 (l.length : Nat)),(13,.int .i64 (i : Nat))])
  (fun i w => i ≤ l.length ∧ St W F [Zdr lp p o s m j done rdn,Zjl sp p (Zhk (1 + j) x (d.take i)).1,disk p (Zhk (1 + j) x (d.take i)).2] w) (fun i => l.length - i) 0 ⟨rfl,rfl,rfl,rfl,rfl,rfl,trivial⟩ ⟨Nat.zero_le _,hS⟩ ?_
 clear hS
 rintro i w ⟨hi,hS⟩
 have hlt1 := Zm4 (1 + j) (d.take i) x
 rw [List.length_take] at hlt1
 by_cases hlt : i < l.length
 ·have hx0 : l[i]? = some l[i] := List.getElem?_eq_getElem hlt
  generalize l[i] = v at hx0
  have hvm := List.mem_of_getElem? hx0
  have hdi : d[i]? = some (v.no,v.x.s) := by rw [hd]; simp [hx0,Wr.data]
  have hsn := putsM_snoc (1 + j) x hdi
  have hv := hno v hvm
  have hv1 := hv.1
  have hv2 := hv.2
  have hr := hW.row
  have hxs : ((l.flatMap Wr.cells).drop (i * 2)).take 2 = [.int .i64 v.no,.slice v.x.a v.x.s.length v.x.c] := Zoz hx0
  obtain ⟨ab,ao,rfl⟩ := (hW.row.rd hS).base (by intro e; rw [e] at hxs; simp at hxs)
  obtain ⟨X,hX⟩ : ∃ X,X = Zhk (1 + j) x (d.take i) := ⟨_,rfl⟩
  rw [← hX] at hS hlt1 hsn
  repeat (first|(refine G_id ?_;first|refine Zah ?_|refine Zab rfl rfl ?_)|(refine X_id ?_;first|refine X_yl (Za3 rfl rfl rfl (by omega)) rfl rfl ?_|refine X_yl (Zau rfl rfl rfl (by omega) (by omega) (by first|assumption|exact ⟨_,_,rfl⟩)) rfl rfl ?_|refine X_yl (Zbc rfl rfl ((hr.rd hS).cellsX (by omega) hxs rfl)) rfl rfl ?_|refine Za1 rfl rfl rfl rfl hS (fun _ hS _ => ?_)|refine Zbe rfl rfl rfl hS (fun _ _ hS _ => ?_))|(refine C_id ?_;first|refine Zak ?_|refine Zaa ?_|refine Zaq ?_|refine Zaw ?_|refine Zam rfl ?_)|(refine E_id ?_;first|refine Zae ?_))
  refine Zci (.s 0 (.s 1 (.s 2 (.s 3 (.s 4 (.s 5 (.s 6 (.s 7 (.s 8 (.s 9 (.s 10 (.h 11 .nil .no)))))))))))) mixed (by kernel_rfl) rfl ?_
  have hS := hS.drew
  repeat (first|(refine Zbj ?_;first|refine Zag rfl rfl (fun _ => Zad rfl rfl) rfl rfl ?_|refine Zag rfl rfl (fun _ => Zai rfl rfl) rfl rfl ?_|refine Zag rfl rfl (fun _ => Zaf rfl rfl rfl) rfl rfl ?_|refine Zag rfl rfl (fun _ => Zbk rfl rfl rfl (w64 (by omega) (by omega))) rfl rfl ?_|refine Zbi (fun w' => w'.cell? _ = some _) rfl rfl hS.cell (fun _ hc => Zao rfl rfl hc) rfl rfl ?_|refine Za8 rfl rfl ?_))
  obtain ⟨_,hc,hr,hw,hbk⟩ := hS.call [false,false,true,true]
  refine Zan _ rfl rfl rfl rfl rfl (Zkw sp p X _ _ _ _ v.x.s _ _ hc (hw _ (hW.all v hvm)) rfl (by omega)) ?_
  rintro _ w ⟨_,hS⟩
  replace hS := hbk hS
  clear hc hr hw hbk
  repeat (first|(refine G_id ?_;first|refine Zah ?_|refine Zab rfl rfl ?_)|(refine X_id ?_;first|refine X_yl (Zad rfl rfl) rfl rfl ?_|refine X_yl (Zbk rfl rfl rfl (w64 (by omega) (by omega))) rfl rfl ?_)|(refine C_id ?_;first|refine Zaa ?_)|(refine E_id ?_;first|refine Zae ?_|refine Zbf ?_)|(refine Zbj ?_;first|refine Zbw ?_)|(refine Za5 ?_;first|refine And.intro (by repeat (first|exact trivial|refine And.intro (.inl (by decide +kernel)) ?_|refine And.intro (.inr (by first|assumption|exact hS.cell|exact Zal (by assumption)|exact hS.cellI (by omega)|exact hS.cellIP (by omega)|exact hS.cellsN|exact hS.cellB (by omega)|exact hS.cellBA (by omega)|exact hS.cellO 0 (by omega)|exact hS.cellO 1 (by omega)|exact hS.cellIA (by omega)|exact Zal (hc.rd hS).pts|exact hS.cellO 4 (by omega)|exact hS.cellO 5 (by omega)|exact hS.cellO 6 (by omega)|exact hS.cellO 7 (by omega)|exact hS.cellO 8 (by omega)|exact hS.cellO 9 (by omega)|exact hS.cellO 10 (by omega)|exact hS.cellO 11 (by omega)|exact hS.cellO 12 (by omega)|exact hS.cellO 13 (by omega)|exact hS.cellO 2 (by omega)|exact hS.cellO 3 (by omega))) ?_)) ?_))
  refine Zbu (i + 1) ⟨rfl,rfl,rfl,rfl,rfl,rfl,trivial⟩ ⟨by omega,?_⟩ (by omega)
  rw [hsn]
  have hS := hS.pick [3,0,0]
  exact hS
 ·obtain rfl : i = l.length := by omega
  rw [List.take_of_length_le (by omega)] at hS hlt1
  obtain ⟨X,hX⟩ : ∃ X,X = Zhk (1 + j) x d := ⟨_,rfl⟩
  rw [← hX] at hS hlt1
  have h2 := Zmw X
  repeat (first|(refine G_id ?_;first|refine Zah ?_|refine Zab rfl rfl ?_)|(refine X_id ?_;first|refine X_yl (Zad rfl rfl) rfl rfl ?_|refine X_yl (Za7 rfl rfl rfl (by omega)) rfl rfl ?_)|(refine C_id ?_;first|refine Zak ?_|refine Zaa ?_|refine Zb0 ?_|refine Zaj rfl ?_)|(refine E_id ?_;first|refine Zae ?_|refine Zav ?_|refine Zaz ?_))
  obtain ⟨_,hc,hr,hw,hbk⟩ := hS.call [false,true,true]
  refine Zan _ rfl rfl rfl rfl rfl (Zn1 sp p X _ _ hc (by omega)) ?_
  rintro _ w ⟨_,hS⟩
  replace hS := hbk hS
  clear hc hr hw hbk
  repeat (first|(refine G_id ?_;first|refine Zah ?_|refine Zab rfl rfl ?_)|(refine X_id ?_;first|refine X_yl (Zad rfl rfl) rfl rfl ?_)|(refine C_id ?_;first|refine Zak ?_|refine Zaa ?_)|(refine E_id ?_;first|refine Zae ?_))
  refine Zan _ rfl rfl rfl rfl rfl (front_ number rd fs _ (hG.mono fun r hr => (hr.rd hS).ro)) ?_
  rintro _ w ⟨r,k,rfl,hS'⟩
  replace hS := hS.plus hS'
  clear hS'
  repeat (first|(refine G_id ?_;first|refine Zab rfl rfl ?_))
  have h3 := Ze3 (Zet X) 0 (Zfz rd fs number)
  obtain ⟨_,hc,hr,hw,hbk⟩ := hS.call [false,true,true,false]
  refine Zan _ rfl rfl rfl rfl rfl (Zkw sp p (Zet X) 0 _ 64 k (Zfz rd fs number) _ _ hc (hr _ (List.mem_cons_self ..)) (Ziq ..) (by omega)) ?_
  rintro _ w ⟨_,hS⟩
  replace hS := hbk hS
  clear hc hr hw hbk
  repeat (first|(refine G_id ?_;first|refine Zah ?_|refine Zab rfl rfl ?_)|(refine X_id ?_;first|refine X_yl (Zad rfl rfl) rfl rfl ?_)|(refine C_id ?_;first|refine Zak ?_|refine Zaa ?_)|(refine E_id ?_;first|refine Zae ?_))
  obtain ⟨_,hc,hr,hw,hbk⟩ := hS.call [true,true,false,false]
  refine Zan _ rfl rfl rfl rfl rfl (Zn1 sp p (Ze1 (Zet X) 0 (Zfz rd fs number)) _ _ hc (by omega)) ?_
  rintro _ w ⟨_,hS⟩
  replace hS := hbk hS
  clear hc hr hw hbk
  have hlay : layM rd fs j x number d = Zet (Ze1 (Zet X) 0 (Zfz rd fs number)) := by unfold layM; rw [← hX]
  obtain ⟨Y,hY⟩ : ∃ Y,Y = layM rd fs j x number d := ⟨_,rfl⟩
  rw [← hlay,← hY] at hS
  rw [← hY]
  clear hlay
  obtain ⟨e,D⟩ := Y
  simp only at hS ⊢
  by_cases he : e = 0
  ·subst he
   repeat (first|(refine G_id ?_;first|refine Zah ?_|refine Zab rfl rfl ?_)|(refine X_id ?_;first|refine X_yl (Zad rfl rfl) rfl rfl ?_|refine X_yl (Zac rfl rfl) rfl rfl ?_|refine X_yl (Zai rfl rfl) rfl rfl ?_|refine X_yl (Zaf rfl rfl rfl) rfl rfl ?_|refine X_yl (Zej rfl rfl rfl (by omega)) rfl rfl ?_|refine X_yl (Zao rfl rfl hS.cell) rfl rfl ?_|refine Za1 rfl rfl rfl rfl hS (fun _ hS _ => ?_))|(refine C_id ?_;first|refine Zak ?_|refine Zaa ?_|refine Za2 ?_|refine Zam rfl ?_)|(refine E_id ?_;first|refine Zae ?_|refine Zax rfl (Zap rfl) (Ret.mk ?_)))
   refine ⟨rfl,?_⟩
   rw [if_pos rfl]
   have hS := hS.pick [3,0,0]
   exact hS
  ·repeat (first|(refine G_id ?_;first|refine Zah ?_|refine Zab rfl rfl ?_)|(refine X_id ?_;first|refine X_yl (Zad rfl rfl) rfl rfl ?_|refine X_yl (Zac rfl rfl) rfl rfl ?_|refine X_yl (Zai rfl rfl) rfl rfl ?_|refine X_yl (Zaf rfl rfl rfl) rfl rfl ?_|refine X_yl (Zd9 rfl rfl rfl (by omega)) rfl rfl ?_|refine X_yl (Zao rfl rfl hS.cell) rfl rfl ?_)|(refine C_id ?_;first|refine Zak ?_|refine Zaa ?_|refine Za2 ?_|refine Zaw ?_|refine Zaj rfl ?_)|(refine E_id ?_;first|refine Zae ?_|refine Zax rfl (Zap rfl) (Ret.mk ?_)))
   refine ⟨rfl,?_⟩
   rw [if_neg he]
   have hS := hS.pick [3,0,0]
   exact hS
end Cr
namespace Cr
open Go Go.Proofs
set_option maxRecDepth 100000
set_option maxHeartbeats 4000000
attribute [local irreducible] Calls

structure Ent where
 no : Int
 b : List UInt8
 count : Int
 d : List UInt8
 ok : Bool
def Ent.none : Ent := ⟨0,[],0,List.replicate 32 0,false⟩
def entOf (a b : List UInt8) (number at_ top : Int) : Ent :=
 ⟨Zea ((a.drop 16).take 4),b,Zea ((a.drop 12).take 4),(a.drop 20).take 32,decide (a = Zil number at_ (Zea ((a.drop 12).take 4)) (Zea ((a.drop 16).take 4)) ((a.drop 20).take 32)) && decide (Zea ((a.drop 16).take 4) < top)⟩
def entM (D : DiskM) (j : Nat) (number at_ : Int) : Ent :=
 if at_ < 0 ∨ (j : Int) / 2 ≤ at_ then Ent.none else
 if ¬ (D.read (1 + 2 * at_)).1 = 0 ∨ ¬ (D.read (1 + 2 * at_ + 1)).1 = 0 then Ent.none else
 entOf (D.read (1 + 2 * at_)).2 (D.read (1 + 2 * at_ + 1)).2 number at_ ((D.laid.length : Int) - 1 - j)
theorem Zi3 {D : DiskM} (hok : D.ok) {no : Int} (h : (D.read no).1 = 0) : (D.read no).2.length = 64 := by
 unfold DiskM.read at h ⊢
 by_cases h1 : D.off = true
 ·simp [h1] at h
 ·rw [if_neg h1] at h ⊢
  by_cases h2 : Zeq D no = false
  ·simp [h2] at h
  ·rw [if_neg h2]
   have h2' : 0 ≤ no ∧ no < D.laid.length := by simpa [Zeq] using h2
   simp only [DiskM.find]
   split
   ·rename_i x hx
    exact (hok.line64 x (by simpa using List.mem_of_find?_eq_some hx)).1
   ·rw [List.getD_eq_getElem?_getD,List.getElem?_eq_getElem (show no.toNat < D.laid.length by omega)]
    exact hok.laid64 _ (List.getElem_mem _)
def Ent.val (e : Ent) (a : Option Addr) (c : Nat) : Value := .tuple #[.agg #[.int .i64 e.no,.slice a e.b.length c],.int .i64 e.count,.agg (bv e.d).toArray,.bool e.ok]
theorem Zkz (ab ao l n c : Nat) (s : List UInt8) (w : World) (hs : Rd w (bytes (some ⟨ab,ao,none⟩) s)) (h : l + n ≤ s.length) (hn : n ≤ 1048576) (hc : s.length ≤ c) (h0 : 0 < n) :
  Calls Tryz.prog 203 #[.slice (some ⟨ab,ao + l,none⟩) n (c - l)] w (Ret fun v w' => v = .int .i64 (Zea ((s.drop l).take n)) ∧ w = w') := by
 have h1 := hs.subBytes (l := l) (h := l + n) (c := c) (by omega) (by omega)
 rw [show sub (some ⟨ab,ao,none⟩) l 1 c = some ⟨ab,ao + l,none⟩ by unfold sub; rw [if_neg (by omega)]; simp [Zcn],show l + n - l = n by omega] at h1
 have hl : ((s.drop l).take n).length = n := by simp; omega
 have := small_ (some ⟨ab,ao + l,none⟩) (c - l) ((s.drop l).take n) w h1 (by omega)
 rw [hl] at this
 exact this
theorem entry_ (lp p : Nat) (o s m : Int) (j : Nat) (done : Int) (rdn : Bool) (D : DiskM) (number at_ : Int) (W : World) (hL : Rd W (Zdr lp p o s m j done rdn)) (hD : Rd W (disk p D)) (hj : j ≤ 4096) (hline : D.line.length < 1073741824) (hat : at_ ≤ 1099511627776) :
  Calls Tryz.prog 205 #[.pointer (some ⟨lp,0,none⟩),.int .i64 number,.int .i64 at_] W (Ret fun v w => ∃ a c,v = (entM D j number at_).val a c ∧ (entM D j number at_).b.length ≤ c ∧ St W noF [bytes a (entM D j number at_).b] w) := by
 have hS := St.start W
 have hc := hL.pts
 have hLo := hL.ro
 have hDo := hD.ro
 have hok := hD.disk.1
 have hl0 : LenO (bv (List.replicate 32 0)) 32 := inferInstance
 by_cases h1 : at_ < 0
 ·have e : entM D j number at_ = Ent.none := by unfold entM; rw [if_pos (.inl h1)]
  refine Zas Tryz.func205 rfl Tryz.ntmps205 rfl ?_
  repeat (first|(refine G_id ?_;first|refine Zah ?_|refine Zab rfl rfl ?_|refine G_no rfl rfl rfl rfl rfl rfl ?_)|(refine X_id ?_;first|refine X_yl (Zad rfl rfl) rfl rfl ?_|refine X_yl (Zac rfl rfl) rfl rfl ?_|refine X_yl (Zbr rfl rfl rfl) rfl rfl ?_|refine X_yl (Za3 rfl rfl rfl (by omega)) rfl rfl ?_|refine Zbe rfl rfl rfl hS (fun _ _ hS _ => ?_))|(refine C_id ?_;first|refine Zak ?_|refine Zaa ?_|refine Zam rfl ?_)|(refine E_id ?_;first|refine Zae ?_))
  rw [Zg5] at hS
  refine Zci (.s 0 (.s 1 (.h 2 (.s 3 (.h 4 (.s 5 .nil) .no)) .no))) mixed (by kernel_rfl) rfl ?_
  have hS := hS.drew
  repeat (first|(refine X_id ?_;first|refine Za1 rfl rfl rfl rfl hS (fun _ hS _ => ?_)|refine Zct rfl rfl rfl rfl hS (fun _ hS => ?_))|(refine C_id ?_;first|refine Za2 ?_)|(refine E_id ?_;first|refine Zae ?_|refine Zat ?_|refine Znr rfl (by first|exact Zap rfl|exact Zay rfl (Zba hS.cell)|exact Zay rfl (Za9 hS.cellsN)) (by first|exact Zap rfl|exact Zay rfl (Zba hS.cell)|exact Zay rfl (Za9 hS.cellsN)) (by first|exact Zap rfl|exact Zay rfl (Zba hS.cell)|exact Zay rfl (Za9 hS.cellsN)) (by first|exact Zap rfl|exact Zay rfl (Zba hS.cell)|exact Zay rfl (Za9 hS.cellsN)) (Ret.mk ?_))|(refine Zbj ?_;first|refine Zbw ?_|refine Zag rfl rfl (fun _ => Zac rfl rfl) rfl rfl ?_|refine Zbi (fun w' => Zdj w' _ _ _) rfl rfl hS.cellsN (fun _ hc => Zbc rfl rfl hc) rfl rfl ?_|refine Za8 rfl rfl ?_)|(refine Za5 ?_;first|refine And.intro (by repeat (first|exact trivial|refine And.intro (.inl (by decide +kernel)) ?_|refine And.intro (.inr (by first|assumption|exact hS.cell|exact Zal (by assumption)|exact hS.cellI (by omega)|exact hS.cellIP (by omega)|exact hS.cellsN|exact hS.cellB (by omega)|exact hS.cellBA (by omega)|exact hS.cellO 0 (by omega)|exact hS.cellO 1 (by omega)|exact hS.cellIA (by omega)|exact Zal (hc.rd hS).pts|exact hS.cellO 4 (by omega)|exact hS.cellO 5 (by omega)|exact hS.cellO 6 (by omega)|exact hS.cellO 7 (by omega)|exact hS.cellO 8 (by omega)|exact hS.cellO 9 (by omega)|exact hS.cellO 10 (by omega)|exact hS.cellO 11 (by omega)|exact hS.cellO 12 (by omega)|exact hS.cellO 13 (by omega)|exact hS.cellO 2 (by omega)|exact hS.cellO 3 (by omega))) ?_)) ?_))
  rw [e]
  exact ⟨none,0,rfl,Nat.le_refl _,hS.drops.row_none⟩
 by_cases h2 : (j : Int) / 2 ≤ at_
 ·have e : entM D j number at_ = Ent.none := by unfold entM; rw [if_pos (.inr h2)]
  refine Zas Tryz.func205 rfl Tryz.ntmps205 rfl ?_
  repeat (first|(refine G_id ?_;first|refine Zah ?_|refine Zab rfl rfl ?_|refine Zcu rfl rfl rfl rfl ?_)|(refine X_id ?_;first|refine X_yl (Zad rfl rfl) rfl rfl ?_|refine X_yl (Zac rfl rfl) rfl rfl ?_|refine X_yl (Zai rfl rfl) rfl rfl ?_|refine X_yl (Zaf rfl rfl rfl) rfl rfl ?_|refine X_yl (Za7 rfl rfl rfl (by omega)) rfl rfl ?_|refine Zbe rfl rfl rfl hS (fun _ _ hS _ => ?_))|(refine C_id ?_;first|refine Zak ?_|refine Zaa ?_)|(refine E_id ?_;first|refine Zae ?_))
  have hc := (hLo.rd hS).pts
  repeat (first|(refine G_id ?_;first|refine Zah ?_|refine Zab rfl rfl ?_|refine Zcu rfl rfl rfl rfl ?_)|(refine X_id ?_;first|refine X_yl (Zbb rfl rfl rfl) rfl rfl ?_|refine X_yl (Zda rfl rfl rfl (by omega)) rfl rfl ?_|refine X_yl (Zmf rfl rfl rfl (by omega) (by omega) (by omega)) rfl rfl ?_|refine X_yl (Zao rfl rfl (Zal (by assumption))) rfl rfl ?_)|(refine C_id ?_;first|refine Zak ?_|refine Zam rfl ?_)|(refine E_id ?_;first|refine Zae ?_))
  rw [Zg5] at hS
  refine Zci (.s 0 (.s 1 (.h 2 (.s 3 (.h 4 (.s 5 .nil) .no)) .no))) mixed (by kernel_rfl) rfl ?_
  have hS := hS.drew
  repeat (first|(refine X_id ?_;first|refine Za1 rfl rfl rfl rfl hS (fun _ hS _ => ?_)|refine Zct rfl rfl rfl rfl hS (fun _ hS => ?_))|(refine C_id ?_;first|refine Za2 ?_)|(refine E_id ?_;first|refine Zae ?_|refine Zat ?_|refine Znr rfl (by first|exact Zap rfl|exact Zay rfl (Zba hS.cell)|exact Zay rfl (Za9 hS.cellsN)) (by first|exact Zap rfl|exact Zay rfl (Zba hS.cell)|exact Zay rfl (Za9 hS.cellsN)) (by first|exact Zap rfl|exact Zay rfl (Zba hS.cell)|exact Zay rfl (Za9 hS.cellsN)) (by first|exact Zap rfl|exact Zay rfl (Zba hS.cell)|exact Zay rfl (Za9 hS.cellsN)) (Ret.mk ?_))|(refine Zbj ?_;first|refine Zbw ?_|refine Zag rfl rfl (fun _ => Zac rfl rfl) rfl rfl ?_|refine Zbi (fun w' => Zdj w' _ _ _) rfl rfl hS.cellsN (fun _ hc => Zbc rfl rfl hc) rfl rfl ?_|refine Za8 rfl rfl ?_)|(refine Za5 ?_;first|refine And.intro (by repeat (first|exact trivial|refine And.intro (.inl (by decide +kernel)) ?_|refine And.intro (.inr (by first|assumption|exact hS.cell|exact Zal (by assumption)|exact hS.cellI (by omega)|exact hS.cellIP (by omega)|exact hS.cellsN|exact hS.cellB (by omega)|exact hS.cellBA (by omega)|exact hS.cellO 0 (by omega)|exact hS.cellO 1 (by omega)|exact hS.cellIA (by omega)|exact Zal (hc.rd hS).pts|exact hS.cellO 4 (by omega)|exact hS.cellO 5 (by omega)|exact hS.cellO 6 (by omega)|exact hS.cellO 7 (by omega)|exact hS.cellO 8 (by omega)|exact hS.cellO 9 (by omega)|exact hS.cellO 10 (by omega)|exact hS.cellO 11 (by omega)|exact hS.cellO 12 (by omega)|exact hS.cellO 13 (by omega)|exact hS.cellO 2 (by omega)|exact hS.cellO 3 (by omega))) ?_)) ?_))
  rw [e]
  exact ⟨none,0,rfl,Nat.le_refl _,hS.drops.row_none⟩
 have e : entM D j number at_ = if ¬ (D.read (1 + 2 * at_)).1 = 0 ∨ ¬ (D.read (1 + 2 * at_ + 1)).1 = 0 then Ent.none else
   entOf (D.read (1 + 2 * at_)).2 (D.read (1 + 2 * at_ + 1)).2 number at_ ((D.laid.length : Int) - 1 - j) := by unfold entM; rw [if_neg (by omega)]
 have hra := fun (h : (D.read (1 + 2 * at_)).1 = 0) => Zi3 hok h
 have hrb := fun (h : (D.read (1 + 2 * at_ + 1)).1 = 0) => Zi3 hok h
 refine Zas Tryz.func205 rfl Tryz.ntmps205 rfl ?_
 repeat (first|(refine G_id ?_;first|refine Zah ?_|refine Zab rfl rfl ?_|refine Zcu rfl rfl rfl rfl ?_)|(refine X_id ?_;first|refine X_yl (Zad rfl rfl) rfl rfl ?_|refine X_yl (Zac rfl rfl) rfl rfl ?_|refine X_yl (Zai rfl rfl) rfl rfl ?_|refine X_yl (Zaf rfl rfl rfl) rfl rfl ?_|refine X_yl (Za7 rfl rfl rfl (by omega)) rfl rfl ?_|refine Zbe rfl rfl rfl hS (fun _ _ hS _ => ?_))|(refine C_id ?_;first|refine Zak ?_|refine Zaa ?_)|(refine E_id ?_;first|refine Zae ?_))
 have hc := (hLo.rd hS).pts
 repeat (first|(refine G_id ?_;first|refine Zah ?_|refine Zab rfl rfl ?_|refine Zcu rfl rfl rfl rfl ?_)|(refine X_id ?_;first|refine X_yl (Zad rfl rfl) rfl rfl ?_|refine X_yl (Zai rfl rfl) rfl rfl ?_|refine X_yl (Zaf rfl rfl rfl) rfl rfl ?_|refine X_yl (Zbb rfl rfl rfl) rfl rfl ?_|refine X_yl (Zdv rfl rfl rfl (by omega)) rfl rfl ?_|refine X_yl (Zbk rfl rfl rfl (w64 (by omega) (by omega))) rfl rfl ?_|refine X_yl (Zfi rfl rfl rfl (w64 (by omega) (by omega))) rfl rfl ?_|refine X_yl (Zmf rfl rfl rfl (by omega) (by omega) (by omega)) rfl rfl ?_|refine X_yl (Zao rfl rfl (Zal (by assumption))) rfl rfl ?_)|(refine C_id ?_;first|refine Zak ?_|refine Zaa ?_|refine Zaw ?_|refine Zaj rfl ?_)|(refine E_id ?_;first|refine Zae ?_))
 rename_i b6 _ _ _ b8 _ _
 rw [Zg5] at hS
 refine Zan _ rfl rfl rfl rfl rfl (read_ p D (1 + 2 * at_) _ (hDo.rd hS) hline) ?_
 rintro _ w ⟨a,ca,rfl,hca,hS'⟩
 replace hS := hS.plus hS'
 clear hS'
 have hc := (hLo.rd hS).pts
 repeat (first|(refine G_id ?_;first|refine Zah ?_|refine Zab rfl rfl ?_)|(refine X_id ?_;first|refine X_yl (Zad rfl rfl) rfl rfl ?_|refine X_yl (Zac rfl rfl) rfl rfl ?_|refine X_yl (Zai rfl rfl) rfl rfl ?_|refine X_yl (Zaf rfl rfl rfl) rfl rfl ?_|refine X_yl (Zbq rfl rfl) rfl rfl ?_|refine X_yl (Zbk rfl rfl rfl (w64 (by omega) (by omega))) rfl rfl ?_|refine X_yl (Zfi rfl rfl rfl (w64 (by omega) (by omega))) rfl rfl ?_|refine X_yl (Zao rfl rfl (Zal (by assumption))) rfl rfl ?_)|(refine C_id ?_;first|refine Zak ?_|refine Zaa ?_)|(refine E_id ?_;first|refine Zae ?_))
 refine Zan _ rfl rfl rfl rfl rfl (read_ p D (1 + 2 * at_ + 1) _ (hDo.rd hS) hline) ?_
 rintro _ w ⟨b,cb,rfl,hcb,hS'⟩
 replace hS := hS.plus hS'
 clear hS'
 generalize D.read (1 + 2 * at_) = ra at hra hca hS e ⊢
 generalize D.read (1 + 2 * at_ + 1) = rb at hrb hcb hS e ⊢
 obtain ⟨ea,la⟩ := ra
 obtain ⟨eb,lb⟩ := rb
 simp only at hra hrb hca hcb hS e ⊢
 by_cases hea : ea = 0
 ·by_cases heb : eb = 0
  ·subst hea heb
   have hla := hra rfl
   have hlb := hrb rfl
   rw [if_neg (by simp)] at e
   rw [e]
   clear hra hrb
   obtain ⟨ab,ao,rfl⟩ := (hS.rd (List.mem_cons_of_mem _ (List.mem_cons_self ..))).base (by intro e; have := Za4 la; rw [e] at this; simp at this; omega)
   repeat (first|(refine G_id ?_;first|refine Zah ?_|refine Zab rfl rfl ?_|refine Zcu rfl rfl rfl rfl ?_)|(refine X_id ?_;first|refine X_yl (Zad rfl rfl) rfl rfl ?_|refine X_yl (Zac rfl rfl) rfl rfl ?_|refine X_yl (Zbq rfl rfl) rfl rfl ?_|refine X_yl (Zbb rfl rfl rfl) rfl rfl ?_|refine X_yl (Zb1 rfl rfl rfl (by omega)) rfl rfl ?_)|(refine C_id ?_;first|refine Zak ?_|refine Zaa ?_|refine Zaw ?_|refine Zaj rfl ?_)|(refine E_id ?_;first|refine Zae ?_))
   refine Zci (.s 0 (.s 1 (.s 3 (.s 4 (.s 6 (.h 2 (.h 5 (.s 7 (.s 8 (.h 9 .nil .no))) .no) .no)))))) mixed (by kernel_rfl) rfl ?_
   have hS := hS.drew
   repeat (first|(refine Zbj ?_;first|refine Zag rfl rfl (fun _ => Zad rfl rfl) rfl rfl ?_))
   refine Zag rfl rfl (fun _ => Zcw (l := 12) (h := 16) rfl rfl rfl rfl (.inr ⟨_,_,rfl,by omega,by omega,by omega⟩) (.inr ⟨_,_,rfl,by omega,by omega,by omega⟩)) rfl rfl ?_
   rw [show sub (some ⟨ab,ao,none⟩) 12 1 ca = some ⟨ab,ao + 12,none⟩ by unfold sub; rw [if_neg (by omega)]; simp [Zcn]]
   repeat (first|(refine Zbj ?_;first|refine Zag rfl rfl (fun _ => Zad rfl rfl) rfl rfl ?_))
   refine Zag rfl rfl (fun _ => Zcw (l := 16) (h := 20) rfl rfl rfl rfl (.inr ⟨_,_,rfl,by omega,by omega,by omega⟩) (.inr ⟨_,_,rfl,by omega,by omega,by omega⟩)) rfl rfl ?_
   rw [show sub (some ⟨ab,ao,none⟩) 16 1 ca = some ⟨ab,ao + 16,none⟩ by unfold sub; rw [if_neg (by omega)]; simp [Zcn]]
   repeat (first|(refine Zbj ?_;first|refine Zag rfl rfl (fun _ => Zad rfl rfl) rfl rfl ?_|refine Za8 rfl rfl ?_))
   refine Zan _ rfl rfl rfl rfl rfl (Zkz ab ao 12 4 ca la _ (hS.rd (List.mem_cons_of_mem _ (List.mem_cons_self ..))) (by omega) (by omega) (by omega) (by omega)) ?_
   rintro _ _ ⟨rfl,rfl⟩
   repeat (first|(refine Zbj ?_;first|refine Za8 rfl rfl ?_)|(refine Za5 ?_;first|refine And.intro (by repeat (first|exact trivial|refine And.intro (.inl (by decide +kernel)) ?_|refine And.intro (.inr (by first|assumption|exact hS.cell|exact Zal (by assumption)|exact hS.cellI (by omega)|exact hS.cellIP (by omega)|exact hS.cellsN|exact hS.cellB (by omega)|exact hS.cellBA (by omega)|exact hS.cellO 0 (by omega)|exact hS.cellO 1 (by omega)|exact hS.cellIA (by omega)|exact Zal (hc.rd hS).pts|exact hS.cellO 4 (by omega)|exact hS.cellO 5 (by omega)|exact hS.cellO 6 (by omega)|exact hS.cellO 7 (by omega)|exact hS.cellO 8 (by omega)|exact hS.cellO 9 (by omega)|exact hS.cellO 10 (by omega)|exact hS.cellO 11 (by omega)|exact hS.cellO 12 (by omega)|exact hS.cellO 13 (by omega)|exact hS.cellO 2 (by omega)|exact hS.cellO 3 (by omega))) ?_)) ?_))
   refine Zan _ rfl rfl rfl rfl rfl (Zkz ab ao 16 4 ca la _ (hS.rd (List.mem_cons_of_mem _ (List.mem_cons_self ..))) (by omega) (by omega) (by omega) (by omega)) ?_
   rintro _ _ ⟨rfl,rfl⟩
   repeat (first|(refine X_id ?_;first|refine Za1 rfl rfl rfl rfl hS (fun _ hS _ => ?_))|(refine C_id ?_;first|refine Zak ?_)|(refine E_id ?_;first|refine Zae ?_)|(refine Zbj ?_;first|refine Zbw ?_|refine Zag rfl rfl (fun _ => Zac rfl rfl) rfl rfl ?_|refine Zag rfl rfl (fun _ => Zco rfl rfl rfl) rfl rfl ?_|refine Za8 rfl rfl ?_)|(refine Za5 ?_;first|refine And.intro (by repeat (first|exact trivial|refine And.intro (.inl (by decide +kernel)) ?_|refine And.intro (.inr (by first|assumption|exact hS.cell|exact Zal (by assumption)|exact hS.cellI (by omega)|exact hS.cellIP (by omega)|exact hS.cellsN|exact hS.cellB (by omega)|exact hS.cellBA (by omega)|exact hS.cellO 0 (by omega)|exact hS.cellO 1 (by omega)|exact hS.cellIA (by omega)|exact Zal (hc.rd hS).pts|exact hS.cellO 4 (by omega)|exact hS.cellO 5 (by omega)|exact hS.cellO 6 (by omega)|exact hS.cellO 7 (by omega)|exact hS.cellO 8 (by omega)|exact hS.cellO 9 (by omega)|exact hS.cellO 10 (by omega)|exact hS.cellO 11 (by omega)|exact hS.cellO 12 (by omega)|exact hS.cellO 13 (by omega)|exact hS.cellO 2 (by omega)|exact hS.cellO 3 (by omega))) ?_)) ?_))
   refine Zci (.s 0 (.s 1 (.s 2 (.h 3 .nil .no)))) mixed (by kernel_rfl) rfl ?_
   have hS := hS.drew
   repeat (first|(refine Zbj ?_;first|refine Zag rfl rfl (fun _ => Zad rfl rfl) rfl rfl ?_|refine Zag rfl rfl (fun _ => Zcq rfl rfl) rfl rfl ?_))
   refine Zag rfl rfl (fun _ => Zcw (l := 20) (h := la.length) rfl rfl rfl rfl (.inl ⟨rfl,rfl⟩) (.inr ⟨_,_,rfl,by omega,by omega,by omega⟩)) rfl rfl ?_
   rw [show sub (some ⟨ab,ao,none⟩) 20 1 ca = some ⟨ab,ao + 20,none⟩ by unfold sub; rw [if_neg (by omega)]; simp [Zcn]]
   repeat (first|(refine Zbj ?_;first|refine Za8 rfl rfl ?_))
   have hla2 : Rd _ (bytes (some ⟨ab,ao,none⟩) la) := hS.rd (List.mem_cons_of_mem _ (List.mem_cons_self ..))
   have hla3 := hla2.subBytes (l := 20) (h := la.length) (c := ca) (by omega) (by omega)
   rw [show sub (some ⟨ab,ao,none⟩) 20 1 ca = some ⟨ab,ao + 20,none⟩ by unfold sub; rw [if_neg (by omega)]; simp [Zcn]] at hla3
   refine Zqo rfl rfl rfl rfl rfl hS hla3 (by simp) Zfm (by simp) (fun w hS => ?_)
   clear hla2 hla3
   obtain ⟨d,hde⟩ : ∃ d,d = (la.drop 20).take 32 := ⟨_,rfl⟩
   have hd32 : d.length = 32 := by rw [hde]; simp; omega
   rw [show Zby (bv (List.replicate 32 0)) 0 ((bv ((la.drop 20).take (la.length - 20))).take 32) = bv d by
    rw [← Zl7,List.take_take,show min 32 (la.length - 20) = 32 by omega,← hde]
    exact Zmx (by simp [hd32])] at hS
   have hl32 : LenO (bv d) 32 := ⟨by simp [hd32]⟩
   repeat (first|(refine C_id ?_;first|refine Zak ?_)|(refine E_id ?_;first|refine Zae ?_)|(refine Zbj ?_;first|refine Zbw ?_)|(refine Za5 ?_;first|refine And.intro (by repeat (first|exact trivial|refine And.intro (.inl (by decide +kernel)) ?_|refine And.intro (.inr (by first|assumption|exact hS.cell|exact Zal (by assumption)|exact hS.cellI (by omega)|exact hS.cellIP (by omega)|exact hS.cellsN|exact hS.cellB (by omega)|exact hS.cellBA (by omega)|exact hS.cellO 0 (by omega)|exact hS.cellO 1 (by omega)|exact hS.cellIA (by omega)|exact Zal (hc.rd hS).pts|exact hS.cellO 4 (by omega)|exact hS.cellO 5 (by omega)|exact hS.cellO 6 (by omega)|exact hS.cellO 7 (by omega)|exact hS.cellO 8 (by omega)|exact hS.cellO 9 (by omega)|exact hS.cellO 10 (by omega)|exact hS.cellO 11 (by omega)|exact hS.cellO 12 (by omega)|exact hS.cellO 13 (by omega)|exact hS.cellO 2 (by omega)|exact hS.cellO 3 (by omega))) ?_)) ?_))
   obtain ⟨no,hno⟩ : ∃ no,no = Zea ((la.drop 16).take 4) := ⟨_,rfl⟩
   obtain ⟨cnt,hcnt⟩ : ∃ cnt,cnt = Zea ((la.drop 12).take 4) := ⟨_,rfl⟩
   unfold entOf
   rw [← hno,← hcnt,← hde]
   rw [← hno] at hS
   refine Zci (.s 0 (.s 1 (.s 2 (.s 3 (.s 4 (.s 5 (.s 6 (.s 7 (.s 8 (.s 9 (.h 10 (.h 11 (.s 12 (.s 13 (.s 14 (.s 15 (.h 16 (.s 17 (.s 18 (.h 19 (.s 20 (.h 21 (.s 22 .nil) .no)) .no))) .no))))) .no) .no))))))))))) mixed (by kernel_rfl) rfl ?_
   have hS := hS.drew
   repeat (first|(refine Zbj ?_;first|refine Zag rfl rfl (fun _ => Zad rfl rfl) rfl rfl ?_|refine Zag rfl rfl (fun _ => Zaf rfl rfl rfl) rfl rfl ?_|refine Zbi (fun w' => w'.cell? _ = some _) rfl rfl hS.cell (fun _ hc => Zao rfl rfl hc) rfl rfl ?_|refine Zbi (fun w' => Zdj w' _ _ _) rfl rfl hS.cellsN (fun _ hc => Zbc rfl rfl hc) rfl rfl ?_|refine Za8 rfl rfl ?_))
   refine Zan _ rfl rfl rfl rfl rfl (note_ number at_ cnt no d hd32 _) ?_
   rintro _ w ⟨q,k,rfl,hS'⟩
   replace hS := hS.plus hS'
   clear hS'
   repeat (first|(refine Zbj ?_;first|refine Za8 rfl rfl ?_)|(refine Za5 ?_;first|refine And.intro (by repeat (first|exact trivial|refine And.intro (.inl (by decide +kernel)) ?_|refine And.intro (.inr (by first|assumption|exact hS.cell|exact Zal (by assumption)|exact hS.cellI (by omega)|exact hS.cellIP (by omega)|exact hS.cellsN|exact hS.cellB (by omega)|exact hS.cellBA (by omega)|exact hS.cellO 0 (by omega)|exact hS.cellO 1 (by omega)|exact hS.cellIA (by omega)|exact Zal (hc.rd hS).pts|exact hS.cellO 4 (by omega)|exact hS.cellO 5 (by omega)|exact hS.cellO 6 (by omega)|exact hS.cellO 7 (by omega)|exact hS.cellO 8 (by omega)|exact hS.cellO 9 (by omega)|exact hS.cellO 10 (by omega)|exact hS.cellO 11 (by omega)|exact hS.cellO 12 (by omega)|exact hS.cellO 13 (by omega)|exact hS.cellO 2 (by omega)|exact hS.cellO 3 (by omega))) ?_)) ?_))
   refine Zan _ rfl rfl rfl rfl rfl (Zsz _ _ _ _ _ _ la (Zil number at_ cnt no d) _ (hS.rd (List.mem_cons_of_mem _ (List.mem_cons_of_mem _ (List.mem_cons_self ..)))) (hS.rd (List.mem_cons_self ..)) rfl (Zgz ..)) ?_
   rintro _ _ ⟨rfl,rfl⟩
   by_cases hq : la = Zil number at_ cnt no d
   ·rw [decide_eq_true hq]
    repeat (first|(refine X_id ?_;first|(refine Zbm 165 rfl rfl rfl rfl rfl hS (Zft lp p o s m j done rdn D _ (hLo.rd hS) (hDo.rd hS) hj) ?_;rintro _ _ rfl hS)|refine Za1 rfl rfl rfl rfl hS (fun _ hS _ => ?_)|refine Zct rfl rfl rfl rfl hS (fun _ hS => ?_))|(refine C_id ?_;first|refine Za2 ?_)|(refine E_id ?_;first|refine Zae ?_|refine Znr rfl (by first|exact Zap rfl|exact Zay rfl (Zba hS.cell)|exact Zay rfl (Za9 hS.cellsN)) (by first|exact Zap rfl|exact Zay rfl (Zba hS.cell)|exact Zay rfl (Za9 hS.cellsN)) (by first|exact Zap rfl|exact Zay rfl (Zba hS.cell)|exact Zay rfl (Za9 hS.cellsN)) (by first|exact Zap rfl|exact Zay rfl (Zba hS.cell)|exact Zay rfl (Za9 hS.cellsN)) (Ret.mk ?_))|(refine Zbj ?_;first|refine Zbw ?_|refine Zag rfl rfl (fun _ => Zad rfl rfl) rfl rfl ?_|refine Zag rfl rfl (fun _ => Zac rfl rfl) rfl rfl ?_|refine Zag rfl rfl (fun _ => Zbr rfl rfl rfl) rfl rfl ?_|refine Za8 rfl rfl ?_|refine Ze0 rfl rfl rfl rfl (fun _ => Zad rfl rfl) rfl rfl ?_|refine Ze0 rfl rfl rfl rfl (fun _ => Zaf rfl rfl rfl) rfl rfl ?_|refine Ze0 rfl rfl rfl rfl (fun _ => Zqf rfl rfl rfl) rfl rfl ?_|refine Zib rfl rfl rfl rfl ?_|refine Zeh (fun w' => w'.cell? _ = some _) rfl rfl rfl rfl hS.cell (fun _ hc => Zao rfl rfl hc) rfl rfl ?_)|(refine Za5 ?_;first|refine And.intro (by repeat (first|exact trivial|refine And.intro (.inl (by decide +kernel)) ?_|refine And.intro (.inr (by first|assumption|exact hS.cell|exact Zal (by assumption)|exact hS.cellI (by omega)|exact hS.cellIP (by omega)|exact hS.cellsN|exact hS.cellB (by omega)|exact hS.cellBA (by omega)|exact hS.cellO 0 (by omega)|exact hS.cellO 1 (by omega)|exact hS.cellIA (by omega)|exact Zal (hc.rd hS).pts|exact hS.cellO 4 (by omega)|exact hS.cellO 5 (by omega)|exact hS.cellO 6 (by omega)|exact hS.cellO 7 (by omega)|exact hS.cellO 8 (by omega)|exact hS.cellO 9 (by omega)|exact hS.cellO 10 (by omega)|exact hS.cellO 11 (by omega)|exact hS.cellO 12 (by omega)|exact hS.cellO 13 (by omega)|exact hS.cellO 2 (by omega)|exact hS.cellO 3 (by omega))) ?_)) ?_))
    exact ⟨b,cb,rfl,hcb,hS.pick [1]⟩
   ·rw [decide_eq_false hq]
    repeat (first|(refine X_id ?_;first|refine Za1 rfl rfl rfl rfl hS (fun _ hS _ => ?_)|refine Zct rfl rfl rfl rfl hS (fun _ hS => ?_))|(refine C_id ?_;first|refine Za2 ?_)|(refine E_id ?_;first|refine Zae ?_|refine Znr rfl (by first|exact Zap rfl|exact Zay rfl (Zba hS.cell)|exact Zay rfl (Za9 hS.cellsN)) (by first|exact Zap rfl|exact Zay rfl (Zba hS.cell)|exact Zay rfl (Za9 hS.cellsN)) (by first|exact Zap rfl|exact Zay rfl (Zba hS.cell)|exact Zay rfl (Za9 hS.cellsN)) (by first|exact Zap rfl|exact Zay rfl (Zba hS.cell)|exact Zay rfl (Za9 hS.cellsN)) (Ret.mk ?_))|(refine Zbj ?_;first|refine Zbw ?_|refine Zag rfl rfl (fun _ => Zad rfl rfl) rfl rfl ?_|refine Zag rfl rfl (fun _ => Zac rfl rfl) rfl rfl ?_|refine Zag rfl rfl (fun _ => Zbb rfl rfl rfl) rfl rfl ?_|refine Za8 rfl rfl ?_|refine Zf6 rfl rfl rfl rfl rfl rfl rfl ?_|refine GO_no rfl rfl rfl rfl rfl rfl rfl ?_)|(refine Za5 ?_;first|refine And.intro (by repeat (first|exact trivial|refine And.intro (.inl (by decide +kernel)) ?_|refine And.intro (.inr (by first|assumption|exact hS.cell|exact Zal (by assumption)|exact hS.cellI (by omega)|exact hS.cellIP (by omega)|exact hS.cellsN|exact hS.cellB (by omega)|exact hS.cellBA (by omega)|exact hS.cellO 0 (by omega)|exact hS.cellO 1 (by omega)|exact hS.cellIA (by omega)|exact Zal (hc.rd hS).pts|exact hS.cellO 4 (by omega)|exact hS.cellO 5 (by omega)|exact hS.cellO 6 (by omega)|exact hS.cellO 7 (by omega)|exact hS.cellO 8 (by omega)|exact hS.cellO 9 (by omega)|exact hS.cellO 10 (by omega)|exact hS.cellO 11 (by omega)|exact hS.cellO 12 (by omega)|exact hS.cellO 13 (by omega)|exact hS.cellO 2 (by omega)|exact hS.cellO 3 (by omega))) ?_)) ?_))
    exact ⟨b,cb,rfl,hcb,hS.pick [1]⟩
  ·rw [if_pos (.inr heb)] at e
   repeat (first|(refine G_id ?_;first|refine Zah ?_|refine Zab rfl rfl ?_|refine Zcu rfl rfl rfl rfl ?_)|(refine X_id ?_;first|refine X_yl (Zad rfl rfl) rfl rfl ?_|refine X_yl (Zac rfl rfl) rfl rfl ?_|refine X_yl (Zbq rfl rfl) rfl rfl ?_|refine X_yl (Zbb rfl rfl rfl) rfl rfl ?_|refine X_yl (Zc0 rfl rfl rfl (by omega)) rfl rfl ?_|refine X_yl (Zb1 rfl rfl rfl (by omega)) rfl rfl ?_)|(refine C_id ?_;first|refine Zak ?_|refine Zaa ?_|refine Zam rfl ?_)|(refine E_id ?_;first|refine Zae ?_))
   refine Zci (.s 0 (.s 1 (.h 2 (.s 3 (.h 4 (.s 5 .nil) .no)) .no))) mixed (by kernel_rfl) rfl ?_
   have hS := hS.drew
   repeat (first|(refine X_id ?_;first|refine Za1 rfl rfl rfl rfl hS (fun _ hS _ => ?_)|refine Zct rfl rfl rfl rfl hS (fun _ hS => ?_))|(refine C_id ?_;first|refine Za2 ?_)|(refine E_id ?_;first|refine Zae ?_|refine Zat ?_|refine Znr rfl (by first|exact Zap rfl|exact Zay rfl (Zba hS.cell)|exact Zay rfl (Za9 hS.cellsN)) (by first|exact Zap rfl|exact Zay rfl (Zba hS.cell)|exact Zay rfl (Za9 hS.cellsN)) (by first|exact Zap rfl|exact Zay rfl (Zba hS.cell)|exact Zay rfl (Za9 hS.cellsN)) (by first|exact Zap rfl|exact Zay rfl (Zba hS.cell)|exact Zay rfl (Za9 hS.cellsN)) (Ret.mk ?_))|(refine Zbj ?_;first|refine Zbw ?_|refine Zag rfl rfl (fun _ => Zac rfl rfl) rfl rfl ?_|refine Zbi (fun w' => Zdj w' _ _ _) rfl rfl hS.cellsN (fun _ hc => Zbc rfl rfl hc) rfl rfl ?_|refine Za8 rfl rfl ?_)|(refine Za5 ?_;first|refine And.intro (by repeat (first|exact trivial|refine And.intro (.inl (by decide +kernel)) ?_|refine And.intro (.inr (by first|assumption|exact hS.cell|exact Zal (by assumption)|exact hS.cellI (by omega)|exact hS.cellIP (by omega)|exact hS.cellsN|exact hS.cellB (by omega)|exact hS.cellBA (by omega)|exact hS.cellO 0 (by omega)|exact hS.cellO 1 (by omega)|exact hS.cellIA (by omega)|exact Zal (hc.rd hS).pts|exact hS.cellO 4 (by omega)|exact hS.cellO 5 (by omega)|exact hS.cellO 6 (by omega)|exact hS.cellO 7 (by omega)|exact hS.cellO 8 (by omega)|exact hS.cellO 9 (by omega)|exact hS.cellO 10 (by omega)|exact hS.cellO 11 (by omega)|exact hS.cellO 12 (by omega)|exact hS.cellO 13 (by omega)|exact hS.cellO 2 (by omega)|exact hS.cellO 3 (by omega))) ?_)) ?_))
   rw [e]
   exact ⟨none,0,rfl,Nat.le_refl _,hS.drops.row_none⟩
 ·rw [if_pos (.inl hea)] at e
  repeat (first|(refine G_id ?_;first|refine Zah ?_|refine Zab rfl rfl ?_|refine G_no rfl rfl rfl rfl rfl rfl ?_)|(refine X_id ?_;first|refine X_yl (Zad rfl rfl) rfl rfl ?_|refine X_yl (Zac rfl rfl) rfl rfl ?_|refine X_yl (Zbq rfl rfl) rfl rfl ?_|refine X_yl (Zbr rfl rfl rfl) rfl rfl ?_|refine X_yl (Zc0 rfl rfl rfl (by omega)) rfl rfl ?_)|(refine C_id ?_;first|refine Zak ?_|refine Zaa ?_|refine Zam rfl ?_)|(refine E_id ?_;first|refine Zae ?_))
  refine Zci (.s 0 (.s 1 (.h 2 (.s 3 (.h 4 (.s 5 .nil) .no)) .no))) mixed (by kernel_rfl) rfl ?_
  have hS := hS.drew
  repeat (first|(refine X_id ?_;first|refine Za1 rfl rfl rfl rfl hS (fun _ hS _ => ?_)|refine Zct rfl rfl rfl rfl hS (fun _ hS => ?_))|(refine C_id ?_;first|refine Za2 ?_)|(refine E_id ?_;first|refine Zae ?_|refine Zat ?_|refine Znr rfl (by first|exact Zap rfl|exact Zay rfl (Zba hS.cell)|exact Zay rfl (Za9 hS.cellsN)) (by first|exact Zap rfl|exact Zay rfl (Zba hS.cell)|exact Zay rfl (Za9 hS.cellsN)) (by first|exact Zap rfl|exact Zay rfl (Zba hS.cell)|exact Zay rfl (Za9 hS.cellsN)) (by first|exact Zap rfl|exact Zay rfl (Zba hS.cell)|exact Zay rfl (Za9 hS.cellsN)) (Ret.mk ?_))|(refine Zbj ?_;first|refine Zbw ?_|refine Zag rfl rfl (fun _ => Zac rfl rfl) rfl rfl ?_|refine Zbi (fun w' => Zdj w' _ _ _) rfl rfl hS.cellsN (fun _ hc => Zbc rfl rfl hc) rfl rfl ?_|refine Za8 rfl rfl ?_)|(refine Za5 ?_;first|refine And.intro (by repeat (first|exact trivial|refine And.intro (.inl (by decide +kernel)) ?_|refine And.intro (.inr (by first|assumption|exact hS.cell|exact Zal (by assumption)|exact hS.cellI (by omega)|exact hS.cellIP (by omega)|exact hS.cellsN|exact hS.cellB (by omega)|exact hS.cellBA (by omega)|exact hS.cellO 0 (by omega)|exact hS.cellO 1 (by omega)|exact hS.cellIA (by omega)|exact Zal (hc.rd hS).pts|exact hS.cellO 4 (by omega)|exact hS.cellO 5 (by omega)|exact hS.cellO 6 (by omega)|exact hS.cellO 7 (by omega)|exact hS.cellO 8 (by omega)|exact hS.cellO 9 (by omega)|exact hS.cellO 10 (by omega)|exact hS.cellO 11 (by omega)|exact hS.cellO 12 (by omega)|exact hS.cellO 13 (by omega)|exact hS.cellO 2 (by omega)|exact hS.cellO 3 (by omega))) ?_)) ?_))
  rw [e]
  exact ⟨none,0,rfl,Nat.le_refl _,hS.drops.row_none⟩
end Cr
namespace Cr
open Go Go.Proofs
set_option maxRecDepth 100000
set_option maxHeartbeats 4000000
attribute [local irreducible] Calls

/-! ### clear -/
def Zi0 : List UInt8 := List.replicate 64 0
def Zp7 (D : DiskM) (number : Int) : Int × DiskM :=
 if ¬ (D.read 1).1 = 0 then ((D.read 1).1,D) else if ¬ Zea ((D.read 1).2.take 8) = number then (0,D) else Zet (Ze1 (0,D) 1 Zi0)
theorem clear_ (lp p : Nat) (o s m : Int) (j : Nat) (done : Int) (rdn : Bool) (D : DiskM) (number : Int) (W : World) (F : Nat → Prop) (hline : D.line.length < 1073741820) (hS : St W F [Zdr lp p o s m j done rdn,disk p D] W) :
  Calls Tryz.prog 164 #[.pointer (some ⟨lp,0,none⟩),.int .i64 number] W (Ret fun v w => v = .int .i64 (Zp7 D number).1 ∧ St W F [Zdr lp p o s m j done rdn,disk p (Zp7 D number).2] w) := by
 have hok := (hS.rd (List.mem_cons_of_mem _ (List.mem_cons_self ..)) : Rd W (disk p D)).disk.1
 have h64 := fun (h : (D.read 1).1 = 0) => Zi3 hok h
 have e : Zp7 D number = if ¬ (D.read 1).1 = 0 then ((D.read 1).1,D) else if ¬ Zea ((D.read 1).2.take 8) = number then (0,D) else Zet (Ze1 (0,D) 1 Zi0) := rfl
 refine Zas Tryz.func164 rfl Tryz.ntmps164 rfl ?_
 repeat (first|(refine G_id ?_;first|refine Zah ?_|refine Zab rfl rfl ?_)|(refine X_id ?_;first|refine X_yl (Zad rfl rfl) rfl rfl ?_|refine X_yl (Zac rfl rfl) rfl rfl ?_|refine X_yl (Zai rfl rfl) rfl rfl ?_|refine X_yl (Zaf rfl rfl rfl) rfl rfl ?_|refine X_yl (Zao rfl rfl hS.cell) rfl rfl ?_)|(refine C_id ?_;first|refine Zak ?_|refine Zaa ?_)|(refine E_id ?_;first|refine Zae ?_))
 refine Zan _ rfl rfl rfl rfl rfl (read_ p D 1 _ (hS.rd (List.mem_cons_of_mem _ (List.mem_cons_self ..))) (by omega)) ?_
 rintro _ w ⟨a,ca,rfl,hca,hS'⟩
 replace hS := hS.plus hS'
 clear hS'
 generalize D.read 1 = ra at h64 hca hS e ⊢
 obtain ⟨ea,la⟩ := ra
 simp only at h64 hca hS e ⊢
 by_cases hea : ea = 0
 ·subst hea
  have hla := h64 rfl
  rw [if_neg (by simp)] at e
  obtain ⟨ab,ao,rfl⟩ := (hS.rd (List.mem_cons_self ..)).base (by intro e; have := Za4 la; rw [e] at this; simp at this; omega)
  have hsm : ∀ w',Rd w' (bytes (some ⟨ab,ao,none⟩) la) → Calls Tryz.prog 203 #[.slice (some ⟨ab,ao,none⟩) 8 ca] w' (Ret fun v w'' => v = .int .i64 (Zea (la.take 8)) ∧ w' = w'') := fun w' h => by
   have := Zkz ab ao 0 8 ca la w' h (by omega) (by omega) (by omega) (by omega)
   simpa using this
  repeat (first|(refine G_id ?_;first|refine Zah ?_|refine Zab rfl rfl ?_|refine Zcu rfl rfl rfl rfl ?_)|(refine X_id ?_;first|refine X_yl (Zad rfl rfl) rfl rfl ?_|refine X_yl (Zac rfl rfl) rfl rfl ?_|refine X_yl (Zbq rfl rfl) rfl rfl ?_|refine X_yl (Zb1 rfl rfl rfl (by omega)) rfl rfl ?_)|(refine C_id ?_;first|refine Zak ?_|refine Zaa ?_)|(refine E_id ?_;first|refine Zae ?_))
  refine X_yl (Zcw (l := 0) (h := 8) rfl rfl rfl rfl (.inr ⟨_,_,rfl,by omega,by omega,by omega⟩) (.inl ⟨rfl,rfl⟩)) rfl rfl ?_
  rw [sub_zero,Nat.sub_zero,Nat.sub_zero]
  generalize Zea (la.take 8) = n at hsm e
  by_cases hn : n = number
  ·subst hn
   rw [if_neg (by simp)] at e
   repeat (first|(refine G_id ?_;first|refine Zah ?_|refine Zab rfl rfl ?_|refine Zcu rfl rfl rfl rfl ?_)|(refine X_id ?_;first|(refine Zan 203 rfl rfl rfl rfl rfl (hsm _ (hS.rd (List.mem_cons_self ..))) ?_;rintro _ _ ⟨rfl,rfl⟩)|refine X_yl (Zad rfl rfl) rfl rfl ?_|refine X_yl (Zac rfl rfl) rfl rfl ?_|refine X_yl (Zai rfl rfl) rfl rfl ?_|refine X_yl (Zaf rfl rfl rfl) rfl rfl ?_|refine X_yl (Zbb rfl rfl rfl) rfl rfl ?_|refine X_yl (Zb1 rfl rfl rfl (by omega)) rfl rfl ?_|refine X_yl (Zco rfl rfl rfl) rfl rfl ?_|refine X_yl (Zao rfl rfl hS.cell) rfl rfl ?_|refine Zeg rfl rfl rfl rfl hS (fun _ _ hS _ => ?_))|(refine C_id ?_;first|refine Zak ?_|refine Zaa ?_|refine Zaw ?_|refine Zaj rfl ?_)|(refine E_id ?_;first|refine Zae ?_))
   rename_i sp _ _
   refine Zmj (c := 64) rfl rfl rfl (by omega) (by omega) rfl rfl hS (fun zb _ hS => ?_)
   repeat (first|(refine G_id ?_;first|refine Zab rfl rfl ?_))
   obtain ⟨_,hc,hr,hw,hbk⟩ := hS.call [false,true,false,false,true]
   refine Zan _ rfl rfl rfl rfl rfl (Zkw sp p (0,D) 1 _ 64 64 Zi0 _ _ hc ((hr _ (List.mem_cons_self ..)).mono fun h hh => ⟨h,Zn5 h hh,fun _ _ e => e⟩) rfl (by simp only; omega)) ?_
   rintro _ w ⟨_,hS⟩
   replace hS := hbk hS
   clear hc hr hw hbk
   have hl := Ze3 (0,D) 1 Zi0
   simp only at hl
   repeat (first|(refine G_id ?_;first|refine Zah ?_|refine Zab rfl rfl ?_)|(refine X_id ?_;first|refine X_yl (Zad rfl rfl) rfl rfl ?_)|(refine C_id ?_;first|refine Zak ?_|refine Zaa ?_)|(refine E_id ?_;first|refine Zae ?_))
   obtain ⟨_,hc,hr,hw,hbk⟩ := hS.call [true,true,false,false,false]
   refine Zan _ rfl rfl rfl rfl rfl (Zn1 sp p (Ze1 (0,D) 1 Zi0) _ _ hc (by omega)) ?_
   rintro _ w ⟨_,hS⟩
   replace hS := hbk hS
   clear hc hr hw hbk
   rw [e]
   generalize Zet (Ze1 (0,D) 1 Zi0) = Y at hS ⊢
   repeat (first|(refine G_id ?_;first|refine Zah ?_|refine Zab rfl rfl ?_)|(refine X_id ?_;first|refine X_yl (Zad rfl rfl) rfl rfl ?_|refine X_yl (Zac rfl rfl) rfl rfl ?_|refine X_yl (Zai rfl rfl) rfl rfl ?_|refine X_yl (Zaf rfl rfl rfl) rfl rfl ?_|refine X_yl (Zao rfl rfl hS.cell) rfl rfl ?_)|(refine C_id ?_;first|refine Zak ?_|refine Zaa ?_|refine Za2 ?_)|(refine E_id ?_;first|refine Zae ?_|refine Zax rfl (Zap rfl) (Ret.mk ?_)))
   refine ⟨rfl,?_⟩
   have hS := hS.pick [4,1]
   exact hS
  ·rw [if_pos hn] at e
   repeat (first|(refine G_id ?_;first|refine Zah ?_|refine Zab rfl rfl ?_|refine Zcu rfl rfl rfl rfl ?_)|(refine X_id ?_;first|(refine Zan 203 rfl rfl rfl rfl rfl (hsm _ (hS.rd (List.mem_cons_self ..))) ?_;rintro _ _ ⟨rfl,rfl⟩)|refine X_yl (Zad rfl rfl) rfl rfl ?_|refine X_yl (Zac rfl rfl) rfl rfl ?_|refine X_yl (Zbb rfl rfl rfl) rfl rfl ?_|refine X_yl (Zc0 rfl rfl rfl (by omega)) rfl rfl ?_)|(refine C_id ?_;first|refine Zak ?_|refine Zaa ?_|refine Za2 ?_|refine Zam rfl ?_)|(refine E_id ?_;first|refine Zae ?_|refine Zat ?_|refine Zax rfl (Zap rfl) (Ret.mk ?_)))
   rw [e]
   exact ⟨rfl,hS.pick [1,1]⟩
 ·rw [if_pos hea] at e
  repeat (first|(refine G_id ?_;first|refine Zah ?_|refine Zab rfl rfl ?_|refine G_no rfl rfl rfl rfl rfl rfl ?_)|(refine X_id ?_;first|refine X_yl (Zad rfl rfl) rfl rfl ?_|refine X_yl (Zac rfl rfl) rfl rfl ?_|refine X_yl (Zbq rfl rfl) rfl rfl ?_|refine X_yl (Zbr rfl rfl rfl) rfl rfl ?_|refine X_yl (Zc0 rfl rfl rfl (by omega)) rfl rfl ?_)|(refine C_id ?_;first|refine Zak ?_|refine Zaa ?_|refine Za2 ?_|refine Zam rfl ?_)|(refine E_id ?_;first|refine Zae ?_|refine Zat ?_|refine Zax rfl (Zap rfl) (Ret.mk ?_)))
  rw [e]
  exact ⟨rfl,hS.pick [1,1]⟩
end Cr
