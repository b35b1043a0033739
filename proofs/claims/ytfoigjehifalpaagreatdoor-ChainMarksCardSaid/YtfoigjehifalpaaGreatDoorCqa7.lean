/-
  Maps with keys of an integer type or strings: made,looked up,updated. Over any program.
  Layer 4 (wal): Check.
  Layer 4 (wal): a log in memory,what it tells; steps.
  Layer 4 (wal): lay.
  Layer 4 (wal): entry.
  Layer 4 (wal): clear; Once.Do.
  Layer 4 (wal): found.
  Layer 4 (wal): redo.
  sync.Mutex,sync.Once,as one goroutine meets them.
  Layer 4 (wal): Once.Do at Open; Open.
  Layer 4 (wal): Open,Read.
-/
import Derived.Test.YtfoigjehifalpaaGreatDoorCqa3
import Derived.MapKept
import Derived.Test.YtfoigjehifalpaaGreatDoorCqa6
import Derived.Laws.LoneSync
namespace Cr
open Go Go.MapKept
set_option maxRecDepth 10000
set_option maxHeartbeats 64000000
class Key (d : TypeDesc) {α : Type} [DecidableEq α] (mk : α → Value) : Prop where
 same : ∀ a b,Instr.sameNow d (mk a) (mk b) = some (decide (a = b))
 isKey : ∀ a,IsKey d (mk a)
 bits : ∀ a n,Instr.sameBits n (mk a) (mk a) = true
instance : Key (.int .i64) (Value.int .i64) := ⟨fun a b => by
 have : (a == b) = decide (a = b) := by by_cases h : a = b <;> simp [h]
 simp [Instr.sameNow,this],fun a => by simp [IsKey],fun a n => by cases n <;> simp [Instr.sameBits]⟩
def mapr {α : Type} (mk : α → Value) (r : Nat) (L : List (α × Value)) : Res := fun h => ∃ (es : Array MapEntry) (clock : Nat),es.toList.map (fun e => (e.key,e.val)) = L.map (fun x => (mk x.1,x.2)) ∧ pts r (.map es clock) h
section
variable {α : Type} [DecidableEq α]
def getM (k : α) : List (α × Value) → Option Value
 | [] => none
 | x :: l => if k = x.1 then some x.2 else getM k l
def setM (k : α) (v : Value) : List (α × Value) → List (α × Value)
 | [] => [(k,v)]
 | x :: l => if k = x.1 then (k,v) :: l else x :: setM k v l
theorem Zdc {d : TypeDesc} {mk : α → Value} [hk : Key d mk] (k : α) : ∀ (L : List (α × Value)) (es : List MapEntry) (i : Nat),es.map (fun e => (e.key,e.val)) = L.map (fun x => (mk x.1,x.2)) →
  ∃ r,Instr.findNow d (mk k) es i = some r ∧ r.map (·.2) = getM k L ∧ (∀ p,r = some p → i ≤ p.1 ∧ ∃ e,es[p.1 - i]? = some e ∧ e.key = mk k ∧ (es.modify (p.1 - i) fun e => { e with key := mk k,val := p.2 }).map (fun e => (e.key,e.val)) = L.map (fun x => (mk x.1,x.2)))
 | [],[],i,_ => ⟨none,rfl,rfl,fun p h => by cases h⟩
 | [],_ :: _,_,h => by simp at h
 | _ :: _,[],_,h => by simp at h
 | x :: L,e :: es,i,h => by
  simp only [List.map_cons,List.cons.injEq,Prod.mk.injEq] at h
  obtain ⟨⟨h1,h2⟩,h3⟩ := h
  unfold Instr.findNow getM
  rw [h1,hk.same]
  by_cases hkx : k = x.1
  ·subst hkx
   refine ⟨some (i,e.val),by simp,by simp [h2],fun p hp => ?_⟩
   cases hp
   exact ⟨Nat.le_refl _,e,by simp,h1,by simp [h2,h3]⟩
  ·obtain ⟨r,g1,g2,g3⟩ := Zdc (d := d) k L es (i + 1) h3
   refine ⟨r,by simp [hkx,g1],by rw [g2,if_neg hkx],fun p hp => ?_⟩
   obtain ⟨h4,e',h5,h6,h7⟩ := g3 p hp
   have e1 : p.1 - i = (p.1 - (i + 1)) + 1 := by omega
   refine ⟨by omega,e',by rw [e1]; simpa using h5,h6,?_⟩
   rw [e1,List.modify_succ_cons,List.map_cons,h7,h1,h2]
   rfl
variable {P : Program} {o : Oper} {σ : Env} {w : World} {x y : Operand} {t kt et : TypeId} {N : Nat} {ds : Md} {K : Env → World → Prop} {mk : α → Value} {dd : TypeDesc}
theorem Zzm {β : Type} {d : Nat} {W : World} {F : Nat → Prop} {rs : List Res} (mk : β → Value) (ho : o.op = .makeMap t none) (hd : o.dst = some d) (hN : Nat.blt d N = true) (hS : St W F rs w)
  (hk : ∀ r w',St W F (mapr mk r [] :: rs) w' → K ((d,.map (some r)) :: σ) w') : X P o N ds σ w K := ⟨fun f ha K' Q' hK => by
 unfold Oper.wp
 have hexec : (execOp f.eval o).run P w = .ok (.value (.map (some w.heap.size))) (w.alloc (.map #[] 0)) := by
  have : (Instr.makeMap t none).run P w = .ok (.map (some w.heap.size)) (w.alloc (.map #[] 0)) := rfl
  simp [execOp,ho,this]
 rw [hexec]
 have := hK _ _ _ (ha.put (Zaq hN) (.map (some w.heap.size))) (hk w.heap.size _ ((hS.alloc (.map #[] 0)).head fun h hh => ⟨#[],0,by simp,hh⟩))
 rw [← hd] at this
 exact this⟩
theorem Zis {r : Nat} {L : List (α × Value)} {k : α} {z : Value} {n m : Nat} (ho : o.op = .lookup t x y false) (hx : ev σ x = some (.map (some r))) (hy : ev σ y = some (mk k)) [hu : Und P t (.map kt et)] [hkt : Und P kt dd] [hK : Key dd mk] [hi : Inf P et z n m]
  (hr : Rd w (mapr mk r L)) : Yl P o σ w ((getM k L).getD z) := ⟨fun N ds f ha => by
 obtain ⟨h,⟨es,clock,hes,rfl⟩,hag⟩ := hr
 have hb : w.heap[r]? = some (.map es clock) := hag r _ (Zar _ _)
 obtain ⟨q,g1,g2,_⟩ := Zdc (hk := hK) k L es.toList 0 hes
 obtain ⟨i,hi',hz',_⟩ := info_parts hi.inf
 have hc := run_checkKey (P := P) (w := w) hkt.und (hK.isKey k) es.isEmpty 9999
 have hf := run_findKey (P := P) (w := w) hkt.und g1
 have hg : (getObj r).run P w = .ok (.map es clock) w := by simp [getObj,Sem.run,hb]
 simp only [execOp,ho,ha.eval hx,ha.eval hy,Instr.lookup,Sem.run_bind,run_underlying hu.und,hg,hc,hf,Result.andThen_ok,Sem.run_pure]
 rw [← g2]
 cases q <;> simp [zeroValue,typeInfo,hi',hz']⟩
theorem Zh2 {k : α} {v : Value} : ∀ {L : List (α × Value)},getM k L = none → setM k v L = L ++ [(k,v)]
 | [],_ => rfl
 | x :: L,h => by
  unfold getM at h
  split at h
  ·cases h
  ·rename_i hne
   simp [setM,hne,Zh2 h]
theorem Zh1 {k : α} {v : Value} : ∀ (L : List (α × Value)) (es : List MapEntry) (i : Nat),es.map (fun e => (e.key,e.val)) = L.map (fun x => (mk x.1,x.2)) → ∀ [Key dd mk] (j : Nat) (u : Value),Instr.findNow dd (mk k) es i = some (some (j,u)) →
  (es.modify (j - i) fun e => { e with key := mk k,val := v }).map (fun e => (e.key,e.val)) = (setM k v L).map (fun x => (mk x.1,x.2)) ∧ i ≤ j ∧ (es[j - i]?).map (·.key) = some (mk k)
 | [],[],i,_,_,j,u,h => by simp [Instr.findNow] at h
 | [],_ :: _,_,h,_,_,_,_ => by simp at h
 | _ :: _,[],_,h,_,_,_,_ => by simp at h
 | x :: L,e :: es,i,h,hK,j,u,hf => by
  simp only [List.map_cons,List.cons.injEq,Prod.mk.injEq] at h
  obtain ⟨⟨h1,h2⟩,h3⟩ := h
  unfold Instr.findNow at hf
  rw [h1,hK.same] at hf
  unfold setM
  by_cases hkx : k = x.1
  ·subst hkx
   simp at hf
   obtain ⟨rfl,_⟩ := hf
   simp [h3,h1]
  ·simp [hkx] at hf
   obtain ⟨g1,g2,g3⟩ := Zh1 (v := v) L es (i + 1) h3 j u hf
   have e1 : j - i = (j - (i + 1)) + 1 := by omega
   refine ⟨?_,by omega,by rw [e1]; simpa using g3⟩
   rw [e1,List.modify_succ_cons,List.map_cons,g1,if_neg hkx,h1,h2]
   rfl
theorem Zl3 {r : Nat} {L : List (α × Value)} {k : α} {v : Value} {W : World} {F : Nat → Prop} {rs : List Res} {z : Operand} (ho : o.op = .mapUpdate t x y z) (hx : ev σ x = some (.map (some r))) (hy : ev σ y = some (mk k)) (hz : ev σ z = some v) [hu : Und P t (.map kt et)] [hkt : Und P kt dd] [hK : Key dd mk]
  (hd : o.dst = none) (hS : St W F (mapr mk r L :: rs) w) (hk : ∀ w',St W F (mapr mk r (setM k v L) :: rs) w' → K σ w') : X P o N ds σ w K := ⟨fun f ha K' Q' hKK => by
 obtain ⟨h,⟨h1,h2,⟨es,clock,hes,hp⟩,hs,hdj,hun⟩,s⟩ := hS
 have hS2 : St W F (pts r (.map es clock) :: rs) w := ⟨h,⟨h1,h2,hp,hs,hdj,hun⟩,s⟩
 have hb : w.heap[r]? = some (.map es clock) := hS2.get
 obtain ⟨q,g1,g2,_⟩ := Zdc (hk := hK) k L es.toList 0 hes
 have hc := run_checkKey (P := P) (w := w) hkt.und (hK.isKey k) false 9999
 have hf := run_findKey (P := P) (w := w) hkt.und g1
 have hg : (getObj r).run P w = .ok (.map es clock) w := by simp [getObj,Sem.run,hb]
 have hset : ∀ o',(setObj r o').run P w = .ok () { w with heap := w.heap.setIfInBounds r o' } := fun o' => run_setObj_map o' hb
 unfold Oper.wp
 have key : ∃ es' clock',(execOp f.eval o).run P w = .ok .skip { w with heap := w.heap.setIfInBounds r (.map es' clock') } ∧ es'.toList.map (fun e => (e.key,e.val)) = (setM k v L).map (fun x => (mk x.1,x.2)) := by
  cases hq : q with
  | none =>
   subst hq
   refine ⟨es.push { key := mk k,val := v,born := clock },clock + 1,?_,?_⟩
   ·simp only [execOp,ho,ha.eval hx,ha.eval hy,ha.eval hz,Instr.mapUpdate,Sem.run_bind,run_underlying hu.und,hg,hc,hf,hset,Result.andThen_ok,Sem.run_pure]
   ·rw [Zh2 (by rw [← g2]; rfl)]
    simp [hes]
  | some p =>
   obtain ⟨j,u⟩ := p
   subst hq
   obtain ⟨g4,g5,g6⟩ := Zh1 (v := v) L es.toList 0 hes j u g1
   simp only [Nat.sub_zero] at g4 g6
   have hek : ((es[j]?).map (·.key)).getD (mk k) = mk k := by
    rw [← Array.getElem?_toList,g6]; rfl
   refine ⟨es.modify j fun e => { e with key := mk k,val := v },clock,?_,?_⟩
   ·simp only [execOp,ho,ha.eval hx,ha.eval hy,ha.eval hz,Instr.mapUpdate,Sem.run_bind,run_underlying hu.und,hg,hc,hf,hset,Result.andThen_ok,Sem.run_pure,hek,Instr.keyThatStays,hK.bits,if_true]
   ·simpa [Array.toList_modify] using g4
 obtain ⟨es',clock',hexec,hes'⟩ := key
 rw [hexec]
 have u := Za8 (o' := .map es' clock') hb
 refine hKK _ _ _ (?_ : Fr σ N ds _) (hk _ ((hS2.set u).head fun h hh => ⟨es',clock',hes',hh⟩))
 rw [hd]; exact ha⟩
end
end Cr
namespace Cr
open Go Go.Proofs
set_option maxRecDepth 100000
set_option maxHeartbeats 64000000
attribute [local irreducible] Calls

def badW (x : Int × List UInt8) : Bool := decide (x.1 < 0) || decide (¬ (x.2.length : Int) = 64)
def Zbl (l : List (Int × List UInt8)) : Nat → Bool
 | 0 => false
 | i + 1 => Zbl l i || decide ((l.getD i (0,[])).1 ∈ (l.take i).map (·.1))
def Zcj (l : List (Int × List UInt8)) : Int := if l.any badW then 1 else if Zbl l l.length then 8 else 0
def Zk2 (l : List (Int × List UInt8)) : Nat → List (Int × Value)
 | 0 => []
 | i + 1 => setM (l.getD i (0,[])).1 (.bool true) (Zk2 l i)
theorem Zlg (k k' : Int) (v : Value) : ∀ L,getM k (setM k' v L) = if k = k' then some v else getM k L
 | [] => by by_cases h : k = k' <;> simp [setM,getM,h]
 | x :: L => by
  unfold setM
  by_cases h : k' = x.1
  ·subst h
   by_cases h2 : k = x.1 <;> simp [getM,h2]
  ·rw [if_neg h]
   unfold getM
   rw [Zlg k k' v L]
   by_cases h1 : k = x.1
   ·have : ¬ k = k' := fun e => h (by rw [← e,h1])
    simp [h1,Ne.symm h]
   ·simp [h1]
theorem Zqi (l : List (Int × List UInt8)) (k : Int) : ∀ i,i ≤ l.length → (getM k (Zk2 l i)).getD (.bool false) = .bool (decide (k ∈ (l.take i).map (·.1)))
 | 0,_ => by simp [Zk2,getM]
 | i + 1,h => by
  have ih := Zqi l k i (by omega)
  simp only [Zk2]
  rw [Zlg,List.take_succ_eq_append_getElem (by omega)]
  have e : l.getD i (0,[]) = l[i] := by simp [List.getD_eq_getElem?_getD,show i < l.length by omega]
  have e2 : (l.take i ++ [l[i]]).map (·.1) = (l.take i).map (·.1) ++ [l[i].1] := by rw [List.map_append]; rfl
  rw [e,e2]
  simp only [List.mem_append,List.mem_singleton]
  by_cases hk : k = l[i].1
  ·rw [if_pos hk,decide_eq_true (Or.inr hk)]; rfl
  ·rw [if_neg hk,ih]
   congr 1
   exact decide_eq_decide.2 ⟨Or.inl,fun h => h.resolve_right hk⟩
theorem Zlo (a : Option Addr) (c : Nat) (l : List Wr) (W : World) (hW : Wrs W noF a l) (hl : l.length ≤ 1048576) (hx64 : ∀ v ∈ l,v.x.s.length ≤ 140737488355328) :
  Calls Tryz.prog 133 #[.slice a l.length c] W (Ret fun v w => v = .int .i64 (Zcj (l.map Wr.data)) ∧ St W noF [] w) := by
 have hS := St.start W
 obtain ⟨d,hd⟩ : ∃ d,d = l.map Wr.data := ⟨_,rfl⟩
 rw [← hd]
 have hdl : d.length = l.length := by rw [hd]; simp
 refine Zab Tryz.func133 rfl Tryz.ntmps133 rfl ?_
 repeat (first|refine Yeg ?_|refine Yag ?_|refine Yeh ?_|refine Yab ?_)
 refine Zzm (Value.int .i64) rfl rfl rfl hS (fun r w hS => ?_)
 repeat (first|refine Yeg ?_|refine Yfh ?_|refine Yej ?_|refine Yab ?_)
 refine Zaj (α := Nat) (fun i => [(3,.map (some r)),(4,.bool (Zbl d i)),(8,.slice a l.length c),(9,.int .i64 (l.length : Nat)),(10,.int .i64 (i : Nat))])
  (fun i w => i ≤ l.length ∧ (∀ x ∈ d.take i,badW x = false) ∧ St W noF [mapr (Value.int .i64) r (Zk2 d i)] w) (fun i => l.length - i) 0 ⟨rfl,rfl,rfl,rfl,rfl,trivial⟩ ⟨Nat.zero_le _,by simp,hS⟩ ?_
 clear hS
 rintro i w ⟨hi,hbad,hS⟩
 by_cases hlt : i < l.length
 ·have hx0 : l[i]? = some l[i] := List.getElem?_eq_getElem hlt
  generalize l[i] = v at hx0
  have hv64 := hx64 v (List.mem_of_getElem? hx0)
  have hdi : d[i]? = some v.data := by rw [hd]; simp [hx0]
  have hdg : d.getD i (0,[]) = (v.no,v.x.s) := by rw [List.getD_eq_getElem?_getD,hdi]; rfl
  have hr := hW.row
  have hxs : ((l.flatMap Wr.cells).drop (i * 2)).take 2 = [.int .i64 v.no,.slice v.x.a v.x.s.length v.x.c] := Zpc hx0
  obtain ⟨ab,ao,rfl⟩ := (hW.row.rd hS).base (by intro e; rw [e] at hxs; simp at hxs)
  have hbadr : badW v.data = true → Zcj d = 1 := fun h => by
   unfold Zcj
   rw [if_pos (List.any_eq_true.2 ⟨_,List.mem_of_getElem? hdi,h⟩)]
  by_cases hn : v.no < 0
  ·repeat (first|refine Ye0 ?_|(refine X_id ?_;first|refine Yaf ?_|refine Yag ?_|refine Yan ?_|refine Ybe ?_|refine Ya1 ?_|refine Yba ?_|refine Yap ?_|refine Ybr ?_|refine Yao (fun _ hS _ => ?_)|refine Yar (fun _ _ hS _ => ?_))|refine Yae ?_|refine Yad ?_|refine Yaj ?_|refine Yah ?_|refine Yal ?_|refine Yak ?_|refine Ye2 ?_)
   exact ⟨by rw [hbadr (by simp [badW,Wr.data,hn])],hS.drops⟩
  ·by_cases h64 : (v.x.s.length : Int) = 64
   ·have hgood : badW v.data = false := by unfold badW Wr.data; rw [decide_eq_false hn]; simp [h64]
    obtain ⟨b,hb⟩ : ∃ b,b = Zbl d i := ⟨_,rfl⟩
    rw [← hb]
    have ht : Zbl d (i + 1) = (b || decide (v.no ∈ (d.take i).map (·.1))) := by rw [Zbl,hdg,← hb]
    have hb1 : ∀ x ∈ d.take (i + 1),badW x = false := fun x hx => by
     have hid : i < d.length := by omega
     rw [List.take_succ_eq_append_getElem hid] at hx
     have hvd : d[i] = v.data := by
      have := List.getElem?_eq_getElem hid
      rw [hdi] at this
      exact (Option.some.inj this).symm
     rw [hvd] at hx
     rcases List.mem_append.1 hx with h | h
     ·exact hbad x h
     ·rw [List.mem_singleton.1 h]; exact hgood
    cases b
    ·repeat (first|refine Yex ?_|(refine X_id ?_;first|refine Yaf ?_|refine Yan ?_|refine Ya9 ?_|refine Yau ?_|refine Ybb ?_|refine Ya1 ?_|refine Yaz ?_|refine Yba ?_|refine Yap ?_|refine Ybr ?_|refine Yao (fun _ hS _ => ?_)|refine Yar (fun _ _ hS _ => ?_))|refine Yen ?_|refine Yab ?_)
     refine X_yl (Zis (mk := Value.int .i64) (k := v.no) rfl rfl rfl (hS.rd (List.mem_cons_of_mem _ (List.mem_cons_self ..)))) rfl rfl ?_
     rw [Zqi d v.no i (by omega)]
     repeat (first|refine Yeg ?_|(refine X_id ?_;first|refine Yaf ?_|refine Yag ?_|refine Yan ?_|refine Ya9 ?_|refine Yap ?_)|refine Yad ?_|refine Yab ?_)
     replace hS := hS.pick [1]
     refine Zl3 (mk := Value.int .i64) (k := v.no) rfl rfl rfl rfl rfl hS (fun w hS => ?_)
     repeat (first|refine Yeg ?_|refine Yel ?_|refine Yad ?_|refine Yeo ?_)
     refine Zaf (i + 1) ⟨rfl,by rw [ht]; rfl,rfl,rfl,rfl,trivial⟩ ⟨by omega,hb1,?_⟩ (by omega)
     simp only [Zk2,hdg]
     exact hS
    ·repeat (first|refine Yfe ?_|(refine X_id ?_;first|refine Yaf ?_|refine Yag ?_|refine Yan ?_|refine Ybe ?_|refine Ya9 ?_|refine Yau ?_|refine Ybb ?_|refine Ya1 ?_|refine Yaz ?_|refine Yba ?_|refine Yap ?_|refine Ybr ?_|refine Yao (fun _ hS _ => ?_)|refine Yar (fun _ _ hS _ => ?_))|refine Yen ?_|refine Yab ?_)
     replace hS := hS.pick [1]
     refine Zl3 (mk := Value.int .i64) (k := v.no) rfl rfl rfl rfl rfl hS (fun w hS => ?_)
     repeat (first|refine Yeg ?_|refine Yel ?_|refine Yad ?_|refine Yeo ?_)
     refine Zaf (i + 1) ⟨rfl,by rw [ht]; rfl,rfl,rfl,rfl,trivial⟩ ⟨by omega,hb1,?_⟩ (by omega)
     simp only [Zk2,hdg]
     exact hS
   ·repeat (first|refine Yex ?_|(refine X_id ?_;first|refine Yaf ?_|refine Yag ?_|refine Yan ?_|refine Ya9 ?_|refine Yau ?_|refine Ybl ?_|refine Ya1 ?_|refine Yaz ?_|refine Yba ?_|refine Yap ?_|refine Ybr ?_|refine Yao (fun _ hS _ => ?_)|refine Yar (fun _ _ hS _ => ?_))|refine Yae ?_|refine Yad ?_|refine Yaj ?_|refine Yah ?_|refine Yal ?_|refine Yak ?_|refine Ye2 ?_)
    exact ⟨by rw [hbadr (by simp [badW,Wr.data,h64])],hS.drops⟩
 ·obtain rfl : i = l.length := by omega
  have hany : d.any badW = false := by
   rw [← hdl,List.take_length] at hbad
   simpa using hbad
  cases ht : Zbl d l.length
  ·rw [show Zcj d = 0 by unfold Zcj; rw [if_neg (by simp [hany]),hdl,ht]; rfl]
   repeat (first|refine Yeg ?_|refine Yfb ?_|refine Yae ?_|refine Yad ?_|refine Yah ?_|refine Yal ?_|refine Ya4 ?_|refine Yai ?_|refine Yfc ?_)
   exact ⟨rfl,hS.drops⟩
  ·rw [show Zcj d = 8 by unfold Zcj; rw [if_neg (by simp [hany]),hdl,ht]; rfl]
   repeat (first|refine Yeg ?_|refine Yfb ?_|refine Yae ?_|refine Yad ?_|refine Yah ?_|refine Ya4 ?_|refine Yak ?_|refine Yai ?_|refine Yab ?_|refine Yaq ?_|refine Ya5 ?_|refine Ya6 ?_|refine Yam ?_)
   exact ⟨rfl,hS.drops⟩
abbrev Z1d (p : Nat) (o s m : Int) (j : Nat) (done : Int) (rd : Bool) : List Value := [.pointer (some ⟨p,0,none⟩),.int .u32 o,.int .i32 s,.int .u32 m,.int .i64 (j : Nat),.int .i64 done,.bool rd]
abbrev Zco (lp p : Nat) (o s m : Int) (j : Nat) (done : Int) (rd : Bool) : Res := pts lp (.cells (Z1d p o s m j done rd).toArray 174)
section
variable (lp p : Nat) (o s m : Int) (j : Nat) (done : Int) (rd : Bool) (D : DiskM) (W : World)
theorem Zfa (hL : Rd W (Zco lp p o s m j done rd)) (hD : Rd W (disk p D)) (hj : j ≤ 4096) :
  Calls Tryz.prog 132 #[.pointer (some ⟨lp,0,none⟩)] W (Ret fun v w => v = .int .i64 ((D.laid.length : Int) - 1 - j) ∧ St W noF [] w) := by
 have hc := hL.pts
 have hS := St.start W
 have hm := hD.disk.1.most
 have hLo := hL.ro
 have hDo := hD.ro
 refine Zab Tryz.func132 rfl Tryz.ntmps132 rfl ?_
 repeat (first|refine Yeg ?_|refine Yaf ?_|refine Yag ?_|refine Ybu ?_|refine Yes ?_|refine Yab ?_)
 refine Zan (.s 0 (.s 1 (.s 2 (.s 3 (.s 6 (.s 7 (.s 8 (.s 9 (.h 4 (.s 5 (.s 10 (.s 11 .nil))) .no))))))))) mixed (by kernel_rfl) rfl ?_
 have hS := hS.drew
 have hc := (hLo.rd hS).pts
 repeat (first|(refine X_id ?_;first|(refine Zaa 77 rfl rfl rfl rfl rfl (Zn5 p D _ (hDo.rd hS)) ?_;rintro _ _ ⟨rfl,rfl⟩))|refine Yah ?_|refine Yei ?_|(refine Zae ?_;first|refine Yaw ?_|refine Ya0 ?_|refine Ybj ?_|refine Ybo ?_|refine Ybg ?_|refine Ych ?_|refine Yc7 ?_|refine Yas ?_)|(refine Zac ?_;first|refine Yax ?_))
 exact ⟨rfl,hS⟩
theorem Zs0 (hL : Rd W (Zco lp p o s m j done rd)) (hj : j ≤ 4096) :
  Calls Tryz.prog 135 #[.pointer (some ⟨lp,0,none⟩)] W (Ret fun v w => v = .int .i64 ((j : Int) / 2) ∧ W = w) := by
 have hc := hL.pts
 have hS := St.start W
 refine Zab Tryz.func135 rfl Tryz.ntmps135 rfl ?_
 repeat (first|refine Yeg ?_|(refine X_id ?_;first|refine Yaf ?_|refine Yag ?_|refine Yav ?_|refine Yan ?_|refine Ydf ?_|refine Ybu ?_|refine Yb3 ?_)|refine Ye6 ?_|refine Yei ?_)
 exact ⟨rfl,rfl⟩
def hasM (n : Int) (l : List (Int × List UInt8)) : Bool := l.all fun x => decide (x.1 < n)
theorem Zws (a : Option Addr) (c : Nat) (l : List Wr) (hL : Rd W (Zco lp p o s m j done rd)) (hD : Rd W (disk p D)) (hj : j ≤ 4096) (hW : Wrs W noF a l) (hl : l.length ≤ 1048576) :
  Calls Tryz.prog 134 #[.pointer (some ⟨lp,0,none⟩),.slice a l.length c] W (Ret fun v w => v = .bool (hasM ((D.laid.length : Int) - 1 - j) (l.map Wr.data)) ∧ St W noF [] w) := by
 have hS := St.start W
 have hLo := hL.ro
 have hDo := hD.ro
 obtain ⟨n,hn⟩ : ∃ n,n = (D.laid.length : Int) - 1 - j := ⟨_,rfl⟩
 rw [← hn]
 refine Zab Tryz.func134 rfl Tryz.ntmps134 rfl ?_
 repeat (first|refine Yeg ?_|refine Yfh ?_|refine Yej ?_|refine Yab ?_)
 refine Zaj (α := Nat) (fun i => [(0,.pointer (some ⟨lp,0,none⟩)),(7,.slice a l.length c),(8,.int .i64 (l.length : Nat)),(9,.int .i64 (i : Nat))])
  (fun i w => i ≤ l.length ∧ (∀ v ∈ l.take i,v.no < n) ∧ St W noF [] w) (fun i => l.length - i) 0 ⟨rfl,rfl,rfl,rfl,trivial⟩ ⟨Nat.zero_le _,by simp,hS⟩ ?_
 clear hS
 rintro i w ⟨hi,hok,hS⟩
 by_cases hlt : i < l.length
 ·have hx0 : l[i]? = some l[i] := List.getElem?_eq_getElem hlt
  have htk := List.take_succ_eq_append_getElem hlt
  generalize l[i] = v at hx0 htk
  have hr := hW.row
  have hxs : ((l.flatMap Wr.cells).drop (i * 2)).take 2 = [.int .i64 v.no,.slice v.x.a v.x.s.length v.x.c] := Zpc hx0
  obtain ⟨ab,ao,rfl⟩ := (hW.row.rd hS).base (by intro e; rw [e] at hxs; simp at hxs)
  by_cases hno : v.no < n
  ·repeat (first|refine Yeg ?_|(refine X_id ?_;first|refine Ya1 ?_|refine Yba ?_|refine Ybr ?_|refine Yao (fun _ hS _ => ?_)|refine Yar (fun _ _ hS _ => ?_))|refine Yek ?_|refine Yab ?_)
   refine Zan (.s 0 (.s 1 (.s 2 (.h 3 (.s 4 .nil) .no)))) mixed (by kernel_rfl) rfl ?_
   have hS := hS.drew
   repeat (first|refine Yeg ?_|(refine X_id ?_;first|(refine Zad 132 rfl rfl rfl rfl rfl hS (Zfa lp p o s m j done rd D _ (hLo.rd hS) (hDo.rd hS) hj) ?_;rintro _ _ rfl hS)|refine Yel ?_)|refine Ye8 ?_|refine Yeo ?_|(refine Zae ?_;first|refine Yaw ?_|refine Ya0 ?_|refine Ybg ?_|refine Zak rfl rfl (fun _ => Zo0 rfl rfl rfl (by omega)) rfl rfl ?_|refine Ybm ?_|refine Yas ?_)|(refine Zac ?_;first|refine Yax ?_))
   refine Zaf (i + 1) ⟨rfl,rfl,rfl,rfl,trivial⟩ ⟨by omega,?_,hS.drops⟩ (by omega)
   rw [htk]
   intro x hx
   rcases List.mem_append.1 hx with h | h
   ·exact hok x h
   ·rw [List.mem_singleton.1 h]; exact hno
  ·repeat (first|refine Yeg ?_|(refine X_id ?_;first|refine Ya1 ?_|refine Yba ?_|refine Ybr ?_|refine Yao (fun _ hS _ => ?_)|refine Yar (fun _ _ hS _ => ?_))|refine Yek ?_|refine Yab ?_)
   refine Zan (.s 0 (.s 1 (.s 2 (.h 3 (.s 4 .nil) .no)))) mixed (by kernel_rfl) rfl ?_
   have hS := hS.drew
   repeat (first|refine Yeg ?_|(refine X_id ?_;first|(refine Zad 132 rfl rfl rfl rfl rfl hS (Zfa lp p o s m j done rd D _ (hLo.rd hS) (hDo.rd hS) hj) ?_;rintro _ _ rfl hS)|refine Yag ?_)|refine Yey ?_|refine Ye2 ?_|(refine Zae ?_;first|refine Yaw ?_|refine Ya0 ?_|refine Ybg ?_|refine Zak rfl rfl (fun _ => Zkj rfl rfl rfl (by omega)) rfl rfl ?_|refine Ybm ?_|refine Yas ?_)|(refine Zac ?_;first|refine Yax ?_))
   refine ⟨?_,hS.drops⟩
   have : hasM n (l.map Wr.data) = false := by
    unfold hasM
    rw [List.all_eq_false]
    exact ⟨v.data,List.mem_map.2 ⟨v,List.mem_of_getElem? hx0,rfl⟩,by simp [Wr.data,hno]⟩
   rw [this]
 ·obtain rfl : i = l.length := by omega
  repeat (first|refine Yeg ?_|refine Yag ?_|refine Yaz ?_|refine Yep ?_|refine Yfc ?_)
  refine ⟨?_,hS⟩
  have : hasM n (l.map Wr.data) = true := by
   unfold hasM
   rw [List.all_eq_true]
   intro x hx
   obtain ⟨v,hv,rfl⟩ := List.mem_map.1 hx
   rw [List.take_length] at hok
   exact decide_eq_true (hok v hv)
  rw [this]
end

/-! ### steps -/
def Zd0 (x : Int × DiskM) (no : Int) (b : List UInt8) : Int × DiskM := if x.1 = 0 then x.2.write no b else x
def Zdu (x : Int × DiskM) : Int × DiskM := if x.1 = 0 then x.2.flush else x
abbrev Zjk (sp p : Nat) (e : Int) : Res := pts sp (.cells #[.pointer (some ⟨p,0,none⟩),.int .i64 e] 263)
theorem Zkw (sp p : Nat) (x : Int × DiskM) (no : Int) (a : Option Addr) (n c : Nat) (b : List UInt8) (W : World) (F : Nat → Prop) (hS : St W F [Zjk sp p x.1,disk p x.2] W) (hb : Ro W F (bytes a b)) (hn : b.length = n) (hline : x.2.line.length < 1073741824) :
  Calls Tryz.prog 137 #[.pointer (some ⟨sp,0,none⟩),.int .i64 no,.slice a n c] W (Ret fun _ w => True ∧ St W F [Zjk sp p (Zd0 x no b).1,disk p (Zd0 x no b).2] w) := by
 obtain ⟨e,D⟩ := x
 simp only at hS hline ⊢
 by_cases he : e = 0
 ·subst he
  refine Zab Tryz.func137 rfl Tryz.ntmps137 rfl ?_
  repeat (first|refine Yeg ?_|(refine X_id ?_;first|refine Yaf ?_|refine Yav ?_|refine Yan ?_|refine Ybh ?_|refine Yap ?_)|refine Yer ?_|refine Yab ?_)
  obtain ⟨_,hc,hr,hw,hbk⟩ := hS.call [false,true]
  refine Zaa _ rfl rfl rfl rfl rfl (Z51 p D no a n c b _ _ hc (hw _ hb) hn hline) ?_
  rintro _ w ⟨rfl,hS⟩
  replace hS := hbk hS
  clear hc hr hw hbk
  repeat (first|refine Yeg ?_|refine Yav ?_|refine Yan ?_|refine Yao (fun _ hS _ => ?_)|refine Ybt ?_)
  refine ⟨trivial,?_⟩
  simp only [Zd0,if_true]
  have hS := hS.pick [1,0]
  exact hS
 ·refine Zab Tryz.func137 rfl Tryz.ntmps137 rfl ?_
  repeat (first|refine Yeg ?_|(refine X_id ?_;first|refine Yaf ?_|refine Yav ?_|refine Yan ?_|refine Ybi ?_|refine Yap ?_)|refine Yes ?_|refine Yab ?_|refine Ybt ?_)
  refine ⟨trivial,?_⟩
  simp only [Zd0,if_neg he]
  exact hS
theorem Zn3 (sp p : Nat) (x : Int × DiskM) (W : World) (F : Nat → Prop) (hS : St W F [Zjk sp p x.1,disk p x.2] W) (hline : x.2.line.length < 1073741824) :
  Calls Tryz.prog 139 #[.pointer (some ⟨sp,0,none⟩)] W (Ret fun _ w => True ∧ St W F [Zjk sp p (Zdu x).1,disk p (Zdu x).2] w) := by
 obtain ⟨e,D⟩ := x
 simp only at hS hline ⊢
 by_cases he : e = 0
 ·subst he
  refine Zab Tryz.func139 rfl Tryz.ntmps139 rfl ?_
  repeat (first|refine Yeg ?_|(refine X_id ?_;first|refine Yaf ?_|refine Yav ?_|refine Yan ?_|refine Ybh ?_|refine Yap ?_)|refine Yer ?_|refine Yab ?_)
  obtain ⟨_,hc,hr,hw,hbk⟩ := hS.call [false,true]
  refine Zaa _ rfl rfl rfl rfl rfl (Z8t p D _ _ hc hline) ?_
  rintro _ w ⟨rfl,hS⟩
  replace hS := hbk hS
  clear hc hr hw hbk
  repeat (first|refine Yeg ?_|refine Yav ?_|refine Yan ?_|refine Yao (fun _ hS _ => ?_)|refine Ybt ?_)
  refine ⟨trivial,?_⟩
  simp only [Zdu,if_true]
  have hS := hS.pick [1,0]
  exact hS
 ·refine Zab Tryz.func139 rfl Tryz.ntmps139 rfl ?_
  repeat (first|refine Yeg ?_|(refine X_id ?_;first|refine Yaf ?_|refine Yav ?_|refine Yan ?_|refine Ybi ?_|refine Yap ?_)|refine Yes ?_|refine Yab ?_|refine Ybt ?_)
  refine ⟨trivial,?_⟩
  simp only [Zdu,if_neg he]
  exact hS
theorem Zu1 (D : DiskM) (no : Int) (b : List UInt8) : (D.write no b).2.line.length ≤ D.line.length + 1 ∧ (D.write no b).2.laid.length = D.laid.length := by
 unfold DiskM.write
 split
 ·simp
 ·split
  ·simp
  ·split <;> simp [DiskM.used]
theorem Zv2 (D : DiskM) : D.flush.2.line.length ≤ D.line.length ∧ D.flush.2.laid.length = D.laid.length := by
 unfold DiskM.flush
 split
 ·simp
 ·split <;> simp [DiskM.used,DiskM.flushed,Zax]
theorem Zd6 (x : Int × DiskM) (no : Int) (b : List UInt8) : (Zd0 x no b).2.line.length ≤ x.2.line.length + 1 ∧ (Zd0 x no b).2.laid.length = x.2.laid.length := by
 unfold Zd0
 split
 ·exact Zu1 x.2 no b
 ·simp
theorem Zmm (x : Int × DiskM) : (Zdu x).2.line.length ≤ x.2.line.length ∧ (Zdu x).2.laid.length = x.2.laid.length := by
 unfold Zdu
 split
 ·exact Zv2 x.2
 ·simp
def Zg1 (k : Int) (x : Int × DiskM) (l : List (Int × List UInt8)) : Int × DiskM := l.foldl (fun x v => Zd0 x (k + v.1) v.2) x
theorem Zvh (k : Int) (x : Int × DiskM) {l : List (Int × List UInt8)} {i : Nat} {v : Int × List UInt8} (h : l[i]? = some v) : Zg1 k x (l.take (i + 1)) = Zd0 (Zg1 k x (l.take i)) (k + v.1) v.2 := by
 obtain ⟨hi,rfl⟩ := List.getElem?_eq_some_iff.1 h
 rw [List.take_succ_eq_append_getElem hi]
 unfold Zg1
 rw [List.foldl_append]
 rfl
theorem Zmv (k : Int) : ∀ (l : List (Int × List UInt8)) (x : Int × DiskM),(Zg1 k x l).2.line.length ≤ x.2.line.length + l.length ∧ (Zg1 k x l).2.laid.length = x.2.laid.length
 | [],x => by simp [Zg1]
 | v :: l,x => by
  have h1 := Zd6 x (k + v.1) v.2
  have h2 := Zmv k l (Zd0 x (k + v.1) v.2)
  simp only [Zg1,List.foldl_cons,List.length_cons] at h2 ⊢
  exact ⟨by omega,by rw [h2.2,h1.2]⟩
def layM (rd fs : List Int) (j : Nat) (x : Int × DiskM) (number : Int) (l : List (Int × List UInt8)) : Int × DiskM := Zdu (Zd0 (Zdu (Zg1 (1 + j) x l)) 0 (Zff rd fs number))
theorem Z56 (lp sp p : Nat) (o s m : Int) (j : Nat) (done : Int) (rdn : Bool) (x : Int × DiskM) (number : Int) (a : Option Addr) (c : Nat) (l : List Wr) (rd fs : List Int) (W : World) (F : Nat → Prop) (hG : Gl W F rd fs) (hW : Wrs W F a l)
  (hj : j ≤ 4096) (hl : l.length ≤ 1048576) (hno : ∀ v ∈ l,-4611686018427387904 ≤ v.no ∧ v.no ≤ 4611686018427387904) (hline : x.2.line.length + l.length + 1 < 1073741824) (hS : St W F [Zco lp p o s m j done rdn,Zjk sp p x.1,disk p x.2] W) :
  Calls Tryz.prog 130 #[.pointer (some ⟨lp,0,none⟩),.pointer (some ⟨sp,0,none⟩),.int .i64 number,.slice a l.length c] W (Ret fun v w => v = .int .i64 (layM rd fs j x number (l.map Wr.data)).1 ∧
   St W F [Zco lp p o s m j (if (layM rd fs j x number (l.map Wr.data)).1 = 0 then number else done) rdn,Zjk sp p (layM rd fs j x number (l.map Wr.data)).1,disk p (layM rd fs j x number (l.map Wr.data)).2] w) := by
 obtain ⟨d,hd⟩ : ∃ d,d = l.map Wr.data := ⟨_,rfl⟩
 have hdl : d.length = l.length := by rw [hd]; simp
 rw [← hd]
 refine Zab Tryz.func130 rfl Tryz.ntmps130 rfl ?_
 repeat (first|refine Yeg ?_|refine Yfh ?_|refine Yej ?_|refine Yab ?_)
 refine Zaj (α := Nat) (fun i => [(0,.pointer (some ⟨lp,0,none⟩)),(1,.pointer (some ⟨sp,0,none⟩)),(2,.int .i64 number),(11,.slice a l.length c),(12,.int .i64 (l.length : Nat)),(13,.int .i64 (i : Nat))])
  (fun i w => i ≤ l.length ∧ St W F [Zco lp p o s m j done rdn,Zjk sp p (Zg1 (1 + j) x (d.take i)).1,disk p (Zg1 (1 + j) x (d.take i)).2] w) (fun i => l.length - i) 0 ⟨rfl,rfl,rfl,rfl,rfl,rfl,trivial⟩ ⟨Nat.zero_le _,hS⟩ ?_
 clear hS
 rintro i w ⟨hi,hS⟩
 have hlt1 := Zmv (1 + j) (d.take i) x
 rw [List.length_take] at hlt1
 by_cases hlt : i < l.length
 ·have hx0 : l[i]? = some l[i] := List.getElem?_eq_getElem hlt
  generalize l[i] = v at hx0
  have hvm := List.mem_of_getElem? hx0
  have hdi : d[i]? = some (v.no,v.x.s) := by rw [hd]; simp [hx0,Wr.data]
  have hsn := Zvh (1 + j) x hdi
  have hv := hno v hvm
  have hv1 := hv.1
  have hv2 := hv.2
  have hr := hW.row
  have hxs : ((l.flatMap Wr.cells).drop (i * 2)).take 2 = [.int .i64 v.no,.slice v.x.a v.x.s.length v.x.c] := Zpc hx0
  obtain ⟨ab,ao,rfl⟩ := (hW.row.rd hS).base (by intro e; rw [e] at hxs; simp at hxs)
  obtain ⟨X,hX⟩ : ∃ X,X = Zg1 (1 + j) x (d.take i) := ⟨_,rfl⟩
  rw [← hX] at hS hlt1 hsn
  repeat (first|refine Yeg ?_|(refine X_id ?_;first|refine Ya1 ?_|refine Yba ?_|refine Ybr ?_|refine Yao (fun _ hS _ => ?_)|refine Yar (fun _ _ hS _ => ?_))|refine Yek ?_|refine Yab ?_)
  refine Zan (.s 0 (.s 1 (.s 2 (.s 3 (.s 4 (.s 5 (.s 6 (.s 7 (.s 8 (.s 9 (.s 10 (.h 11 .nil .no)))))))))))) mixed (by kernel_rfl) rfl ?_
  have hS := hS.drew
  repeat (first|(refine Zae ?_;first|refine Ya0 ?_|refine Ybo ?_|refine Ybg ?_|refine Ycw ?_|refine Ybm ?_|refine Yas ?_))
  obtain ⟨_,hc,hr,hw,hbk⟩ := hS.call [false,false,true,true]
  refine Zaa _ rfl rfl rfl rfl rfl (Zkw sp p X _ _ _ _ v.x.s _ _ hc (hw _ (hW.all v hvm)) rfl (by omega)) ?_
  rintro _ w ⟨_,hS⟩
  replace hS := hbk hS
  clear hc hr hw hbk
  repeat (first|refine Yeg ?_|refine Yel ?_|refine Yad ?_|refine Yeo ?_|(refine Zae ?_;first|refine Yaw ?_)|(refine Zac ?_;first|refine Yax ?_))
  refine Zaf (i + 1) ⟨rfl,rfl,rfl,rfl,rfl,rfl,trivial⟩ ⟨by omega,?_⟩ (by omega)
  rw [hsn]
  have hS := hS.pick [3,0,0]
  exact hS
 ·obtain rfl : i = l.length := by omega
  rw [List.take_of_length_le (by omega)] at hS hlt1
  obtain ⟨X,hX⟩ : ∃ X,X = Zg1 (1 + j) x d := ⟨_,rfl⟩
  rw [← hX] at hS hlt1
  have h2 := Zmm X
  repeat (first|refine Yeg ?_|refine Yaf ?_|refine Yaz ?_|refine Yet ?_|refine Yem ?_)
  obtain ⟨_,hc,hr,hw,hbk⟩ := hS.call [false,true,true]
  refine Zaa _ rfl rfl rfl rfl rfl (Zn3 sp p X _ _ hc (by omega)) ?_
  rintro _ w ⟨_,hS⟩
  replace hS := hbk hS
  clear hc hr hw hbk
  repeat (first|refine Yeg ?_|refine Yaf ?_|refine Yeh ?_|refine Yab ?_)
  refine Zaa _ rfl rfl rfl rfl rfl (Z2w number rd fs _ (hG.mono fun r hr => (hr.rd hS).ro)) ?_
  rintro _ w ⟨r,k,rfl,hS'⟩
  replace hS := hS.plus hS'
  clear hS'
  repeat (first|refine Yaa ?_)
  have h3 := Zd6 (Zdu X) 0 (Zff rd fs number)
  obtain ⟨_,hc,hr,hw,hbk⟩ := hS.call [false,true,true,false]
  refine Zaa _ rfl rfl rfl rfl rfl (Zkw sp p (Zdu X) 0 _ 64 k (Zff rd fs number) _ _ hc (hr _ (List.mem_cons_self ..)) (Zii ..) (by omega)) ?_
  rintro _ w ⟨_,hS⟩
  replace hS := hbk hS
  clear hc hr hw hbk
  repeat (first|refine Yeg ?_|refine Yaf ?_|refine Yeh ?_|refine Yab ?_)
  obtain ⟨_,hc,hr,hw,hbk⟩ := hS.call [true,true,false,false]
  refine Zaa _ rfl rfl rfl rfl rfl (Zn3 sp p (Zd0 (Zdu X) 0 (Zff rd fs number)) _ _ hc (by omega)) ?_
  rintro _ w ⟨_,hS⟩
  replace hS := hbk hS
  clear hc hr hw hbk
  have hlay : layM rd fs j x number d = Zdu (Zd0 (Zdu X) 0 (Zff rd fs number)) := by unfold layM; rw [← hX]
  obtain ⟨Y,hY⟩ : ∃ Y,Y = layM rd fs j x number d := ⟨_,rfl⟩
  rw [← hlay,← hY] at hS
  rw [← hY]
  clear hlay
  obtain ⟨e,D⟩ := Y
  simp only at hS ⊢
  by_cases he : e = 0
  ·subst he
   repeat (first|refine Yeg ?_|(refine X_id ?_;first|refine Yaf ?_|refine Yag ?_|refine Yav ?_|refine Yan ?_|refine Ybh ?_|refine Yap ?_|refine Yao (fun _ hS _ => ?_))|refine Yey ?_|refine Yei ?_)
   refine ⟨rfl,?_⟩
   rw [if_pos rfl]
   have hS := hS.pick [3,0,0]
   exact hS
  ·repeat (first|refine Yeg ?_|(refine X_id ?_;first|refine Yaf ?_|refine Yag ?_|refine Yav ?_|refine Yan ?_|refine Ybi ?_|refine Yap ?_)|refine Ye6 ?_|refine Yei ?_)
   refine ⟨rfl,?_⟩
   rw [if_neg he]
   have hS := hS.pick [3,0,0]
   exact hS
structure Ent where
 no : Int
 b : List UInt8
 count : Int
 d : List UInt8
 ok : Bool
def Ent.none : Ent := ⟨0,[],0,List.replicate 32 0,false⟩
def Zv5 (a b : List UInt8) (number at_ top : Int) : Ent :=
 ⟨Zc4 ((a.drop 16).take 4),b,Zc4 ((a.drop 12).take 4),(a.drop 20).take 32,decide (a = Zia number at_ (Zc4 ((a.drop 12).take 4)) (Zc4 ((a.drop 16).take 4)) ((a.drop 20).take 32)) && decide (Zc4 ((a.drop 16).take 4) < top)⟩
def entM (D : DiskM) (j : Nat) (number at_ : Int) : Ent :=
 if at_ < 0 ∨ (j : Int) / 2 ≤ at_ then Ent.none else
 if ¬ (D.read (1 + 2 * at_)).1 = 0 ∨ ¬ (D.read (1 + 2 * at_ + 1)).1 = 0 then Ent.none else
 Zv5 (D.read (1 + 2 * at_)).2 (D.read (1 + 2 * at_ + 1)).2 number at_ ((D.laid.length : Int) - 1 - j)
theorem Zi2 {D : DiskM} (hok : D.ok) {no : Int} (h : (D.read no).1 = 0) : (D.read no).2.length = 64 := by
 unfold DiskM.read at h ⊢
 by_cases h1 : D.off = true
 ·simp [h1] at h
 ·rw [if_neg h1] at h ⊢
  by_cases h2 : Zdt D no = false
  ·simp [h2] at h
  ·rw [if_neg h2]
   have h2' : 0 ≤ no ∧ no < D.laid.length := by simpa [Zdt] using h2
   simp only [DiskM.find]
   split
   ·rename_i x hx
    exact (hok.line64 x (by simpa using List.mem_of_find?_eq_some hx)).1
   ·rw [List.getD_eq_getElem?_getD,List.getElem?_eq_getElem (show no.toNat < D.laid.length by omega)]
    exact hok.laid64 _ (List.getElem_mem _)
def Ent.val (e : Ent) (a : Option Addr) (c : Nat) : Value := .tuple #[.agg #[.int .i64 e.no,.slice a e.b.length c],.int .i64 e.count,.agg (bv e.d).toArray,.bool e.ok]
theorem Zk0 (ab ao l n c : Nat) (s : List UInt8) (w : World) (hs : Rd w (bytes (some ⟨ab,ao,none⟩) s)) (h : l + n ≤ s.length) (hn : n ≤ 1048576) (hc : s.length ≤ c) (h0 : 0 < n) :
  Calls Tryz.prog 190 #[.slice (some ⟨ab,ao + l,none⟩) n (c - l)] w (Ret fun v w' => v = .int .i64 (Zc4 ((s.drop l).take n)) ∧ w = w') := by
 have h1 := hs.subBytes (l := l) (h := l + n) (c := c) (by omega) (by omega)
 rw [show sub (some ⟨ab,ao,none⟩) l 1 c = some ⟨ab,ao + l,none⟩ by unfold sub; rw [if_neg (by omega)]; simp [Zbs],show l + n - l = n by omega] at h1
 have hl : ((s.drop l).take n).length = n := by simp; omega
 have := Z2i (some ⟨ab,ao + l,none⟩) (c - l) ((s.drop l).take n) w h1 (by omega)
 rw [hl] at this
 exact this
theorem Z2y (lp p : Nat) (o s m : Int) (j : Nat) (done : Int) (rdn : Bool) (D : DiskM) (number at_ : Int) (W : World) (hL : Rd W (Zco lp p o s m j done rdn)) (hD : Rd W (disk p D)) (hj : j ≤ 4096) (hline : D.line.length < 1073741824) (hat : at_ ≤ 1099511627776) :
  Calls Tryz.prog 192 #[.pointer (some ⟨lp,0,none⟩),.int .i64 number,.int .i64 at_] W (Ret fun v w => ∃ a c,v = (entM D j number at_).val a c ∧ (entM D j number at_).b.length ≤ c ∧ St W noF [bytes a (entM D j number at_).b] w) := by
 have hS := St.start W
 have hc := hL.pts
 have hLo := hL.ro
 have hDo := hD.ro
 have hok := hD.disk.1
 have hl0 : LenO (bv (List.replicate 32 0)) 32 := inferInstance
 by_cases h1 : at_ < 0
 ·have e : entM D j number at_ = Ent.none := by unfold entM; rw [if_pos (.inl h1)]
  refine Zab Tryz.func192 rfl Tryz.ntmps192 rfl ?_
  repeat (first|refine Ye0 ?_|(refine X_id ?_;first|refine Yaf ?_|refine Yag ?_|refine Ybe ?_|refine Ya1 ?_|refine Yar (fun _ _ hS _ => ?_))|refine Yer ?_|refine Yab ?_)
  rw [Zf2] at hS
  refine Zan (.s 0 (.s 1 (.h 2 (.s 3 (.h 4 (.s 5 .nil) .no)) .no))) mixed (by kernel_rfl) rfl ?_
  have hS := hS.drew
  repeat (first|refine Yao (fun _ hS _ => ?_)|refine Yb6 (fun _ hS => ?_)|refine Yah ?_|refine Yab ?_|refine Yaq ?_|refine Ycu ?_|(refine Zae ?_;first|refine Yaw ?_|refine Ybj ?_|refine Ybx ?_|refine Yas ?_)|(refine Zac ?_;first|refine Yax ?_))
  rw [e]
  exact ⟨none,0,rfl,Nat.le_refl _,hS.drops.row_none⟩
 by_cases h2 : (j : Int) / 2 ≤ at_
 ·have e : entM D j number at_ = Ent.none := by unfold entM; rw [if_pos (.inr h2)]
  refine Zab Tryz.func192 rfl Tryz.ntmps192 rfl ?_
  repeat (first|refine Yex ?_|(refine X_id ?_;first|refine Yaf ?_|refine Yag ?_|refine Yav ?_|refine Yan ?_|refine Yaz ?_|refine Yar (fun _ _ hS _ => ?_))|refine Yeh ?_|refine Yab ?_)
  have hc := (hLo.rd hS).pts
  repeat (first|refine Yex ?_|refine Ya9 ?_|refine Yb2 ?_|refine Ydf ?_|refine Yb3 ?_|refine Yae ?_|refine Yak ?_|refine Yab ?_)
  rw [Zf2] at hS
  refine Zan (.s 0 (.s 1 (.h 2 (.s 3 (.h 4 (.s 5 .nil) .no)) .no))) mixed (by kernel_rfl) rfl ?_
  have hS := hS.drew
  repeat (first|refine Yao (fun _ hS _ => ?_)|refine Yb6 (fun _ hS => ?_)|refine Yah ?_|refine Yab ?_|refine Yaq ?_|refine Ycu ?_|(refine Zae ?_;first|refine Yaw ?_|refine Ybj ?_|refine Ybx ?_|refine Yas ?_)|(refine Zac ?_;first|refine Yax ?_))
  rw [e]
  exact ⟨none,0,rfl,Nat.le_refl _,hS.drops.row_none⟩
 have e : entM D j number at_ = if ¬ (D.read (1 + 2 * at_)).1 = 0 ∨ ¬ (D.read (1 + 2 * at_ + 1)).1 = 0 then Ent.none else
   Zv5 (D.read (1 + 2 * at_)).2 (D.read (1 + 2 * at_ + 1)).2 number at_ ((D.laid.length : Int) - 1 - j) := by unfold entM; rw [if_neg (by omega)]
 have hra := fun (h : (D.read (1 + 2 * at_)).1 = 0) => Zi2 hok h
 have hrb := fun (h : (D.read (1 + 2 * at_ + 1)).1 = 0) => Zi2 hok h
 refine Zab Tryz.func192 rfl Tryz.ntmps192 rfl ?_
 repeat (first|refine Yex ?_|(refine X_id ?_;first|refine Yaf ?_|refine Yag ?_|refine Yav ?_|refine Yan ?_|refine Yaz ?_|refine Yar (fun _ _ hS _ => ?_))|refine Yeh ?_|refine Yab ?_)
 have hc := (hLo.rd hS).pts
 repeat (first|refine Yex ?_|(refine X_id ?_;first|refine Yaf ?_|refine Yav ?_|refine Yan ?_|refine Ya9 ?_|refine Yb4 ?_|refine Yay ?_|refine Yb8 ?_|refine Ydf ?_|refine Yb3 ?_)|refine Yes ?_|refine Yab ?_)
 rename_i b6 _ _ _ b8 _ _
 rw [Zf2] at hS
 refine Zaa _ rfl rfl rfl rfl rfl (Zxi p D (1 + 2 * at_) _ (hDo.rd hS) hline) ?_
 rintro _ w ⟨a,ca,rfl,hca,hS'⟩
 replace hS := hS.plus hS'
 clear hS'
 have hc := (hLo.rd hS).pts
 repeat (first|refine Yeg ?_|(refine X_id ?_;first|refine Yaf ?_|refine Yag ?_|refine Yav ?_|refine Yan ?_|refine Ya3 ?_|refine Yay ?_|refine Yb8 ?_|refine Yb3 ?_)|refine Yeh ?_|refine Yab ?_)
 refine Zaa _ rfl rfl rfl rfl rfl (Zxi p D (1 + 2 * at_ + 1) _ (hDo.rd hS) hline) ?_
 rintro _ w ⟨b,cb,rfl,hcb,hS'⟩
 replace hS := hS.plus hS'
 clear hS'
 generalize D.read (1 + 2 * at_) = ra at hra hca hS e ⊢
 generalize D.read (1 + 2 * at_ + 1) = rb at hrb hcb hS e ⊢
 obtain ⟨ea,la⟩ := ra
 obtain ⟨eb,lb⟩ := rb
 simp only at hra hrb hca hcb hS e ⊢
 by_cases hea : ea = 0
 ·by_cases heb : eb = 0
  ·subst hea heb
   have hla := hra rfl
   have hlb := hrb rfl
   rw [if_neg (by simp)] at e
   rw [e]
   clear hra hrb
   obtain ⟨ab,ao,rfl⟩ := (hS.rd (List.mem_cons_of_mem _ (List.mem_cons_self ..))).base (by intro e; have := Zag la; rw [e] at this; simp at this; omega)
   repeat (first|refine Yex ?_|(refine X_id ?_;first|refine Yaf ?_|refine Yag ?_|refine Ya3 ?_|refine Ya9 ?_|refine Ybb ?_)|refine Yes ?_|refine Yab ?_)
   refine Zan (.s 0 (.s 1 (.s 3 (.s 4 (.s 6 (.h 2 (.h 5 (.s 7 (.s 8 (.h 9 .nil .no))) .no) .no)))))) mixed (by kernel_rfl) rfl ?_
   have hS := hS.drew
   repeat (first|(refine Zae ?_;first|refine Ya0 ?_))
   refine Zak rfl rfl (fun _ => Zas (l := 12) (h := 16) rfl rfl rfl rfl (.inr ⟨_,_,rfl,by omega,by omega,by omega⟩) (.inr ⟨_,_,rfl,by omega,by omega,by omega⟩)) rfl rfl ?_
   rw [show sub (some ⟨ab,ao,none⟩) 12 1 ca = some ⟨ab,ao + 12,none⟩ by unfold sub; rw [if_neg (by omega)]; simp [Zbs]]
   repeat (first|(refine Zae ?_;first|refine Ya0 ?_))
   refine Zak rfl rfl (fun _ => Zas (l := 16) (h := 20) rfl rfl rfl rfl (.inr ⟨_,_,rfl,by omega,by omega,by omega⟩) (.inr ⟨_,_,rfl,by omega,by omega,by omega⟩)) rfl rfl ?_
   rw [show sub (some ⟨ab,ao,none⟩) 16 1 ca = some ⟨ab,ao + 16,none⟩ by unfold sub; rw [if_neg (by omega)]; simp [Zbs]]
   repeat (first|(refine Zae ?_;first|refine Ya0 ?_|refine Yas ?_))
   refine Zaa _ rfl rfl rfl rfl rfl (Zk0 ab ao 12 4 ca la _ (hS.rd (List.mem_cons_of_mem _ (List.mem_cons_self ..))) (by omega) (by omega) (by omega) (by omega)) ?_
   rintro _ _ ⟨rfl,rfl⟩
   repeat (first|(refine Zae ?_;first|refine Yas ?_)|(refine Zac ?_;first|refine Yax ?_))
   refine Zaa _ rfl rfl rfl rfl rfl (Zk0 ab ao 16 4 ca la _ (hS.rd (List.mem_cons_of_mem _ (List.mem_cons_self ..))) (by omega) (by omega) (by omega) (by omega)) ?_
   rintro _ _ ⟨rfl,rfl⟩
   repeat (first|refine Yao (fun _ hS _ => ?_)|refine Yae ?_|refine Yab ?_|(refine Zae ?_;first|refine Yaw ?_|refine Ybj ?_|refine Yce ?_|refine Yas ?_)|(refine Zac ?_;first|refine Yax ?_))
   refine Zan (.s 0 (.s 1 (.s 2 (.h 3 .nil .no)))) mixed (by kernel_rfl) rfl ?_
   have hS := hS.drew
   repeat (first|(refine Zae ?_;first|refine Ya0 ?_|refine Yc5 ?_))
   refine Zak rfl rfl (fun _ => Zas (l := 20) (h := la.length) rfl rfl rfl rfl (.inl ⟨rfl,rfl⟩) (.inr ⟨_,_,rfl,by omega,by omega,by omega⟩)) rfl rfl ?_
   rw [show sub (some ⟨ab,ao,none⟩) 20 1 ca = some ⟨ab,ao + 20,none⟩ by unfold sub; rw [if_neg (by omega)]; simp [Zbs]]
   repeat (first|(refine Zae ?_;first|refine Yas ?_))
   have hla2 : Rd _ (bytes (some ⟨ab,ao,none⟩) la) := hS.rd (List.mem_cons_of_mem _ (List.mem_cons_self ..))
   have hla3 := hla2.subBytes (l := 20) (h := la.length) (c := ca) (by omega) (by omega)
   rw [show sub (some ⟨ab,ao,none⟩) 20 1 ca = some ⟨ab,ao + 20,none⟩ by unfold sub; rw [if_neg (by omega)]; simp [Zbs]] at hla3
   refine Zrh rfl rfl rfl rfl rfl hS hla3 (by simp) Zc6 (by simp) (fun w hS => ?_)
   clear hla2 hla3
   obtain ⟨d,hde⟩ : ∃ d,d = (la.drop 20).take 32 := ⟨_,rfl⟩
   have hd32 : d.length = 32 := by rw [hde]; simp; omega
   rw [show Zai (bv (List.replicate 32 0)) 0 ((bv ((la.drop 20).take (la.length - 20))).take 32) = bv d by
    rw [← Zlt,List.take_take,show min 32 (la.length - 20) = 32 by omega,← hde]
    exact Zmo (by simp [hd32])] at hS
   have hl32 : LenO (bv d) 32 := ⟨by simp [hd32]⟩
   repeat (first|refine Yae ?_|refine Yab ?_|(refine Zae ?_;first|refine Yaw ?_)|(refine Zac ?_;first|refine Yax ?_))
   obtain ⟨no,hno⟩ : ∃ no,no = Zc4 ((la.drop 16).take 4) := ⟨_,rfl⟩
   obtain ⟨cnt,hcnt⟩ : ∃ cnt,cnt = Zc4 ((la.drop 12).take 4) := ⟨_,rfl⟩
   unfold Zv5
   rw [← hno,← hcnt,← hde]
   rw [← hno] at hS
   refine Zan (.s 0 (.s 1 (.s 2 (.s 3 (.s 4 (.s 5 (.s 6 (.s 7 (.s 8 (.s 9 (.h 10 (.h 11 (.s 12 (.s 13 (.s 14 (.s 15 (.h 16 (.s 17 (.s 18 (.h 19 (.s 20 (.h 21 (.s 22 .nil) .no)) .no))) .no))))) .no) .no))))))))))) mixed (by kernel_rfl) rfl ?_
   have hS := hS.drew
   repeat (first|(refine Zae ?_;first|refine Ya0 ?_|refine Ybg ?_|refine Ybm ?_|refine Ybx ?_|refine Yas ?_))
   refine Zaa _ rfl rfl rfl rfl rfl (Z75 number at_ cnt no d hd32 _) ?_
   rintro _ w ⟨q,k,rfl,hS'⟩
   replace hS := hS.plus hS'
   clear hS'
   repeat (first|(refine Zae ?_;first|refine Yas ?_)|(refine Zac ?_;first|refine Yax ?_))
   refine Zaa _ rfl rfl rfl rfl rfl (Zub _ _ _ _ _ _ la (Zia number at_ cnt no d) _ (hS.rd (List.mem_cons_of_mem _ (List.mem_cons_of_mem _ (List.mem_cons_self ..)))) (hS.rd (List.mem_cons_self ..)) rfl (Zgc ..)) ?_
   rintro _ _ ⟨rfl,rfl⟩
   by_cases hq : la = Zia number at_ cnt no d
   ·rw [decide_eq_true hq]
    repeat (first|(refine X_id ?_;first|(refine Zad 132 rfl rfl rfl rfl rfl hS (Zfa lp p o s m j done rdn D _ (hLo.rd hS) (hDo.rd hS) hj) ?_;rintro _ _ rfl hS)|refine Yao (fun _ hS _ => ?_)|refine Yb6 (fun _ hS => ?_))|refine Yah ?_|refine Yab ?_|refine Ycu ?_|(refine Zae ?_;first|refine Yaw ?_|refine Ya0 ?_|refine Ybj ?_|refine Yct ?_|refine Yas ?_|refine Yca ?_|refine Ycx ?_|refine Zcg rfl rfl rfl rfl (fun _ => Zq7 rfl rfl rfl) rfl rfl ?_|refine Ycv ?_|refine Yda ?_)|(refine Zac ?_;first|refine Yax ?_))
    exact ⟨b,cb,rfl,hcb,hS.pick [1]⟩
   ·rw [decide_eq_false hq]
    repeat (first|refine Yao (fun _ hS _ => ?_)|refine Yb6 (fun _ hS => ?_)|refine Yah ?_|refine Yab ?_|refine Ycu ?_|(refine Zae ?_;first|refine Yaw ?_|refine Ya0 ?_|refine Ybj ?_|refine Ycc ?_|refine Yas ?_|refine Ydk ?_|refine Ycr ?_)|(refine Zac ?_;first|refine Yax ?_))
    exact ⟨b,cb,rfl,hcb,hS.pick [1]⟩
  ·rw [if_pos (.inr heb)] at e
   repeat (first|refine Yex ?_|(refine X_id ?_;first|refine Yaf ?_|refine Yag ?_|refine Ya3 ?_|refine Ya9 ?_|refine Ybl ?_|refine Ybb ?_)|refine Yer ?_|refine Yab ?_)
   refine Zan (.s 0 (.s 1 (.h 2 (.s 3 (.h 4 (.s 5 .nil) .no)) .no))) mixed (by kernel_rfl) rfl ?_
   have hS := hS.drew
   repeat (first|refine Yao (fun _ hS _ => ?_)|refine Yb6 (fun _ hS => ?_)|refine Yah ?_|refine Yab ?_|refine Yaq ?_|refine Ycu ?_|(refine Zae ?_;first|refine Yaw ?_|refine Ybj ?_|refine Ybx ?_|refine Yas ?_)|(refine Zac ?_;first|refine Yax ?_))
   rw [e]
   exact ⟨none,0,rfl,Nat.le_refl _,hS.drops.row_none⟩
 ·rw [if_pos (.inl hea)] at e
  repeat (first|refine Ye0 ?_|(refine X_id ?_;first|refine Yaf ?_|refine Yag ?_|refine Ya3 ?_|refine Ybe ?_|refine Ybl ?_)|refine Yer ?_|refine Yab ?_)
  refine Zan (.s 0 (.s 1 (.h 2 (.s 3 (.h 4 (.s 5 .nil) .no)) .no))) mixed (by kernel_rfl) rfl ?_
  have hS := hS.drew
  repeat (first|refine Yao (fun _ hS _ => ?_)|refine Yb6 (fun _ hS => ?_)|refine Yah ?_|refine Yab ?_|refine Yaq ?_|refine Ycu ?_|(refine Zae ?_;first|refine Yaw ?_|refine Ybj ?_|refine Ybx ?_|refine Yas ?_)|(refine Zac ?_;first|refine Yax ?_))
  rw [e]
  exact ⟨none,0,rfl,Nat.le_refl _,hS.drops.row_none⟩
/-! ### clear -/
def Ziu : List UInt8 := List.replicate 64 0
def Zqt (D : DiskM) (number : Int) : Int × DiskM :=
 if ¬ (D.read 1).1 = 0 then ((D.read 1).1,D) else if ¬ Zc4 ((D.read 1).2.take 8) = number then (0,D) else Zdu (Zd0 (0,D) 1 Ziu)
theorem clear_ (lp p : Nat) (o s m : Int) (j : Nat) (done : Int) (rdn : Bool) (D : DiskM) (number : Int) (W : World) (F : Nat → Prop) (hline : D.line.length < 1073741820) (hS : St W F [Zco lp p o s m j done rdn,disk p D] W) :
  Calls Tryz.prog 131 #[.pointer (some ⟨lp,0,none⟩),.int .i64 number] W (Ret fun v w => v = .int .i64 (Zqt D number).1 ∧ St W F [Zco lp p o s m j done rdn,disk p (Zqt D number).2] w) := by
 have hok := (hS.rd (List.mem_cons_of_mem _ (List.mem_cons_self ..)) : Rd W (disk p D)).disk.1
 have h64 := fun (h : (D.read 1).1 = 0) => Zi2 hok h
 have e : Zqt D number = if ¬ (D.read 1).1 = 0 then ((D.read 1).1,D) else if ¬ Zc4 ((D.read 1).2.take 8) = number then (0,D) else Zdu (Zd0 (0,D) 1 Ziu) := rfl
 refine Zab Tryz.func131 rfl Tryz.ntmps131 rfl ?_
 repeat (first|refine Yeg ?_|(refine X_id ?_;first|refine Yaf ?_|refine Yag ?_|refine Yav ?_|refine Yan ?_|refine Yap ?_)|refine Yeh ?_|refine Yab ?_)
 refine Zaa _ rfl rfl rfl rfl rfl (Zxi p D 1 _ (hS.rd (List.mem_cons_of_mem _ (List.mem_cons_self ..))) (by omega)) ?_
 rintro _ w ⟨a,ca,rfl,hca,hS'⟩
 replace hS := hS.plus hS'
 clear hS'
 generalize D.read 1 = ra at h64 hca hS e ⊢
 obtain ⟨ea,la⟩ := ra
 simp only at h64 hca hS e ⊢
 by_cases hea : ea = 0
 ·subst hea
  have hla := h64 rfl
  rw [if_neg (by simp)] at e
  obtain ⟨ab,ao,rfl⟩ := (hS.rd (List.mem_cons_self ..)).base (by intro e; have := Zag la; rw [e] at this; simp at this; omega)
  have hsm : ∀ w',Rd w' (bytes (some ⟨ab,ao,none⟩) la) → Calls Tryz.prog 190 #[.slice (some ⟨ab,ao,none⟩) 8 ca] w' (Ret fun v w'' => v = .int .i64 (Zc4 (la.take 8)) ∧ w' = w'') := fun w' h => by
   have := Zk0 ab ao 0 8 ca la w' h (by omega) (by omega) (by omega) (by omega)
   simpa using this
  repeat (first|refine Yex ?_|refine Yfq ?_|refine Yeh ?_|refine Yab ?_)
  refine X_yl (Zas (l := 0) (h := 8) rfl rfl rfl rfl (.inr ⟨_,_,rfl,by omega,by omega,by omega⟩) (.inl ⟨rfl,rfl⟩)) rfl rfl ?_
  rw [sub_zero,Nat.sub_zero,Nat.sub_zero]
  generalize Zc4 (la.take 8) = n at hsm e
  by_cases hn : n = number
  ·subst hn
   rw [if_neg (by simp)] at e
   repeat (first|refine Yex ?_|(refine X_id ?_;first|(refine Zaa 190 rfl rfl rfl rfl rfl (hsm _ (hS.rd (List.mem_cons_self ..))) ?_;rintro _ _ ⟨rfl,rfl⟩)|refine Yaf ?_|refine Yag ?_|refine Yav ?_|refine Yan ?_|refine Ya9 ?_|refine Ybb ?_|refine Ybn ?_|refine Yap ?_|refine Ya7 (fun _ _ hS _ => ?_))|refine Yes ?_|refine Yab ?_)
   rename_i sp _ _
   refine Zo3 (c := 64) rfl rfl rfl (by omega) (by omega) rfl rfl hS (fun zb _ hS => ?_)
   repeat (first|refine Yaa ?_)
   obtain ⟨_,hc,hr,hw,hbk⟩ := hS.call [false,true,false,false,true]
   refine Zaa _ rfl rfl rfl rfl rfl (Zkw sp p (0,D) 1 _ 64 64 Ziu _ _ hc ((hr _ (List.mem_cons_self ..)).mono fun h hh => ⟨h,Zk4 h hh,fun _ _ e => e⟩) rfl (by simp only; omega)) ?_
   rintro _ w ⟨_,hS⟩
   replace hS := hbk hS
   clear hc hr hw hbk
   have hl := Zd6 (0,D) 1 Ziu
   simp only at hl
   repeat (first|refine Yeg ?_|refine Yaf ?_|refine Yeh ?_|refine Yab ?_)
   obtain ⟨_,hc,hr,hw,hbk⟩ := hS.call [true,true,false,false,false]
   refine Zaa _ rfl rfl rfl rfl rfl (Zn3 sp p (Zd0 (0,D) 1 Ziu) _ _ hc (by omega)) ?_
   rintro _ w ⟨_,hS⟩
   replace hS := hbk hS
   clear hc hr hw hbk
   rw [e]
   generalize Zdu (Zd0 (0,D) 1 Ziu) = Y at hS ⊢
   repeat (first|refine Yeg ?_|(refine X_id ?_;first|refine Yaf ?_|refine Yag ?_|refine Yav ?_|refine Yan ?_|refine Yap ?_)|refine Yeu ?_|refine Yei ?_)
   refine ⟨rfl,?_⟩
   have hS := hS.pick [4,1]
   exact hS
  ·rw [if_pos hn] at e
   repeat (first|refine Yex ?_|(refine X_id ?_;first|(refine Zaa 190 rfl rfl rfl rfl rfl (hsm _ (hS.rd (List.mem_cons_self ..))) ?_;rintro _ _ ⟨rfl,rfl⟩)|refine Yaf ?_|refine Yag ?_|refine Ya9 ?_|refine Ybl ?_)|refine Yey ?_|refine Yez ?_)
   rw [e]
   exact ⟨rfl,hS.pick [1,1]⟩
 ·rw [if_pos hea] at e
  repeat (first|refine Ye0 ?_|(refine X_id ?_;first|refine Yaf ?_|refine Yag ?_|refine Ya3 ?_|refine Ybe ?_|refine Ybl ?_)|refine Yey ?_|refine Yez ?_)
  rw [e]
  exact ⟨rfl,hS.pick [1,1]⟩
instance : NoGuard Tryz.prog 56 := ⟨by kernel_rfl⟩

theorem Z2z (D : DiskM) (hok : D.ok) (j : Nat) (number at_ : Int) : (entM D j number at_).d.length = 32 := by
 unfold entM
 split
 ·simp [Ent.none]
 ·split
  ·simp [Ent.none]
  ·rename_i h
   have h1 : (D.read (1 + 2 * at_)).1 = 0 := Decidable.byContradiction fun e => h (.inl e)
   have := Zi2 hok h1
   simp [Zv5,this]
theorem Zyt {D : DiskM} {j : Nat} {number at_ : Int} (h : (entM D j number at_).ok = true) : 0 ≤ at_ ∧ at_ < (j : Int) / 2 := by
 unfold entM at h
 split at h
 ·simp [Ent.none] at h
 ·rename_i h'; omega
theorem Z8y (D : DiskM) (hok : D.ok) (j : Nat) (number at_ : Int) : (entM D j number at_).b.length ≤ 64 := by
 unfold entM
 split
 ·simp [Ent.none]
 ·split
  ·simp [Ent.none]
  ·rename_i h
   have h1 : (D.read (1 + 2 * at_ + 1)).1 = 0 := Decidable.byContradiction fun e => h (.inr e)
   have := Zi2 hok h1
   simp [Zv5,this]
theorem Zij (number : Int) (d : List (Int × List UInt8)) (h : ∀ x ∈ d,x.2.length ≤ 64) : (Za1 (Zgq number d)).length ≤ 20 + d.length * 76 := by
 have key : ∀ d : List (Int × List UInt8),(∀ x ∈ d,x.2.length ≤ 64) → (Za1 (d.flatMap fun v => [bigB v.1 4,v.2])).length ≤ d.length * 76 := by
  intro d
  induction d with
  | nil => intro _; simp [Za1]
  | cons x d ih =>
   intro h
   have h1 := ih fun y hy => h y (List.mem_cons_of_mem _ hy)
   have h2 := h x (List.mem_cons_self ..)
   simp only [Za1,List.flatMap_cons,List.cons_append,List.nil_append,List.length_append,Za4,Zah,List.length_cons] at h1 ⊢
   omega
 have h1 := key d h
 unfold Za1 at h1
 simp only [Zgq,Za1,List.flatMap_cons,List.cons_append,List.nil_append,List.length_append,Za4,Zah]
 omega
def entW (e : Ent) : Int × List UInt8 := (e.no,e.b)
def Zlf (e0 e : Ent) : Bool := e.ok && decide (e.count = e0.count) && decide (e.d = e0.d)
def Zde (D : DiskM) (j : Nat) (number : Int) (n : Nat) : List Ent := (List.range n).map fun i => entM D j number (i : Nat)
theorem Zqm (D : DiskM) (j : Nat) (number : Int) (n : Nat) : Zde D j number (n + 1) = Zde D j number n ++ [entM D j number (n : Nat)] := by simp [Zde,List.range_succ]
def Zqj (D : DiskM) (j : Nat) (number : Int) : Option (List (Int × List UInt8)) :=
 if (entM D j number 0).ok = true ∧ 1 ≤ (entM D j number 0).count then
  if (Zde D j number (entM D j number 0).count.toNat).all (Zlf (entM D j number 0)) = true then some ((Zde D j number (entM D j number 0).count.toNat).map entW) else none
 else none
def Zdy (rd fs : List Int) (D : DiskM) (j : Nat) (number : Int) : List (Int × List UInt8) :=
 match Zqj D j number with
 | none => []
 | some ws => if Zcj ws = 0 ∧ sumB rd fs number ws = (entM D j number 0).d then ws else []
theorem Zso {D : DiskM} {j : Nat} {number : Int} {e0 : Ent} {n i : Nat} (hi : i < n) (h : Zlf e0 (entM D j number (i : Nat)) = false) : (Zde D j number n).all (Zlf e0) = false := by
 rw [List.all_eq_false]
 exact ⟨_,List.mem_map.2 ⟨i,List.mem_range.2 hi,rfl⟩,by simp [h]⟩
theorem Z8s (lp p : Nat) (o s m : Int) (j : Nat) (done : Int) (rdn : Bool) (D : DiskM) (number : Int) (rd fs : List Int) (W : World) (hG : Gl W noF rd fs) (hL : Rd W (Zco lp p o s m j done rdn)) (hD : Rd W (disk p D)) (hj : j ≤ 4096) (hline : D.line.length < 1073741824) :
  Calls Tryz.prog 129 #[.pointer (some ⟨lp,0,none⟩),.int .i64 number] W (Ret fun v w => ∃ a c ws O,v = .slice a ws.length c ∧ ws.map Wr.data = Zdy rd fs D j number ∧ (a = none ↔ ws = []) ∧ (∀ v ∈ ws,v.x ∈ O) ∧
   St W noF [own 181 2 a c (ws.flatMap Wr.cells),rds O] w) := by
 have hS := St.start W
 have hLo := hL.ro
 have hDo := hD.ro
 have hok := hD.disk.1
 obtain ⟨e0,he0⟩ : ∃ e0,e0 = entM D j number 0 := ⟨_,rfl⟩
 have hd0 : e0.d.length = 32 := he0 ▸ Z2z D hok j number 0
 have hl0 : LenO (bv e0.d) 32 := ⟨by simp [hd0]⟩
 have hnil : ∀ w,St W noF [] w → Zdy rd fs D j number = [] → ∃ a c ws O,(Value.slice none 0 0) = .slice a ws.length c ∧ ws.map Wr.data = Zdy rd fs D j number ∧ (a = none ↔ ws = []) ∧ (∀ v ∈ ws,v.x ∈ O) ∧
   St W noF [own 181 2 a c (ws.flatMap Wr.cells),rds O] w := fun w h e => ⟨none,0,[],[],rfl,by rw [e]; rfl,by simp,by simp,h.rdsNil.own_none _ _ _⟩
 refine Zab Tryz.func129 rfl Tryz.ntmps129 rfl ?_
 repeat (first|refine Yeg ?_|refine Yev ?_|refine Yae ?_|refine Ycl ?_|refine Yad ?_|refine Yab ?_)
 refine Zaa _ rfl rfl rfl rfl rfl (Z2y lp p o s m j done rdn D number 0 _ (hLo.rd hS) (hDo.rd hS) hj hline (by omega)) ?_
 rintro _ w ⟨a0,c0,rfl,hc0,hS'⟩
 replace hS := hS.plus hS'
 clear hS'
 rw [← he0] at hS hc0 ⊢
 have hfl : Zqj D j number = if e0.ok = true ∧ 1 ≤ e0.count then if (Zde D j number e0.count.toNat).all (Zlf e0) = true then some ((Zde D j number e0.count.toNat).map entW) else none else none := by unfold Zqj; rw [← he0]
 obtain ⟨no0,b0,n0,d0,ok0⟩ := e0
 simp only at hd0 hl0 hfl hS hc0
 unfold Ent.val
 simp only
 cases ok0
 ·repeat (first|refine Ye0 ?_|(refine X_id ?_;first|refine Yaf ?_|refine Yag ?_|refine Ya3 ?_|refine Ybe ?_|refine Ybq ?_|refine Yao (fun _ hS _ => ?_)|refine Yar (fun _ _ hS _ => ?_))|refine Yey ?_|refine Yfr ?_)
  refine hnil _ hS.drops ?_
  unfold Zdy
  rw [hfl,if_neg (by simp)]
 ·by_cases h1 : n0 < 1
  ·repeat (first|refine Yex ?_|(refine X_id ?_;first|refine Yaf ?_|refine Yag ?_|refine Ya3 ?_|refine Ya9 ?_|refine Ybc ?_|refine Ya1 ?_|refine Yao (fun _ hS _ => ?_)|refine Yar (fun _ _ hS _ => ?_))|refine Yey ?_|refine Yfr ?_)
   refine hnil _ hS.drops ?_
   unfold Zdy
   rw [hfl,if_neg (by omega)]
  ·repeat (first|refine Yex ?_|(refine X_id ?_;first|refine Yaf ?_|refine Yag ?_|refine Ya3 ?_|refine Ya9 ?_|refine Ybc ?_|refine Yaz ?_|refine Yao (fun _ hS _ => ?_)|refine Yar (fun _ _ hS _ => ?_))|refine Yae ?_|refine Zhu ?_|refine Yad ?_|refine Yaj ?_|refine Yal ?_|refine Yai ?_|refine Yab ?_)
   rename_i b6 w6 _ _ b8 w8 _ _ w9 _ _ w10 _
   replace hS := (hS.pick [0]).rdsNil.own_none 181 2 none
   rw [if_pos ⟨rfl,by omega⟩] at hfl
   have hbad : ∀ i : Nat,i < n0.toNat → Zlf ⟨no0,b0,n0,d0,true⟩ (entM D j number (i : Nat)) = false → Zdy rd fs D j number = [] := fun i hi h => by
    unfold Zdy
    rw [hfl,if_neg (by rw [Zso hi h]; simp)]
   refine Zaj (α := Nat × Option Addr × Nat × List Wr × List Bs) (fun z => [(0,.pointer (some ⟨lp,0,none⟩)),(1,.int .i64 number),(5,.slice z.2.1 z.2.2.2.1.length z.2.2.1),(7,.int .i64 n0),(8,.pointer (some ⟨b8,0,none⟩)),(10,.int .i64 (z.1 : Nat))])
    (fun z w => (z.1 ≤ n0.toNat ∧ z.1 ≤ 2048 ∧ z.2.2.2.1.length = z.1 ∧ z.2.2.2.1.length ≤ z.2.2.1) ∧ (z.2.2.2.1.map Wr.data = (Zde D j number z.1).map entW ∧ (Zde D j number z.1).all (Zlf ⟨no0,b0,n0,d0,true⟩) = true ∧ (z.2.1 = none ↔ z.1 = 0) ∧ (∀ v ∈ z.2.2.2.1,v.x ∈ z.2.2.2.2) ∧ (∀ v ∈ z.2.2.2.1,v.x.s.length ≤ 64)) ∧
     St W noF [own 181 2 z.2.1 z.2.2.1 (z.2.2.2.1.flatMap Wr.cells),rds z.2.2.2.2,pts b8 (.cells (bv d0).toArray 56)] w) (fun z => n0.toNat - z.1)
    (0,none,0,[],[]) ⟨rfl,rfl,rfl,rfl,rfl,rfl,trivial⟩ ⟨⟨Nat.zero_le _,Nat.zero_le _,rfl,Nat.le_refl _⟩,⟨rfl,rfl,by simp,by simp,by simp⟩,hS⟩ ?_
   clear hS
   rintro ⟨i,a5,c5,ws,O⟩ w ⟨⟨hi,hi2,hwl,hwc⟩,⟨hwd,hgood,hnone,hO,hw64⟩,hS⟩
   simp only at hi hi2 hwl hwc hwd hgood hnone hO hw64 hS ⊢
   by_cases hlt : i < n0.toNat
   ·have hlt' : (i : Int) < n0 := by omega
    repeat (first|refine Yeg ?_|refine Yaf ?_|refine Ya1 ?_|refine Yek ?_|refine Yab ?_)
    refine Zaa _ rfl rfl rfl rfl rfl (Z2y lp p o s m j done rdn D number (i : Nat) _ (hLo.rd hS) (hDo.rd hS) hj hline (by omega)) ?_
    rintro _ w ⟨a1,c1,rfl,hc1,hS'⟩
    replace hS := hS.plus hS'
    clear hS'
    have hok1 := fun h => (Zyt (D := D) (j := j) (number := number) (at_ := (i : Nat)) h)
    have hsucc := Zqm D j number i
    have hd1 := Z2z D hok j number (i : Nat)
    have hbadi := hbad i hlt
    have hb1 := Z8y D hok j number (i : Nat)
    generalize entM D j number (i : Nat) = e1 at hS hc1 hok1 hsucc hd1 hbadi hb1 ⊢
    obtain ⟨no1,b1,n1,d1,ok1⟩ := e1
    simp only at hd1 hS hc1 hok1 hb1
    have hl1 : LenO (bv d1) 32 := ⟨by simp [hd1]⟩
    unfold Ent.val
    simp only
    cases ok1
    ·have hf := hbadi (by simp [Zlf])
     repeat (first|refine Ye0 ?_|(refine X_id ?_;first|refine Yaf ?_|refine Yag ?_|refine Ya3 ?_|refine Ybe ?_|refine Ybq ?_|refine Yao (fun _ hS _ => ?_)|refine Yar (fun _ _ hS _ => ?_))|refine Yae ?_|refine Yad ?_|refine Ya4 ?_|refine Yak ?_|refine Yfs ?_)
     refine Zan (.s 0 (.s 1 (.s 2 (.s 3 (.h 4 (.s 5 (.s 6 (.s 7 (.s 8 (.s 9 (.s 11 (.h 10 (.s 12 (.s 13 .nil)) .no))))))) .no))))) mixed (by kernel_rfl) rfl ?_
     have hS := hS.drew
     repeat (first|refine Yeg ?_|refine Yag ?_|refine Yey ?_|refine Yfr ?_|(refine Zae ?_;first|refine Yaw ?_|refine Ya0 ?_|refine Yct ?_|refine Ydv ?_|refine Ydk ?_|refine Ycr ?_))
     exact hnil _ hS.drops hf
    ·by_cases hn : n1 = n0
     ·by_cases hd : d1 = d0
      ·subst hn hd
       repeat (first|refine Yex ?_|(refine X_id ?_;first|refine Yaf ?_|refine Yag ?_|refine Ya3 ?_|refine Ya9 ?_|refine Ybc ?_|refine Ybb ?_|refine Ybf ?_|refine Yao (fun _ hS _ => ?_)|refine Yar (fun _ _ hS _ => ?_))|refine Yeh ?_|refine Yab ?_)
       refine X_yl (Zfl rfl rfl rfl hd1 hd0) rfl rfl ?_
       rw [decide_eq_false (not_not_intro rfl)]
       repeat (first|refine Yeg ?_|refine Yaf ?_|refine Ya9 ?_|refine Ybf ?_|refine Ybd (fun _ _ hS _ => ?_)|refine Ye8 ?_|refine Yab ?_)
       have hok2 := hok1 rfl
       refine Zap rfl rfl rfl rfl rfl hS (Zfx (f := Wr.cells) (n := 2) fun _ _ => rfl) hwc (hS.rd (List.mem_cons_self ..)).own_row rfl (fun u hu => by
        simp only [List.mem_cons,List.not_mem_nil,or_false] at hu
        rcases hu with rfl | rfl <;> rfl) (by omega) (by simp only [maxLen]; omega) (fun a' c' w hS hc' hnil' => ?_)
       repeat (first|refine Yeg ?_|refine Yew ?_|refine Yad ?_|refine Yeo ?_)
       refine Zaf (z := (i,a5,c5,ws,O)) (i + 1,a',c',ws ++ [(⟨no1,⟨a1,c1,b1⟩⟩ : Wr)],O ++ [(⟨a1,c1,b1⟩ : Bs)]) ⟨rfl,rfl,?_,rfl,rfl,rfl,trivial⟩ ⟨⟨by simp only; omega,by simp only; omega,by simp; omega,by simp; omega⟩,⟨?_,?_,?_,?_,?_⟩,?_⟩ (by simp only; omega)
       ·show some _ = some _
        simp
       ·show (ws ++ _).map Wr.data = _
        rw [hsucc,List.map_append,List.map_append,hwd]
        rfl
       ·show (Zde D j number (i + 1)).all _ = true
        rw [hsucc,List.all_append,hgood]
        simp [Zlf]
       ·show a' = none ↔ i + 1 = 0
        rw [hnil']; simp
       ·intro v hv
        simp only [List.mem_append,List.mem_singleton] at hv ⊢
        rcases hv with hv | rfl
        ·exact .inl (hO v hv)
        ·exact .inr rfl
       ·intro v hv
        simp only [List.mem_append,List.mem_singleton] at hv
        rcases hv with hv | rfl
        ·exact hw64 v hv
        ·exact hb1
       ·skip
        have hS := hS.pick [4,4,0,3]
        replace hS := St.rdsCons (x := ⟨a1,c1,b1⟩) hS
        have hS := hS.pick [1,0,0]
        simpa [Wr.cells] using hS
      ·have hf := hbadi (by simp [Zlf,hd])
       repeat (first|refine Yex ?_|(refine X_id ?_;first|refine Yaf ?_|refine Yag ?_|refine Ya3 ?_|refine Ya9 ?_|refine Ybc ?_|refine Ybb ?_|refine Ybf ?_|refine Yao (fun _ hS _ => ?_)|refine Yar (fun _ _ hS _ => ?_))|refine Yeh ?_|refine Yab ?_)
       refine X_yl (Zfl rfl rfl rfl hd1 hd0) rfl rfl ?_
       rw [decide_eq_true hd]
       repeat (first|refine Yeg ?_|refine Yag ?_|refine Ya9 ?_|refine Yae ?_|refine Yad ?_|refine Ya4 ?_|refine Yak ?_|refine Yfs ?_)
       refine Zan (.s 0 (.s 1 (.s 2 (.s 3 (.h 4 (.s 5 (.s 6 (.s 7 (.s 8 (.s 9 (.s 11 (.h 10 (.s 12 (.s 13 .nil)) .no))))))) .no))))) mixed (by kernel_rfl) rfl ?_
       have hS := hS.drew
       repeat (first|refine Yeg ?_|refine Yag ?_|refine Yey ?_|refine Yfr ?_|(refine Zae ?_;first|refine Yaw ?_|refine Ya0 ?_|refine Yct ?_|refine Ydv ?_|refine Ydk ?_|refine Ycr ?_))
       exact hnil _ hS.drops hf
     ·have hf := hbadi (by simp [Zlf,hn])
      repeat (first|refine Yfe ?_|(refine X_id ?_;first|refine Yaf ?_|refine Yag ?_|refine Ya3 ?_|refine Ybe ?_|refine Ya9 ?_|refine Ybc ?_|refine Ybl ?_|refine Yao (fun _ hS _ => ?_)|refine Yar (fun _ _ hS _ => ?_))|refine Yae ?_|refine Yad ?_|refine Ya4 ?_|refine Yak ?_|refine Yfs ?_)
      refine Zan (.s 0 (.s 1 (.s 2 (.s 3 (.h 4 (.s 5 (.s 6 (.s 7 (.s 8 (.s 9 (.s 11 (.h 10 (.s 12 (.s 13 .nil)) .no))))))) .no))))) mixed (by kernel_rfl) rfl ?_
      have hS := hS.drew
      repeat (first|refine Yeg ?_|refine Yag ?_|refine Yey ?_|refine Yfr ?_|(refine Zae ?_;first|refine Yaw ?_|refine Ya0 ?_|refine Yct ?_|refine Ydv ?_|refine Ydk ?_|refine Ycr ?_))
      exact hnil _ hS.drops hf
   ·obtain rfl : i = n0.toNat := by omega
    have hn0 : ((n0.toNat : Nat) : Int) = n0 := by omega
    obtain ⟨ad,rfl⟩ : ∃ ad,a5 = some ad := by
     cases a5 with
     | none => have := hnone.1 rfl; omega
     | some ad => exact ⟨ad,rfl⟩
    obtain ⟨d,hd⟩ : ∃ d,d = ws.map Wr.data := ⟨_,rfl⟩
    rw [if_pos hgood,← hwd,← hd] at hfl
    have hfm : Zdy rd fs D j number = if Zcj d = 0 ∧ sumB rd fs number d = d0 then d else [] := by
     unfold Zdy
     rw [hfl,← he0]
    have hdw : d.length = ws.length := by rw [hd]; simp
    have hfr := Zij number d (fun x hx => by
     rw [hd] at hx
     obtain ⟨v,hv,rfl⟩ := List.mem_map.1 hx
     exact hw64 v hv)
    have hWW : ∀ w rs,St W noF (own 181 2 (some ad) c5 (ws.flatMap Wr.cells) :: rds O :: rs) w → Wrs w noF (some ad) ws := fun w rs h => ⟨(h.rd (List.mem_cons_self ..)).own_row.ro,fun v hv => (h.rd (List.mem_cons_of_mem _ (List.mem_cons_self ..))).ro.rds _ (hO v hv)⟩
    repeat (first|refine Yeg ?_|refine Yaf ?_|refine Yaz ?_|refine Yet ?_|refine Yem ?_)
    refine Zan (.s 0 (.s 1 (.s 2 (.s 3 (.h 4 (.s 5 (.s 6 (.s 7 (.s 8 (.s 9 (.s 11 (.h 10 (.s 12 (.s 13 .nil)) .no))))))) .no))))) mixed (by kernel_rfl) rfl ?_
    have hS := hS.drew
    repeat (first|(refine Zae ?_;first|refine Ya0 ?_|refine Ydv ?_|refine Yca ?_|refine Ycv ?_))
    refine Zad _ rfl rfl rfl rfl rfl hS (Zlo (some ad) c5 ws _ (hWW _ _ hS) (by omega) (fun v hv => by have := hw64 v hv; omega)) ?_
    rintro _ w rfl hS
    rw [← hd]
    by_cases hck : Zcj d = 0
    ·repeat (first|(refine Zae ?_;first|refine Ya0 ?_|refine Ycc ?_|refine Yca ?_|refine Zcg rfl rfl rfl rfl (fun _ => Zkg rfl rfl rfl (by omega)) rfl rfl ?_|refine Ycv ?_|refine Ydy ?_)|(refine Zac ?_;first|refine Yax ?_))
     refine Zad _ rfl rfl rfl rfl rfl hS (Z50 number (some ad) c5 ws rd fs _ (hG.mono fun r hr => (hr.rd hS).ro) (hWW _ _ hS) (by omega) (by rw [← hd]; omega)) ?_
     rintro _ w rfl hS
     rw [← hd]
     repeat (first|(refine Zac ?_;first|refine Yax ?_))
     refine Zcg rfl rfl rfl rfl (fun _ => Zfl rfl rfl rfl (Zky ..) hd0) rfl rfl ?_
     by_cases hsm : sumB rd fs number d = d0
     ·rw [decide_eq_false (not_not_intro hsm)]
      repeat (first|refine Yeg ?_|refine Yev ?_|refine Ye6 ?_|refine Yab ?_|refine Yb7 ?_|refine Yam ?_|(refine Zae ?_;first|refine Yaw ?_|refine Ycc ?_))
      refine ⟨some ad,c5,ws,O,rfl,?_,?_,hO,hS.pick [0,0]⟩
      ·rw [hfm,if_pos ⟨hck,hsm⟩,hd]
      ·constructor
       ·intro h; cases h
       ·intro h; rw [h] at hwl; simp at hwl; omega
     ·rw [decide_eq_true hsm]
      repeat (first|refine Yeg ?_|refine Yag ?_|refine Yey ?_|refine Yfr ?_|(refine Zae ?_;first|refine Yaw ?_|refine Ycc ?_))
      exact hnil _ hS.drops (by rw [hfm,if_neg (fun h => hsm h.2)])
    ·repeat (first|refine Yeg ?_|refine Yag ?_|refine Yey ?_|refine Yfr ?_|(refine Zae ?_;first|refine Yaw ?_|refine Ya0 ?_|refine Yct ?_|refine Ycc ?_|refine Zcg rfl rfl rfl rfl (fun _ => Zkf rfl rfl rfl (by omega)) rfl rfl ?_|refine Ydk ?_|refine Ycr ?_)|(refine Zac ?_;first|refine Yax ?_))
     exact hnil _ hS.drops (by rw [hfm,if_neg (fun h => hck h.1)])
theorem Zfj {d : List (Int × List UInt8)} (h : Zcj d = 0) : ∀ x ∈ d,0 ≤ x.1 ∧ x.2.length = 64 := by
 intro x hx
 unfold Zcj at h
 by_cases ha : d.any badW = true
 ·rw [if_pos ha] at h; cases h
 ·have : badW x = false := by
   cases hb : badW x
   ·rfl
   ·exact absurd (List.any_eq_true.2 ⟨x,hx,hb⟩) ha
  unfold badW at this
  simp only [Bool.or_eq_false_iff,decide_eq_false_iff_not] at this
  omega
theorem Z1y {D : DiskM} {j : Nat} {number at_ : Int} (h : (entM D j number at_).ok = true) : (entM D j number at_).no < (D.laid.length : Int) - 1 - j := by
 unfold entM at h ⊢
 split at h
 ·simp [Ent.none] at h
 ·rename_i h1
  rw [if_neg h1]
  split at h
  ·simp [Ent.none] at h
  ·rename_i h2
   rw [if_neg h2]
   simp only [Zv5,Bool.and_eq_true,decide_eq_true_eq] at h ⊢
   exact h.2
theorem Zv1 (rd fs : List Int) (D : DiskM) (j : Nat) (number : Int) : (∀ x ∈ Zdy rd fs D j number,0 ≤ x.1 ∧ x.1 < (D.laid.length : Int) - 1 - j ∧ x.2.length = 64) ∧ ((Zdy rd fs D j number).length : Int) ≤ (j : Int) / 2 := by
 unfold Zdy
 cases hf : Zqj D j number with
 | none => simp; omega
 | some ws =>
  simp only
  split
  ·rename_i hc
   unfold Zqj at hf
   split at hf
   ·split at hf
    ·rename_i h1 h2
     simp only [Option.some.injEq] at hf
     have hall := List.all_eq_true.1 h2
     have hg : ∀ e ∈ Zde D j number (entM D j number 0).count.toNat,e.ok = true := fun e he => by
      have := hall e he
      simp only [Zlf,Bool.and_eq_true] at this
      exact this.1.1
     constructor
     ·intro x hx
      have h3 := Zfj hc.1 x hx
      refine ⟨h3.1,?_,h3.2⟩
      rw [← hf] at hx
      obtain ⟨e,he,rfl⟩ := List.mem_map.1 hx
      obtain ⟨i,hi,rfl⟩ := List.mem_map.1 he
      exact Z1y (hg _ he)
     ·rw [← hf]
      simp only [List.length_map,Zde,List.length_range]
      rcases Nat.eq_zero_or_pos (entM D j number 0).count.toNat with h0 | h0
      ·rw [h0]; omega
      ·have := hg (entM D j number ((entM D j number 0).count.toNat - 1 : Nat)) (List.mem_map.2 ⟨_,List.mem_range.2 (by omega),rfl⟩)
       have := (Zyt this).2
       omega
    ·cases hf
   ·cases hf
  ·simp; omega

structure RedoM where
 e : Int
 D : DiskM
 done : Int
 redone : Bool
def last : Int := 1152921504606846976
def Zeh (rd fs : List Int) (D : DiskM) (j : Nat) (done : Int) (rdn : Bool) : RedoM :=
 if ¬ (D.read 0).1 = 0 then ⟨(D.read 0).1,D,done,rdn⟩ else
 if (Zbd rd fs (D.read 0).2).2 = false then ⟨5,D,done,rdn⟩ else
 if last ≤ (Zbd rd fs (D.read 0).2).1 then ⟨0,D,(Zbd rd fs (D.read 0).2).1,rdn⟩ else
 if Zdy rd fs D j ((Zbd rd fs (D.read 0).2).1 + 1) = [] then
  ⟨(Zqt D ((Zbd rd fs (D.read 0).2).1 + 1)).1,(Zqt D ((Zbd rd fs (D.read 0).2).1 + 1)).2,(Zbd rd fs (D.read 0).2).1,rdn⟩
 else
  ⟨(layM rd fs j (0,D) ((Zbd rd fs (D.read 0).2).1 + 1) (Zdy rd fs D j ((Zbd rd fs (D.read 0).2).1 + 1))).1,(layM rd fs j (0,D) ((Zbd rd fs (D.read 0).2).1 + 1) (Zdy rd fs D j ((Zbd rd fs (D.read 0).2).1 + 1))).2,
   if (layM rd fs j (0,D) ((Zbd rd fs (D.read 0).2).1 + 1) (Zdy rd fs D j ((Zbd rd fs (D.read 0).2).1 + 1))).1 = 0 then (Zbd rd fs (D.read 0).2).1 + 1 else (Zbd rd fs (D.read 0).2).1,true⟩
theorem Qab (lp p : Nat) (o s m : Int) (j : Nat) (done : Int) (rdn : Bool) (D : DiskM) (rd fs : List Int) (W : World) (F : Nat → Prop) (hG : Gl W F rd fs) (hj : j ≤ 4096) (hline : D.line.length < 1073700000) (hS : St W F [Zco lp p o s m j done rdn,disk p D] W) :
  Calls Tryz.prog 80 #[.pointer (some ⟨lp,0,none⟩)] W (Ret fun v w => v = .int .i64 (Zeh rd fs D j done rdn).e ∧ St W F [Zco lp p o s m j (Zeh rd fs D j done rdn).done (Zeh rd fs D j done rdn).redone,disk p (Zeh rd fs D j done rdn).D] w) := by
 have hok := (hS.rd (List.mem_cons_of_mem _ (List.mem_cons_self ..)) : Rd W (disk p D)).disk.1
 have h64 := fun (h : (D.read 0).1 = 0) => Zi2 hok h
 obtain ⟨R,hR⟩ : ∃ R,R = Zeh rd fs D j done rdn := ⟨_,rfl⟩
 rw [← hR]
 have e := hR
 unfold Zeh at e
 clear hR
 refine Zab Tryz.func80 rfl Tryz.ntmps80 rfl ?_
 repeat (first|refine Yeg ?_|(refine X_id ?_;first|refine Yaf ?_|refine Yag ?_|refine Yav ?_|refine Yan ?_|refine Yap ?_)|refine Yeh ?_|refine Yab ?_)
 refine Zaa _ rfl rfl rfl rfl rfl (Zxi p D 0 _ (hS.rd (List.mem_cons_of_mem _ (List.mem_cons_self ..))) (by omega)) ?_
 rintro _ w ⟨a,ca,rfl,hca,hS'⟩
 replace hS := hS.plus hS'
 clear hS'
 generalize D.read 0 = ra at h64 hca hS e ⊢
 obtain ⟨ea,la⟩ := ra
 simp only at h64 hca hS e ⊢
 by_cases hea : ea = 0
 ·subst hea
  have hla := h64 rfl
  rw [if_neg (by simp)] at e
  rw [hla]
  have hnb : (Zbd rd fs la).2 = true → 0 ≤ (Zbd rd fs la).1 ∧ (Zbd rd fs la).1 ≤ 1152921504606846976 := fun h => by
   unfold Zbd at h ⊢
   split at h
   ·rename_i h1; rw [if_pos h1]; omega
   ·rename_i h1
    rw [if_neg h1]
    simp only [Zi6,Bool.and_eq_true,decide_eq_true_eq] at h ⊢
    omega
  repeat (first|refine Yeg ?_|refine Yfq ?_|refine Yes ?_|refine Yab ?_)
  refine Zad _ rfl rfl rfl rfl rfl hS (Z4f a ca la rd fs _ (hG.mono fun r hr => (hr.rd hS).ro) (hS.rd (List.mem_cons_self ..)) hla (by omega)) ?_
  rintro _ w rfl hS
  generalize Zbd rd fs la = hn at hnb e ⊢
  obtain ⟨n,ok⟩ := hn
  simp only at hnb e ⊢
  cases ok
  ·rw [if_pos rfl] at e
   subst e
   repeat (first|refine Yeg ?_|refine Yaf ?_|refine Yag ?_|refine Ya3 ?_|refine Ybq ?_|refine Yey ?_|refine Yez ?_)
   exact ⟨rfl,hS.pick [1,1]⟩
  ·rw [if_neg (by simp)] at e
   have hn1 := hnb rfl
   by_cases hl : last ≤ n
   ·rw [if_pos hl] at e
    subst e
    unfold last at hl
    repeat (first|refine Yeg ?_|(refine X_id ?_;first|refine Yaf ?_|refine Yag ?_|refine Yav ?_|refine Yan ?_|refine Ya3 ?_|refine Ybc ?_|refine Yb2 ?_|refine Yao (fun _ hS _ => ?_))|refine Yfm ?_|refine Yez ?_)
    exact ⟨rfl,hS.pick [1,1]⟩
   ·rw [if_neg hl] at e
    unfold last at hl
    repeat (first|refine Yeg ?_|(refine X_id ?_;first|refine Yaf ?_|refine Yag ?_|refine Yav ?_|refine Yan ?_|refine Ya3 ?_|refine Ybc ?_|refine Yb4 ?_|refine Yay ?_|refine Yao (fun _ hS _ => ?_))|refine Yes ?_|refine Yab ?_)
    have hfg := Zv1 rd fs D j (n + 1)
    refine Zaa _ rfl rfl rfl rfl rfl (Z8s lp p o s m j n rdn D (n + 1) rd fs _ (hG.mono fun r hr => (hr.rd hS).ro) (hS.rd (List.mem_cons_of_mem _ (List.mem_cons_self ..))) (hS.rd (List.mem_cons_of_mem _ (List.mem_cons_of_mem _ (List.mem_cons_self ..)))) hj (by omega)) ?_
    rintro _ w ⟨fa,fc,ws,O,rfl,hwd,hnone,hO,hS'⟩
    replace hS := hS.plus hS'
    clear hS'
    rw [← hwd] at e hfg
    by_cases hws : ws = []
    ·obtain rfl := hnone.2 hws
     rw [if_pos (by rw [hws]; rfl)] at e
     subst e
     repeat (first|refine Yeg ?_|(refine X_id ?_;first|refine Yaf ?_|refine Yag ?_|refine Yay ?_|refine X_yl (Zha rfl rfl rfl) rfl rfl ?_)|refine Yes ?_|refine Yab ?_)
     obtain ⟨_,hc,hr,hw,hbk⟩ := hS.call [false,false,false,true,true]
     refine Zaa _ rfl rfl rfl rfl rfl (clear_ lp p o s m j n rdn D (n + 1) _ _ (by omega) hc) ?_
     rintro _ w ⟨rfl,hS⟩
     replace hS := hbk hS
     clear hc hr hw hbk
     repeat (first|refine Yeg ?_|refine Yag ?_|refine Yah ?_|refine Yei ?_)
     exact ⟨rfl,hS.pick [0,0]⟩
    ·obtain ⟨ad,rfl⟩ : ∃ ad,fa = some ad := by
      cases fa with
      | none => exact absurd (hnone.1 rfl) hws
      | some ad => exact ⟨ad,rfl⟩
     rw [if_neg (by simpa using hws)] at e
     have hwl : ws.length ≤ 2048 := by
      have := hfg.2
      rw [List.length_map] at this
      omega
     repeat (first|refine Yeg ?_|(refine X_id ?_;first|refine Yaf ?_|refine Yag ?_|refine Yav ?_|refine Yan ?_|refine Ybn ?_|refine Yay ?_|refine X_yl (Zha rfl rfl rfl) rfl rfl ?_|refine Yap ?_|refine Yao (fun _ hS _ => ?_)|refine Ya7 (fun _ _ hS _ => ?_))|refine Yer ?_|refine Yab ?_)
     have hS := hS.pick [4,0,3,0,0]
     have hmost := hok.most
     have hvno : ∀ v ∈ ws,-4611686018427387904 ≤ v.no ∧ v.no ≤ 4611686018427387904 := fun v hv => by
      have := hfg.1 v.data (List.mem_map.2 ⟨v,hv,rfl⟩)
      simp only [Wr.data] at this
      omega
     obtain ⟨_,hc,hr,hw,hbk⟩ := hS.call [true,true,true,false,false]
     refine Zaa _ rfl rfl rfl rfl rfl (Z56 lp _ p o s m j n true (0,D) (n + 1) (some ad) fc ws rd fs _ _ (hG.mono hw) ⟨(hr _ (List.mem_cons_self ..)).own_row,fun v hv => Ro.rds (hr _ (List.mem_cons_of_mem _ (List.mem_cons_self ..))) _ (hO v hv)⟩ hj (by omega) hvno (by simp only; omega) hc) ?_
     rintro _ w ⟨rfl,hS⟩
     replace hS := hbk hS
     clear hc hr hw hbk
     subst e
     repeat (first|refine Yeg ?_|refine Yag ?_|refine Yah ?_|refine Yez ?_)
     exact ⟨rfl,hS.pick [0,1]⟩
 ·rw [if_pos hea] at e
  subst e
  repeat (first|refine Yeg ?_|refine Yfj ?_|refine Yey ?_|refine Yez ?_)
  exact ⟨rfl,hS.pick [1,1]⟩
instance : Und Tryz.prog 353 .unsafePointer := ⟨Tryz.underlying353⟩
theorem Zlz {P : Program} {o : Oper} {σ : Env} {w : World} {x : Operand} {src dst t : TypeId} {n : Nat} {a : Addr} {v : Value} (ho : o.op = .convert src dst x) (hx : ev σ x = some (.pointer (some a))) [hs : Und P src (.pointer t)] [hd : Und P dst .unsafePointer] [hz : Siz P t n] (hn : Nat.blt 0 n = true) (hc : w.cell? a = some v) : Yl P o σ w (.pointer (some a)) := ⟨fun N ds f ha => by
 have hpos : 0 < n := Zaq hn
 have hsz : (P.info? t).map (fun i => decide (i.size = 0)) = some false := by
  have := hz.siz
  cases hi : P.info? t with
  | none => rw [hi] at this; cases this
  | some i =>
   rw [hi] at this
   simp only [Option.map_some,Option.some.injEq] at this ⊢
   exact decide_eq_false (by omega)
 have := run_convert_to_unsafe hs.und hd.und hsz hc
 simp [execOp,ho,ha.eval hx,this]⟩
theorem Z8k (b off : Nat) (l l' : List Value) (T : TypeId) (W : World) (F : Nat → Prop) [hn : Nth l off (.int .i32 0)] [hs : Spl l off [.int .i32 1] l'] (hS : St W F [pts b (.cells l.toArray T)] W) :
  Calls Tryz.prog 222 #[.pointer (some ⟨b,off,none⟩)] W (Ret fun _ w => True ∧ St W F [pts b (.cells l'.toArray T)] w) := by
 have hn1 : Nth l' off (.int .i32 1) := ⟨by
  have h := hs.spl
  rw [← h.2]
  simp at h
  rw [List.append_assoc,List.getElem?_append_right (by simp; omega),List.length_take,Nat.min_eq_left (by omega)]
  simp⟩
 refine Zab Tryz.func222 rfl Tryz.ntmps222 rfl ?_
 repeat (first|refine Yeg ?_|(refine X_id ?_;first|refine Yaf ?_|refine Yav ?_|refine Yb0 ?_|refine Zo4 rfl rfl rfl rfl rfl ?_|refine Z9n rfl rfl rfl rfl rfl hS (fun _ hS => ?_))|refine Yer ?_|refine Yab ?_)
 refine X_yl (Zlz rfl rfl rfl hS.cell) rfl rfl ?_
 repeat (first|refine Yeg ?_|(refine X_id ?_;first|refine Zzp rfl rfl rfl rfl rfl ?_)|refine Yah ?_|refine Yab ?_|refine Yaq ?_|refine Z3d rfl (Ret.mk ?_))
 exact ⟨trivial,hS⟩
theorem Z1k (b off : Nat) (l l' : List Value) (T : TypeId) (W : World) (F : Nat → Prop) [hn : Nth l off (.int .i32 1)] [hs : Spl l off [.int .i32 0] l'] (hS : St W F [pts b (.cells l.toArray T)] W) :
  Calls Tryz.prog 223 #[.pointer (some ⟨b,off,none⟩)] W (Ret fun _ w => True ∧ St W F [pts b (.cells l'.toArray T)] w) := by
 refine Zab Tryz.func223 rfl Tryz.ntmps223 rfl ?_
 repeat (first|refine Yeg ?_|refine Yaf ?_|refine Yav ?_|refine Yb0 ?_|refine Yap ?_|refine Yer ?_|refine Yab ?_)
 refine X_yl (Zlz rfl rfl rfl hS.cell) rfl rfl ?_
 repeat (first|refine Yeg ?_|(refine X_id ?_;first|refine Yaf ?_|refine Yav ?_|refine Yb0 ?_|refine Zo4 rfl rfl rfl rfl rfl ?_|refine Zzp rfl rfl rfl rfl rfl ?_)|refine Yeh ?_|refine Yab ?_)
 refine Z3b (s := 0) rfl rfl rfl rfl rfl rfl hS (fun _ hS => ?_)
 repeat (first|refine Yeg ?_|(refine X_id ?_;first|refine Yaf ?_|refine Yag ?_|refine Ybb ?_|refine Zo4 rfl rfl rfl rfl rfl ?_)|refine Yes ?_|refine Yab ?_|refine Ybt ?_)
 exact ⟨trivial,hS⟩
theorem Z25 (b off : Nat) (l : List Value) (T : TypeId) (x : Int) (W : World) [hn : Nth l off (.int .u32 x)] (hL : Rd W (pts b (.cells l.toArray T))) :
  Calls Tryz.prog 125 #[.pointer (some ⟨b,off,none⟩)] W (Ret fun v w => v = .bool (decide (¬ x = 0)) ∧ W = w) := by
 have hc := hL.pts
 have hS := St.start W
 refine Zab Tryz.func125 rfl Tryz.ntmps125 rfl ?_
 repeat (first|refine Yeg ?_|(refine X_id ?_;first|refine Yaf ?_|refine Yag ?_|refine Yav ?_|refine Yb0 ?_|refine X_yl (Znl rfl rfl rfl) rfl rfl ?_|refine Zzq rfl rfl rfl (Zbb (by assumption)) rfl rfl ?_)|refine Yeu ?_|refine Yei ?_)
 exact ⟨rfl,rfl⟩
abbrev Zvj (b lp : Nat) : Res := pts b (.cells #[.pointer (some ⟨lp,0,none⟩)] 92)
abbrev Zv4 (b : Nat) (e : Int) : Res := pts b (.cells #[.int .i64 e] 31)
theorem b32_ (W : World) : Calls Tryz.prog 225 #[.bool true] W (Ret fun v w => v = .int .u32 1 ∧ W = w) := by
 refine Zab Tryz.func225 rfl Tryz.ntmps225 rfl ?_
 repeat (first|refine Yeg ?_|refine Yev ?_|refine Yey ?_|refine Yez ?_)
 exact ⟨rfl,rfl⟩
theorem Z72 (lp p b6 b7 : Nat) (o s m : Int) (j : Nat) (done : Int) (rdn : Bool) (D : DiskM) (e0 : Int) (rd fs : List Int) (W : World) (F : Nat → Prop) (hG : Gl W F rd fs) (hj : j ≤ 4096) (hline : D.line.length < 1073700000)
  (hS : St W F [Zco lp p o s m j done rdn,disk p D,Zvj b6 lp,Zv4 b7 e0] W) :
  Calls Tryz.prog 79 #[.pointer (some ⟨b6,0,none⟩),.pointer (some ⟨b7,0,none⟩)] W (Ret fun _ w => True ∧
   St W F [Zco lp p o s m j (Zeh rd fs D j done rdn).done (Zeh rd fs D j done rdn).redone,disk p (Zeh rd fs D j done rdn).D,Zvj b6 lp,Zv4 b7 (Zeh rd fs D j done rdn).e] w) := by
 refine Zab Tryz.func79 rfl Tryz.ntmps79 rfl ?_
 repeat (first|refine Yaa ?_|refine Yap ?_|refine Yad ?_)
 obtain ⟨_,hc,hr,hw,hbk⟩ := hS.call [true,true,false,false]
 refine Zaa _ rfl rfl rfl rfl rfl (Qab lp p o s m j done rdn D rd fs _ _ (hG.mono hw) hj hline hc) ?_
 rintro _ w ⟨rfl,hS⟩
 replace hS := hbk hS
 clear hc hr hw hbk
 generalize Zeh rd fs D j done rdn = R at hS ⊢
 repeat (first|refine Yeg ?_|refine Yao (fun _ hS _ => ?_)|refine Ybt ?_)
 exact ⟨trivial,hS⟩
theorem Z45 (lp p b6 b7 : Nat) (m : Int) (j : Nat) (done : Int) (rdn : Bool) (D : DiskM) (e0 : Int) (rd fs : List Int) (W : World) (F : Nat → Prop) (hG : Gl W F rd fs) (hj : j ≤ 4096) (hline : D.line.length < 1073700000)
  (hS : St W F [Zco lp p 0 0 m j done rdn,disk p D,Zvj b6 lp,Zv4 b7 e0] W) :
  Calls Tryz.prog 126 #[.pointer (some ⟨lp,1,none⟩),.func (.func 79) #[] #[.pointer (some ⟨b6,0,none⟩),.pointer (some ⟨b7,0,none⟩)]] W (Ret fun _ w => True ∧
   St W F [Zco lp p 1 0 m j (Zeh rd fs D j done rdn).done (Zeh rd fs D j done rdn).redone,disk p (Zeh rd fs D j done rdn).D,Zvj b6 lp,Zv4 b7 (Zeh rd fs D j done rdn).e] w) := by
 have hlock : ∀ W F,St W F [Zco lp p 0 0 m j done rdn] W → Calls Tryz.prog 184 #[.pointer (some ⟨lp,2,none⟩)] W (Ret fun _ w => True ∧ St W F [Zco lp p 0 1 m j done rdn] w) := fun W F hS => by
  refine Zab Tryz.func184 rfl Tryz.ntmps184 rfl ?_
  repeat (first|refine Yaa ?_|refine Yaf ?_|refine Yav ?_|refine Yb0 ?_|refine Yad ?_)
  refine Zaa _ rfl rfl rfl rfl rfl (Z8k lp 2 _ _ _ _ _ hS) ?_
  rintro _ w ⟨_,hS⟩
  repeat (first|refine Yac ?_|refine Ybt ?_)
  exact ⟨trivial,hS⟩
 refine Zab Tryz.func126 rfl Tryz.ntmps126 rfl ?_
 repeat (first|refine Yaa ?_|refine Yaf ?_|refine Yav ?_|refine Yb0 ?_|refine Yeh ?_)
 obtain ⟨_,hc,hr,hw,hbk⟩ := hS.call [true,false,false,false]
 refine Zaa _ rfl rfl rfl rfl rfl (hlock _ _ hc) ?_
 rintro _ w ⟨_,hS⟩
 replace hS := hbk hS
 clear hc hr hw hbk
 repeat (first|refine Yac ?_|refine Zzt rfl rfl rfl rfl rfl ?_|refine Yaa ?_|refine Yaf ?_|refine Yav ?_|refine Yb0 ?_|refine Yeh ?_|refine Yab ?_|refine Zo8 rfl ?_)
 refine Zaa _ rfl rfl rfl rfl rfl (Z25 lp 1 _ _ 0 _ (hS.rd (List.mem_cons_self ..))) ?_
 rintro _ _ ⟨rfl,rfl⟩
 rw [decide_eq_false (show ¬ ¬ (0 : Int) = 0 by simp)]
 repeat (first|refine Yac ?_|refine Zzt rfl rfl rfl rfl rfl ?_|refine Yaa ?_|refine Yaf ?_|refine Yav ?_|refine Yb0 ?_|refine Ybq ?_|refine Yer ?_|refine Yab ?_|refine Zo8 rfl ?_)
 obtain ⟨_,hc,hr,hw,hbk⟩ := hS.call [true,true,true,true]
 refine Zb2 (first := []) (captured := [.pointer (some ⟨b6,0,none⟩),.pointer (some ⟨b7,0,none⟩)]) rfl rfl rfl rfl rfl (Z72 lp p b6 b7 0 1 m j done rdn D e0 rd fs _ _ (hG.mono hw) hj hline hc) ?_
 rintro _ w ⟨_,hS⟩
 replace hS := hbk hS
 clear hc hr hw hbk
 generalize Zeh rd fs D j done rdn = R at hS ⊢
 repeat (first|refine Yac ?_)
 refine Zzw (args := [.pointer (some ⟨lp,1,none⟩),.bool true]) (captured := []) rfl rfl rfl rfl (.inr rfl) ?_
 repeat (first|fail)
 refine Zan (.s 0 (.s 1 (.s 2 (.s 3 (.h 4 (.h 5 .nil .no) .no))))) mixed (by kernel_rfl) rfl ?_
 have hS := hS.drew
 repeat (first|(refine X_id ?_;first|(refine Zaa 225 rfl rfl rfl rfl rfl (b32_ _) ?_;rintro _ _ ⟨rfl,rfl⟩)|refine Z19 rfl rfl rfl rfl rfl hS (fun _ hS => ?_))|refine Zzv rfl (Ret.mk ?_)|(refine Zae ?_;first|refine Yaw ?_|refine Ya0 ?_|refine Ybo ?_|refine Ydi ?_|refine Yas ?_)|(refine Zac ?_;first|refine Yax ?_))
 refine Zzw (args := [.pointer (some ⟨lp,2,none⟩)]) (captured := []) rfl rfl rfl rfl (.inr rfl) ?_
 repeat (first|refine Yaa ?_|refine Yaf ?_|refine Yav ?_|refine Yb0 ?_|refine Yad ?_)
 obtain ⟨_,hc,hr,hw,hbk⟩ := hS.call [true,false,false,false]
 refine Zaa _ rfl rfl rfl rfl rfl (Z1k lp 2 _ _ _ _ _ hc) ?_
 rintro _ w ⟨_,hS⟩
 replace hS := hbk hS
 clear hc hr hw hbk
 repeat (first|refine Yac ?_|refine Ybt ?_|refine Zzv rfl (Ret.mk ?_))
 exact ⟨trivial,hS⟩
theorem do_ (lp p b6 b7 : Nat) (m : Int) (j : Nat) (done : Int) (rdn : Bool) (D : DiskM) (e0 : Int) (rd fs : List Int) (W : World) (F : Nat → Prop) (hG : Gl W F rd fs) (hj : j ≤ 4096) (hline : D.line.length < 1073700000)
  (hS : St W F [Zco lp p 0 0 m j done rdn,disk p D,Zvj b6 lp,Zv4 b7 e0] W) :
  Calls Tryz.prog 78 #[.pointer (some ⟨lp,1,none⟩),.func (.func 79) #[] #[.pointer (some ⟨b6,0,none⟩),.pointer (some ⟨b7,0,none⟩)]] W (Ret fun _ w => True ∧
   St W F [Zco lp p 1 0 m j (Zeh rd fs D j done rdn).done (Zeh rd fs D j done rdn).redone,disk p (Zeh rd fs D j done rdn).D,Zvj b6 lp,Zv4 b7 (Zeh rd fs D j done rdn).e] w) := by
 refine Zab Tryz.func78 rfl Tryz.ntmps78 rfl ?_
 repeat (first|refine Yaa ?_|refine Yaf ?_|refine Yav ?_|refine Yb0 ?_|refine Yeh ?_)
 refine Zaa _ rfl rfl rfl rfl rfl (Z25 lp 1 _ _ 0 _ (hS.rd (List.mem_cons_self ..))) ?_
 rintro _ _ ⟨rfl,rfl⟩
 rw [decide_eq_false (show ¬ ¬ (0 : Int) = 0 by simp)]
 repeat (first|refine Yeg ?_|refine Yaf ?_|refine Ybq ?_|refine Yad ?_|refine Yak ?_|refine Yab ?_)
 obtain ⟨_,hc,hr,hw,hbk⟩ := hS.call [true,true,true,true]
 refine Zaa _ rfl rfl rfl rfl rfl (Z45 lp p b6 b7 m j done rdn D e0 rd fs _ _ (hG.mono hw) hj hline hc) ?_
 rintro _ w ⟨_,hS⟩
 replace hS := hbk hS
 clear hc hr hw hbk
 repeat (first|refine Yac ?_|refine Ybt ?_)
 exact ⟨trivial,hS⟩

/-! ### Open -/
def Zvn (rd fs : List Int) (D : DiskM) (j : Int) : RedoM :=
 if D.off = true then ⟨9,D,0,false⟩ else if j < 2 ∨ 1024 < j ∨ ¬ j % 2 = 0 ∨ (D.laid.length : Int) < j + 2 then ⟨1,D,0,false⟩ else Zeh rd fs D j.toNat 0 false
def Qbr (W : World) (F : Nat → Prop) (p : Nat) (j : Nat) (R : RedoM) (v : Value) (w : World) : Prop :=
 (¬ R.e = 0 ∧ v = .tuple #[.pointer none,.int .i64 R.e] ∧ St W F [disk p R.D] w) ∨ (R.e = 0 ∧ ∃ lp,v = .tuple #[.pointer (some ⟨lp,0,none⟩),.int .i64 0] ∧ St W F [Zco lp p 1 0 0 j R.done R.redone,disk p R.D] w)
theorem Qa2 (p : Nat) (D : DiskM) (j : Int) (rd fs : List Int) (W : World) (F : Nat → Prop) (hG : Gl W F rd fs) (hline : D.line.length < 1073700000) (hS : St W F [disk p D] W) :
  Calls Tryz.prog 38 #[.pointer (some ⟨p,0,none⟩),.int .i64 j] W (Ret fun v w => Qbr W F p j.toNat (Zvn rd fs D j) v w) := by
 have hd := hS.rd (List.mem_cons_self ..)
 have hmost := hd.disk.1.most
 have hon := on_ p D W hd
 have hse := Zn5 p D W hd
 cases hoff : D.off
 ·rw [hoff] at hon
  have e : Zvn rd fs D j = if j < 2 ∨ 1024 < j ∨ ¬ j % 2 = 0 ∨ (D.laid.length : Int) < j + 2 then ⟨1,D,0,false⟩ else Zeh rd fs D j.toNat 0 false := by unfold Zvn; rw [if_neg (by simp [hoff])]
  by_cases h1 : j < 2
  ·rw [if_pos (.inl h1)] at e
   refine Zab Tryz.func38 rfl Tryz.ntmps38 rfl ?_
   repeat (first|refine Ye0 ?_|(refine X_id ?_;first|(refine Zaa 76 rfl rfl rfl rfl rfl hon ?_;rintro _ _ ⟨rfl,rfl⟩)|refine Yaf ?_|refine Yag ?_|refine Ybe ?_|refine Ybc ?_|refine Ya1 ?_)|refine Ye1 ?_|refine Yfi ?_)
   rw [e]
   exact .inl ⟨by simp,rfl,hS⟩
  by_cases h2 : 1024 < j
  ·rw [if_pos (.inr (.inl h2))] at e
   refine Zab Tryz.func38 rfl Tryz.ntmps38 rfl ?_
   repeat (first|refine Yfe ?_|(refine X_id ?_;first|(refine Zaa 76 rfl rfl rfl rfl rfl hon ?_;rintro _ _ ⟨rfl,rfl⟩)|refine Yaf ?_|refine Yag ?_|refine Ybe ?_|refine Ya9 ?_|refine Ybc ?_|refine Yaz ?_|refine Ybz ?_)|refine Ye1 ?_|refine Yfi ?_)
   rw [e]
   exact .inl ⟨by simp,rfl,hS⟩
  by_cases h3 : j % 2 = 0
  ·by_cases h4 : (D.laid.length : Int) < j + 2
   ·rw [if_pos (.inr (.inr (.inr h4)))] at e
    refine Zab Tryz.func38 rfl Tryz.ntmps38 rfl ?_
    repeat (first|refine Yex ?_|(refine X_id ?_;first|(refine Zaa 76 rfl rfl rfl rfl rfl hon ?_;rintro _ _ ⟨rfl,rfl⟩)|(refine Zaa 77 rfl rfl rfl rfl rfl hse ?_;rintro _ _ ⟨rfl,rfl⟩)|refine Yaf ?_|refine Yag ?_|refine Ya9 ?_|refine Ybc ?_|refine Ybb ?_|refine Ya1 ?_|refine Yaz ?_|refine Ybs ?_|refine Yay ?_|refine Ycb ?_)|refine Ye1 ?_|refine Yfi ?_)
    rw [e]
    exact .inl ⟨by simp,rfl,hS⟩
   ·rw [if_neg (by omega)] at e
    obtain ⟨jn,rfl⟩ : ∃ n : Nat,j = n := ⟨j.toNat,by omega⟩
    rw [Int.toNat_natCast] at e ⊢
    rw [e]
    refine Zab Tryz.func38 rfl Tryz.ntmps38 rfl ?_
    repeat (first|refine Yex ?_|(refine X_id ?_;first|(refine Zaa 76 rfl rfl rfl rfl rfl hon ?_;rintro _ _ ⟨rfl,rfl⟩)|(refine Zaa 77 rfl rfl rfl rfl rfl hse ?_;rintro _ _ ⟨rfl,rfl⟩)|refine Yaf ?_|refine Yag ?_|refine Yav ?_|refine Yan ?_|refine Ya9 ?_|refine Ybc ?_|refine Ycg ?_|refine Ybb ?_|refine Yaz ?_|refine Ybs ?_|refine Ybn ?_|refine Yay ?_|refine Ycb ?_|refine Yap ?_|refine Yao (fun _ hS _ => ?_)|refine Ya7 (fun _ _ hS _ => ?_)|refine Yar (fun _ _ hS _ => ?_))|refine Ye9 ?_|refine Yeo ?_)
    have hS := hS.pick [2,2,1,0]
    obtain ⟨_,hc,hr,hw,hbk⟩ := hS.call [true,true,true,true]
    refine Zaa _ rfl rfl rfl rfl rfl (do_ _ p _ _ 0 jn 0 false D 0 rd fs _ _ (hG.mono hw) (by omega) hline hc) ?_
    rintro _ w ⟨_,hS⟩
    replace hS := hbk hS
    clear hc hr hw hbk
    generalize Zeh rd fs D jn 0 false = R at hS ⊢
    by_cases hRe : R.e = 0
    ·rw [hRe] at hS
     repeat (first|refine Yeg ?_|refine Yag ?_|refine Ybb ?_|refine Yap ?_|refine Ye6 ?_|refine Ye5 ?_)
     exact .inr ⟨hRe,_,rfl,hS.pick [0,0]⟩
    ·repeat (first|refine Yeg ?_|refine Ybl ?_|refine Yap ?_|refine Yer ?_|refine Yab ?_)
     refine Zan (.s 0 (.s 1 (.s 2 .nil))) mixed (by kernel_rfl) rfl ?_
     have hS := hS.drew
     repeat (first|refine Yah ?_|refine Yab ?_|refine Yaq ?_|refine Ybp ?_|(refine Zae ?_;first|refine Yaw ?_|refine Ybj ?_|refine Ybm ?_))
     exact .inl ⟨hRe,rfl,hS.pick [1]⟩
  ·rw [if_pos (.inr (.inr (.inl h3)))] at e
   refine Zab Tryz.func38 rfl Tryz.ntmps38 rfl ?_
   repeat (first|refine Yfe ?_|(refine X_id ?_;first|(refine Zaa 76 rfl rfl rfl rfl rfl hon ?_;rintro _ _ ⟨rfl,rfl⟩)|refine Yaf ?_|refine Yag ?_|refine Ybe ?_|refine Ya9 ?_|refine Ybc ?_|refine Ybl ?_|refine Yaz ?_|refine Ybs ?_|refine Ycb ?_)|refine Ye1 ?_|refine Yfi ?_)
   rw [e]
   exact .inl ⟨by simp,rfl,hS⟩
 ·rw [hoff] at hon
  refine Zab Tryz.func38 rfl Tryz.ntmps38 rfl ?_
  repeat (first|refine Yeg ?_|(refine X_id ?_;first|(refine Zaa 76 rfl rfl rfl rfl rfl hon ?_;rintro _ _ ⟨rfl,rfl⟩)|refine Yaf ?_|refine Yag ?_|refine Ybq ?_)|refine Ye4 ?_|refine Yfi ?_)
  rw [show Zvn rd fs D j = ⟨9,D,0,false⟩ by unfold Zvn; rw [if_pos hoff]]
  exact .inl ⟨by simp,rfl,hS⟩
/-! ### Read -/
def Zg2 (D : DiskM) (j : Nat) (no : Int) : Int × List UInt8 := if D.off = true then (9,[]) else if no < 0 ∨ (D.laid.length : Int) - 1 - j ≤ no then (1,[]) else D.read (1 + j + no)
theorem Z52 (lp p : Nat) (o s m : Int) (j : Nat) (done : Int) (rdn : Bool) (D : DiskM) (no : Int) (W : World) (hL : Rd W (Zco lp p o s m j done rdn)) (hD : Rd W (disk p D)) (hj : j ≤ 4096) (hline : D.line.length < 1073741824) :
  Calls Tryz.prog 82 #[.pointer (some ⟨lp,0,none⟩),.int .i64 no] W (Ret fun v w => ∃ a c,v = .tuple #[.slice a (Zg2 D j no).2.length c,.int .i64 (Zg2 D j no).1] ∧ (Zg2 D j no).2.length ≤ c ∧ St W noF [bytes a (Zg2 D j no).2] w) := by
 have hS := St.start W
 have hc := hL.pts
 have hLo := hL.ro
 have hDo := hD.ro
 have hmost := hD.disk.1.most
 have hon := fun w (h : Rd w (disk p D)) => on_ p D w h
 cases hoff : D.off
 ·rw [hoff] at hon
  have e : Zg2 D j no = if no < 0 ∨ (D.laid.length : Int) - 1 - j ≤ no then (1,[]) else D.read (1 + j + no) := by unfold Zg2; rw [if_neg (by simp [hoff])]
  by_cases h1 : no < 0
  ·rw [if_pos (.inl h1)] at e
   rw [e]
   refine Zab Tryz.func82 rfl Tryz.ntmps82 rfl ?_
   repeat (first|refine Ye0 ?_|(refine X_id ?_;first|(refine Zaa 76 rfl rfl rfl rfl rfl (hon _ (hDo.rd hS)) ?_;rintro _ _ ⟨rfl,rfl⟩)|refine Yaf ?_|refine Yag ?_|refine Yav ?_|refine Yan ?_|refine Ybe ?_|refine Ybc ?_|refine Ya1 ?_|refine Ybu ?_|refine Yb3 ?_)|refine Ye1 ?_|refine Yfi ?_)
   exact ⟨none,0,rfl,Nat.le_refl _,hS.row_none⟩
  by_cases h2 : (D.laid.length : Int) - 1 - j ≤ no
  ·rw [if_pos (.inr h2)] at e
   rw [e]
   refine Zab Tryz.func82 rfl Tryz.ntmps82 rfl ?_
   repeat (first|refine Yex ?_|(refine X_id ?_;first|(refine Zad 132 rfl rfl rfl rfl rfl hS (Zfa lp p o s m j done rdn D _ (hLo.rd hS) (hDo.rd hS) hj) ?_;rintro _ _ rfl hS)|(refine Zaa 76 rfl rfl rfl rfl rfl (hon _ (hDo.rd hS)) ?_;rintro _ _ ⟨rfl,rfl⟩)|refine Yaf ?_|refine Yag ?_|refine Yav ?_|refine Yan ?_|refine Ya9 ?_|refine Ybc ?_|refine Yaz ?_|refine Yb2 ?_|refine Ybu ?_|refine Yb3 ?_)|refine Ye1 ?_|refine Yfi ?_)
   exact ⟨none,0,rfl,Nat.le_refl _,hS.row_none⟩
  ·rw [if_neg (by omega)] at e
   rw [e]
   refine Zab Tryz.func82 rfl Tryz.ntmps82 rfl ?_
   repeat (first|refine Yex ?_|(refine X_id ?_;first|(refine Zad 132 rfl rfl rfl rfl rfl hS (Zfa lp p o s m j done rdn D _ (hLo.rd hS) (hDo.rd hS) hj) ?_;rintro _ _ rfl hS)|(refine Zaa 76 rfl rfl rfl rfl rfl (hon _ (hDo.rd hS)) ?_;rintro _ _ ⟨rfl,rfl⟩)|refine Yaf ?_|refine Yag ?_|refine Yav ?_|refine Yan ?_|refine Ya9 ?_|refine Ybc ?_|refine Yaz ?_|refine Yb4 ?_|refine Ybu ?_|refine Yb3 ?_)|refine Ye9 ?_|refine Yeo ?_)
   refine Zan (.s 0 (.s 1 (.s 2 (.s 3 (.s 4 (.s 5 (.s 6 (.s 7 (.s 8 (.s 9 (.s 10 (.h 11 (.s 12 (.s 13 (.s 14 (.s 15 .nil)))) .no)))))))))))) mixed (by kernel_rfl) rfl ?_
   have hS := hS.drew
   have hc := (hLo.rd hS).pts
   repeat (first|(refine Zae ?_;first|refine Ya0 ?_|refine Ybo ?_|refine Ybg ?_|refine Ycw ?_|refine Yc7 ?_|refine Yas ?_))
   refine Zaa _ rfl rfl rfl rfl rfl (Zxi p D (1 + j + no) _ (hDo.rd hS) hline) ?_
   rintro _ w ⟨a,ca,rfl,hca,hS'⟩
   replace hS := hS.plus hS'
   clear hS'
   have hc := (hLo.rd hS).pts
   repeat (first|refine Yah ?_|refine Ye5 ?_|(refine Zae ?_;first|refine Yaw ?_|refine Ybj ?_|refine Ycz ?_)|(refine Zac ?_;first|refine Yax ?_))
   exact ⟨a,ca,rfl,hca,hS⟩
 ·rw [hoff] at hon
  rw [show Zg2 D j no = (9,[]) by unfold Zg2; rw [if_pos hoff]]
  refine Zab Tryz.func82 rfl Tryz.ntmps82 rfl ?_
  repeat (first|refine Yeg ?_|(refine X_id ?_;first|(refine Zaa 76 rfl rfl rfl rfl rfl (hon _ (hDo.rd hS)) ?_;rintro _ _ ⟨rfl,rfl⟩)|refine Yaf ?_|refine Yag ?_|refine Yav ?_|refine Yan ?_|refine Ybq ?_|refine Ybu ?_|refine Yb3 ?_)|refine Ye1 ?_|refine Yfi ?_)
  exact ⟨none,0,rfl,Nat.le_refl _,hS.row_none⟩
end Cr
