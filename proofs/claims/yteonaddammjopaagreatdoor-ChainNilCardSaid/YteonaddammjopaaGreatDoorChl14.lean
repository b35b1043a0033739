/-
  Layer 7 (inode),the plain law of applying changes: the sectors hold the table that the document tells. No program is in sight.
  Layer 7 (inode),the plain law of opening: what a node's sector tells. No program is in sight.
  A log on a disk that is on and not armed,as one resource: its data sectors.
  Layer 7 (inode): a node's sector,the front.
  Layer 7 (inode): the front.
  The library's bytes.Clone and bytes.Equal.
  Maps that are gone through: the entry of a step,a deletion whose result nobody takes,a copy. Over any program.
-/
import Derived.Test.YteonaddammjopaaGreatDoorChl13
import Derived.Test.YteonaddammjopaaGreatDoorChl4
import Derived.Test.YteonaddammjopaaGreatDoorChl2
import Derived.Test.YteonaddammjopaaGreatDoorChl3
import Derived.Test.YteonaddammjopaaGreatDoorChl6
import Derived.MapKept
namespace Cr
open Go Go.Proofs
set_option maxRecDepth 10000

theorem Ze0 (l : List (Int × List UInt8)) : ∀ i,i ≤ l.length → (Zcs l i = false ↔ ((l.take i).map (·.1)).Nodup)
 | 0,_ => by simp [Zcs]
 | i + 1,h => by
  have ih := Ze0 l i (by omega)
  have e : (l.take (i + 1)).map (·.1) = (l.take i).map (·.1) ++ [(l.getD i (0,[])).1] := by
   rw [List.take_succ_eq_append_getElem (show i < l.length by omega),List.map_append,List.getD_eq_getElem?_getD,List.getElem?_eq_getElem (show i < l.length by omega)]
   rfl
  rw [e,Zcs,Bool.or_eq_false_iff,ih,List.nodup_append]
  simp only [decide_eq_false_iff_not]
  constructor
  ·rintro ⟨h1,h2⟩
   refine ⟨h1,by simp,fun a ha b hb => ?_⟩
   rw [List.mem_singleton] at hb
   rw [hb]
   exact fun e => h2 (e ▸ ha)
  ·rintro ⟨h1,_,h2⟩
   exact ⟨h1,fun hm => h2 _ hm _ (List.mem_singleton.2 rfl) rfl⟩
theorem twice_all {l : List (Int × List UInt8)} (h : (l.map (·.1)).Nodup) : Zcs l l.length = false := (Ze0 l _ (Nat.le_refl _)).2 (by simpa using h)
theorem twiceC_nodup {l : List Chg} (h : twiceC l = false) : (l.map (·.no)).Nodup := by
 unfold twiceC at h
 have e : l.length = (l.map fun c => (c.no,([] : List UInt8))).length := by simp
 rw [e] at h
 have := (Ze0 _ _ (Nat.le_refl _)).1 h
 rw [List.take_length] at this
 simpa [Function.comp_def] using this
theorem lastOf_nodup {l : List (Int × List UInt8)} (h : (l.map (·.1)).Nodup) {m : Int} {s : List UInt8} (hv : (m,s) ∈ l) : Zdw l m = some s := lastOf_only (twice_all h) hv

/-! ### counting -/
theorem sum_upd (g : Nat → Nat) (a k : Nat) (hg : g k = 0) : ∀ n,((List.range n).map fun i => if i = k then a else g i).sum = (if k < n then a else 0) + ((List.range n).map g).sum
 | 0 => by simp
 | n + 1 => by
  rw [List.range_succ,List.map_append,List.sum_append,sum_upd g a k hg n,List.map_append,List.sum_append]
  simp only [List.map_cons,List.map_nil,List.sum_cons,List.sum_nil]
  by_cases h : n = k
  ·subst h; simp [hg]; omega
  ·by_cases h2 : k < n
   ·rw [if_pos h2,if_neg h,if_pos (by omega)]; omega
   ·rw [if_neg h2,if_neg h,if_neg (by omega)]; omega
def wtO (x : Option Nd) : Nat := match x with | some x => nblk x.data.length | none => 0
theorem sum_tab (n : Nat) : ∀ A : Ents,(∀ k ∈ Zb6 A,0 ≤ k ∧ k < n) → (Zb6 A).Nodup → ((List.range n).map fun i => wtO ((getA (i : Nat) A).map (·.nd))).sum = (A.map fun x => nblk x.2.nd.data.length).sum
 | [],_,_ => by
  have : ∀ n,((List.range n).map fun i : Nat => wtO ((getA (i : Nat) ([] : Ents)).map (·.nd))).sum = 0 := fun n => by
   induction n with
   | zero => rfl
   | succ n ih => rw [List.range_succ,List.map_append,List.sum_append,ih]; simp [getA,wtO]
  simpa using this n
 | x :: A,hk,hn => by
  have hn' : x.1 ∉ Zb6 A ∧ (Zb6 A).Nodup := List.nodup_cons.1 hn
  have ih := sum_tab n A (fun k h => hk k (List.mem_cons_of_mem _ h)) hn'.2
  have hx := hk x.1 (List.mem_cons_self ..)
  have h0 : wtO ((getA ((x.1.toNat : Nat) : Int) A).map (·.nd)) = 0 := by
   rw [show ((x.1.toNat : Nat) : Int) = x.1 by omega,getA_none.2 hn'.1]; rfl
  have e : (fun i : Nat => wtO ((getA (i : Nat) (x :: A)).map (·.nd))) = fun i => if i = x.1.toNat then nblk x.2.nd.data.length else (fun i : Nat => wtO ((getA (i : Nat) A).map (·.nd))) i := by
   funext i
   simp only [getA]
   by_cases h : i = x.1.toNat
   ·rw [if_pos h,if_pos (by omega)]; rfl
   ·rw [if_neg h,if_neg (by omega)]
  rw [e,sum_upd _ _ _ h0,ih,if_pos (by omega)]
  simp
theorem roomT_sum (T : Tb) (nb : Nat) : roomT T nb = (nb : Int) - ((T.map wtO).sum : Nat) := by
 unfold roomT
 have key : ∀ (T : Tb) (r : Int),T.foldl (fun r x => match x with | some x => r - (nblk x.data.length : Nat) | none => r) r = r - ((T.map wtO).sum : Nat) := by
  intro T
  induction T with
  | nil => intro r; simp
  | cons x T ih =>
   intro r
   rw [List.foldl_cons,ih,List.map_cons,List.sum_cons]
   cases x <;> simp [wtO] <;> omega
 exact key T nb
theorem blocks_len (nb : Nat) : ∀ A : Ents,(∀ x ∈ A,x.2.ok nb) → (Zb4 A).length = (A.map fun x => nblk x.2.nd.data.length).sum
 | [],_ => rfl
 | x :: A,h => by
  have ih := blocks_len nb A fun y hy => h y (List.mem_cons_of_mem _ hy)
  have hx := (h x (List.mem_cons_self ..)).cnt
  simp only [Zb4,List.flatMap_cons,List.length_append,List.map_cons,List.sum_cons] at ih ⊢
  rw [ih,hx]
theorem room_is {A : Ents} {n nb : Nat} (hk : ∀ k ∈ Zb6 A,0 ≤ k ∧ k < n) (hn : (Zb6 A).Nodup) (hok : ∀ x ∈ A,x.2.ok nb) : roomT (tabOf A n) nb = (nb : Int) - ((Zb4 A).length : Nat) := by
 rw [roomT_sum,blocks_len nb A hok,← sum_tab n A hk hn,tabOf,List.map_map]
 rfl
theorem cnt_in : ∀ (nb : Nat) (B : List Int),B.Nodup → (∀ b ∈ B,0 ≤ b ∧ b < nb) → (((List.range nb).map fun k => ((k : Nat) : Int)).filter fun b => decide (b ∈ B)).length = B.length
 | 0,B,_,hb => by
  cases B with
  | nil => rfl
  | cons b B => have := hb b (List.mem_cons_self ..); omega
 | nb + 1,B,hn,hb => by
  have ih := cnt_in nb (B.erase (nb : Nat)) (hn.erase _) fun b h => by
   have h1 := hb b (List.mem_of_mem_erase h)
   have h2 : b ≠ (nb : Nat) := ((hn.mem_erase_iff).1 h).1
   omega
  have e : ((List.range nb).map fun k => ((k : Nat) : Int)).filter (fun b => decide (b ∈ B)) = ((List.range nb).map fun k => ((k : Nat) : Int)).filter (fun b => decide (b ∈ B.erase (nb : Nat))) := by
   refine List.filter_congr fun x hx => ?_
   obtain ⟨k,hk,rfl⟩ := List.mem_map.1 hx
   have hk := List.mem_range.1 hk
   have : ((k : Nat) : Int) ≠ (nb : Nat) := by omega
   simp [hn.mem_erase_iff,this]
  rw [List.range_succ,List.map_append,List.filter_append,List.length_append,e,ih]
  by_cases h : ((nb : Nat) : Int) ∈ B
  ·have := List.length_erase_of_mem h
   have h2 : 0 < B.length := List.length_pos_of_mem h
   simp [h]; omega
  ·rw [List.erase_of_not_mem h]
   simp [h]
theorem freeL_mem {A : Ents} {nb : Nat} {b : Int} : b ∈ freeL A nb ↔ (0 ≤ b ∧ b < nb) ∧ b ∉ Zb4 A := by
 unfold freeL
 rw [List.mem_filter,List.mem_map]
 simp only [List.mem_range,decide_eq_true_eq]
 constructor
 ·rintro ⟨⟨k,hk,rfl⟩,h⟩
  exact ⟨by omega,h⟩
 ·rintro ⟨⟨h1,h2⟩,h⟩
  exact ⟨⟨b.toNat,by omega,by omega⟩,h⟩
theorem freeL_nodup (A : Ents) (nb : Nat) : (freeL A nb).Nodup := by
 unfold freeL
 refine List.Nodup.sublist List.filter_sublist ?_
 rw [List.Nodup,List.pairwise_map]
 exact (List.nodup_range (n := nb)).imp fun h e => h (by omega)
theorem free_len {A : Ents} {nb : Nat} (hn : (Zb4 A).Nodup) (hb : ∀ b ∈ Zb4 A,0 ≤ b ∧ b < nb) : (Zb4 A).length + (freeL A nb).length = nb := by
 have h1 := cnt_in nb (Zb4 A) hn hb
 have h2 := List.length_eq_countP_add_countP (l := (List.range nb).map fun k => ((k : Nat) : Int)) (fun b => decide (b ∈ Zb4 A))
 rw [List.countP_eq_length_filter,List.countP_eq_length_filter,h1] at h2
 simp only [List.length_map,List.length_range] at h2
 have e : freeL A nb = ((List.range nb).map fun k => ((k : Nat) : Int)).filter (fun a => decide ¬(decide (a ∈ Zb4 A) = true)) := by
  unfold freeL
  refine List.filter_congr fun x _ => ?_
  simp
 rw [e]; omega

/-! ### one change -/
structure Inv (rd fs : List Int) (dat : List (List UInt8)) (n nb : Nat) (q : List Chg) (z : ApS) (x : Tb × Nat × Bool) : Prop where
 keys : ∀ k ∈ Zb6 z.A,0 ≤ k ∧ k < n
 nodup : (Zb6 z.A).Nodup
 pend : ∀ c ∈ q,c.no ∉ Zb6 z.A
 ok : ∀ s ∈ z.A,s.2.ok nb
 flow : ∀ b ∈ z.free,0 ≤ b ∧ b < nb
 all : (Zb4 z.A ++ z.free).Nodup
 count : (Zb4 z.A).length + z.free.length = nb
 front : (Zde dat z.w).getD 0 [] = Zdr rd fs n
 node : ∀ i,i < n → (i : Int) ∉ q.map (·.no) → (Zde dat z.w).getD (1 + i) [] = match getA (i : Nat) z.A with | some s => stoB s | none => zero64
 at_ : ∀ s ∈ z.A,∀ k b,s.2.blocks[k]? = some b → (Zde dat z.w).getD (1 + n + b.toNat) [] = chunkB s.2.nd.data k
 wlen : ∀ v ∈ z.w,v.2.length = 64
 wlow : ∀ v ∈ z.w,1 ≤ v.1 ∧ v.1 < 1 + (n : Int) + nb
 wpend : ∀ v ∈ z.w,v.1 < 1 + (n : Int) → ∀ c ∈ q,v.1 ≠ 1 + c.no
 wfree : ∀ v ∈ z.w,∀ b ∈ z.free,v.1 ≠ 1 + (n : Int) + b
 wnodup : (z.w.map (·.1)).Nodup
 tab : x.1 = tabOf z.A n
 cnt : x.2.1 = z.w.length
 fine : x.2.2 = false
theorem layOn_append (l : List (List UInt8)) (a b : List (Int × List UInt8)) : Zde l (a ++ b) = Zde (Zde l a) b := by simp [Zde]
theorem chunkB_length (d : List UInt8) (i : Nat) : (chunkB d i).length = 64 := Zc3 _
theorem Ze1 (s : Sto) : (stoB s).length = 64 := Zc3 _
theorem tabOf_set {A : Ents} {n : Nat} {k : Int} {s : Sto} (h0 : 0 ≤ k) (h1 : k < n) : tabOf (setA k s A) n = (tabOf A n).set k.toNat (some s.nd) := by
 apply List.ext_getElem?
 intro i
 rw [List.getElem?_set]
 by_cases hi : i < n
 ·rw [tabOf_get _ hi,getA_setA]
  by_cases hk : k.toNat = i
  ·rw [if_pos hk,if_pos (by omega),if_pos (by rw [Zc9]; omega)]; rfl
  ·rw [if_neg hk,if_neg (by omega),tabOf_get _ hi]
 ·have h2 : ∀ A : Ents,(tabOf A n)[i]? = none := fun A => List.getElem?_eq_none (by rw [Zc9]; omega)
  rw [h2,h2,if_neg (by omega)]
theorem Zd9 {n : Nat} {bs : List Int} {d : List UInt8} {v : Int × List UInt8} (h : v ∈ Zdm n bs d) : ∃ k b,bs[k]? = some b ∧ v = (1 + (n : Int) + b,chunkB d k) := by
 obtain ⟨k,hk,rfl⟩ := List.mem_map.1 h
 have hk := List.mem_range.1 hk
 exact ⟨k,bs[k],List.getElem?_eq_getElem hk,by simp [List.getD_eq_getElem?_getD,hk]⟩
theorem blockW_of {n : Nat} {bs : List Int} {d : List UInt8} {k : Nat} {b : Int} (h : bs[k]? = some b) : (1 + (n : Int) + b,chunkB d k) ∈ Zdm n bs d := by
 have hk := (List.getElem?_eq_some_iff.1 h).1
 exact List.mem_map.2 ⟨k,List.mem_range.2 hk,by simp [List.getD_eq_getElem?_getD,h]⟩
theorem blockW_fst (n : Nat) (bs : List Int) (d : List UInt8) : (Zdm n bs d).map (·.1) = bs.map fun b => 1 + (n : Int) + b := by
 apply List.ext_getElem
 ·simp [Zdm]
 ·intro i h1 h2
  simp [Zdm] at h1 h2 ⊢
  simp [h1]
theorem Inv.step {rd fs : List Int} {dat : List (List UInt8)} {n nb : Nat} {c : Chg} {q : List Chg} {z : ApS} {x : Tb × Nat × Bool} (hlen : dat.length = 1 + n + nb) (h : Inv rd fs dat n nb (c :: q) z x) (hc0 : 0 ≤ c.no) (hc1 : c.no < n) (hq : ∀ c' ∈ q,c'.no ≠ c.no)
  (hst : c.drop = false → c.nd.st.check = 0 ∧ c.nd.data.length ≤ 512) :
  (z.step n c = none ∧ (Zfl x nb c).2.2 = true) ∨ ∃ z',z.step n c = some z' ∧ Inv rd fs dat n nb q z' (Zfl x nb c) := by
 have hcA : c.no ∉ Zb6 z.A := h.pend c (List.mem_cons_self ..)
 have hll : ∀ a,(Zde dat a).length = 1 + n + nb := fun a => by rw [Zb1]; exact hlen
 by_cases hd : c.drop = true
 ·right
  have e : Zfl x nb c = (x.1,x.2.1 + 1,false) := by unfold Zfl; rw [if_neg (by simp [h.fine]),if_pos hd]
  refine ⟨_,by unfold ApS.step; rw [if_pos hd],?_⟩
  rw [e]
  have hget : ∀ k,k < 1 + n + nb → (Zde dat (z.w ++ [(1 + c.no,zero64)])).getD k [] = if (k : Int) = 1 + c.no then zero64 else (Zde dat z.w).getD k [] := fun k hk => by
   rw [layOn_append,Zej _ _ _ (by rw [hll]; exact hk) (fun v hv => by rw [List.mem_singleton] at hv; rw [hv]; simp only; omega),Ze7]
   by_cases hk2 : (k : Int) = 1 + c.no
   ·rw [if_pos hk2,if_pos hk2.symm]; rfl
   ·rw [if_neg hk2,if_neg (fun e => hk2 e.symm)]; rfl
  refine ⟨h.keys,h.nodup,fun c' hc' => h.pend c' (List.mem_cons_of_mem _ hc'),h.ok,h.flow,h.all,h.count,?_,?_,?_,?_,?_,?_,?_,?_,h.tab,by simp [h.cnt],rfl⟩
  ·rw [hget 0 (by omega),if_neg (by omega)]; exact h.front
  ·intro i hi hiq
   rw [hget _ (by omega)]
   by_cases hic : ((1 + i : Nat) : Int) = 1 + c.no
   ·rw [if_pos hic]
    have : ((i : Nat) : Int) = c.no := by omega
    simp only [this,getA_none.2 hcA]
   ·rw [if_neg hic]
    exact h.node i hi fun hm => by
     rcases List.mem_cons.1 hm with e | e
     ·have e : ((i : Nat) : Int) = c.no := e
      omega
     ·exact hiq e
  ·intro s hs k b hb
   have hb2 := (h.ok s hs).low b (List.mem_of_getElem? hb)
   rw [hget _ (by omega),if_neg (by omega)]
   exact h.at_ s hs k b hb
  ·intro v hv
   rcases List.mem_append.1 hv with hv | hv
   ·exact h.wlen v hv
   ·rw [List.mem_singleton] at hv; rw [hv]; simp [zero64]
  ·intro v hv
   rcases List.mem_append.1 hv with hv | hv
   ·exact h.wlow v hv
   ·rw [List.mem_singleton] at hv; rw [hv]; simp only; omega
  ·intro v hv hlt c' hc'
   rcases List.mem_append.1 hv with hv | hv
   ·exact h.wpend v hv hlt c' (List.mem_cons_of_mem _ hc')
   ·rw [List.mem_singleton] at hv; rw [hv]; simp only
    have := hq c' hc'
    omega
  ·intro v hv b hb
   rcases List.mem_append.1 hv with hv | hv
   ·exact h.wfree v hv b hb
   ·have := h.flow b hb
    rw [List.mem_singleton] at hv; rw [hv]; simp only; omega
  ·rw [List.map_append,List.nodup_append]
   refine ⟨h.wnodup,by simp,fun a ha b hb => ?_⟩
   simp only [List.map_cons,List.map_nil,List.mem_singleton] at hb
   obtain ⟨v,hv,rfl⟩ := List.mem_map.1 ha
   rw [hb]
   by_cases hlt : v.1 < 1 + (n : Int)
   ·exact h.wpend v hv hlt c (List.mem_cons_self ..)
   ·omega
 ·have hd' : c.drop = false := by simpa using hd
  obtain ⟨hst1,hst2⟩ := hst hd'
  have hroom : roomT x.1 nb = (z.free.length : Nat) := by
   rw [h.tab,room_is h.keys h.nodup h.ok]
   have := h.count
   omega
  by_cases hr : z.free.length < nblk c.nd.data.length
  ·left
   refine ⟨by unfold ApS.step; rw [if_neg hd,if_pos hr],?_⟩
   unfold Zfl
   rw [if_neg (by simp [h.fine]),if_neg hd,if_pos (by rw [hroom]; omega)]
  ·right
   have e : Zfl x nb c = (x.1.set c.no.toNat (some c.nd),x.2.1 + 1 + nblk c.nd.data.length,false) := by
    unfold Zfl
    rw [if_neg (by simp [h.fine]),if_neg hd,if_neg (by rw [hroom]; omega)]
   obtain ⟨bs,hbs⟩ : ∃ bs,bs = z.free.take (nblk c.nd.data.length) := ⟨_,rfl⟩
   obtain ⟨fr,hfr⟩ : ∃ fr,fr = z.free.drop (nblk c.nd.data.length) := ⟨_,rfl⟩
   have hbl : bs.length = nblk c.nd.data.length := by rw [hbs,List.length_take]; omega
   have hsp : z.free = bs ++ fr := by rw [hbs,hfr,List.take_append_drop]
   refine ⟨_,by unfold ApS.step; rw [if_neg hd,if_neg hr,← hbs,← hfr],?_⟩
   rw [e]
   have hset : setA c.no (⟨c.nd,bs⟩ : Sto) z.A = z.A ++ [(c.no,⟨c.nd,bs⟩)] := setA_new hcA
   have hbo : Zb4 (setA c.no (⟨c.nd,bs⟩ : Sto) z.A) = Zb4 z.A ++ bs := by rw [hset]; simp [Zb4]
   have hall := h.all
   rw [hsp] at hall
   have hnA := List.nodup_append.1 hall
   have hnF := List.nodup_append.1 hnA.2.1
   have hlowb : ∀ b ∈ bs,0 ≤ b ∧ b < nb := fun b hb => h.flow b (by rw [hsp]; exact List.mem_append_left _ hb)
   have hxs0 : ∀ v ∈ Zdm n bs c.nd.data ++ [(1 + c.no,stoB ⟨c.nd,bs⟩)],0 ≤ v.1 := fun v hv => by
    rcases List.mem_append.1 hv with hv | hv
    ·obtain ⟨k,b,hb,rfl⟩ := Zd9 hv
     have := hlowb b (List.mem_of_getElem? hb)
     simp only; omega
    ·rw [List.mem_singleton] at hv; rw [hv]; simp only; omega
   have hxn : ((Zdm n bs c.nd.data ++ [(1 + c.no,stoB ⟨c.nd,bs⟩)]).map (·.1)).Nodup := by
    rw [List.map_append,blockW_fst,List.nodup_append]
    refine ⟨?_,by simp,fun a ha b hb => ?_⟩
    ·rw [List.Nodup,List.pairwise_map]
     exact hnF.1.imp fun h e => h (by omega)
    ·simp only [List.map_cons,List.map_nil,List.mem_singleton] at hb
     obtain ⟨y,hy,rfl⟩ := List.mem_map.1 ha
     have := hlowb y hy
     omega
   have hget : ∀ k,k < 1 + n + nb → (Zde dat (z.w ++ (Zdm n bs c.nd.data ++ [(1 + c.no,stoB ⟨c.nd,bs⟩)]))).getD k [] = (Zdw (Zdm n bs c.nd.data ++ [(1 + c.no,stoB ⟨c.nd,bs⟩)]) k).getD ((Zde dat z.w).getD k []) := fun k hk => by
    rw [layOn_append,Zej _ _ _ (by rw [hll]; exact hk) hxs0]
   have hnone : ∀ k : Nat,(k : Int) ≠ 1 + c.no → (∀ b ∈ bs,(k : Int) ≠ 1 + (n : Int) + b) → Zdw (Zdm n bs c.nd.data ++ [(1 + c.no,stoB ⟨c.nd,bs⟩)]) k = none := fun k h1 h2 => by
    refine lastOf_none fun v hv e => ?_
    rcases List.mem_append.1 hv with hv | hv
    ·obtain ⟨i,b,hb,rfl⟩ := Zd9 hv
     exact h2 b (List.mem_of_getElem? hb) e.symm
    ·rw [List.mem_singleton] at hv; rw [hv] at e; exact h1 e.symm
   refine ⟨?_,?_,?_,?_,?_,?_,?_,?_,?_,?_,?_,?_,?_,?_,?_,?_,?_,rfl⟩
   ·intro k hk
    rw [hset] at hk
    simp only [Zb6,List.map_append,List.map_cons,List.map_nil,List.mem_append,List.mem_singleton] at hk
    rcases hk with hk | rfl
    ·exact h.keys k hk
    ·exact ⟨hc0,hc1⟩
   ·rw [hset]
    simp only [Zb6,List.map_append,List.map_cons,List.map_nil]
    rw [List.nodup_append]
    refine ⟨h.nodup,by simp,fun a ha b hb => ?_⟩
    rw [List.mem_singleton] at hb
    rw [hb]
    exact fun e => hcA (e ▸ ha)
   ·intro c' hc' hm
    rw [hset] at hm
    simp only [Zb6,List.map_append,List.map_cons,List.map_nil,List.mem_append,List.mem_singleton] at hm
    rcases hm with hm | hm
    ·exact h.pend c' (List.mem_cons_of_mem _ hc') hm
    ·exact hq c' hc' hm
   ·intro s hs
    rw [hset] at hs
    rcases List.mem_append.1 hs with hs | hs
    ·exact h.ok s hs
    ·rw [List.mem_singleton] at hs; rw [hs]
     exact ⟨hst1,hst2,hbl,hlowb⟩
   ·intro b hb
    exact h.flow b (by rw [hsp]; exact List.mem_append_right _ hb)
   ·rw [hbo,List.append_assoc]; exact hall
   ·show (Zb4 (setA c.no (⟨c.nd,bs⟩ : Sto) z.A)).length + fr.length = nb
    rw [hbo,List.length_append]
    have := h.count
    rw [hsp,List.length_append] at this
    omega
   ·rw [hget 0 (by omega),hnone 0 (by omega) (fun b hb => by have := hlowb b hb; omega)]; exact h.front
   ·intro i hi hiq
    simp only [getA_setA]
    rw [hget _ (by omega)]
    by_cases hic : ((i : Nat) : Int) = c.no
    ·rw [if_pos hic,show ((1 + i : Nat) : Int) = 1 + c.no by omega,lastOf_nodup hxn (List.mem_append_right _ (List.mem_singleton.2 rfl))]; rfl
    ·rw [if_neg hic,hnone _ (by omega) (fun b hb => by have := hlowb b hb; omega)]
     exact h.node i hi fun hm => by
      rcases List.mem_cons.1 hm with e | e
      ·exact hic e
      ·exact hiq e
   ·intro s hs k b hb
    rw [hset] at hs
    rcases List.mem_append.1 hs with hs | hs
    ·have hb1 := List.mem_of_getElem? hb
     have hb2 := (h.ok s hs).low b hb1
     rw [hget _ (by omega),hnone _ (by omega) (fun b' hb' e => ?_)]
     ·exact h.at_ s hs k b hb
     ·refine hnA.2.2 b (List.mem_flatMap.2 ⟨s,hs,hb1⟩) b' (List.mem_append_left _ hb') ?_
      have := hlowb b' hb'
      omega
    ·rw [List.mem_singleton] at hs
     subst hs
     have hb2 := hlowb b (List.mem_of_getElem? hb)
     rw [hget _ (by omega),show ((1 + n + b.toNat : Nat) : Int) = 1 + (n : Int) + b by omega,lastOf_nodup hxn (List.mem_append_left _ (blockW_of hb))]; rfl
   ·intro v hv
    rcases List.mem_append.1 hv with hv | hv
    ·exact h.wlen v hv
    ·rcases List.mem_append.1 hv with hv | hv
     ·obtain ⟨k,b,hb,rfl⟩ := Zd9 hv
      exact chunkB_length ..
     ·rw [List.mem_singleton] at hv; rw [hv]; exact Ze1 _
   ·intro v hv
    rcases List.mem_append.1 hv with hv | hv
    ·exact h.wlow v hv
    ·rcases List.mem_append.1 hv with hv | hv
     ·obtain ⟨k,b,hb,rfl⟩ := Zd9 hv
      have := hlowb b (List.mem_of_getElem? hb)
      simp only; omega
     ·rw [List.mem_singleton] at hv; rw [hv]; simp only; omega
   ·intro v hv hlt c' hc'
    rcases List.mem_append.1 hv with hv | hv
    ·exact h.wpend v hv hlt c' (List.mem_cons_of_mem _ hc')
    ·rcases List.mem_append.1 hv with hv | hv
     ·obtain ⟨k,b,hb,rfl⟩ := Zd9 hv
      have := hlowb b (List.mem_of_getElem? hb)
      simp only at hlt; omega
     ·rw [List.mem_singleton] at hv; rw [hv]; simp only
      have := hq c' hc'
      omega
   ·intro v hv b hb
    rcases List.mem_append.1 hv with hv | hv
    ·exact h.wfree v hv b (by rw [hsp]; exact List.mem_append_right _ hb)
    ·rcases List.mem_append.1 hv with hv | hv
     ·obtain ⟨k,b',hb',rfl⟩ := Zd9 hv
      have := hnF.2.2 b' (List.mem_of_getElem? hb') b hb
      simp only; omega
     ·have := h.flow b (by rw [hsp]; exact List.mem_append_right _ hb)
      rw [List.mem_singleton] at hv; rw [hv]; simp only; omega
   ·rw [List.map_append,List.nodup_append]
    refine ⟨h.wnodup,hxn,fun a ha b hb => ?_⟩
    obtain ⟨v,hv,rfl⟩ := List.mem_map.1 ha
    obtain ⟨u,hu,rfl⟩ := List.mem_map.1 hb
    rcases List.mem_append.1 hu with hu | hu
    ·obtain ⟨k,b',hb',rfl⟩ := Zd9 hu
     exact h.wfree v hv b' (by rw [hsp]; exact List.mem_append_left _ (List.mem_of_getElem? hb'))
    ·rw [List.mem_singleton] at hu; rw [hu]; simp only
     by_cases hlt : v.1 < 1 + (n : Int)
     ·exact h.wpend v hv hlt c (List.mem_cons_self ..)
     ·omega
   ·rw [h.tab,tabOf_set hc0 hc1]
   ·simp only [h.cnt,List.length_append,List.length_cons,List.length_nil,Zdm,List.length_map,List.length_range,hbl]; omega
theorem stepT_bad {nb : Nat} : ∀ (q : List Chg) (x : Tb × Nat × Bool),x.2.2 = true → (q.foldl (fun x c => Zfl x nb c) x).2.2 = true
 | [],_,h => h
 | c :: q,x,h => stepT_bad q _ (by show (Zfl x nb c).2.2 = true; unfold Zfl; rw [if_pos h]; exact h)
theorem Inv.run {rd fs : List Int} {dat : List (List UInt8)} {n nb : Nat} (hlen : dat.length = 1 + n + nb) : ∀ {q : List Chg} {z : ApS} {x : Tb × Nat × Bool},Inv rd fs dat n nb q z x → (∀ c ∈ q,0 ≤ c.no ∧ c.no < n) → (q.map (·.no)).Nodup → (∀ c ∈ q,c.drop = false → c.nd.st.check = 0 ∧ c.nd.data.length ≤ 512) →
  (z.run n q = none ∧ (q.foldl (fun x c => Zfl x nb c) x).2.2 = true) ∨ ∃ z',z.run n q = some z' ∧ Inv rd fs dat n nb [] z' (q.foldl (fun x c => Zfl x nb c) x)
 | [],z,x,h,_,_,_ => .inr ⟨z,rfl,h⟩
 | c :: q,z,x,h,h1,h2,h3 => by
  have h2' : c.no ∉ q.map (·.no) ∧ (q.map (·.no)).Nodup := List.nodup_cons.1 h2
  have hc := h1 c (List.mem_cons_self ..)
  rcases h.step hlen hc.1 hc.2 (fun c' hc' e => h2'.1 (List.mem_map.2 ⟨c',hc',e⟩)) (h3 c (List.mem_cons_self ..)) with ⟨e1,e2⟩ | ⟨z',e1,h'⟩
  ·left
   refine ⟨by simp [ApS.run,e1],?_⟩
   rw [List.foldl_cons]; exact stepT_bad q _ e2
  ·rcases h'.run hlen (fun c' hc' => h1 c' (List.mem_cons_of_mem _ hc')) h2'.2 (fun c' hc' => h3 c' (List.mem_cons_of_mem _ hc')) with ⟨g1,g2⟩ | ⟨z2,g1,g2⟩
   ·exact .inl ⟨by simp [ApS.run,e1,g1],g2⟩
   ·exact .inr ⟨z2,by simp [ApS.run,e1,g1],g2⟩
/-! ### all changes -/
theorem delAll_get {k : Int} : ∀ (l : List Chg) (A : Ents),(Zb6 A).Nodup → getA k (Zfh A l) = if k ∈ l.map (·.no) then none else getA k A
 | [],A,_ => by simp [Zfh]
 | c :: l,A,h => by
  have ih := delAll_get (k := k) l (delA c.no A) (h.sublist keysA_delA)
  have e : Zfh A (c :: l) = Zfh (delA c.no A) l := rfl
  rw [e,ih,getA_delA h]
  by_cases h1 : k = c.no
  ·simp [h1]
  ·simp [h1]
theorem delAll_sub : ∀ (l : List Chg) (A : Ents),(Zfh A l).Sublist A
 | [],_ => List.Sublist.refl _
 | c :: l,A => (delAll_sub l (delA c.no A)).trans delA_sub
theorem dropT_get : ∀ (l : List Chg) (T : Tb),(∀ c ∈ l,0 ≤ c.no) → ∀ i,i < T.length → (dropT T l)[i]? = if (i : Int) ∈ l.map (·.no) then some none else T[i]?
 | [],T,_,i,_ => by simp [dropT]
 | c :: l,T,h,i,hi => by
  have e : dropT T (c :: l) = dropT (T.set c.no.toNat none) l := rfl
  have hc := h c (List.mem_cons_self ..)
  rw [e,dropT_get l _ (fun c' hc' => h c' (List.mem_cons_of_mem _ hc')) i (by simpa using hi),List.getElem?_set]
  have hmc : ((i : Int) ∈ (c :: l).map (·.no)) ↔ ((i : Int) = c.no ∨ (i : Int) ∈ l.map (·.no)) := by simp
  by_cases hm : (i : Int) ∈ l.map (·.no)
  ·rw [if_pos hm,if_pos (hmc.2 (.inr hm))]
  ·rw [if_neg hm]
   by_cases h1 : c.no.toNat = i
   ·have h2 : (i : Int) = c.no := by omega
    rw [if_pos h1,if_pos (by rw [h1]; exact hi),if_pos (hmc.2 (.inl h2))]
   ·rw [if_neg h1,if_neg (fun h => (hmc.1 h).elim (fun e => h1 (by omega)) hm)]
theorem dropT_length : ∀ (l : List Chg) (T : Tb),(dropT T l).length = T.length
 | [],_ => rfl
 | c :: l,T => by
  have e : dropT T (c :: l) = dropT (T.set c.no.toNat none) l := rfl
  rw [e,dropT_length l]; simp
theorem dropT_is {A : Ents} {n : Nat} {l : List Chg} (h : ∀ c ∈ l,0 ≤ c.no) (hn : (Zb6 A).Nodup) : dropT (tabOf A n) l = tabOf (Zfh A l) n := by
 apply List.ext_getElem?
 intro i
 by_cases hi : i < n
 ·rw [dropT_get l _ h i (by rw [Zc9]; exact hi),tabOf_get _ hi,tabOf_get _ hi,delAll_get l A hn]
  split <;> rfl
 ·rw [List.getElem?_eq_none (by rw [dropT_length,Zc9]; omega),List.getElem?_eq_none (by rw [Zc9]; omega)]
theorem badC_ok : ∀ {l : List Chg},badC l = 0 → ∀ c ∈ l,c.drop = false → c.nd.st.check = 0 ∧ c.nd.data.length ≤ 512
 | c :: l,h,c',hc',hd => by
  unfold badC at h
  rcases List.mem_cons.1 hc' with rfl | hc'
  ·rw [if_neg (by simp [hd])] at h
   split at h
   ·rename_i h1; exact absurd h h1
   ·rename_i h1
    split at h
    ·cases h
    ·exact ⟨by simpa using h1,by omega⟩
  ·split at h
   ·exact badC_ok h c' hc' hd
   ·split at h
    ·rename_i h1; exact absurd h h1
    ·split at h
     ·cases h
     ·exact badC_ok h c' hc' hd
structure Right (l : List Chg) (n : Nat) : Prop where
 low : ∀ c ∈ l,0 ≤ c.no ∧ c.no < n
 nodup : (l.map (·.no)).Nodup
 ok : ∀ c ∈ l,c.drop = false → c.nd.st.check = 0 ∧ c.nd.data.length ≤ 512
theorem right_of {l : List Chg} {n : Nat} (h : checkC l n = 0) : Right l n := by
 unfold checkC at h
 split at h
 ·cases h
 ·rename_i h1
  split at h
  ·cases h
  ·rename_i h2
   refine ⟨fun c hc => ?_,twiceC_nodup (by simpa using h2),badC_ok h⟩
   have h3 : ¬ ((decide (c.no < 0) || decide ((n : Int) ≤ c.no)) = true) := fun e => h1 (List.any_eq_true.2 ⟨c,hc,e⟩)
   simp at h3
   omega
theorem blocks_low {A : Ents} {nb : Nat} (h : ∀ x ∈ A,x.2.ok nb) : ∀ b ∈ Zb4 A,0 ≤ b ∧ b < nb := fun b hb => by
 obtain ⟨x,hx,hbx⟩ := List.mem_flatMap.1 hb
 exact (h x hx).low b hbx
theorem blocks_sub {A B : Ents} (h : A.Sublist B) : (Zb4 A).Sublist (Zb4 B) := by
 induction h with
 | slnil => exact List.Sublist.refl _
 | cons a _ ih => exact ih.trans (List.sublist_append_right _ _)
 | cons_cons a _ ih => exact ih.append_left _
theorem Inv.start {rd fs : List Int} {dat : List (List UInt8)} {n nb : Nat} {A : Ents} {l : List Chg} (hE : Enc rd fs dat n nb A) (hl : Right l n) : Inv rd fs dat n nb l (ApS.start A nb l) (dropT (tabOf A n) l,0,false) := by
 have hsub := delAll_sub l A
 have hok : ∀ s ∈ Zfh A l,s.2.ok nb := fun s hs => hE.ok s (hsub.mem hs)
 have hbn : (Zb4 (Zfh A l)).Nodup := hE.apart.sublist (blocks_sub hsub)
 refine ⟨fun k hk => hE.keys k ((hsub.map _).mem hk),hE.nodup.sublist (hsub.map _),fun c hc hm => ?_,hok,fun b hb => (freeL_mem.1 hb).1,?_,free_len hbn (blocks_low hok),hE.front,?_,?_,(fun v hv => by cases hv),(fun v hv => by cases hv),(fun v hv => by cases hv),(fun v hv => by cases hv),List.nodup_nil,dropT_is (fun c hc => (hl.low c hc).1) hE.nodup,rfl,rfl⟩
 ·have := delAll_get (k := c.no) l A hE.nodup
  rw [if_pos (List.mem_map.2 ⟨c,hc,rfl⟩)] at this
  exact getA_none.1 this hm
 ·rw [List.nodup_append]
  exact ⟨hbn,freeL_nodup _ _,fun a ha b hb e => (freeL_mem.1 hb).2 (e ▸ ha)⟩
 ·intro i hi hil
  have := hE.node i hi
  show dat.getD (1 + i) [] = match getA (i : Nat) (Zfh A l) with | some s => stoB s | none => zero64
  rw [delAll_get l A hE.nodup,if_neg hil]
  exact this
 ·intro s hs k b hb
  exact hE.at_ s (hsub.mem hs) k b hb
theorem apply_law {rd fs : List Int} {dat : List (List UInt8)} {n nb : Nat} {A : Ents} {l : List Chg} (hE : Enc rd fs dat n nb A) (hl : Right l n) :
  ((ApS.start A nb l).run n l = none ∧ (runT (tabOf A n) nb l).2.2 = true) ∨
  ∃ z,(ApS.start A nb l).run n l = some z ∧ (runT (tabOf A n) nb l) = (tabOf z.A n,z.w.length,false) ∧ Enc rd fs (Zde dat z.w) n nb z.A ∧ Zdh z.w = 0 ∧ hasM ((1 + n + nb : Nat) : Int) z.w = true := by
 rcases (Inv.start hE hl).run hE.len hl.low hl.nodup hl.ok with ⟨h1,h2⟩ | ⟨z,h1,h⟩
 ·exact .inl ⟨h1,h2⟩
 ·refine .inr ⟨z,h1,?_,⟨by rw [Zb1]; exact hE.len,h.front,h.keys,h.nodup,fun i hi => h.node i hi (by simp),h.ok,h.at_,(List.nodup_append.1 h.all).1⟩,?_,?_⟩
  ·have e1 := h.tab
   have e2 := h.cnt
   have e3 := h.fine
   have e : runT (tabOf A n) nb l = l.foldl (fun x c => Zfl x nb c) (dropT (tabOf A n) l,0,false) := rfl
   rw [e]
   generalize l.foldl (fun x c => Zfl x nb c) (dropT (tabOf A n) l,0,false) = x at e1 e2 e3 ⊢
   obtain ⟨x1,x2,x3⟩ := x
   simp only at e1 e2 e3
   rw [e1,e2,e3]
  ·unfold Zdh
   rw [if_neg ?_,if_neg (by rw [twice_all h.wnodup]; simp)]
   intro hb
   obtain ⟨v,hv,hb⟩ := List.any_eq_true.1 hb
   have h1 := h.wlen v hv
   have h2 := h.wlow v hv
   unfold badW at hb
   simp [h1] at hb
   omega
  ·unfold hasM
   rw [List.all_eq_true]
   intro v hv
   have h2 := h.wlow v hv
   simp; omega
end Cr
namespace Cr
open Go Go.Proofs
set_option maxRecDepth 10000
theorem nblk_le {n : Nat} (h : n ≤ 512) : nblk n ≤ 8 := by unfold nblk; omega
theorem stoBody_length {s : Sto} {nb : Nat} (_ : s.ok nb) : (stoBody s).length = 13 + 4 * s.blocks.length := by
 have : (s.blocks.flatMap fun b => bigB b 4).length = s.blocks.length * 4 := flatMap_len fun b _ => Zaz b 4
 unfold stoBody
 simp only [List.length_append,List.length_cons,List.length_nil,Zaz,this]; omega
theorem stoB_eq {s : Sto} {nb : Nat} (h : s.ok nb) : stoB s = stoBody s ++ List.replicate (64 - (stoBody s).length) 0 := by
 have h1 := stoBody_length h
 have h2 := h.cnt
 have h3 := nblk_le h.len
 exact fullB_eq (by omega)
theorem stoB_len {s : Sto} {nb : Nat} (h : s.ok nb) : ((stoB s).drop 9).take 4 = bigB (s.nd.data.length : Nat) 4 := by
 rw [stoB_eq h]
 unfold stoBody
 have h1 : (bigB s.nd.st.num 8).length = 8 := Zaz _ _
 have h2 : (bigB ((s.nd.data.length : Nat) : Int) 4).length = 4 := Zaz _ _
 simp [h1,h2]
end Cr
namespace Cr
open Go Go.Proofs
set_option maxRecDepth 100000
set_option maxHeartbeats 8000000
attribute [local irreducible] Calls

structure QlogOk (D : DiskM) (j m : Nat) (done : Int) (dat : List (List UInt8)) : Prop where
 q : Quiet D (1 + j + dat.length)
 line : D.line = []
 d0 : 0 ≤ done
 dm : done ≤ (m : Nat)
 jl : j ≤ 1024
 at_ : ∀ k,k < dat.length → D.laid.getD (1 + j + k) [] = dat.getD k []
def qlog (lp p j m : Nat) (dat : List (List UInt8)) : Res := fun h => ∃ D done,QlogOk D j m done dat ∧ Sep [Zdl lp p 1 0 0 j done false,disk p D] h
theorem Rd.qlog {w : World} {lp p j m : Nat} {dat : List (List UInt8)} (h : Rd w (Cr.qlog lp p j m dat)) : ∃ D done,QlogOk D j m done dat ∧ Rd w (Zdl lp p 1 0 0 j done false) ∧ Rd w (Cr.disk p D) := by
 obtain ⟨f,⟨D,done,hq,hs⟩,ha⟩ := h
 have hr := Rd.sep ⟨f,hs,ha⟩
 exact ⟨D,done,hq,hr _ (List.mem_cons_self ..),hr _ (List.mem_cons_of_mem _ (List.mem_cons_self ..))⟩
theorem St.openQlog {W : World} {F : Nat → Prop} {lp p j m : Nat} {dat : List (List UInt8)} {rs : List Res} {w : World} (hS : St W F (qlog lp p j m dat :: rs) w) : ∃ D done,QlogOk D j m done dat ∧ St W F (Zdl lp p 1 0 0 j done false :: disk p D :: rs) w := by
 obtain ⟨h,⟨h1,h2,⟨D,done,hq,hs⟩,hr,hd,hu⟩,s⟩ := hS
 exact ⟨D,done,hq,h,Sep.append_mk hs hr hd hu,s⟩
theorem St.shutQlog {W : World} {F : Nat → Prop} {lp p j m : Nat} {dat : List (List UInt8)} {rs : List Res} {w : World} {D : DiskM} {done : Int} (hq : QlogOk D j m done dat) (hS : St W F (Zdl lp p 1 0 0 j done false :: disk p D :: rs) w) : St W F (qlog lp p j m dat :: rs) w :=
 St.shutR (rs' := [Zdl lp p 1 0 0 j done false,disk p D]) hS fun _ hh => ⟨D,done,hq,hh⟩
theorem qlen {w : World} {lp p j m : Nat} {dat : List (List UInt8)} (h : Rd w (Cr.qlog lp p j m dat)) : 1 + j + dat.length ≤ 4096 ∧ ∀ s ∈ dat,s.length = 64 := by
 obtain ⟨D,done,hq,_,hD⟩ := h.qlog
 have hok := hD.disk.1
 have h1 := hok.most
 rw [hq.q.len] at h1
 refine ⟨h1,fun s hs => ?_⟩
 obtain ⟨k,hk,rfl⟩ := List.mem_iff_getElem.1 hs
 have h2 := hq.at_ k hk
 rw [List.getD_eq_getElem?_getD,List.getD_eq_getElem?_getD,List.getElem?_eq_getElem hk,List.getElem?_eq_getElem (show 1 + j + k < D.laid.length by rw [hq.q.len]; omega)] at h2
 simp only [Option.getD_some] at h2
 rw [← h2]
 exact hok.laid64 _ (List.getElem_mem _)
theorem qsectors_ (lp p j m : Nat) (dat : List (List UInt8)) (W : World) (h : Rd W (qlog lp p j m dat)) :
  Calls Tryz.prog 165 #[.pointer (some ⟨lp,0,none⟩)] W (Ret fun v w => v = .int .i64 (dat.length : Nat) ∧ St W noF [] w) := by
 obtain ⟨D,done,hq,hL,hD⟩ := h.qlog
 have hj := hq.jl
 have := Zfp lp p 1 0 0 j done false D W hL hD (by omega)
 rwa [show (D.laid.length : Int) - 1 - j = (dat.length : Nat) by rw [hq.q.len]; omega] at this
theorem qread_ (lp p j m : Nat) (dat : List (List UInt8)) (no : Nat) (W : World) (h : Rd W (qlog lp p j m dat)) (hno : no < dat.length) :
  Calls Tryz.prog 118 #[.pointer (some ⟨lp,0,none⟩),.int .i64 (no : Nat)] W (Ret fun v w => ∃ a c,v = .tuple #[.slice a 64 c,.int .i64 0] ∧ 64 ≤ c ∧ St W noF [bytes a (dat.getD no [])] w) := by
 have h64 := (qlen h).2
 obtain ⟨D,done,hq,hL,hD⟩ := h.qlog
 have hj := hq.jl
 have := wread_ lp p 1 0 0 j done false D (no : Nat) W hL hD (by omega) (by rw [hq.line]; simp)
 have hl := hq.q.len
 have e : wreadM D j (no : Nat) = (0,dat.getD no []) := by
  unfold wreadM DiskM.read
  rw [if_neg (by simp [hq.q.off]),if_neg (by omega),if_neg (by simp [hq.q.off]),if_neg (by simp [Zek]; omega),find_quiet hq.line,show ((1 : Int) + j + (no : Nat)).toNat = 1 + j + no by omega,hq.at_ no hno]
 have e2 : (dat.getD no []).length = 64 := by
  rw [List.getD_eq_getElem?_getD,List.getElem?_eq_getElem hno]
  exact h64 _ (List.getElem_mem _)
 rw [e] at this
 simp only [e2] at this
 exact this
theorem qcommit_ (lp p j m : Nat) (dat : List (List UInt8)) (a : Option Addr) (c : Nat) (l : List Wr) (rd fs : List Int) (W : World) (F : Nat → Prop) (hG : Gl W F rd fs) (hW : Wrs W F a l) (hl : l.length ≤ 1048576) (hm : (m : Int) < last)
  (hc : Zdh (l.map Wr.data) = 0) (hh : hasM (dat.length : Nat) (l.map Wr.data) = true) (hS : St W F [qlog lp p j m dat] W) :
  Calls Tryz.prog 121 #[.pointer (some ⟨lp,0,none⟩),.slice a l.length c] W (Ret fun v w =>
   (j / 2 < l.length ∧ v = .int .i64 6 ∧ St W F [qlog lp p j m dat] w) ∨ (l.length ≤ j / 2 ∧ v = .int .i64 0 ∧ St W F [qlog lp p j (m + 1) (Zde dat (l.map Wr.data))] w)) := by
 obtain ⟨D,done,hq,hS⟩ := hS.openQlog
 have hj := hq.jl
 have h0 := hq.d0
 have hdm := hq.dm
 have hlen := hq.q.len
 have hgood := check_good hc
 have hx64 : ∀ v ∈ l,v.x.s.length ≤ 140737488355328 := fun v hv => by
  have := (hgood v.data (List.mem_map.2 ⟨v,hv,rfl⟩)).2
  simp only [Wr.data] at this
  omega
 have := commit_ lp p 1 0 0 j done false D a c l rd fs W F hG hW (by omega) h0 hl hx64 (by rw [hq.line]; simp) hS
 refine Calls.mono this fun e w ⟨v,he,hv,hS⟩ => ⟨v,he,?_⟩
 have hn : ((1 + j + dat.length : Nat) : Int) - 1 - j = (dat.length : Nat) := by omega
 have hnl : (l.map Wr.data).length = l.length := by simp
 by_cases hfull : j / 2 < l.length
 ·left
  have e : Zc1 rd fs D j done (l.map Wr.data) = (6,D,done) := by
   unfold Zc1
   rw [if_neg (by simp [hq.q.off]),if_neg (by simpa using hc),hlen,hn,if_neg (by simp [hh]),if_pos (.inl (by rw [hnl]; omega))]
  rw [e] at hv hS
  exact ⟨hfull,hv,hS.shutQlog hq⟩
 ·right
  have hD := commit_good rd fs (j := j) (done := done) hq.q hq.line hc (by rw [hn]; exact hh) (by rw [hnl]; omega) (by omega)
  have hq2 : QlogOk (Zc1 rd fs D j done (l.map Wr.data)).2.1 j (m + 1) (Zc1 rd fs D j done (l.map Wr.data)).2.2 (Zde dat (l.map Wr.data)) := by
   refine ⟨by rw [Zb1]; exact hD.q,hD.line,by have := hD.lo; omega,by have := hD.hi; omega,hj,fun k hk => ?_⟩
   rw [Zb1] at hk
   rw [hD.at_ k (by omega),hq.at_ k hk,Zej _ _ _ hk (fun v hv => (hgood v hv).1)]
  rw [hD.e] at hv
  exact ⟨by omega,hv,hS.shutQlog hq2⟩
end Cr
namespace Cr
open Go Go.Proofs
set_option maxRecDepth 100000
set_option maxHeartbeats 8000000
attribute [local irreducible] Calls

instance seg_z (l : List Value) : Seg l 0 0 [] := ⟨by simp⟩
instance seg_pre (v : Value) (l cs : List Value) (n : Nat) [h : Seg l 0 n cs] : Seg (v :: l) 0 (n + 1) (v :: cs) := ⟨by have := h.seg; simp only [List.drop_zero] at this ⊢; rw [List.take_succ_cons,this.1]; exact ⟨rfl,by simp [this.2]⟩⟩
abbrev stoV (s : Sto) (da : Option Addr) (dc : Nat) (ba : Option Addr) (bc : Nat) : List Value := [.int .i64 s.nd.st.kind,.int .i64 s.nd.st.mode,.int .i64 s.nd.st.owner,.int .i64 s.nd.st.group,.slice da s.nd.data.length dc,.slice ba s.blocks.length bc]
def headB (s : Sto) : List UInt8 := [1] ++ bigB s.nd.st.num 8 ++ bigB (s.nd.data.length : Nat) 4
def Zev (s : Sto) (i : Nat) : List UInt8 := headB s ++ (s.blocks.take i).flatMap fun b => bigB b 4
theorem bodyTo_succ {s : Sto} {i : Nat} {b : Int} (h : s.blocks[i]? = some b) : Zev s (i + 1) = Zev s i ++ bigB b 4 := by
 unfold Zev
 rw [List.take_add_one,h]
 simp
theorem bodyTo_length (s : Sto) (i : Nat) : (Zev s i).length ≤ 13 + 4 * i := by
 have : ((s.blocks.take i).flatMap fun b => bigB b 4).length = (s.blocks.take i).length * 4 := flatMap_len fun b _ => Zaz b 4
 unfold Zev headB
 simp only [List.length_append,this,Zaz,List.length_take,List.length_cons,List.length_nil]
 omega
theorem bodyTo_all (s : Sto) : Zev s s.blocks.length = stoBody s := by
 unfold Zev headB stoBody
 rw [List.take_length]
theorem sector_ (s : Sto) (da : Option Addr) (dc : Nat) (ba : Option Addr) (bc : Nat) (W : World) (hba : Rd W (row ba (ints .i64 s.blocks))) (hl : s.blocks.length ≤ 1048576) (_ : s.nd.data.length ≤ 1048576) :
  Calls Tryz.prog 181 #[.agg (stoV s da dc ba bc).toArray] W (Ret fun v w => ∃ p,v = .slice (some ⟨p,0,none⟩) 64 64 ∧ St W noF [bytes (some ⟨p,0,none⟩) (stoB s)] w) := by
 have hS := St.start W
 have hbr := hba.ro
 refine Zaq Tryz.func181 rfl Tryz.ntmps181 rfl ?_
 repeat (first|(refine G_id ?_;first|refine Zah ?_|refine Zac rfl rfl ?_)|(refine X_id ?_;first|refine X_yl (Zab rfl rfl) rfl rfl ?_|refine Zel rfl rfl rfl rfl hS (fun _ _ hS _ => ?_))|(refine C_id ?_;first|refine Zaj ?_|refine Zaa ?_)|(refine E_id ?_;first|refine Zae ?_))
 rename_i t1 _ _
 refine C_join (α := Option Addr × Nat) (fun z => [(1,.pointer (some ⟨t1,0,none⟩)),(3,.slice z.1 (Zev s 0).length z.2)]) (fun z w => (Zev s 0).length ≤ z.2 ∧ St W noF [own 5 1 z.1 z.2 (bv (Zev s 0)),pts t1 (.cells (stoV s da dc ba bc).toArray 305)] w) ?_ ?_
 ·have hjl : Zev s 0 = [1] ++ bigB s.nd.st.num 8 ++ bigB (s.nd.data.length : Nat) 4 := by simp [Zev,headB]
  refine Zco (.s 1 (.s 2 (.s 3 (.s 6 (.s 7 (.s 8 (.s 9 (.h 0 (.h 4 (.h 5 (.h 10 (.h 11 (.h 12 (.s 13 .nil) .no) .no) .no) .no) .no) (.h 4 (.h 0 (.h 5 (.h 10 (.h 11 (.h 12 (.s 13 .nil) .no) .no) .no) .no) (.h 5 (.h 0 (.h 10 (.h 11 (.h 12 (.s 13 .nil) .no) .no) .no) (.h 10 (.h 0 (.h 11 (.h 12 (.s 13 .nil) .no) .no) .no) .no)) .no)) .no))))))))) mixed (by kernel_rfl) rfl ?_
  have hS := hS.drew
  repeat (first|(refine Zbm ?_;first|refine Zai rfl rfl (fun _ => Zaf rfl rfl rfl) rfl rfl ?_|refine Zai rfl rfl (fun _ => Zby rfl rfl) rfl rfl ?_|refine Zbq (fun w' => w'.cell? _ = some _) rfl rfl hS.cell (fun _ hc => Zap rfl rfl hc) rfl rfl ?_|refine Zbq (fun w' => Zfe w' _ _ _) rfl rfl hS.cellsN (fun _ hc => Zbf rfl rfl hc) rfl rfl ?_))
  refine GO_alt ?_ ?_
  ·skip
   repeat (first|(refine X_id ?_;first|refine Zbb rfl rfl rfl rfl rfl rfl rfl rfl hS (fun _ _ hS _ => ?_))|(refine Zbm ?_;first|refine Za9 rfl rfl ?_)|(refine Za3 ?_;first|refine And.intro (by repeat (first|exact trivial|refine And.intro (.inl (by decide +kernel)) ?_|refine And.intro (.inr (by first|assumption|exact hS.cell|exact Zan (by assumption)|exact hS.cellI (by omega)|exact hS.cellIP (by omega)|exact hS.cellsN|exact ((hr.rd hS).cellX (by omega) hx)|exact ((hr2.rd hS).cellX (by omega) hx2)|exact hS.cellB (by omega)|exact hS.cellBA (by omega)|exact (hb.rd hS).cellB' (by omega)|exact (hb2.rd hS).cellB' (by omega)|exact (hg.rd hS).cellI (by omega)|exact (hg2.rd hS).cellI (by omega)|exact ((hr.rd hS).cellF (by first|omega|(dsimp only;omega)) hx)|exact ((hr2.rd hS).cellF (by first|omega|(dsimp only;omega)) hx2)|exact hS.cellO 0 (by omega)|exact hS.cellO 1 (by omega)|exact hS.cellIA (by omega)|exact (hg.rd hS).cellIA (by omega)|exact (hg2.rd hS).cellIA (by omega)|exact Zan (hc.rd hS).pts|exact hb.rd hS|exact (hr.rd hS).cellsF7 (by first|omega|(dsimp only;omega)) hst4 rfl|exact (hr2.rd hS).cellsF7 (by first|omega|(dsimp only;omega)) hst4 rfl|exact hS.cellO 4 (by omega)|exact hS.cellO 5 (by omega)|exact hS.cellO 6 (by omega)|exact hS.cellO 7 (by omega)|exact hS.cellO 8 (by omega)|exact hS.cellO 9 (by omega)|exact hS.cellO 10 (by omega)|exact hS.cellO 11 (by omega)|exact hS.cellO 12 (by omega)|exact hS.cellO 13 (by omega)|exact hS.cellO 2 (by omega)|exact hS.cellO 3 (by omega))) ?_)) ?_))
   rename_i b0 _ _
   repeat (first|fail)
   refine Zbn _ rfl rfl rfl rfl rfl hS (mnumber_ s.nd.st _) ?_
   rintro _ w rfl hS
   repeat (first|(refine Zbm ?_;first|refine Za9 rfl rfl ?_)|(refine Za3 ?_;first|refine And.intro (by repeat (first|exact trivial|refine And.intro (.inl (by decide +kernel)) ?_|refine And.intro (.inr (by first|assumption|exact hS.cell|exact Zan (by assumption)|exact hS.cellI (by omega)|exact hS.cellIP (by omega)|exact hS.cellsN|exact ((hr.rd hS).cellX (by omega) hx)|exact ((hr2.rd hS).cellX (by omega) hx2)|exact hS.cellB (by omega)|exact hS.cellBA (by omega)|exact (hb.rd hS).cellB' (by omega)|exact (hb2.rd hS).cellB' (by omega)|exact (hg.rd hS).cellI (by omega)|exact (hg2.rd hS).cellI (by omega)|exact ((hr.rd hS).cellF (by first|omega|(dsimp only;omega)) hx)|exact ((hr2.rd hS).cellF (by first|omega|(dsimp only;omega)) hx2)|exact hS.cellO 0 (by omega)|exact hS.cellO 1 (by omega)|exact hS.cellIA (by omega)|exact (hg.rd hS).cellIA (by omega)|exact (hg2.rd hS).cellIA (by omega)|exact Zan (hc.rd hS).pts|exact hb.rd hS|exact (hr.rd hS).cellsF7 (by first|omega|(dsimp only;omega)) hst4 rfl|exact (hr2.rd hS).cellsF7 (by first|omega|(dsimp only;omega)) hst4 rfl|exact hS.cellO 4 (by omega)|exact hS.cellO 5 (by omega)|exact hS.cellO 6 (by omega)|exact hS.cellO 7 (by omega)|exact hS.cellO 8 (by omega)|exact hS.cellO 9 (by omega)|exact hS.cellO 10 (by omega)|exact hS.cellO 11 (by omega)|exact hS.cellO 12 (by omega)|exact hS.cellO 13 (by omega)|exact hS.cellO 2 (by omega)|exact hS.cellO 3 (by omega))) ?_)) ?_))
   repeat (first|fail)
   refine Zal _ rfl rfl rfl rfl rfl (ibig_ s.nd.st.num 8 (by omega) _) ?_
   rintro _ w ⟨a1,k1,rfl,hk1,hS'⟩
   replace hS := hS.plus hS'
   clear hS'
   repeat (first|(refine Zbm ?_;first|refine Za9 rfl rfl ?_)|(refine Za3 ?_;first|refine And.intro (by repeat (first|exact trivial|refine And.intro (.inl (by decide +kernel)) ?_|refine And.intro (.inr (by first|assumption|exact hS.cell|exact Zan (by assumption)|exact hS.cellI (by omega)|exact hS.cellIP (by omega)|exact hS.cellsN|exact ((hr.rd hS).cellX (by omega) hx)|exact ((hr2.rd hS).cellX (by omega) hx2)|exact hS.cellB (by omega)|exact hS.cellBA (by omega)|exact (hb.rd hS).cellB' (by omega)|exact (hb2.rd hS).cellB' (by omega)|exact (hg.rd hS).cellI (by omega)|exact (hg2.rd hS).cellI (by omega)|exact ((hr.rd hS).cellF (by first|omega|(dsimp only;omega)) hx)|exact ((hr2.rd hS).cellF (by first|omega|(dsimp only;omega)) hx2)|exact hS.cellO 0 (by omega)|exact hS.cellO 1 (by omega)|exact hS.cellIA (by omega)|exact (hg.rd hS).cellIA (by omega)|exact (hg2.rd hS).cellIA (by omega)|exact Zan (hc.rd hS).pts|exact hb.rd hS|exact (hr.rd hS).cellsF7 (by first|omega|(dsimp only;omega)) hst4 rfl|exact (hr2.rd hS).cellsF7 (by first|omega|(dsimp only;omega)) hst4 rfl|exact hS.cellO 4 (by omega)|exact hS.cellO 5 (by omega)|exact hS.cellO 6 (by omega)|exact hS.cellO 7 (by omega)|exact hS.cellO 8 (by omega)|exact hS.cellO 9 (by omega)|exact hS.cellO 10 (by omega)|exact hS.cellO 11 (by omega)|exact hS.cellO 12 (by omega)|exact hS.cellO 13 (by omega)|exact hS.cellO 2 (by omega)|exact hS.cellO 3 (by omega))) ?_)) ?_))
   repeat (first|fail)
   refine Zal _ rfl rfl rfl rfl rfl (ibig_ (s.nd.data.length : Nat) 4 (by omega) _) ?_
   rintro _ w ⟨a2,k2,rfl,hk2,hS'⟩
   replace hS := hS.plus hS'
   clear hS'
   repeat (first|(refine X_id ?_;first|refine Zbb rfl rfl rfl rfl rfl rfl rfl rfl hS (fun _ _ hS _ => ?_))|(refine Zbm ?_;first|refine Za9 rfl rfl ?_)|(refine Za3 ?_;first|refine And.intro (by repeat (first|exact trivial|refine And.intro (.inl (by decide +kernel)) ?_|refine And.intro (.inr (by first|assumption|exact hS.cell|exact Zan (by assumption)|exact hS.cellI (by omega)|exact hS.cellIP (by omega)|exact hS.cellsN|exact ((hr.rd hS).cellX (by omega) hx)|exact ((hr2.rd hS).cellX (by omega) hx2)|exact hS.cellB (by omega)|exact hS.cellBA (by omega)|exact (hb.rd hS).cellB' (by omega)|exact (hb2.rd hS).cellB' (by omega)|exact (hg.rd hS).cellI (by omega)|exact (hg2.rd hS).cellI (by omega)|exact ((hr.rd hS).cellF (by first|omega|(dsimp only;omega)) hx)|exact ((hr2.rd hS).cellF (by first|omega|(dsimp only;omega)) hx2)|exact hS.cellO 0 (by omega)|exact hS.cellO 1 (by omega)|exact hS.cellIA (by omega)|exact (hg.rd hS).cellIA (by omega)|exact (hg2.rd hS).cellIA (by omega)|exact Zan (hc.rd hS).pts|exact hb.rd hS|exact (hr.rd hS).cellsF7 (by first|omega|(dsimp only;omega)) hst4 rfl|exact (hr2.rd hS).cellsF7 (by first|omega|(dsimp only;omega)) hst4 rfl|exact hS.cellO 4 (by omega)|exact hS.cellO 5 (by omega)|exact hS.cellO 6 (by omega)|exact hS.cellO 7 (by omega)|exact hS.cellO 8 (by omega)|exact hS.cellO 9 (by omega)|exact hS.cellO 10 (by omega)|exact hS.cellO 11 (by omega)|exact hS.cellO 12 (by omega)|exact hS.cellO 13 (by omega)|exact hS.cellO 2 (by omega)|exact hS.cellO 3 (by omega))) ?_)) ?_))
   rename_i b3 w3 _
   have hB := Bss.ofRd (w := w3) (a := some ⟨b3,0,none⟩) (l := [⟨some ⟨b0,0,none⟩,1,[1]⟩,⟨a1,k1,bigB s.nd.st.num 8⟩,⟨a2,k2,bigB (s.nd.data.length : Nat) 4⟩])
    (by simpa [Bs.val,Zaz] using hS.ownRd (a := some ⟨b3,0,none⟩)) (fun x hx => by
     simp only [List.mem_cons,List.not_mem_nil,or_false] at hx
     rcases hx with rfl | rfl | rfl
     ·exact hS.ownRd
     ·exact hS.ownRd
     ·exact hS.ownRd)
   refine Zal _ rfl rfl rfl rfl rfl (concat_ _ 3 _ _ hB (by simp) (by simp [Zba,Zaz])) ?_
   rintro _ w ⟨a',c',rfl,hc',hS'⟩
   replace hS := (hS.plus hS')
   repeat (first|(refine Zbm ?_;first|refine Zbv ?_|refine Zai rfl rfl (fun _ => Zab rfl rfl) rfl rfl ?_)|(refine Za3 ?_;first|refine And.intro (by repeat (first|exact trivial|refine And.intro (.inl (by decide +kernel)) ?_|refine And.intro (.inr (by first|assumption|exact hS.cell|exact Zan (by assumption)|exact hS.cellI (by omega)|exact hS.cellIP (by omega)|exact hS.cellsN|exact ((hr.rd hS).cellX (by omega) hx)|exact ((hr2.rd hS).cellX (by omega) hx2)|exact hS.cellB (by omega)|exact hS.cellBA (by omega)|exact (hb.rd hS).cellB' (by omega)|exact (hb2.rd hS).cellB' (by omega)|exact (hg.rd hS).cellI (by omega)|exact (hg2.rd hS).cellI (by omega)|exact ((hr.rd hS).cellF (by first|omega|(dsimp only;omega)) hx)|exact ((hr2.rd hS).cellF (by first|omega|(dsimp only;omega)) hx2)|exact hS.cellO 0 (by omega)|exact hS.cellO 1 (by omega)|exact hS.cellIA (by omega)|exact (hg.rd hS).cellIA (by omega)|exact (hg2.rd hS).cellIA (by omega)|exact Zan (hc.rd hS).pts|exact hb.rd hS|exact (hr.rd hS).cellsF7 (by first|omega|(dsimp only;omega)) hst4 rfl|exact (hr2.rd hS).cellsF7 (by first|omega|(dsimp only;omega)) hst4 rfl|exact hS.cellO 4 (by omega)|exact hS.cellO 5 (by omega)|exact hS.cellO 6 (by omega)|exact hS.cellO 7 (by omega)|exact hS.cellO 8 (by omega)|exact hS.cellO 9 (by omega)|exact hS.cellO 10 (by omega)|exact hS.cellO 11 (by omega)|exact hS.cellO 12 (by omega)|exact hS.cellO 13 (by omega)|exact hS.cellO 2 (by omega)|exact hS.cellO 3 (by omega))) ?_)) ?_))
   refine E_mid (a',c') ⟨rfl,by simp only; rw [hjl]; simp [Zba,Zaz,look],trivial⟩ ⟨by simp only; rw [hjl]; simpa [Zba,Zaz] using hc',?_⟩
   have hj : Zba [⟨some ⟨b0,0,none⟩,1,[1]⟩,⟨a1,k1,bigB s.nd.st.num 8⟩,⟨a2,k2,bigB (s.nd.data.length : Nat) 4⟩] = [1] ++ bigB s.nd.st.num 8 ++ bigB (s.nd.data.length : Nat) 4 := by simp [Zba]
   simp only; rw [hjl,← hj]
   exact hS.took
  repeat (first|(refine Zbm ?_;first|refine Za9 rfl rfl ?_))
  refine Zbn _ rfl rfl rfl rfl rfl hS (mnumber_ s.nd.st _) ?_
  rintro _ w rfl hS
  repeat (first|(refine Za3 ?_;first|refine And.intro (by repeat (first|exact trivial|refine And.intro (.inl (by decide +kernel)) ?_|refine And.intro (.inr (by first|assumption|exact hS.cell|exact Zan (by assumption)|exact hS.cellI (by omega)|exact hS.cellIP (by omega)|exact hS.cellsN|exact ((hr.rd hS).cellX (by omega) hx)|exact ((hr2.rd hS).cellX (by omega) hx2)|exact hS.cellB (by omega)|exact hS.cellBA (by omega)|exact (hb.rd hS).cellB' (by omega)|exact (hb2.rd hS).cellB' (by omega)|exact (hg.rd hS).cellI (by omega)|exact (hg2.rd hS).cellI (by omega)|exact ((hr.rd hS).cellF (by first|omega|(dsimp only;omega)) hx)|exact ((hr2.rd hS).cellF (by first|omega|(dsimp only;omega)) hx2)|exact hS.cellO 0 (by omega)|exact hS.cellO 1 (by omega)|exact hS.cellIA (by omega)|exact (hg.rd hS).cellIA (by omega)|exact (hg2.rd hS).cellIA (by omega)|exact Zan (hc.rd hS).pts|exact hb.rd hS|exact (hr.rd hS).cellsF7 (by first|omega|(dsimp only;omega)) hst4 rfl|exact (hr2.rd hS).cellsF7 (by first|omega|(dsimp only;omega)) hst4 rfl|exact hS.cellO 4 (by omega)|exact hS.cellO 5 (by omega)|exact hS.cellO 6 (by omega)|exact hS.cellO 7 (by omega)|exact hS.cellO 8 (by omega)|exact hS.cellO 9 (by omega)|exact hS.cellO 10 (by omega)|exact hS.cellO 11 (by omega)|exact hS.cellO 12 (by omega)|exact hS.cellO 13 (by omega)|exact hS.cellO 2 (by omega)|exact hS.cellO 3 (by omega))) ?_)) ?_))
  refine GO_alt ?_ ?_
  ·skip
   repeat (first|(refine X_id ?_;first|refine Zbb rfl rfl rfl rfl rfl rfl rfl rfl hS (fun _ _ hS _ => ?_))|(refine Zbm ?_;first|refine Za9 rfl rfl ?_)|(refine Za3 ?_;first|refine And.intro (by repeat (first|exact trivial|refine And.intro (.inl (by decide +kernel)) ?_|refine And.intro (.inr (by first|assumption|exact hS.cell|exact Zan (by assumption)|exact hS.cellI (by omega)|exact hS.cellIP (by omega)|exact hS.cellsN|exact ((hr.rd hS).cellX (by omega) hx)|exact ((hr2.rd hS).cellX (by omega) hx2)|exact hS.cellB (by omega)|exact hS.cellBA (by omega)|exact (hb.rd hS).cellB' (by omega)|exact (hb2.rd hS).cellB' (by omega)|exact (hg.rd hS).cellI (by omega)|exact (hg2.rd hS).cellI (by omega)|exact ((hr.rd hS).cellF (by first|omega|(dsimp only;omega)) hx)|exact ((hr2.rd hS).cellF (by first|omega|(dsimp only;omega)) hx2)|exact hS.cellO 0 (by omega)|exact hS.cellO 1 (by omega)|exact hS.cellIA (by omega)|exact (hg.rd hS).cellIA (by omega)|exact (hg2.rd hS).cellIA (by omega)|exact Zan (hc.rd hS).pts|exact hb.rd hS|exact (hr.rd hS).cellsF7 (by first|omega|(dsimp only;omega)) hst4 rfl|exact (hr2.rd hS).cellsF7 (by first|omega|(dsimp only;omega)) hst4 rfl|exact hS.cellO 4 (by omega)|exact hS.cellO 5 (by omega)|exact hS.cellO 6 (by omega)|exact hS.cellO 7 (by omega)|exact hS.cellO 8 (by omega)|exact hS.cellO 9 (by omega)|exact hS.cellO 10 (by omega)|exact hS.cellO 11 (by omega)|exact hS.cellO 12 (by omega)|exact hS.cellO 13 (by omega)|exact hS.cellO 2 (by omega)|exact hS.cellO 3 (by omega))) ?_)) ?_))
   rename_i b0 _ _
   repeat (first|fail)
   refine Zal _ rfl rfl rfl rfl rfl (ibig_ s.nd.st.num 8 (by omega) _) ?_
   rintro _ w ⟨a1,k1,rfl,hk1,hS'⟩
   replace hS := hS.plus hS'
   clear hS'
   repeat (first|(refine Zbm ?_;first|refine Za9 rfl rfl ?_)|(refine Za3 ?_;first|refine And.intro (by repeat (first|exact trivial|refine And.intro (.inl (by decide +kernel)) ?_|refine And.intro (.inr (by first|assumption|exact hS.cell|exact Zan (by assumption)|exact hS.cellI (by omega)|exact hS.cellIP (by omega)|exact hS.cellsN|exact ((hr.rd hS).cellX (by omega) hx)|exact ((hr2.rd hS).cellX (by omega) hx2)|exact hS.cellB (by omega)|exact hS.cellBA (by omega)|exact (hb.rd hS).cellB' (by omega)|exact (hb2.rd hS).cellB' (by omega)|exact (hg.rd hS).cellI (by omega)|exact (hg2.rd hS).cellI (by omega)|exact ((hr.rd hS).cellF (by first|omega|(dsimp only;omega)) hx)|exact ((hr2.rd hS).cellF (by first|omega|(dsimp only;omega)) hx2)|exact hS.cellO 0 (by omega)|exact hS.cellO 1 (by omega)|exact hS.cellIA (by omega)|exact (hg.rd hS).cellIA (by omega)|exact (hg2.rd hS).cellIA (by omega)|exact Zan (hc.rd hS).pts|exact hb.rd hS|exact (hr.rd hS).cellsF7 (by first|omega|(dsimp only;omega)) hst4 rfl|exact (hr2.rd hS).cellsF7 (by first|omega|(dsimp only;omega)) hst4 rfl|exact hS.cellO 4 (by omega)|exact hS.cellO 5 (by omega)|exact hS.cellO 6 (by omega)|exact hS.cellO 7 (by omega)|exact hS.cellO 8 (by omega)|exact hS.cellO 9 (by omega)|exact hS.cellO 10 (by omega)|exact hS.cellO 11 (by omega)|exact hS.cellO 12 (by omega)|exact hS.cellO 13 (by omega)|exact hS.cellO 2 (by omega)|exact hS.cellO 3 (by omega))) ?_)) ?_))
   repeat (first|fail)
   refine Zal _ rfl rfl rfl rfl rfl (ibig_ (s.nd.data.length : Nat) 4 (by omega) _) ?_
   rintro _ w ⟨a2,k2,rfl,hk2,hS'⟩
   replace hS := hS.plus hS'
   clear hS'
   repeat (first|(refine X_id ?_;first|refine Zbb rfl rfl rfl rfl rfl rfl rfl rfl hS (fun _ _ hS _ => ?_))|(refine Zbm ?_;first|refine Za9 rfl rfl ?_)|(refine Za3 ?_;first|refine And.intro (by repeat (first|exact trivial|refine And.intro (.inl (by decide +kernel)) ?_|refine And.intro (.inr (by first|assumption|exact hS.cell|exact Zan (by assumption)|exact hS.cellI (by omega)|exact hS.cellIP (by omega)|exact hS.cellsN|exact ((hr.rd hS).cellX (by omega) hx)|exact ((hr2.rd hS).cellX (by omega) hx2)|exact hS.cellB (by omega)|exact hS.cellBA (by omega)|exact (hb.rd hS).cellB' (by omega)|exact (hb2.rd hS).cellB' (by omega)|exact (hg.rd hS).cellI (by omega)|exact (hg2.rd hS).cellI (by omega)|exact ((hr.rd hS).cellF (by first|omega|(dsimp only;omega)) hx)|exact ((hr2.rd hS).cellF (by first|omega|(dsimp only;omega)) hx2)|exact hS.cellO 0 (by omega)|exact hS.cellO 1 (by omega)|exact hS.cellIA (by omega)|exact (hg.rd hS).cellIA (by omega)|exact (hg2.rd hS).cellIA (by omega)|exact Zan (hc.rd hS).pts|exact hb.rd hS|exact (hr.rd hS).cellsF7 (by first|omega|(dsimp only;omega)) hst4 rfl|exact (hr2.rd hS).cellsF7 (by first|omega|(dsimp only;omega)) hst4 rfl|exact hS.cellO 4 (by omega)|exact hS.cellO 5 (by omega)|exact hS.cellO 6 (by omega)|exact hS.cellO 7 (by omega)|exact hS.cellO 8 (by omega)|exact hS.cellO 9 (by omega)|exact hS.cellO 10 (by omega)|exact hS.cellO 11 (by omega)|exact hS.cellO 12 (by omega)|exact hS.cellO 13 (by omega)|exact hS.cellO 2 (by omega)|exact hS.cellO 3 (by omega))) ?_)) ?_))
   rename_i b3 w3 _
   have hB := Bss.ofRd (w := w3) (a := some ⟨b3,0,none⟩) (l := [⟨some ⟨b0,0,none⟩,1,[1]⟩,⟨a1,k1,bigB s.nd.st.num 8⟩,⟨a2,k2,bigB (s.nd.data.length : Nat) 4⟩])
    (by simpa [Bs.val,Zaz] using hS.ownRd (a := some ⟨b3,0,none⟩)) (fun x hx => by
     simp only [List.mem_cons,List.not_mem_nil,or_false] at hx
     rcases hx with rfl | rfl | rfl
     ·exact hS.ownRd
     ·exact hS.ownRd
     ·exact hS.ownRd)
   refine Zal _ rfl rfl rfl rfl rfl (concat_ _ 3 _ _ hB (by simp) (by simp [Zba,Zaz])) ?_
   rintro _ w ⟨a',c',rfl,hc',hS'⟩
   replace hS := (hS.plus hS')
   repeat (first|(refine Zbm ?_;first|refine Zbv ?_|refine Zai rfl rfl (fun _ => Zab rfl rfl) rfl rfl ?_)|(refine Za3 ?_;first|refine And.intro (by repeat (first|exact trivial|refine And.intro (.inl (by decide +kernel)) ?_|refine And.intro (.inr (by first|assumption|exact hS.cell|exact Zan (by assumption)|exact hS.cellI (by omega)|exact hS.cellIP (by omega)|exact hS.cellsN|exact ((hr.rd hS).cellX (by omega) hx)|exact ((hr2.rd hS).cellX (by omega) hx2)|exact hS.cellB (by omega)|exact hS.cellBA (by omega)|exact (hb.rd hS).cellB' (by omega)|exact (hb2.rd hS).cellB' (by omega)|exact (hg.rd hS).cellI (by omega)|exact (hg2.rd hS).cellI (by omega)|exact ((hr.rd hS).cellF (by first|omega|(dsimp only;omega)) hx)|exact ((hr2.rd hS).cellF (by first|omega|(dsimp only;omega)) hx2)|exact hS.cellO 0 (by omega)|exact hS.cellO 1 (by omega)|exact hS.cellIA (by omega)|exact (hg.rd hS).cellIA (by omega)|exact (hg2.rd hS).cellIA (by omega)|exact Zan (hc.rd hS).pts|exact hb.rd hS|exact (hr.rd hS).cellsF7 (by first|omega|(dsimp only;omega)) hst4 rfl|exact (hr2.rd hS).cellsF7 (by first|omega|(dsimp only;omega)) hst4 rfl|exact hS.cellO 4 (by omega)|exact hS.cellO 5 (by omega)|exact hS.cellO 6 (by omega)|exact hS.cellO 7 (by omega)|exact hS.cellO 8 (by omega)|exact hS.cellO 9 (by omega)|exact hS.cellO 10 (by omega)|exact hS.cellO 11 (by omega)|exact hS.cellO 12 (by omega)|exact hS.cellO 13 (by omega)|exact hS.cellO 2 (by omega)|exact hS.cellO 3 (by omega))) ?_)) ?_))
   refine E_mid (a',c') ⟨rfl,by simp only; rw [hjl]; simp [Zba,Zaz,look],trivial⟩ ⟨by simp only; rw [hjl]; simpa [Zba,Zaz] using hc',?_⟩
   have hj : Zba [⟨some ⟨b0,0,none⟩,1,[1]⟩,⟨a1,k1,bigB s.nd.st.num 8⟩,⟨a2,k2,bigB (s.nd.data.length : Nat) 4⟩] = [1] ++ bigB s.nd.st.num 8 ++ bigB (s.nd.data.length : Nat) 4 := by simp [Zba]
   simp only; rw [hjl,← hj]
   exact hS.took
  repeat (first|(refine Zbm ?_;first|refine Za9 rfl rfl ?_))
  refine Zal _ rfl rfl rfl rfl rfl (ibig_ s.nd.st.num 8 (by omega) _) ?_
  rintro _ w ⟨a1,k1,rfl,hk1,hS'⟩
  replace hS := hS.plus hS'
  clear hS'
  repeat (first|(refine Za3 ?_;first|refine And.intro (by repeat (first|exact trivial|refine And.intro (.inl (by decide +kernel)) ?_|refine And.intro (.inr (by first|assumption|exact hS.cell|exact Zan (by assumption)|exact hS.cellI (by omega)|exact hS.cellIP (by omega)|exact hS.cellsN|exact ((hr.rd hS).cellX (by omega) hx)|exact ((hr2.rd hS).cellX (by omega) hx2)|exact hS.cellB (by omega)|exact hS.cellBA (by omega)|exact (hb.rd hS).cellB' (by omega)|exact (hb2.rd hS).cellB' (by omega)|exact (hg.rd hS).cellI (by omega)|exact (hg2.rd hS).cellI (by omega)|exact ((hr.rd hS).cellF (by first|omega|(dsimp only;omega)) hx)|exact ((hr2.rd hS).cellF (by first|omega|(dsimp only;omega)) hx2)|exact hS.cellO 0 (by omega)|exact hS.cellO 1 (by omega)|exact hS.cellIA (by omega)|exact (hg.rd hS).cellIA (by omega)|exact (hg2.rd hS).cellIA (by omega)|exact Zan (hc.rd hS).pts|exact hb.rd hS|exact (hr.rd hS).cellsF7 (by first|omega|(dsimp only;omega)) hst4 rfl|exact (hr2.rd hS).cellsF7 (by first|omega|(dsimp only;omega)) hst4 rfl|exact hS.cellO 4 (by omega)|exact hS.cellO 5 (by omega)|exact hS.cellO 6 (by omega)|exact hS.cellO 7 (by omega)|exact hS.cellO 8 (by omega)|exact hS.cellO 9 (by omega)|exact hS.cellO 10 (by omega)|exact hS.cellO 11 (by omega)|exact hS.cellO 12 (by omega)|exact hS.cellO 13 (by omega)|exact hS.cellO 2 (by omega)|exact hS.cellO 3 (by omega))) ?_)) ?_))
  refine GO_alt ?_ ?_
  ·skip
   repeat (first|(refine X_id ?_;first|refine Zbb rfl rfl rfl rfl rfl rfl rfl rfl hS (fun _ _ hS _ => ?_))|(refine Zbm ?_;first|refine Za9 rfl rfl ?_)|(refine Za3 ?_;first|refine And.intro (by repeat (first|exact trivial|refine And.intro (.inl (by decide +kernel)) ?_|refine And.intro (.inr (by first|assumption|exact hS.cell|exact Zan (by assumption)|exact hS.cellI (by omega)|exact hS.cellIP (by omega)|exact hS.cellsN|exact ((hr.rd hS).cellX (by omega) hx)|exact ((hr2.rd hS).cellX (by omega) hx2)|exact hS.cellB (by omega)|exact hS.cellBA (by omega)|exact (hb.rd hS).cellB' (by omega)|exact (hb2.rd hS).cellB' (by omega)|exact (hg.rd hS).cellI (by omega)|exact (hg2.rd hS).cellI (by omega)|exact ((hr.rd hS).cellF (by first|omega|(dsimp only;omega)) hx)|exact ((hr2.rd hS).cellF (by first|omega|(dsimp only;omega)) hx2)|exact hS.cellO 0 (by omega)|exact hS.cellO 1 (by omega)|exact hS.cellIA (by omega)|exact (hg.rd hS).cellIA (by omega)|exact (hg2.rd hS).cellIA (by omega)|exact Zan (hc.rd hS).pts|exact hb.rd hS|exact (hr.rd hS).cellsF7 (by first|omega|(dsimp only;omega)) hst4 rfl|exact (hr2.rd hS).cellsF7 (by first|omega|(dsimp only;omega)) hst4 rfl|exact hS.cellO 4 (by omega)|exact hS.cellO 5 (by omega)|exact hS.cellO 6 (by omega)|exact hS.cellO 7 (by omega)|exact hS.cellO 8 (by omega)|exact hS.cellO 9 (by omega)|exact hS.cellO 10 (by omega)|exact hS.cellO 11 (by omega)|exact hS.cellO 12 (by omega)|exact hS.cellO 13 (by omega)|exact hS.cellO 2 (by omega)|exact hS.cellO 3 (by omega))) ?_)) ?_))
   rename_i b0 _ _
   repeat (first|fail)
   refine Zal _ rfl rfl rfl rfl rfl (ibig_ (s.nd.data.length : Nat) 4 (by omega) _) ?_
   rintro _ w ⟨a2,k2,rfl,hk2,hS'⟩
   replace hS := hS.plus hS'
   clear hS'
   repeat (first|(refine X_id ?_;first|refine Zbb rfl rfl rfl rfl rfl rfl rfl rfl hS (fun _ _ hS _ => ?_))|(refine Zbm ?_;first|refine Za9 rfl rfl ?_)|(refine Za3 ?_;first|refine And.intro (by repeat (first|exact trivial|refine And.intro (.inl (by decide +kernel)) ?_|refine And.intro (.inr (by first|assumption|exact hS.cell|exact Zan (by assumption)|exact hS.cellI (by omega)|exact hS.cellIP (by omega)|exact hS.cellsN|exact ((hr.rd hS).cellX (by omega) hx)|exact ((hr2.rd hS).cellX (by omega) hx2)|exact hS.cellB (by omega)|exact hS.cellBA (by omega)|exact (hb.rd hS).cellB' (by omega)|exact (hb2.rd hS).cellB' (by omega)|exact (hg.rd hS).cellI (by omega)|exact (hg2.rd hS).cellI (by omega)|exact ((hr.rd hS).cellF (by first|omega|(dsimp only;omega)) hx)|exact ((hr2.rd hS).cellF (by first|omega|(dsimp only;omega)) hx2)|exact hS.cellO 0 (by omega)|exact hS.cellO 1 (by omega)|exact hS.cellIA (by omega)|exact (hg.rd hS).cellIA (by omega)|exact (hg2.rd hS).cellIA (by omega)|exact Zan (hc.rd hS).pts|exact hb.rd hS|exact (hr.rd hS).cellsF7 (by first|omega|(dsimp only;omega)) hst4 rfl|exact (hr2.rd hS).cellsF7 (by first|omega|(dsimp only;omega)) hst4 rfl|exact hS.cellO 4 (by omega)|exact hS.cellO 5 (by omega)|exact hS.cellO 6 (by omega)|exact hS.cellO 7 (by omega)|exact hS.cellO 8 (by omega)|exact hS.cellO 9 (by omega)|exact hS.cellO 10 (by omega)|exact hS.cellO 11 (by omega)|exact hS.cellO 12 (by omega)|exact hS.cellO 13 (by omega)|exact hS.cellO 2 (by omega)|exact hS.cellO 3 (by omega))) ?_)) ?_))
   rename_i b3 w3 _
   have hB := Bss.ofRd (w := w3) (a := some ⟨b3,0,none⟩) (l := [⟨some ⟨b0,0,none⟩,1,[1]⟩,⟨a1,k1,bigB s.nd.st.num 8⟩,⟨a2,k2,bigB (s.nd.data.length : Nat) 4⟩])
    (by simpa [Bs.val,Zaz] using hS.ownRd (a := some ⟨b3,0,none⟩)) (fun x hx => by
     simp only [List.mem_cons,List.not_mem_nil,or_false] at hx
     rcases hx with rfl | rfl | rfl
     ·exact hS.ownRd
     ·exact hS.ownRd
     ·exact hS.ownRd)
   refine Zal _ rfl rfl rfl rfl rfl (concat_ _ 3 _ _ hB (by simp) (by simp [Zba,Zaz])) ?_
   rintro _ w ⟨a',c',rfl,hc',hS'⟩
   replace hS := (hS.plus hS')
   repeat (first|(refine Zbm ?_;first|refine Zbv ?_|refine Zai rfl rfl (fun _ => Zab rfl rfl) rfl rfl ?_)|(refine Za3 ?_;first|refine And.intro (by repeat (first|exact trivial|refine And.intro (.inl (by decide +kernel)) ?_|refine And.intro (.inr (by first|assumption|exact hS.cell|exact Zan (by assumption)|exact hS.cellI (by omega)|exact hS.cellIP (by omega)|exact hS.cellsN|exact ((hr.rd hS).cellX (by omega) hx)|exact ((hr2.rd hS).cellX (by omega) hx2)|exact hS.cellB (by omega)|exact hS.cellBA (by omega)|exact (hb.rd hS).cellB' (by omega)|exact (hb2.rd hS).cellB' (by omega)|exact (hg.rd hS).cellI (by omega)|exact (hg2.rd hS).cellI (by omega)|exact ((hr.rd hS).cellF (by first|omega|(dsimp only;omega)) hx)|exact ((hr2.rd hS).cellF (by first|omega|(dsimp only;omega)) hx2)|exact hS.cellO 0 (by omega)|exact hS.cellO 1 (by omega)|exact hS.cellIA (by omega)|exact (hg.rd hS).cellIA (by omega)|exact (hg2.rd hS).cellIA (by omega)|exact Zan (hc.rd hS).pts|exact hb.rd hS|exact (hr.rd hS).cellsF7 (by first|omega|(dsimp only;omega)) hst4 rfl|exact (hr2.rd hS).cellsF7 (by first|omega|(dsimp only;omega)) hst4 rfl|exact hS.cellO 4 (by omega)|exact hS.cellO 5 (by omega)|exact hS.cellO 6 (by omega)|exact hS.cellO 7 (by omega)|exact hS.cellO 8 (by omega)|exact hS.cellO 9 (by omega)|exact hS.cellO 10 (by omega)|exact hS.cellO 11 (by omega)|exact hS.cellO 12 (by omega)|exact hS.cellO 13 (by omega)|exact hS.cellO 2 (by omega)|exact hS.cellO 3 (by omega))) ?_)) ?_))
   refine E_mid (a',c') ⟨rfl,by simp only; rw [hjl]; simp [Zba,Zaz,look],trivial⟩ ⟨by simp only; rw [hjl]; simpa [Zba,Zaz] using hc',?_⟩
   have hj : Zba [⟨some ⟨b0,0,none⟩,1,[1]⟩,⟨a1,k1,bigB s.nd.st.num 8⟩,⟨a2,k2,bigB (s.nd.data.length : Nat) 4⟩] = [1] ++ bigB s.nd.st.num 8 ++ bigB (s.nd.data.length : Nat) 4 := by simp [Zba]
   simp only; rw [hjl,← hj]
   exact hS.took
  repeat (first|(refine Zbm ?_;first|refine Za9 rfl rfl ?_))
  refine Zal _ rfl rfl rfl rfl rfl (ibig_ (s.nd.data.length : Nat) 4 (by omega) _) ?_
  rintro _ w ⟨a2,k2,rfl,hk2,hS'⟩
  replace hS := hS.plus hS'
  clear hS'
  repeat (first|(refine X_id ?_;first|refine Zbb rfl rfl rfl rfl rfl rfl rfl rfl hS (fun _ _ hS _ => ?_))|(refine Zbm ?_;first|refine Za9 rfl rfl ?_)|(refine Za3 ?_;first|refine And.intro (by repeat (first|exact trivial|refine And.intro (.inl (by decide +kernel)) ?_|refine And.intro (.inr (by first|assumption|exact hS.cell|exact Zan (by assumption)|exact hS.cellI (by omega)|exact hS.cellIP (by omega)|exact hS.cellsN|exact ((hr.rd hS).cellX (by omega) hx)|exact ((hr2.rd hS).cellX (by omega) hx2)|exact hS.cellB (by omega)|exact hS.cellBA (by omega)|exact (hb.rd hS).cellB' (by omega)|exact (hb2.rd hS).cellB' (by omega)|exact (hg.rd hS).cellI (by omega)|exact (hg2.rd hS).cellI (by omega)|exact ((hr.rd hS).cellF (by first|omega|(dsimp only;omega)) hx)|exact ((hr2.rd hS).cellF (by first|omega|(dsimp only;omega)) hx2)|exact hS.cellO 0 (by omega)|exact hS.cellO 1 (by omega)|exact hS.cellIA (by omega)|exact (hg.rd hS).cellIA (by omega)|exact (hg2.rd hS).cellIA (by omega)|exact Zan (hc.rd hS).pts|exact hb.rd hS|exact (hr.rd hS).cellsF7 (by first|omega|(dsimp only;omega)) hst4 rfl|exact (hr2.rd hS).cellsF7 (by first|omega|(dsimp only;omega)) hst4 rfl|exact hS.cellO 4 (by omega)|exact hS.cellO 5 (by omega)|exact hS.cellO 6 (by omega)|exact hS.cellO 7 (by omega)|exact hS.cellO 8 (by omega)|exact hS.cellO 9 (by omega)|exact hS.cellO 10 (by omega)|exact hS.cellO 11 (by omega)|exact hS.cellO 12 (by omega)|exact hS.cellO 13 (by omega)|exact hS.cellO 2 (by omega)|exact hS.cellO 3 (by omega))) ?_)) ?_))
  rename_i b0 _ _ _ b3 w3 _
  have hB := Bss.ofRd (w := w3) (a := some ⟨b3,0,none⟩) (l := [⟨some ⟨b0,0,none⟩,1,[1]⟩,⟨a1,k1,bigB s.nd.st.num 8⟩,⟨a2,k2,bigB (s.nd.data.length : Nat) 4⟩])
   (by simpa [Bs.val,Zaz] using hS.ownRd (a := some ⟨b3,0,none⟩)) (fun x hx => by
    simp only [List.mem_cons,List.not_mem_nil,or_false] at hx
    rcases hx with rfl | rfl | rfl
    ·exact hS.ownRd
    ·exact hS.ownRd
    ·exact hS.ownRd)
  refine Zal _ rfl rfl rfl rfl rfl (concat_ _ 3 _ _ hB (by simp) (by simp [Zba,Zaz])) ?_
  rintro _ w ⟨a',c',rfl,hc',hS'⟩
  replace hS := (hS.plus hS')
  repeat (first|(refine Zbm ?_;first|refine Zbv ?_|refine Zai rfl rfl (fun _ => Zab rfl rfl) rfl rfl ?_)|(refine Za3 ?_;first|refine And.intro (by repeat (first|exact trivial|refine And.intro (.inl (by decide +kernel)) ?_|refine And.intro (.inr (by first|assumption|exact hS.cell|exact Zan (by assumption)|exact hS.cellI (by omega)|exact hS.cellIP (by omega)|exact hS.cellsN|exact ((hr.rd hS).cellX (by omega) hx)|exact ((hr2.rd hS).cellX (by omega) hx2)|exact hS.cellB (by omega)|exact hS.cellBA (by omega)|exact (hb.rd hS).cellB' (by omega)|exact (hb2.rd hS).cellB' (by omega)|exact (hg.rd hS).cellI (by omega)|exact (hg2.rd hS).cellI (by omega)|exact ((hr.rd hS).cellF (by first|omega|(dsimp only;omega)) hx)|exact ((hr2.rd hS).cellF (by first|omega|(dsimp only;omega)) hx2)|exact hS.cellO 0 (by omega)|exact hS.cellO 1 (by omega)|exact hS.cellIA (by omega)|exact (hg.rd hS).cellIA (by omega)|exact (hg2.rd hS).cellIA (by omega)|exact Zan (hc.rd hS).pts|exact hb.rd hS|exact (hr.rd hS).cellsF7 (by first|omega|(dsimp only;omega)) hst4 rfl|exact (hr2.rd hS).cellsF7 (by first|omega|(dsimp only;omega)) hst4 rfl|exact hS.cellO 4 (by omega)|exact hS.cellO 5 (by omega)|exact hS.cellO 6 (by omega)|exact hS.cellO 7 (by omega)|exact hS.cellO 8 (by omega)|exact hS.cellO 9 (by omega)|exact hS.cellO 10 (by omega)|exact hS.cellO 11 (by omega)|exact hS.cellO 12 (by omega)|exact hS.cellO 13 (by omega)|exact hS.cellO 2 (by omega)|exact hS.cellO 3 (by omega))) ?_)) ?_))
  refine E_mid (a',c') ⟨rfl,by simp only; rw [hjl]; simp [Zba,Zaz,look],trivial⟩ ⟨by simp only; rw [hjl]; simpa [Zba,Zaz] using hc',?_⟩
  have hj : Zba [⟨some ⟨b0,0,none⟩,1,[1]⟩,⟨a1,k1,bigB s.nd.st.num 8⟩,⟨a2,k2,bigB (s.nd.data.length : Nat) 4⟩] = [1] ++ bigB s.nd.st.num 8 ++ bigB (s.nd.data.length : Nat) 4 := by simp [Zba]
  simp only; rw [hjl,← hj]
  exact hS.took
 ·clear hS
  rintro ⟨a1,c1⟩ w ⟨hc1,hS⟩
  simp only at hc1 hS ⊢
  repeat (first|(refine G_id ?_;first|refine Zah ?_|refine Zac rfl rfl ?_)|(refine X_id ?_;first|refine X_yl (Zad rfl rfl) rfl rfl ?_|refine X_yl (Zaf rfl rfl rfl) rfl rfl ?_|refine X_yl (Zby rfl rfl) rfl rfl ?_|refine X_yl (Zap rfl rfl hS.cell) rfl rfl ?_)|(refine C_id ?_;first|refine Zaj ?_|refine Zaa ?_|refine Zat ?_)|(refine E_id ?_;first|refine Zae ?_))
  refine Zb8 (α := Nat × Option Addr × Nat) (fun z => [(3,.slice z.2.1 (Zev s z.1).length z.2.2),(20,.slice ba s.blocks.length bc),(21,.int .i64 (s.blocks.length : Nat)),(22,.int .i64 (z.1 : Nat))])
   (fun z w => z.1 ≤ s.blocks.length ∧ (Zev s z.1).length ≤ z.2.2 ∧ St W noF [own 5 1 z.2.1 z.2.2 (bv (Zev s z.1))] w) (fun z => s.blocks.length - z.1) (0,a1,c1) ⟨rfl,rfl,rfl,rfl,trivial⟩ ⟨Nat.zero_le _,hc1,hS.pick [0]⟩ ?_
  clear hS
  rintro ⟨i,a2,c2⟩ w ⟨hi,hc,hS⟩
  simp only at hi hc hS ⊢
  have hbl := bodyTo_length s i
  by_cases hlt : i < s.blocks.length
  ·have hx0 : s.blocks[i]? = some s.blocks[i] := List.getElem?_eq_getElem hlt
   generalize s.blocks[i] = b at hx0
   have hsu := bodyTo_succ hx0
   have hr := hbr
   have hx : (ints .i64 s.blocks)[i]? = some (.int .i64 b) := by simp [ints,hx0]
   obtain ⟨xb,xo,rfl⟩ := (hr.rd hS).base (by intro e; rw [e] at hx; simp at hx)
   repeat (first|(refine G_id ?_;first|refine Zah ?_|refine Zac rfl rfl ?_)|(refine X_id ?_;first|refine X_yl (Zad rfl rfl) rfl rfl ?_|refine X_yl (Zab rfl rfl) rfl rfl ?_|refine X_yl (Za7 rfl rfl rfl (by omega)) rfl rfl ?_|refine X_yl (Zau rfl rfl rfl (by omega) (by omega) (by first|assumption|exact ⟨_,_,rfl⟩)) rfl rfl ?_|refine X_yl (Zap rfl rfl ((hr.rd hS).cellX (by omega) hx)) rfl rfl ?_)|(refine C_id ?_;first|refine Zaj ?_|refine Zaa ?_|refine Zat ?_|refine Zav ?_|refine Zam rfl ?_)|(refine E_id ?_;first|refine Zae ?_))
   refine Zal _ rfl rfl rfl rfl rfl (ibig_ b 4 (by omega) _) ?_
   rintro _ w ⟨a3,k3,rfl,hk3,hS'⟩
   replace hS := hS.plus hS'
   clear hS'
   repeat (first|(refine G_id ?_;first|refine Zac rfl rfl ?_))
   refine Zd4 rfl rfl rfl rfl rfl hS (by simp) hc (hS.ownRd (a := a3)) (by simp [Zaz]) bv_one (by omega) (by simp only [maxLen]; omega) (fun a' c' w hS hc' _ => ?_)
   repeat (first|(refine G_id ?_;first|refine Zah ?_|refine Zac rfl rfl ?_)|(refine X_id ?_;first|refine X_yl (Zad rfl rfl) rfl rfl ?_|refine X_yl (Zab rfl rfl) rfl rfl ?_|refine X_yl (Zbo rfl rfl rfl (w64 (by omega) (by omega))) rfl rfl ?_)|(refine C_id ?_;first|refine Zaa ?_)|(refine E_id ?_;first|refine Zae ?_|refine Zbh ?_))
   refine Zbu (z := (i,a2,c2)) (i + 1,a',c') ⟨?_,rfl,rfl,rfl,trivial⟩ ⟨by simp only; omega,by simp only; rw [hsu]; simp [Zaz]; omega,?_⟩ (by simp only; omega)
   ·simp only
    rw [hsu]; simp only [List.length_append,Zaz]; rfl
   ·simp only
    rw [hsu,bv_append]
    exact hS.took
  ·obtain rfl : i = s.blocks.length := by omega
   repeat (first|(refine G_id ?_;first|refine Zah ?_|refine Zac rfl rfl ?_)|(refine X_id ?_;first|refine X_yl (Zad rfl rfl) rfl rfl ?_|refine X_yl (Za8 rfl rfl rfl (by omega)) rfl rfl ?_)|(refine C_id ?_;first|refine Zaj ?_|refine Zaa ?_|refine Zb2 ?_|refine Zak rfl ?_)|(refine E_id ?_;first|refine Zae ?_|refine Zaw ?_|refine Za1 ?_))
   refine Zal _ rfl rfl rfl rfl rfl (filled_ a2 c2 (Zev s s.blocks.length) _ hS.ownRd) ?_
   rintro _ w ⟨p,rfl,hS'⟩
   replace hS := hS.plus hS'
   clear hS'
   repeat (first|(refine G_id ?_;first|refine Zah ?_|refine Zac rfl rfl ?_)|(refine X_id ?_;first|refine X_yl (Zab rfl rfl) rfl rfl ?_)|(refine C_id ?_;first|refine Za0 ?_)|(refine E_id ?_;first|refine Zae ?_|refine Zax rfl (Zao rfl) (Ret.mk ?_)))
   refine ⟨p,rfl,?_⟩
   have h := hS.pick [0]
   rw [bodyTo_all] at h
   exact h
abbrev tabCells (lp n r : Nat) : List Value := [.pointer (some ⟨lp,0,none⟩),.int .i64 (n : Nat),.map (some r)]
abbrev tabAt (tp lp n r : Nat) : Res := pts tp (.cells (tabCells lp n r).toArray 240)
theorem tblock_ (tp lp n r : Nat) (b : Int) (W : World) (hT : Rd W (tabAt tp lp n r)) (hn : n ≤ 1048576) (hb : 0 ≤ b) (hb1 : b ≤ 1048576) :
  Calls Tryz.prog 180 #[.pointer (some ⟨tp,0,none⟩),.int .i64 b] W (Ret fun v w => v = .int .i64 (1 + (n : Int) + b) ∧ W = w) := by
 have hc := hT.pts
 have hS := St.start W
 refine Zaq Tryz.func180 rfl Tryz.ntmps180 rfl ?_
 repeat (first|(refine G_id ?_;first|refine Zah ?_|refine Zac rfl rfl ?_)|(refine X_id ?_;first|refine X_yl (Zad rfl rfl) rfl rfl ?_|refine X_yl (Zab rfl rfl) rfl rfl ?_|refine X_yl (Zag rfl rfl) rfl rfl ?_|refine X_yl (Zaf rfl rfl rfl) rfl rfl ?_|refine X_yl (Zbo rfl rfl rfl (w64 (by omega) (by omega))) rfl rfl ?_|refine X_yl (Zap rfl rfl (Zan (by assumption))) rfl rfl ?_)|(refine C_id ?_;first|refine Zaj ?_|refine Zaa ?_|refine Za0 ?_)|(refine E_id ?_;first|refine Zae ?_|refine Zax rfl (Zao rfl) (Ret.mk ?_)))
 exact ⟨rfl,rfl⟩
theorem tblocks_ (tp lp n r p j m nb : Nat) (dat : List (List UInt8)) (W : World) (hT : Rd W (tabAt tp lp n r)) (hq : Rd W (qlog lp p j m dat)) (hd : dat.length = 1 + n + nb) :
  Calls Tryz.prog 214 #[.pointer (some ⟨tp,0,none⟩)] W (Ret fun v w => v = .int .i64 (nb : Nat) ∧ St W noF [] w) := by
 have hTo := hT.ro
 have hqo := hq.ro
 have hql := (qlen hq).1
 have hS := St.start W
 have e : (dat.length : Int) - 1 - (n : Nat) = (nb : Nat) := by omega
 rw [← e]
 refine Zaq Tryz.func214 rfl Tryz.ntmps214 rfl ?_
 repeat (first|(refine G_id ?_;first|refine Zah ?_|refine Zac rfl rfl ?_)|(refine X_id ?_;first|refine X_yl (Zab rfl rfl) rfl rfl ?_)|(refine C_id ?_;first|refine Zaj ?_|refine Zaa ?_)|(refine E_id ?_;first|refine Zae ?_))
 refine Zco (.s 0 (.s 1 (.s 2 (.s 3 (.s 6 (.s 7 (.s 8 (.s 9 (.h 4 (.s 5 (.s 10 (.s 11 .nil))) .no))))))))) mixed (by kernel_rfl) rfl ?_
 have hS := hS.drew
 have hc := hTo
 repeat (first|(refine X_id ?_;first|(refine Zbn 165 rfl rfl rfl rfl rfl hS (qsectors_ lp p j m dat _ (hqo.rd hS)) ?_;rintro _ _ rfl hS))|(refine C_id ?_;first|refine Za0 ?_)|(refine E_id ?_;first|refine Zae ?_|refine Zax rfl (Zao rfl) (Ret.mk ?_))|(refine Zbm ?_;first|refine Zbv ?_|refine Zai rfl rfl (fun _ => Zad rfl rfl) rfl rfl ?_|refine Zai rfl rfl (fun _ => Zab rfl rfl) rfl rfl ?_|refine Zai rfl rfl (fun _ => Zag rfl rfl) rfl rfl ?_|refine Zai rfl rfl (fun _ => Zaf rfl rfl rfl) rfl rfl ?_|refine Zai rfl rfl (fun _ => Zdx rfl rfl rfl (w64 (by omega) (by omega))) rfl rfl ?_|refine Za9 rfl rfl ?_|refine Zbq (fun w' => w'.cell? _ = some _) rfl rfl (Zan (hc.rd hS).pts) (fun _ hc => Zap rfl rfl hc) rfl rfl ?_)|(refine Za3 ?_;first|refine And.intro (by repeat (first|exact trivial|refine And.intro (.inl (by decide +kernel)) ?_|refine And.intro (.inr (by first|assumption|exact hS.cell|exact Zan (by assumption)|exact hS.cellI (by omega)|exact hS.cellIP (by omega)|exact hS.cellsN|exact ((hr.rd hS).cellX (by omega) hx)|exact ((hr2.rd hS).cellX (by omega) hx2)|exact hS.cellB (by omega)|exact hS.cellBA (by omega)|exact (hb.rd hS).cellB' (by omega)|exact (hb2.rd hS).cellB' (by omega)|exact (hg.rd hS).cellI (by omega)|exact (hg2.rd hS).cellI (by omega)|exact ((hr.rd hS).cellF (by first|omega|(dsimp only;omega)) hx)|exact ((hr2.rd hS).cellF (by first|omega|(dsimp only;omega)) hx2)|exact hS.cellO 0 (by omega)|exact hS.cellO 1 (by omega)|exact hS.cellIA (by omega)|exact (hg.rd hS).cellIA (by omega)|exact (hg2.rd hS).cellIA (by omega)|exact Zan (hc.rd hS).pts|exact hb.rd hS|exact (hr.rd hS).cellsF7 (by first|omega|(dsimp only;omega)) hst4 rfl|exact (hr2.rd hS).cellsF7 (by first|omega|(dsimp only;omega)) hst4 rfl|exact hS.cellO 4 (by omega)|exact hS.cellO 5 (by omega)|exact hS.cellO 6 (by omega)|exact hS.cellO 7 (by omega)|exact hS.cellO 8 (by omega)|exact hS.cellO 9 (by omega)|exact hS.cellO 10 (by omega)|exact hS.cellO 11 (by omega)|exact hS.cellO 12 (by omega)|exact hS.cellO 13 (by omega)|exact hS.cellO 2 (by omega)|exact hS.cellO 3 (by omega))) ?_)) ?_))
 exact ⟨rfl,hS⟩
theorem may_ (lp p j m n : Nat) (dat : List (List UInt8)) (W : World) (hq : Rd W (qlog lp p j m dat)) (h1 : 1 ≤ n) (h2 : n ≤ 400) (h3 : n + 2 ≤ dat.length) :
  Calls Tryz.prog 117 #[.pointer (some ⟨lp,0,none⟩),.int .i64 (n : Nat)] W (Ret fun v w => v = .bool true ∧ St W noF [] w) := by
 have hqo := hq.ro
 have hql := (qlen hq).1
 have hS := St.start W
 refine Zaq Tryz.func117 rfl Tryz.ntmps117 rfl ?_
 repeat (first|(refine G_id ?_;first|refine Zah ?_|refine Zac rfl rfl ?_|refine Zcp rfl rfl rfl rfl ?_)|(refine X_id ?_;first|(refine Zbn 165 rfl rfl rfl rfl rfl hS (qsectors_ lp p j m dat _ (hqo.rd hS)) ?_;rintro _ _ rfl hS)|refine X_yl (Zad rfl rfl) rfl rfl ?_|refine X_yl (Zab rfl rfl) rfl rfl ?_|refine X_yl (Zbp rfl rfl rfl) rfl rfl ?_|refine X_yl (Yl_leq_t rfl rfl rfl (by omega)) rfl rfl ?_|refine X_yl (Zc8 rfl rfl rfl (by omega)) rfl rfl ?_|refine X_yl (Zbo rfl rfl rfl (w64 (by omega) (by omega))) rfl rfl ?_)|(refine C_id ?_;first|refine Zaj ?_|refine Zaa ?_|refine Za0 ?_)|(refine E_id ?_;first|refine Zae ?_|refine Zax rfl (Zao rfl) (Ret.mk ?_)))
 exact ⟨rfl,hS⟩
end Cr
namespace Cr
open Go Go.Proofs
set_option maxRecDepth 100000
set_option maxHeartbeats 8000000
attribute [local irreducible] Calls

theorem tfront_ (n : Nat) (rd fs : List Int) (W : World) (hG : Gl W noF rd fs) :
  Calls Tryz.prog 122 #[.int .i64 (n : Nat)] W (Ret fun v w => ∃ p,v = .slice (some ⟨p,0,none⟩) 64 64 ∧ St W noF [bytes (some ⟨p,0,none⟩) (Zdr rd fs n)] w) := by
 have hS := St.start W
 have hcl : [Value.int .u8 67,.int .u8 82,.int .u8 69,.int .u8 69,.int .u8 76] = bv Zfd := rfl
 refine Zaq Tryz.func122 rfl Tryz.ntmps122 rfl ?_
 repeat (first|(refine G_id ?_;first|refine Zah ?_|refine Zac rfl rfl ?_)|(refine X_id ?_;first|refine X_yl (Zad rfl rfl) rfl rfl ?_|refine X_yl (Zab rfl rfl) rfl rfl ?_)|(refine C_id ?_;first|refine Zaj ?_|refine Zaa ?_)|(refine E_id ?_;first|refine Zae ?_))
 refine Zal _ rfl rfl rfl rfl rfl (ibig_ (n : Nat) 4 (by omega) _) ?_
 rintro _ w ⟨a1,k1,rfl,hk1,hS'⟩
 replace hS := hS.plus hS'
 clear hS'
 repeat (first|(refine G_id ?_;first|refine Zah ?_|refine Zac rfl rfl ?_)|(refine X_id ?_;first|refine X_yl (Zab rfl rfl) rfl rfl ?_|refine Zbb rfl rfl rfl rfl rfl rfl rfl rfl hS (fun _ _ hS _ => ?_))|(refine C_id ?_;first|refine Zaj ?_|refine Zaa ?_)|(refine E_id ?_;first|refine Zae ?_))
 rename_i b0 _ _
 refine X_convSame rfl rfl rfl rfl hS (by simp) (fun w hS => ?_)
 repeat (first|(refine G_id ?_;first|refine Zac rfl rfl ?_)|(refine X_id ?_;first|refine X_yl (Zad rfl rfl) rfl rfl ?_|refine Zbb rfl rfl rfl rfl rfl rfl rfl rfl hS (fun _ _ hS _ => ?_)))
 rename_i b1 w1 _
 have hB := Bss.ofRd (w := w1) (a := some ⟨b1,0,none⟩) (l := [⟨some ⟨b0,0,none⟩,5,Zfd⟩,⟨a1,k1,bigB (n : Nat) 4⟩]) (by simpa [Bs.val,Zaz,Zfd] using hS.ownRd (a := some ⟨b1,0,none⟩)) (fun x hx => by
  simp only [List.mem_cons,List.not_mem_nil,or_false] at hx
  rcases hx with rfl | rfl
  ·exact hS.rd (by simp [bytes,← hcl])
  ·exact hS.ownRd)
 have hfl : (Zcu (Zds [⟨some ⟨b0,0,none⟩,5,Zfd⟩,⟨a1,k1,bigB (n : Nat) 4⟩])).length < 1152921504606846976 := by simp [Zcu,Zds,Zdg,Zaz,Zfd]
 have hl32 : LenO (bv (digest rd fs (Zds [⟨some ⟨b0,0,none⟩,5,Zfd⟩,⟨a1,k1,bigB (n : Nat) 4⟩]))) 32 := ⟨by rw [Zbw]; exact Zcv _ _ _⟩
 refine Zbn _ rfl rfl rfl rfl rfl hS (framed_ _ 2 _ rd fs _ hfl (by simp) (hG.mono fun r hr => (hr.rd hS).ro) hB) ?_
 rintro _ w rfl hS
 clear hB hfl
 repeat (first|(refine G_id ?_;first|refine Zah ?_|refine Zac rfl rfl ?_)|(refine X_id ?_;first|refine Za2 rfl rfl rfl rfl hS (fun _ hS _ => ?_)|refine Zbc rfl rfl rfl hS (fun _ _ hS _ => ?_)|refine Zbb rfl rfl rfl rfl rfl rfl rfl rfl hS (fun _ _ hS _ => ?_))|(refine C_id ?_;first|refine Zaj ?_|refine Zaa ?_)|(refine E_id ?_;first|refine Zae ?_))
 rename_i b2 _ _ _ _ _ _ b4 _ _
 refine X_convSame rfl rfl rfl rfl hS (by simp) (fun w hS => ?_)
 repeat (first|(refine G_id ?_;first|refine Zac rfl rfl ?_)|(refine X_id ?_;first|refine X_yl (Zad rfl rfl) rfl rfl ?_|refine X_yl (Zcw rfl rfl) rfl rfl ?_|refine Zbb rfl rfl rfl rfl rfl rfl rfl rfl hS (fun _ _ hS _ => ?_)))
 rename_i b6 w6 _
 have hB := Bss.ofRd (w := w6) (a := some ⟨b6,0,none⟩) (l := [⟨some ⟨b4,0,none⟩,5,Zfd⟩,⟨a1,k1,bigB (n : Nat) 4⟩,⟨some ⟨b2,0,none⟩,32,digest rd fs [Zfd,bigB (n : Nat) 4]⟩]) (by simpa [Bs.val,Zaz,Zfd,Zcv] using hS.ownRd (a := some ⟨b6,0,none⟩)) (fun x hx => by
  simp only [List.mem_cons,List.not_mem_nil,or_false] at hx
  rcases hx with rfl | rfl | rfl
  ·exact hS.rd (by simp [bytes,← hcl])
  ·exact hS.ownRd
  ·exact (hS.rd (r := pts b2 (.cells (bv (digest rd fs [Zfd,bigB (n : Nat) 4])).toArray 23)) (by simp [Zds])).ptsB (T := 23))
 refine Zal _ rfl rfl rfl rfl rfl (concat_ _ 3 _ _ hB (by simp) (by simp [Zba,Zaz,Zcv,Zfd])) ?_
 rintro _ w ⟨a',c',rfl,hc',hS'⟩
 replace hS := hS.plus hS'
 clear hS' hB
 repeat (first|(refine G_id ?_;first|refine Zac rfl rfl ?_))
 refine Zal _ rfl rfl rfl rfl rfl (filled_ a' c' (Zba [⟨some ⟨b4,0,none⟩,5,Zfd⟩,⟨a1,k1,bigB (n : Nat) 4⟩,⟨some ⟨b2,0,none⟩,32,digest rd fs [Zfd,bigB (n : Nat) 4]⟩]) _ hS.ownRd) ?_
 rintro _ w ⟨p,rfl,hS'⟩
 replace hS := hS.plus hS'
 clear hS'
 repeat (first|(refine G_id ?_;first|refine Zah ?_|refine Zac rfl rfl ?_)|(refine X_id ?_;first|refine X_yl (Zab rfl rfl) rfl rfl ?_)|(refine C_id ?_;first|refine Za0 ?_)|(refine E_id ?_;first|refine Zae ?_|refine Zax rfl (Zao rfl) (Ret.mk ?_)))
 refine ⟨p,rfl,?_⟩
 have h := hS.pick [0]
 unfold Zdr
 simpa [Zba] using h
end Cr
namespace Cr
open Go Go.Proofs
set_option maxRecDepth 100000
set_option maxHeartbeats 4000000
attribute [local irreducible] Calls

theorem bclone_ (a : Option Addr) (n c : Nat) (s : List UInt8) (W : World) (hs : Rd W (bytes a s)) (hn : s.length = n) (hlim : n ≤ 1073741824) :
  Calls Tryz.prog 41 #[.slice a n c] W (Ret fun v w => ∃ a' c',v = .slice a' n c' ∧ (a' = none ↔ a = none) ∧ n ≤ c' ∧ St W noF [own 5 1 a' c' (bv s)] w) := by
 have hS := St.start W
 cases a with
 | none =>
  have h0 : bv s = [] := hs.none_nil
  obtain rfl : n = 0 := by rw [← hn,← Zbw s,h0]; rfl
  refine Zaq Tryz.func41 rfl Tryz.ntmps41 rfl ?_
  repeat (first|(refine G_id ?_;first|refine Zah ?_|refine Zac rfl rfl ?_)|(refine X_id ?_;first|refine X_yl (Zad rfl rfl) rfl rfl ?_|refine X_yl (Zab rfl rfl) rfl rfl ?_|refine X_yl (Zcm rfl rfl rfl) rfl rfl ?_)|(refine C_id ?_;first|refine Zaj ?_|refine Zaa ?_|refine Za0 ?_|refine Zam rfl ?_)|(refine E_id ?_;first|refine Zae ?_|refine Zar ?_|refine Zax rfl (Zao rfl) (Ret.mk ?_)))
  refine ⟨none,0,rfl,by simp,by omega,?_⟩
  rw [h0]
  exact hS.own_none _ _ _
 | some ad =>
  refine Zaq Tryz.func41 rfl Tryz.ntmps41 rfl ?_
  repeat (first|(refine G_id ?_;first|refine Zah ?_|refine Zac rfl rfl ?_)|(refine X_id ?_;first|refine X_yl (Zad rfl rfl) rfl rfl ?_|refine X_yl (Zab rfl rfl) rfl rfl ?_|refine X_yl (Zcm rfl rfl rfl) rfl rfl ?_|refine Zbb rfl rfl rfl rfl rfl rfl rfl rfl hS (fun _ _ hS _ => ?_))|(refine C_id ?_;first|refine Zaj ?_|refine Zaa ?_|refine Zav ?_|refine Zak rfl ?_)|(refine E_id ?_;first|refine Zae ?_))
  rename_i b w hb
  have hs := hs.below hb
  repeat (first|fail)
  refine Zd4 rfl rfl rfl rfl rfl hS rfl (by omega) hs (by simp [hn]) bv_one (by omega) (by simp only [maxLen]; omega) (fun a' c' w hS hc hnil => ?_)
  repeat (first|(refine G_id ?_;first|refine Zah ?_|refine Zac rfl rfl ?_)|(refine X_id ?_;first|refine X_yl (Zab rfl rfl) rfl rfl ?_)|(refine C_id ?_;first|refine Za0 ?_)|(refine E_id ?_;first|refine Zae ?_|refine Zax rfl (Zao rfl) (Ret.mk ?_)))
  refine ⟨a',c',by rw [Nat.zero_add],by rw [hnil]; simp,by omega,hS⟩
end Cr
namespace Cr
open Go Go.MapKept
set_option maxRecDepth 10000
theorem find_nodup {e : MapEntry} : ∀ {l : List MapEntry},(l.map (·.born)).Nodup → e ∈ l → l.find? (fun x => x.born == e.born) = some e
 | x :: l,hn,he => by
  have hn' : x.born ∉ l.map (·.born) ∧ (l.map (·.born)).Nodup := List.nodup_cons.1 hn
  rcases List.mem_cons.1 he with rfl | he
  ·simp
  ·have : x.born ≠ e.born := fun q => hn'.1 (by rw [q]; exact List.mem_map.2 ⟨e,he,rfl⟩)
   rw [List.find?_cons_of_neg (by simpa using this)]
   exact find_nodup hn'.2 he
section
variable {P : Program} {o : Oper} {σ : Env} {w : World} {x y : Operand} {t kt et : TypeId} {N : Nat} {ds : Md} {K : Env → World → Prop}
theorem Yl_entry {it bm since : Nat} {es : Array MapEntry} {clock : Nat} {seen : Array Nat} {e : MapEntry} (ho : o.op = .entry x) (hx : ev σ x = some (.pointer (some ⟨it,0,none⟩))) (hst : StampOk es clock) (he : e ∈ es.toList) (hi : w.heap[it]? = some (.mapIter (some bm) since (seen.push e.born) clock)) (hb : w.heap[bm]? = some (.map es clock)) :
  Yl P o σ w (.tuple #[e.key,e.val]) := ⟨fun N ds a ha => by
 have hg : (getObj it).run P w = .ok (.mapIter (some bm) since (seen.push e.born) clock) w := by simp [getObj,Sem.run,hi]
 have hm : (getObj bm).run P w = .ok (.map es clock) w := by simp [getObj,Sem.run,hb]
 have hf : es.find? (fun x => x.born == e.born) = some e := by rw [← Array.find?_toList]; exact find_nodup hst.apart he
 simp only [execOp,ho,ha.eval hx,Instr.entry,Sem.run_bind,hg,hm,Result.andThen_ok,Array.back?_push]
 simp [hf,Result.andThen]⟩
variable {α : Type} [DecidableEq α] {mk : α → Value} {dd : TypeDesc}
theorem X_mapDelete0 {r : Nat} {L : List (α × Value)} {k : α} {W : World} {F : Nat → Prop} {rs : List Res} {ts : TypeId} (ho : o.op = .call { callee := .builtin .delete,args := #[x,y],argTypes := #[t,ts] }) (hx : ev σ x = some (.map (some r))) (hy : ev σ y = some (mk k)) [hu : Und P t (.map kt et)] [hkt : Und P kt dd] [hK : Key dd mk]
  (hd : o.dst = none) (hS : St W F (mapq mk r L :: rs) w) (hk : ∀ w',St W F (mapq mk r (delM k L) :: rs) w' → K σ w') : X P o N ds σ w K := ⟨fun f ha K' Q' hKK => by
 obtain ⟨es,clock,hes,hst,hS2⟩ := hS.openMap
 have hb : w.heap[r]? = some (.map es clock) := hS2.get
 have hc := run_checkKey (P := P) (w := w) hkt.und (hK.isKey k) es.isEmpty 9999
 have hg : (getObj r).run P w = .ok (.map es clock) w := by simp [getObj,Sem.run,hb]
 have hset : ∀ o',(setObj r o').run P w = .ok () { w with heap := w.heap.setIfInBounds r o' } := fun o' => run_setObj_map o' hb
 unfold Oper.wp
 have key : ∃ es' w',(execOp f.eval o).run P w = .ok (.value (.tuple #[])) w' ∧ SetBlock w w' r (.map es' clock) ∧ kvs es' = (delM k L).map (fun x => (mk x.1,x.2)) ∧ StampOk es' clock := by
  rcases findNow_del (hk := hK) k L es.toList 0 hes with ⟨g1,g2⟩ | ⟨j,v,g1,_,g4,g3⟩
  ·have hf := run_findKey (P := P) (w := w) hkt.und g1
   refine ⟨es,{ w with heap := w.heap.setIfInBounds r (.map es clock) },?_,Zcc hb,by rw [g2]; exact hes,hst⟩
   simp [execOp,ho,resolve,invoke,builtin,ha.eval hx,ha.eval hy,Builtin.delete_,run_underlying hu.und,hg,hc,hf,hset,Result.andThen]
  ·have hf := run_findKey (P := P) (w := w) hkt.und g1
   simp only [Nat.sub_zero,Array.length_toList] at g4 g3
   refine ⟨es.eraseIdx j g4,{ w with heap := w.heap.setIfInBounds r (.map (es.eraseIdx j g4) clock) },?_,Zcc hb,by rw [← g3]; simp [kvs,Array.toList_eraseIdx],stamp_erase hst j g4⟩
   have e1 : es.eraseIdxIfInBounds j = es.eraseIdx j g4 := by unfold Array.eraseIdxIfInBounds; rw [dif_pos g4]
   simp [execOp,ho,resolve,invoke,builtin,ha.eval hx,ha.eval hy,Builtin.delete_,run_underlying hu.und,hg,hc,hf,hset,Result.andThen,e1]
 obtain ⟨es',w',hexec,u,hes',hst'⟩ := key
 rw [hexec]
 refine hKK _ _ _ (?_ : Fr σ N ds _) (hk _ ((hS2.set u).head fun h hh => ⟨es',clock,hes',hst',hh⟩))
 rw [hd]; exact ha⟩
class EClone (P : Program) (g : FuncId) : Prop where
 run : ∀ {t : TypeId} {r : Nat} {es : Array MapEntry} {clock : Nat} {w : World},w.heap[r]? = some (.map es clock) → (callFunc g #[.iface t (.map (some r))]).run P w = .ok (.value (.iface t (.map (some w.heap.size)))) (w.alloc (.map es clock))
theorem Yl_eqlNilMap {a : Option Nat} {t2 : TypeId} {k e : TypeId} (ho : o.op = .binOp .eql t x y t2) (hx : ev σ x = some (.map a)) (hy : ev σ y = some (.map none)) [h : Und P t (.map k e)] : Yl P o σ w (.bool a.isNone) := ⟨fun N ds f ha => by
 simp only [execOp,ho,ha.eval hx,ha.eval hy,eqGuard,binOp,Sem.run_bind,Sem.run_pure,Result.andThen_ok,run_eqlNilMap (e := e)]; cases a <;> rfl⟩
theorem Yl_makeIface {v : Value} (ho : o.op = .makeInterface t x) (hx : ev σ x = some v) (hi : ∀ w,(Instr.makeInterface t v).run P w = .ok (.iface t v) w) : Yl P o σ w (.iface t v) := ⟨fun N ds f ha => by
 simp [execOp,ho,ha.eval hx,hi]⟩
end
end Cr
