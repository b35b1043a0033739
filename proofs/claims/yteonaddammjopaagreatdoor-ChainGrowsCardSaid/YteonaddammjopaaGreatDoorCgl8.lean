/-
  A disk that is on and not armed: what writes and flushes leave on it. No program is in sight.
  What a transaction leaves behind on a disk that is on and not armed (as Pl1,without the document's check). No program is in sight.
  Layer 7 (inode) in plain words: nodes,their sectors,and how changes are applied. No program is in sight.
  Layer 6 (mode): Check,Number,Of.
  Layer 7 (inode): numbers,sectors.
  The library's slices.Grow and slices.Concat,of bytes.
  Layer 7 (inode),the plain law of applying changes: the sectors hold the table that the document tells. No program is in sight.
  Layer 7 (inode),the plain law of opening: what a node's sector tells. No program is in sight.
  A log on a disk that is on and not armed,as one resource: its data sectors.
-/
import Derived.Test.YteonaddammjopaaGreatDoorCgl7
import Derived.Test.YteonaddammjopaaGreatDoorCgl5
import Derived.Test.YteonaddammjopaaGreatDoorCgl2
import Derived.Test.YteonaddammjopaaGreatDoorCgl3
import Derived.Test.YteonaddammjopaaGreatDoorCgl4
import Derived.Test.YteonaddammjopaaGreatDoorCgl6
namespace Cr
open Go Go.Proofs
structure Quiet (D : DiskM) (n : Nat) : Prop where
 off : D.off = false
 armed : D.armed = false
 len : D.laid.length = n
structure Qs (x : Int × DiskM) (n : Nat) (laid : List (List UInt8)) (line : List (Int × List UInt8)) : Prop where
 e : x.1 = 0
 q : Quiet x.2 n
 laid : x.2.laid = laid
 line : x.2.line = line
theorem Qs.write {x : Int × DiskM} {n : Nat} {laid : List (List UInt8)} {line : List (Int × List UInt8)} (h : Qs x n laid line) {no : Int} {b : List UInt8} (h0 : 0 ≤ no) (h1 : no < n) (hb : b.length = 64) : Qs (Ze1 x no b) n laid (line ++ [(no,b)]) := by
 obtain ⟨e,⟨qo,qa,ql⟩,hl,hn⟩ := h
 have hu : useB x.2.off x.2.armed x.2.left = true := by rw [qo,qa]; rfl
 have hw := DiskM.write_yes (D := x.2) (no := no) (b := b) qo (by simp [Zeq,h0,ql,h1]) hb hu
 unfold Ze1
 rw [if_pos e,hw]
 refine ⟨rfl,⟨?_,qa,ql⟩,hl,by simp [hn]⟩
 show Zo4 x.2.off x.2.armed x.2.left = false
 rw [qo,qa]; rfl
theorem Qs.flush {x : Int × DiskM} {n : Nat} {laid : List (List UInt8)} {line : List (Int × List UInt8)} (h : Qs x n laid line) : Qs (Zet x) n (Zdi laid line) [] := by
 obtain ⟨e,⟨qo,qa,ql⟩,hl,hn⟩ := h
 have hu : useB x.2.off x.2.armed x.2.left = true := by rw [qo,qa]; rfl
 have hw := DiskM.flush_yes (D := x.2) qo hu
 unfold Zet
 rw [if_pos e,hw]
 refine ⟨rfl,⟨?_,qa,?_⟩,?_,rfl⟩
 ·show Zo4 x.2.off x.2.armed x.2.left = false
  rw [qo,qa]; rfl
 ·show (Zdi x.2.laid x.2.line).length = n
  rw [Zb4]; exact ql
 ·show Zdi x.2.laid x.2.line = _
  rw [hl,hn]
theorem Qs.puts (k : Int) {n : Nat} {laid : List (List UInt8)} : ∀ (l : List (Int × List UInt8)) {x : Int × DiskM} {line : List (Int × List UInt8)},Qs x n laid line → (∀ v ∈ l,0 ≤ k + v.1 ∧ k + v.1 < n ∧ v.2.length = 64) → Qs (Zhk k x l) n laid (line ++ l.map fun v => (k + v.1,v.2))
 | [],_,_,h,_ => by simpa [Zhk] using h
 | v :: l,x,line,h,hl => by
  have hv := hl v (List.mem_cons_self ..)
  have := Qs.puts k l (h.write hv.1 hv.2.1 hv.2.2) fun u hu => hl u (List.mem_cons_of_mem _ hu)
  simpa [Zhk] using this
theorem Qs.notes (m : Int) (d : List UInt8) (l : List (Int × List UInt8)) {n : Nat} {laid : List (List UInt8)} {x : Int × DiskM} {line : List (Int × List UInt8)} (h : Qs x n laid line) (hl : ∀ v ∈ l,v.2.length = 64) (hn : 2 * l.length < n) :
  ∀ i,i ≤ l.length → ∃ L,(∀ v ∈ L,0 ≤ v.1 ∧ v.1 < 1 + 2 * (l.length : Int)) ∧ Qs (Zdp m d l x i) n laid (line ++ L)
 | 0,_ => ⟨[],by simp,by simpa [Zdp] using h⟩
 | i + 1,hi => by
  obtain ⟨L,hL,hq⟩ := Qs.notes m d l h hl hn i (by omega)
  have hv : (l.getD i (0,[])).2.length = 64 := by
   rw [List.getD_eq_getElem?_getD,List.getElem?_eq_getElem (by omega)]
   exact hl _ (List.getElem_mem _)
  have h1 := hq.write (no := 1 + 2 * (i : Nat)) (b := Zil m (i : Nat) (l.length : Nat) (l.getD i (0,[])).1 d) (by omega) (by omega) (Zgz ..)
  have h2 := h1.write (no := 1 + 2 * (i : Nat) + 1) (b := (l.getD i (0,[])).2) (by omega) (by omega) hv
  refine ⟨L ++ [(1 + 2 * ((i : Nat) : Int),Zil m (i : Nat) (l.length : Nat) (l.getD i (0,[])).1 d),(1 + 2 * ((i : Nat) : Int) + 1,(l.getD i (0,[])).2)],?_,by simpa [Zdp,Zik,List.append_assoc] using h2⟩
  intro v hv
  rcases List.mem_append.1 hv with hv | hv
  ·exact hL v hv
  ·simp only [List.mem_cons,List.not_mem_nil,or_false] at hv
   rcases hv with rfl | rfl <;> (simp only; omega)
def Zd1 (l : List (Int × List UInt8)) (m : Int) : Option (List UInt8) := (l.reverse.find? fun v => v.1 == m).map (·.2)
theorem Zfb (v : Int × List UInt8) (l : List (Int × List UInt8)) (m : Int) : Zd1 (v :: l) m = (Zd1 l m).or (if v.1 = m then some v.2 else none) := by
 unfold Zd1
 rw [List.reverse_cons,List.find?_append]
 cases h : l.reverse.find? fun v => v.1 == m with
 | some x => simp
 | none => by_cases e : v.1 = m <;> simp [e]
theorem Zh1 {l : List (Int × List UInt8)} {m : Int} (h : ∀ v ∈ l,v.1 ≠ m) : Zd1 l m = none := by
 unfold Zd1
 rw [List.find?_eq_none.2 (fun v hv => by simpa using h v (List.mem_reverse.1 hv))]; rfl
theorem Zm8 (k m : Int) : ∀ l : List (Int × List UInt8),Zd1 (l.map fun v => (k + v.1,v.2)) (k + m) = Zd1 l m
 | [] => rfl
 | v :: l => by
  rw [List.map_cons,Zfb,Zfb,Zm8 k m l]
  congr 1
  by_cases e : v.1 = m
  ·rw [if_pos e,if_pos (by rw [e])]
  ·rw [if_neg e,if_neg (fun h => e (Int.add_left_cancel h))]
theorem Zrb {l : List (Int × List UInt8)} {m : Int} {s : List UInt8} (h : Zd1 l m = some s) : (m,s) ∈ l := by
 unfold Zd1 at h
 obtain ⟨v,hv,rfl⟩ := Option.map_eq_some_iff.1 h
 have h1 := List.mem_of_find?_eq_some hv
 have h2 := List.find?_some hv
 simp only [beq_iff_eq] at h2
 subst h2
 exact List.mem_reverse.1 h1
theorem Zep : ∀ (xs : List (Int × List UInt8)) (l : List (List UInt8)) (k : Nat),k < l.length → (∀ v ∈ xs,0 ≤ v.1) → (Zdi l xs).getD k [] = (Zd1 xs k).getD (l.getD k [])
 | [],_,_,_,_ => rfl
 | v :: xs,l,k,hk,hx => by
  have hv := hx v (List.mem_cons_self ..)
  have ih := Zep xs (l.set v.1.toNat v.2) k (by simpa using hk) fun u hu => hx u (List.mem_cons_of_mem _ hu)
  have e : Zdi l (v :: xs) = Zdi (l.set v.1.toNat v.2) xs := rfl
  rw [e,ih,Zfb]
  cases Zd1 xs k with
  | some s => rfl
  | none =>
   simp only [Option.getD_none,Option.none_or]
   rw [List.getD_eq_getElem?_getD,List.getElem?_set]
   by_cases e2 : v.1.toNat = k
   ·rw [if_pos e2,if_pos (by omega),if_pos (by omega)]; rfl
   ·rw [if_neg e2,if_neg (by omega)]; simp [List.getD_eq_getElem?_getD]
theorem find_quiet {D : DiskM} (h : D.line = []) (no : Int) : D.find no = D.laid.getD no.toNat [] := by unfold DiskM.find; rw [h]; rfl
theorem Zrc {l : List (Int × List UInt8)} (h : Zcy l l.length = false) {v : Int × List UInt8} (hv : v ∈ l) : Zd1 l v.1 = some v.2 := by
 obtain ⟨i,hi,rfl⟩ := List.mem_iff_getElem.1 hv
 cases h1 : Zd1 l l[i].1 with
 | none =>
  unfold Zd1 at h1
  rw [Option.map_eq_none_iff,List.find?_eq_none] at h1
  have := h1 l[i] (List.mem_reverse.2 (List.getElem_mem _))
  simp at this
 | some s =>
  obtain ⟨k,hk,hk'⟩ := List.mem_iff_getElem.1 (Zrb h1)
  have hg : ∀ {a : Nat} (ha : a < l.length),l.getD a (0,[]) = l[a] := fun ha => by simp [List.getD_eq_getElem?_getD,ha]
  rcases Nat.lt_trichotomy k i with hlt | rfl | hlt
  ·have := Znx (d := l) hi hlt (by rw [hg hk,hg hi,hk']) l.length hi
   rw [this] at h; cases h
  ·rw [hk']
  ·have := Znx (d := l) hk hlt (by rw [hg hk,hg hi,hk']) l.length hk
   rw [this] at h; cases h
end Cr
namespace Cr
open Go Go.Proofs
structure Done (R : Int × DiskM × Int) (D : DiskM) (j n : Nat) (done : Int) (l : List (Int × List UInt8)) : Prop where
 e : R.1 = 0
 q : Quiet R.2.1 n
 line : R.2.1.line = []
 lo : done ≤ R.2.2
 hi : R.2.2 ≤ done + 1
 at_ : ∀ k,1 + j + k < n → R.2.1.laid.getD (1 + j + k) [] = (Zd1 l (k : Nat)).getD (D.laid.getD (1 + j + k) [])
theorem Zrm (rd fs : List Int) {D : DiskM} {j n : Nat} {done : Int} {l : List (Int × List UInt8)} (hq : Quiet D n) (hline : D.line = []) (hc : Zdm l = 0) (hh : hasM ((n : Int) - 1 - j) l = true) (hm : (l.length : Int) ≤ (j : Int) / 2) (hd : done < last) :
  Done (Zc3 rd fs D j done l) D j n done l := by
 have hgood : ∀ v ∈ l,0 ≤ v.1 ∧ v.1 < (n : Int) - 1 - j ∧ v.2.length = 64 := fun v hv => by
  have h1 := Zf1 hc v hv
  have h2 := List.all_eq_true.1 hh v hv
  exact ⟨h1.1,of_decide_eq_true h2,h1.2⟩
 unfold Zc3
 rw [if_neg (by simp [hq.off]),if_neg (by simpa using hc),hq.len,if_neg (by simp [hh]),if_neg (by omega)]
 by_cases h0 : l = []
 ·rw [if_pos h0]
  subst h0
  exact ⟨rfl,hq,hline,Int.le_refl _,by simp only; omega,fun k hk => rfl⟩
 ·rw [if_neg h0]
  have hlen : 0 < l.length := List.length_pos_iff.2 h0
  obtain ⟨v0,hv0⟩ := List.exists_mem_of_ne_nil l h0
  have hv0 := hgood v0 hv0
  have hq0 : Qs (0,D) n D.laid [] := ⟨rfl,hq,rfl,hline⟩
  obtain ⟨L,hL,h1⟩ := hq0.notes (done + 1) (sumB rd fs (done + 1) l) l (fun v hv => (hgood v hv).2.2) (by omega) l.length (Nat.le_refl _)
  have h2 := Qs.puts (1 + j) l h1.flush (fun v hv => by have := hgood v hv; omega)
  have h3 := (h2.flush.write (no := 0) (b := Zfz rd fs (done + 1)) (by omega) (by omega) (Zc5 _)).flush
  have e : putM rd fs D j done l = Zet (Ze1 (Zet (Zhk (1 + j) (Zet (Zdp (done + 1) (sumB rd fs (done + 1) l) l (0,D) l.length)) l)) 0 (Zfz rd fs (done + 1))) := rfl
  rw [← e] at h3
  refine ⟨h3.e,h3.q,h3.line,?_,?_,fun k hk => ?_⟩
  ·simp only [h3.e,if_true]; omega
  ·simp only [h3.e,if_true]; omega
  ·simp only
   rw [h3.laid]
   have l1 : D.laid.length = n := hq.len
   rw [Zep _ _ _ (by rw [Zb4,Zb4,l1]; exact hk) (fun v hv => by simp only [List.nil_append,List.mem_singleton] at hv; rw [hv]; exact Int.le_refl _),
    Zh1 (l := [] ++ [(0,Zfz rd fs (done + 1))]) (fun v hv => by simp only [List.nil_append,List.mem_singleton] at hv; rw [hv]; simp only; omega),Option.getD_none,
    Zep _ _ _ (by rw [Zb4,l1]; exact hk) (fun v hv => by
     simp only [List.nil_append,List.mem_map] at hv
     obtain ⟨u,hu,rfl⟩ := hv
     have := hgood u hu
     simp only; omega),
    show ((1 + j + k : Nat) : Int) = (1 + (j : Int)) + (k : Nat) by omega,List.nil_append,Zm8]
   congr 1
   rw [Zep _ _ _ (by rw [l1]; exact hk) (fun v hv => (hL v (by simpa using hv)).1),Zh1 (fun v hv => by have := hL v (by simpa using hv); omega)]
   rfl
end Cr
namespace Cr
open Go Go.Proofs
set_option maxRecDepth 10000

/-! ### maps as lists -/
section
variable {β γ : Type}
def getA (k : Int) : List (Int × β) → Option β
 | [] => none
 | x :: l => if k = x.1 then some x.2 else getA k l
def setA (k : Int) (v : β) : List (Int × β) → List (Int × β)
 | [] => [(k,v)]
 | x :: l => if k = x.1 then (k,v) :: l else x :: setA k v l
def delA (k : Int) : List (Int × β) → List (Int × β)
 | [] => []
 | x :: l => if k = x.1 then l else x :: delA k l
def Zb9 (l : List (Int × β)) : List Int := l.map (·.1)
theorem getA_none {k : Int} : ∀ {l : List (Int × β)},getA k l = none ↔ k ∉ Zb9 l
 | [] => by simp [getA,Zb9]
 | x :: l => by
  unfold getA
  by_cases h : k = x.1
  ·simp [h,Zb9]
  ·have := getA_none (k := k) (l := l)
   simp only [Zb9] at this
   simp [h,Zb9,this]
theorem Zst {k : Int} {v : β} : ∀ {l : List (Int × β)},getA k l = some v → (k,v) ∈ l
 | x :: l,h => by
  unfold getA at h
  split at h
  ·rename_i e
   cases h
   rw [e]; exact List.mem_cons_self ..
  ·exact List.mem_cons_of_mem _ (Zst h)
theorem Zh2 {k : Int} {v : β} : ∀ {l : List (Int × β)},(Zb9 l).Nodup → (k,v) ∈ l → getA k l = some v
 | x :: l,hn,h => by
  have hn' : x.1 ∉ Zb9 l ∧ (Zb9 l).Nodup := List.nodup_cons.1 hn
  unfold getA
  rcases List.mem_cons.1 h with e | h
  ·rw [← e]; simp
  ·have : k ≠ x.1 := fun e => hn'.1 (by rw [← e]; exact List.mem_map.2 ⟨_,h,rfl⟩)
   rw [if_neg this]; exact Zh2 hn'.2 h
theorem Zip {k k' : Int} {v : β} : ∀ {l : List (Int × β)},getA k (setA k' v l) = if k = k' then some v else getA k l
 | [] => by simp [setA,getA]
 | x :: l => by
  unfold setA
  by_cases h : k' = x.1
  ·rw [if_pos h]
   by_cases h2 : k = k'
   ·simp [getA,h2]
   ·simp [getA,h2,← h]
  ·rw [if_neg h]
   by_cases h2 : k = k'
   ·have := Zip (k := k) (k' := k') (v := v) (l := l)
    subst h2
    simp only [getA,if_neg h]
    simpa using this
   ·simp [getA,h2,Zip (k := k) (k' := k') (v := v) (l := l)]
theorem Zlt {k k' : Int} : ∀ {l : List (Int × β)},(Zb9 l).Nodup → getA k (delA k' l) = if k = k' then none else getA k l
 | [],_ => by simp [delA,getA]
 | x :: l,hn => by
  have hn' : x.1 ∉ Zb9 l ∧ (Zb9 l).Nodup := List.nodup_cons.1 hn
  unfold delA
  by_cases h : k' = x.1
  ·rw [if_pos h]
   by_cases h2 : k = k'
   ·rw [if_pos h2,getA_none,h2,h]; exact hn'.1
   ·simp [getA,h2,← h]
  ·rw [if_neg h]
   by_cases h2 : k = k'
   ·subst h2
    simp [getA,h,Zlt (k := k) (k' := k) hn'.2]
   ·simp [getA,h2,Zlt (k := k) (k' := k') hn'.2]
theorem Zm9 {k : Int} : ∀ {l : List (Int × β)},(Zb9 (delA k l)).Sublist (Zb9 l)
 | [] => by simp [delA,Zb9]
 | x :: l => by
  unfold delA
  split
  ·exact List.sublist_cons_self ..
  ·exact (Zm9 (k := k) (l := l)).cons_cons _
theorem Zom {k : Int} : ∀ {l : List (Int × β)},(delA k l).Sublist l
 | [] => by simp [delA]
 | x :: l => by
  unfold delA
  split
  ·exact List.sublist_cons_self ..
  ·exact (Zom (k := k) (l := l)).cons_cons _
theorem Zr7 {k : Int} {v : β} : ∀ {l : List (Int × β)},k ∉ Zb9 l → setA k v l = l ++ [(k,v)]
 | [],_ => rfl
 | x :: l,h => by
  have h' : ¬ k = x.1 ∧ k ∉ Zb9 l := by simpa [Zb9] using h
  simp [setA,h'.1,Zr7 h'.2]
theorem Zsu {k : Int} (f : β → γ) : ∀ {l : List (Int × β)},getA k (l.map fun x => (x.1,f x.2)) = (getA k l).map f
 | [] => rfl
 | x :: l => by
  simp only [List.map_cons,getA]
  split
  ·rfl
  ·exact Zsu f
theorem Zr8 {k : Int} {v : β} (f : β → γ) : ∀ {l : List (Int × β)},setA k (f v) (l.map fun x => (x.1,f x.2)) = (setA k v l).map fun x => (x.1,f x.2)
 | [] => rfl
 | x :: l => by
  simp only [List.map_cons,setA]
  split
  ·rfl
  ·simp [Zr8 f]
theorem Zs4 {k : Int} (f : β → γ) : ∀ {l : List (Int × β)},delA k (l.map fun x => (x.1,f x.2)) = (delA k l).map fun x => (x.1,f x.2)
 | [] => rfl
 | x :: l => by
  simp only [List.map_cons,delA]
  split
  ·rfl
  ·simp [Zs4 f]
end

/-! ### nodes -/
structure StatM where
 kind : Int
 mode : Int
 owner : Int
 group : Int
 deriving DecidableEq
def StatM.check (s : StatM) : Int := if ¬ (0 ≤ s.kind ∧ s.kind < 5) then 17 else if ¬ (0 ≤ s.mode ∧ s.mode < 4096) then 11 else if ¬ (0 ≤ s.owner ∧ s.owner < 65536) ∨ ¬ (0 ≤ s.group ∧ s.group < 65536) then 1 else 0
theorem StatM.check_ok {s : StatM} (h : s.check = 0) : (0 ≤ s.kind ∧ s.kind < 5) ∧ (0 ≤ s.mode ∧ s.mode < 4096) ∧ (0 ≤ s.owner ∧ s.owner < 65536) ∧ (0 ≤ s.group ∧ s.group < 65536) := by
 unfold StatM.check at h
 split at h
 ·cases h
 ·split at h
  ·cases h
  ·split at h
   ·cases h
   ·omega
def StatM.num (s : StatM) : Int := if s.check = 0 then ((s.kind * 4096 + s.mode) * 65536 + s.owner) * 65536 + s.group else 0
def nblk (n : Nat) : Nat := (n + 63) / 64
structure Nd where
 st : StatM
 data : List UInt8
 deriving DecidableEq
structure Sto where
 nd : Nd
 blocks : List Int
def Zhq (d : List UInt8) (i : Nat) : List UInt8 := Zec ((d.drop (64 * i)).take 64)
def Zgu (s : Sto) : List UInt8 := [1] ++ bigB s.nd.st.num 8 ++ bigB (s.nd.data.length : Nat) 4 ++ s.blocks.flatMap fun b => bigB b 4
def stoB (s : Sto) : List UInt8 := Zec (Zgu s)
def Zfg : List UInt8 := [67,82,69,69,76]
def Zdw (rd fs : List Int) (n : Nat) : List UInt8 := Zec (Zfg ++ bigB (n : Nat) 4 ++ digest rd fs [Zfg,bigB (n : Nat) 4])
abbrev Ents := List (Int × Sto)
def Zb6 (A : Ents) : List Int := A.flatMap fun x => x.2.blocks
structure Sto.ok (s : Sto) (nb : Nat) : Prop where
 st : s.nd.st.check = 0
 len : s.nd.data.length ≤ 512
 cnt : s.blocks.length = nblk s.nd.data.length
 low : ∀ b ∈ s.blocks,0 ≤ b ∧ b < nb
structure Enc (rd fs : List Int) (dat : List (List UInt8)) (n nb : Nat) (A : Ents) : Prop where
 len : dat.length = 1 + n + nb
 front : dat.getD 0 [] = Zdw rd fs n
 keys : ∀ k ∈ Zb9 A,0 ≤ k ∧ k < n
 nodup : (Zb9 A).Nodup
 node : ∀ i,i < n → dat.getD (1 + i) [] = match getA (i : Nat) A with | some s => stoB s | none => zero64
 ok : ∀ x ∈ A,x.2.ok nb
 at_ : ∀ x ∈ A,∀ k b,x.2.blocks[k]? = some b → dat.getD (1 + n + b.toNat) [] = Zhq x.2.nd.data k
 apart : (Zb6 A).Nodup
abbrev Tb := List (Option Nd)
def tabOf (A : Ents) (n : Nat) : Tb := (List.range n).map fun i => (getA (i : Nat) A).map (·.nd)
theorem Zdc (A : Ents) (n : Nat) : (tabOf A n).length = n := by simp [tabOf]
theorem Zgs (A : Ents) {n i : Nat} (h : i < n) : (tabOf A n)[i]? = some ((getA (i : Nat) A).map (·.nd)) := by simp [tabOf,h]
def roomT (T : Tb) (nb : Nat) : Int := T.foldl (fun r x => match x with | some x => r - (nblk x.data.length : Nat) | none => r) (nb : Int)

/-! ### changes -/
structure Chg where
 no : Int
 nd : Nd
 drop : Bool
def badC : List Chg → Int
 | [] => 0
 | c :: l => if c.drop then badC l else if ¬ c.nd.st.check = 0 then c.nd.st.check else if 512 < c.nd.data.length then 2 else badC l
def Zmu (l : List Chg) : Bool := Zcy (l.map fun c => (c.no,[])) l.length
def Zf2 (l : List Chg) (n : Nat) : Int := if l.any (fun c => decide (c.no < 0) || decide ((n : Int) ≤ c.no)) then 1 else if Zmu l then 8 else badC l
def Zfp (x : Tb × Nat × Bool) (nb : Nat) (c : Chg) : Tb × Nat × Bool :=
 if x.2.2 then x else if c.drop then (x.1,x.2.1 + 1,false) else
 if roomT x.1 nb < (nblk c.nd.data.length : Nat) then (x.1,x.2.1,true) else (x.1.set c.no.toNat (some c.nd),x.2.1 + 1 + nblk c.nd.data.length,false)
def Zg4 (T : Tb) (l : List Chg) : Tb := l.foldl (fun T c => T.set c.no.toNat none) T
def runT (T : Tb) (nb : Nat) (l : List Chg) : Tb × Nat × Bool := l.foldl (fun x c => Zfp x nb c) (Zg4 T l,0,false)
def putT (T : Tb) (nb most : Nat) (l : List Chg) : Int × Tb :=
 if (runT T nb l).2.2 then (6,T) else if most < (runT T nb l).2.1 then (6,T) else (0,(runT T nb l).1)
def Zhr (T : Tb) (nb most : Nat) (l : List Chg) : Int × Tb := if ¬ Zf2 l T.length = 0 then (Zf2 l T.length,T) else putT T nb most l
def Zfl (A : Ents) (l : List Chg) : Ents := l.foldl (fun A c => delA c.no A) A
def Zh4 (A : Ents) (nb : Nat) : List Int := ((List.range nb).map fun k => ((k : Nat) : Int)).filter fun b => decide (b ∉ Zb6 A)
structure ApS where
 A : Ents
 free : List Int
 w : List (Int × List UInt8)
def Zdt (n : Nat) (bs : List Int) (d : List UInt8) : List (Int × List UInt8) := (List.range bs.length).map fun i => (1 + (n : Int) + bs.getD i 0,Zhq d i)
def ApS.step (n : Nat) (z : ApS) (c : Chg) : Option ApS :=
 if c.drop then some { z with w := z.w ++ [(1 + c.no,zero64)] } else
 if z.free.length < nblk c.nd.data.length then none else
 some ⟨setA c.no ⟨c.nd,z.free.take (nblk c.nd.data.length)⟩ z.A,z.free.drop (nblk c.nd.data.length),z.w ++ (Zdt n (z.free.take (nblk c.nd.data.length)) c.nd.data ++ [(1 + c.no,stoB ⟨c.nd,z.free.take (nblk c.nd.data.length)⟩)])⟩
def ApS.run (n : Nat) (z : ApS) : List Chg → Option ApS
 | [] => some z
 | c :: l => (z.step n c).bind fun z => z.run n l
def ApS.start (A : Ents) (nb : Nat) (l : List Chg) : ApS := ⟨Zfl A l,Zh4 (Zfl A l) nb,[]⟩
end Cr
namespace Cr
open Go Go.Proofs
set_option maxRecDepth 100000
set_option maxHeartbeats 8000000
attribute [local irreducible] Calls

theorem below_ (n k : Int) (W : World) : Calls Tryz.prog 188 #[.int .i64 n,.int .i64 k] W (Ret fun v w => v = .bool (decide (0 ≤ n ∧ n < k)) ∧ W = w) := by
 by_cases h : 0 ≤ n
 ·by_cases h2 : n < k
  ·refine Zas Tryz.func188 rfl Tryz.ntmps188 rfl ?_
   repeat (first|(refine G_id ?_;first|refine Zah ?_|refine Zab rfl rfl ?_|refine Zcu rfl rfl rfl rfl ?_)|(refine X_id ?_;first|refine X_yl (Zad rfl rfl) rfl rfl ?_|refine X_yl (Zac rfl rfl) rfl rfl ?_|refine X_yl (Zbr rfl rfl rfl) rfl rfl ?_|refine X_yl (Za3 rfl rfl rfl (by omega)) rfl rfl ?_|refine X_yl (Zda rfl rfl rfl (by omega)) rfl rfl ?_)|(refine C_id ?_;first|refine Zak ?_|refine Zaa ?_|refine Za2 ?_)|(refine E_id ?_;first|refine Zae ?_|refine Zax rfl (Zap rfl) (Ret.mk ?_)))
   exact ⟨by simp [h,h2],rfl⟩
  ·refine Zas Tryz.func188 rfl Tryz.ntmps188 rfl ?_
   repeat (first|(refine G_id ?_;first|refine Zah ?_|refine Zab rfl rfl ?_|refine Zcu rfl rfl rfl rfl ?_)|(refine X_id ?_;first|refine X_yl (Zad rfl rfl) rfl rfl ?_|refine X_yl (Zac rfl rfl) rfl rfl ?_|refine X_yl (Zbr rfl rfl rfl) rfl rfl ?_|refine X_yl (Za7 rfl rfl rfl (by omega)) rfl rfl ?_|refine X_yl (Zda rfl rfl rfl (by omega)) rfl rfl ?_)|(refine C_id ?_;first|refine Zak ?_|refine Zaa ?_|refine Za2 ?_)|(refine E_id ?_;first|refine Zae ?_|refine Zax rfl (Zap rfl) (Ret.mk ?_)))
   exact ⟨by simp [h,h2],rfl⟩
 ·refine Zas Tryz.func188 rfl Tryz.ntmps188 rfl ?_
  repeat (first|(refine G_id ?_;first|refine Zah ?_|refine Zab rfl rfl ?_|refine G_no rfl rfl rfl rfl rfl rfl ?_)|(refine X_id ?_;first|refine X_yl (Zad rfl rfl) rfl rfl ?_|refine X_yl (Zac rfl rfl) rfl rfl ?_|refine X_yl (Zbb rfl rfl rfl) rfl rfl ?_|refine X_yl (Zdv rfl rfl rfl (by omega)) rfl rfl ?_)|(refine C_id ?_;first|refine Zak ?_|refine Zaa ?_|refine Za2 ?_)|(refine E_id ?_;first|refine Zae ?_|refine Zax rfl (Zap rfl) (Ret.mk ?_)))
  exact ⟨by simp [h],rfl⟩
theorem Zfs {n k : Int} (h : 0 ≤ n ∧ n < k) (W : World) : Calls Tryz.prog 188 #[.int .i64 n,.int .i64 k] W (Ret fun v w => v = .bool true ∧ W = w) := by
 have := below_ n k W
 rwa [decide_eq_true h] at this
theorem Zoq {n k : Int} (h : ¬ (0 ≤ n ∧ n < k)) (W : World) : Calls Tryz.prog 188 #[.int .i64 n,.int .i64 k] W (Ret fun v w => v = .bool false ∧ W = w) := by
 have := below_ n k W
 rwa [decide_eq_false h] at this
abbrev StatM.cells (s : StatM) : List Value := [.int .i64 s.kind,.int .i64 s.mode,.int .i64 s.owner,.int .i64 s.group]
abbrev StatM.val (s : StatM) : Value := .agg (StatM.cells s).toArray
theorem mcheck_ (s : StatM) (W : World) : Calls Tryz.prog 136 #[s.val] W (Ret fun v w => v = .int .i64 s.check ∧ St W noF [] w) := by
 have hS := St.start W
 by_cases h1 : 0 ≤ s.kind ∧ s.kind < 5
 ·by_cases h2 : 0 ≤ s.mode ∧ s.mode < 4096
  ·by_cases h3 : 0 ≤ s.owner ∧ s.owner < 65536
   ·by_cases h4 : 0 ≤ s.group ∧ s.group < 65536
    ·refine Zas Tryz.func136 rfl Tryz.ntmps136 rfl ?_
     repeat (first|(refine G_id ?_;first|refine Zah ?_|refine Zab rfl rfl ?_|refine Zcu rfl rfl rfl rfl ?_)|(refine X_id ?_;first|(refine Zan 188 rfl rfl rfl rfl rfl (Zfs h1 _) ?_;rintro _ _ ⟨rfl,rfl⟩)|(refine Zan 188 rfl rfl rfl rfl rfl (Zfs h2 _) ?_;rintro _ _ ⟨rfl,rfl⟩)|(refine Zan 188 rfl rfl rfl rfl rfl (Zfs h3 _) ?_;rintro _ _ ⟨rfl,rfl⟩)|(refine Zan 188 rfl rfl rfl rfl rfl (Zfs h4 _) ?_;rintro _ _ ⟨rfl,rfl⟩)|refine X_yl (Zad rfl rfl) rfl rfl ?_|refine X_yl (Zac rfl rfl) rfl rfl ?_|refine X_yl (Zaf rfl rfl rfl) rfl rfl ?_|refine X_yl (Zbb rfl rfl rfl) rfl rfl ?_|refine X_yl (Zbl rfl rfl) rfl rfl ?_|refine X_yl (Zao rfl rfl hS.cell) rfl rfl ?_|refine Zeg rfl rfl rfl rfl hS (fun _ _ hS _ => ?_))|(refine C_id ?_;first|refine Zak ?_|refine Zaa ?_|refine Zaq ?_|refine Za2 ?_|refine Zaw ?_|refine Zaj rfl ?_)|(refine E_id ?_;first|refine Zae ?_|refine Zbf ?_|refine Zax rfl (Zap rfl) (Ret.mk ?_)))
     exact ⟨by simp [StatM.check,h1,h2,h3,h4],hS.drops⟩
    ·refine Zas Tryz.func136 rfl Tryz.ntmps136 rfl ?_
     repeat (first|(refine G_id ?_;first|refine Zah ?_|refine Zab rfl rfl ?_|refine Zcu rfl rfl rfl rfl ?_)|(refine X_id ?_;first|(refine Zan 188 rfl rfl rfl rfl rfl (Zfs h1 _) ?_;rintro _ _ ⟨rfl,rfl⟩)|(refine Zan 188 rfl rfl rfl rfl rfl (Zfs h2 _) ?_;rintro _ _ ⟨rfl,rfl⟩)|(refine Zan 188 rfl rfl rfl rfl rfl (Zfs h3 _) ?_;rintro _ _ ⟨rfl,rfl⟩)|(refine Zan 188 rfl rfl rfl rfl rfl (Zoq h4 _) ?_;rintro _ _ ⟨rfl,rfl⟩)|refine X_yl (Zad rfl rfl) rfl rfl ?_|refine X_yl (Zac rfl rfl) rfl rfl ?_|refine X_yl (Zaf rfl rfl rfl) rfl rfl ?_|refine X_yl (Zbb rfl rfl rfl) rfl rfl ?_|refine X_yl (Zbl rfl rfl) rfl rfl ?_|refine X_yl (Zb8 rfl rfl) rfl rfl ?_|refine X_yl (Zao rfl rfl hS.cell) rfl rfl ?_|refine Zeg rfl rfl rfl rfl hS (fun _ _ hS _ => ?_))|(refine C_id ?_;first|refine Zak ?_|refine Zaa ?_|refine Zaq ?_|refine Za2 ?_|refine Zam rfl ?_|refine Zaj rfl ?_)|(refine E_id ?_;first|refine Zae ?_|refine Zat ?_|refine Zbh ?_|refine Zax rfl (Zap rfl) (Ret.mk ?_)))
     exact ⟨by simp [StatM.check,h1,h2,h3,h4],hS.drops⟩
   ·refine Zas Tryz.func136 rfl Tryz.ntmps136 rfl ?_
    repeat (first|(refine G_id ?_;first|refine Zah ?_|refine Zab rfl rfl ?_|refine G_no rfl rfl rfl rfl rfl rfl ?_)|(refine X_id ?_;first|(refine Zan 188 rfl rfl rfl rfl rfl (Zfs h1 _) ?_;rintro _ _ ⟨rfl,rfl⟩)|(refine Zan 188 rfl rfl rfl rfl rfl (Zfs h2 _) ?_;rintro _ _ ⟨rfl,rfl⟩)|(refine Zan 188 rfl rfl rfl rfl rfl (Zoq h3 _) ?_;rintro _ _ ⟨rfl,rfl⟩)|refine X_yl (Zad rfl rfl) rfl rfl ?_|refine X_yl (Zac rfl rfl) rfl rfl ?_|refine X_yl (Zaf rfl rfl rfl) rfl rfl ?_|refine X_yl (Zbr rfl rfl rfl) rfl rfl ?_|refine X_yl (Zbl rfl rfl) rfl rfl ?_|refine X_yl (Zb8 rfl rfl) rfl rfl ?_|refine X_yl (Zao rfl rfl hS.cell) rfl rfl ?_|refine Zeg rfl rfl rfl rfl hS (fun _ _ hS _ => ?_))|(refine C_id ?_;first|refine Zak ?_|refine Zaa ?_|refine Zaq ?_|refine Za2 ?_|refine Zam rfl ?_|refine Zaj rfl ?_)|(refine E_id ?_;first|refine Zae ?_|refine Zat ?_|refine Zbh ?_|refine Zax rfl (Zap rfl) (Ret.mk ?_)))
    exact ⟨by simp [StatM.check,h1,h2,h3],hS.drops⟩
  ·refine Zas Tryz.func136 rfl Tryz.ntmps136 rfl ?_
   repeat (first|(refine G_id ?_;first|refine Zah ?_|refine Zab rfl rfl ?_)|(refine X_id ?_;first|(refine Zan 188 rfl rfl rfl rfl rfl (Zfs h1 _) ?_;rintro _ _ ⟨rfl,rfl⟩)|(refine Zan 188 rfl rfl rfl rfl rfl (Zoq h2 _) ?_;rintro _ _ ⟨rfl,rfl⟩)|refine X_yl (Zac rfl rfl) rfl rfl ?_|refine X_yl (Zaf rfl rfl rfl) rfl rfl ?_|refine X_yl (Zbl rfl rfl) rfl rfl ?_|refine X_yl (Zb8 rfl rfl) rfl rfl ?_|refine X_yl (Zao rfl rfl hS.cell) rfl rfl ?_|refine Zeg rfl rfl rfl rfl hS (fun _ _ hS _ => ?_))|(refine C_id ?_;first|refine Zak ?_|refine Zaa ?_|refine Zaq ?_|refine Za2 ?_|refine Zam rfl ?_|refine Zaj rfl ?_)|(refine E_id ?_;first|refine Zae ?_|refine Zat ?_|refine Zbh ?_|refine Zax rfl (Zap rfl) (Ret.mk ?_)))
   exact ⟨by simp [StatM.check,h1,h2],hS.drops⟩
 ·refine Zas Tryz.func136 rfl Tryz.ntmps136 rfl ?_
  repeat (first|(refine G_id ?_;first|refine Zah ?_|refine Zab rfl rfl ?_)|(refine X_id ?_;first|(refine Zan 188 rfl rfl rfl rfl rfl (Zoq h1 _) ?_;rintro _ _ ⟨rfl,rfl⟩)|refine X_yl (Zac rfl rfl) rfl rfl ?_|refine X_yl (Zaf rfl rfl rfl) rfl rfl ?_|refine X_yl (Zb8 rfl rfl) rfl rfl ?_|refine X_yl (Zao rfl rfl hS.cell) rfl rfl ?_|refine Zeg rfl rfl rfl rfl hS (fun _ _ hS _ => ?_))|(refine C_id ?_;first|refine Zak ?_|refine Zaa ?_|refine Zaq ?_|refine Za2 ?_|refine Zam rfl ?_)|(refine E_id ?_;first|refine Zae ?_|refine Zat ?_|refine Zbh ?_|refine Zax rfl (Zap rfl) (Ret.mk ?_)))
  exact ⟨by simp [StatM.check,h1],hS.drops⟩
theorem Zsg (s : StatM) (W : World) : Calls Tryz.prog 215 #[s.val] W (Ret fun v w => v = .int .i64 s.num ∧ St W noF [] w) := by
 have hc := mcheck_ s
 have hS := St.start W
 by_cases h : s.check = 0
 ·have h4 := StatM.check_ok h
  rw [h] at hc
  refine Zas Tryz.func215 rfl Tryz.ntmps215 rfl ?_
  repeat (first|(refine G_id ?_;first|refine Zah ?_|refine Zab rfl rfl ?_)|(refine X_id ?_;first|(refine Zbm 136 rfl rfl rfl rfl rfl hS (hc _) ?_;rintro _ _ rfl hS)|refine X_yl (Zac rfl rfl) rfl rfl ?_|refine X_yl (Zaf rfl rfl rfl) rfl rfl ?_|refine X_yl (Zb1 rfl rfl rfl (by omega)) rfl rfl ?_|refine X_yl (Zbk rfl rfl rfl (w64 (by omega) (by omega))) rfl rfl ?_|refine X_yl (Zfi rfl rfl rfl (w64 (by omega) (by omega))) rfl rfl ?_|refine X_yl (Zao rfl rfl hS.cell) rfl rfl ?_|refine X_yl (Zbc rfl rfl hS.cellsN) rfl rfl ?_|refine Zeg rfl rfl rfl rfl hS (fun _ _ hS _ => ?_))|(refine C_id ?_;first|refine Zak ?_|refine Zaa ?_|refine Za2 ?_|refine Zaw ?_|refine Zaj rfl ?_)|(refine E_id ?_;first|refine Zae ?_|refine Zax rfl (Zap rfl) (Ret.mk ?_)))
  exact ⟨by simp [StatM.num,h],hS.drops⟩
 ·refine Zas Tryz.func215 rfl Tryz.ntmps215 rfl ?_
  repeat (first|(refine G_id ?_;first|refine Zah ?_|refine Zab rfl rfl ?_)|(refine X_id ?_;first|(refine Zbm 136 rfl rfl rfl rfl rfl hS (hc _) ?_;rintro _ _ rfl hS)|refine X_yl (Zac rfl rfl) rfl rfl ?_|refine X_yl (Zc0 rfl rfl rfl (by omega)) rfl rfl ?_|refine X_yl (Zbc rfl rfl hS.cellsN) rfl rfl ?_|refine Zeg rfl rfl rfl rfl hS (fun _ _ hS _ => ?_))|(refine C_id ?_;first|refine Zak ?_|refine Zaa ?_|refine Za2 ?_|refine Zam rfl ?_)|(refine E_id ?_;first|refine Zae ?_|refine Zat ?_|refine Zax rfl (Zap rfl) (Ret.mk ?_)))
  exact ⟨by simp [StatM.num,h],hS.drops⟩
end Cr
namespace Cr
open Go Go.Proofs
set_option maxRecDepth 100000
set_option maxHeartbeats 8000000
attribute [local irreducible] Calls

theorem Zmp {n : Int} {c k : Nat} (h : k < c) : (bigB n c).take (k + 1) = (bigB n c).take k ++ [bigAt n c k] := by
 rw [List.take_add_one]
 congr 1
 have hl : k < (bigB n c).length := by rw [Za0]; exact h
 have := Zl9 n c k h c (Nat.le_refl _)
 rw [if_pos h] at this
 have e : (bigB n c)[k] = (bigB n c).getD k 0 := by rw [List.getD_eq_getElem?_getD,List.getElem?_eq_getElem hl]; rfl
 rw [List.getElem?_eq_getElem hl,e]
 unfold bigB
 rw [this]; rfl
theorem Zof (n : Int) (c : Nat) (hc : c ≤ 64) (W : World) :
  Calls Tryz.prog 173 #[.int .i64 n,.int .i64 (c : Nat)] W (Ret fun v w => ∃ a k,v = .slice a c k ∧ c ≤ k ∧ St W noF [own 5 1 a k (bv (bigB n c))] w) := by
 have hS := St.start W
 refine Zas Tryz.func173 rfl Tryz.ntmps173 rfl ?_
 repeat (first|(refine G_id ?_;first|refine Zah ?_|refine Zab rfl rfl ?_)|(refine X_id ?_;first|refine X_yl (Zad rfl rfl) rfl rfl ?_|refine X_yl (Zac rfl rfl) rfl rfl ?_|refine X_yl (Zdn rfl rfl rfl (w64 (by omega) (by omega))) rfl rfl ?_)|(refine C_id ?_;first|refine Zak ?_|refine Zaa ?_|refine Zaq ?_)|(refine E_id ?_;first|refine Zae ?_))
 refine Zb7 (α := Nat × Option Addr × Nat) (fun z => [(0,.int .i64 n),(1,.int .i64 (c : Nat)),(5,.slice z.2.1 z.1 z.2.2),(6,.int .i64 ((c : Int) - 1 - (z.1 : Nat)))])
  (fun z w => z.1 ≤ c ∧ z.1 ≤ z.2.2 ∧ St W noF [own 5 1 z.2.1 z.2.2 (bv ((bigB n c).take z.1))] w) (fun z => c - z.1) (0,none,0) ⟨rfl,rfl,rfl,by simp [look],trivial⟩ ⟨Nat.zero_le _,Nat.le_refl _,hS.own_none _ _ _⟩ ?_
 clear hS
 rintro ⟨i,a,k⟩ w ⟨hi,hk,hS⟩
 simp only at hi hk hS ⊢
 have htl : ((bigB n c).take i).length = i := by rw [List.length_take,Za0]; omega
 by_cases hlt : i < c
 ·have e8 : (8 * ((c : Int) - 1 - (i : Nat))).toNat = 8 * (c - 1 - i) := by omega
  repeat (first|(refine G_id ?_;first|refine Zah ?_|refine Zab rfl rfl ?_)|(refine X_id ?_;first|refine X_yl (Zad rfl rfl) rfl rfl ?_|refine X_yl (Zda rfl rfl rfl (by omega)) rfl rfl ?_|refine X_yl (Zfi rfl rfl rfl (w64 (by omega) (by omega))) rfl rfl ?_|refine X_yl (Zf5 rfl rfl) rfl rfl ?_|refine X_yl (Zd2 rfl rfl rfl) rfl rfl ?_|refine X_yl (Zj6 rfl rfl rfl (by omega)) rfl rfl ?_|refine Za6 rfl rfl rfl rfl rfl rfl rfl rfl hS (fun _ _ hS _ => ?_))|(refine C_id ?_;first|refine Zak ?_|refine Zaa ?_|refine Zaq ?_|refine Zaw ?_|refine Zam rfl ?_)|(refine E_id ?_;first|refine Zae ?_))
  rw [e8]
  repeat (first|fail)
  refine Zc4 (n := i) (m := 1) rfl rfl rfl rfl rfl hS (by simp [htl]) hk ((hS.rd (List.mem_cons_self ..)).own_row) (by simp) (by simp [Value.oneCell']) (by omega) (by simp only [maxLen]; omega) (fun a' c' w hS hc' _ => ?_)
  repeat (first|(refine G_id ?_;first|refine Zah ?_|refine Zab rfl rfl ?_)|(refine X_id ?_;first|refine X_yl (Zad rfl rfl) rfl rfl ?_|refine X_yl (Zac rfl rfl) rfl rfl ?_|refine X_yl (Zdn rfl rfl rfl (w64 (by omega) (by omega))) rfl rfl ?_)|(refine C_id ?_;first|refine Zaa ?_)|(refine E_id ?_;first|refine Zae ?_|refine Zbf ?_))
  have e1 : (c : Int) - 1 - ((i + 1 : Nat) : Int) = (c : Int) - 1 - (i : Nat) - 1 := by omega
  refine Zbu (z := (i,a,k)) (i + 1,a',c') ⟨rfl,rfl,rfl,by simp only; rw [e1]; rfl,trivial⟩ ⟨by simp only; omega,hc',?_⟩ (by simp only; omega)
  rw [e8] at hS
  show St W noF [own 5 1 a' c' (bv ((bigB n c).take (i + 1)))] w
  rw [Zmp hlt,Zf3]
  have h := hS.pick [0]
  exact h
 ·obtain rfl : i = c := by omega
  rw [List.take_of_length_le (by rw [Za0]; omega)] at hS
  repeat (first|(refine G_id ?_;first|refine Zah ?_|refine Zab rfl rfl ?_)|(refine X_id ?_;first|refine X_yl (Zad rfl rfl) rfl rfl ?_|refine X_yl (Zac rfl rfl) rfl rfl ?_|refine X_yl (Zdv rfl rfl rfl (by omega)) rfl rfl ?_)|(refine C_id ?_;first|refine Zak ?_|refine Zaa ?_|refine Za2 ?_|refine Zb0 ?_|refine Zaj rfl ?_)|(refine E_id ?_;first|refine Zae ?_|refine Zav ?_|refine Zaz ?_|refine Zax rfl (Zap rfl) (Ret.mk ?_)))
  exact ⟨a,k,rfl,hk,hS⟩
theorem Zqw (s : List UInt8) : Zby (bv (List.replicate 64 0)) 0 ((bv s).take 64) = bv (Zec s) := by
 unfold Zby Zec
 rw [List.take_append,Zf3,Zl7]
 simp only [List.take_zero,List.nil_append,Nat.zero_add]
 congr 1
 rw [List.length_take,Za4,← Zg5,List.take_replicate,List.drop_replicate,Zg5]
 congr 2
 omega
theorem Zoi (a : Option Addr) (c : Nat) (s : List UInt8) (W : World) (hs : Rd W (bytes a s)) :
  Calls Tryz.prog 120 #[.slice a s.length c] W (Ret fun v w => ∃ p,v = .slice (some ⟨p,0,none⟩) 64 64 ∧ St W noF [bytes (some ⟨p,0,none⟩) (Zec s)] w) := by
 have hS := St.start W
 have hso := hs.ro
 refine Zas Tryz.func120 rfl Tryz.ntmps120 rfl ?_
 repeat (first|(refine G_id ?_;first|refine Zah ?_|refine Zab rfl rfl ?_)|(refine X_id ?_;first|refine X_yl (Zac rfl rfl) rfl rfl ?_)|(refine C_id ?_;first|refine Zak ?_|refine Zaa ?_)|(refine E_id ?_;first|refine Zae ?_))
 refine Zmj (c := 64) rfl rfl rfl (by omega) (by omega) rfl rfl hS (fun p w hS => ?_)
 repeat (first|(refine G_id ?_;first|refine Zah ?_|refine Zab rfl rfl ?_)|(refine X_id ?_;first|refine X_yl (Zad rfl rfl) rfl rfl ?_|refine X_yl (Zac rfl rfl) rfl rfl ?_)|(refine C_id ?_;first|refine Zak ?_|refine Zaa ?_)|(refine E_id ?_;first|refine Zae ?_))
 refine Zqo rfl rfl rfl rfl rfl hS (hso.rd hS) (by simp) Zfm (by simp) (fun w hS => ?_)
 rw [Zqw] at hS
 repeat (first|(refine G_id ?_;first|refine Zah ?_|refine Zab rfl rfl ?_)|(refine X_id ?_;first|refine X_yl (Zad rfl rfl) rfl rfl ?_|refine X_yl (Zac rfl rfl) rfl rfl ?_)|(refine C_id ?_;first|refine Zak ?_|refine Zaa ?_|refine Za2 ?_)|(refine E_id ?_;first|refine Zae ?_|refine Zax rfl (Zap rfl) (Ret.mk ?_)))
 exact ⟨p,rfl,hS.head Zn5⟩
theorem Zsq (n : Nat) (W : World) (hn : n ≤ 1099511627776) : Calls Tryz.prog 179 #[.int .i64 (n : Nat)] W (Ret fun v w => v = .int .i64 (nblk n : Nat) ∧ W = w) := by
 by_cases h0 : n = 0
 ·subst h0
  refine Zas Tryz.func179 rfl Tryz.ntmps179 rfl ?_
  repeat (first|(refine G_id ?_;first|refine Zah ?_|refine Zab rfl rfl ?_)|(refine X_id ?_;first|refine X_yl (Zad rfl rfl) rfl rfl ?_|refine X_yl (Zac rfl rfl) rfl rfl ?_|refine X_yl (Za3 rfl rfl rfl (by omega)) rfl rfl ?_)|(refine C_id ?_;first|refine Zak ?_|refine Zaa ?_|refine Za2 ?_|refine Zam rfl ?_)|(refine E_id ?_;first|refine Zae ?_|refine Zat ?_|refine Zax rfl (Zap rfl) (Ret.mk ?_)))
  exact ⟨rfl,rfl⟩
 ·have e : ((nblk n : Nat) : Int) = ((n : Int) - 1) / 64 + 1 := by unfold nblk; omega
  rw [e]
  refine Zas Tryz.func179 rfl Tryz.ntmps179 rfl ?_
  repeat (first|(refine G_id ?_;first|refine Zah ?_|refine Zab rfl rfl ?_)|(refine X_id ?_;first|refine X_yl (Zad rfl rfl) rfl rfl ?_|refine X_yl (Zac rfl rfl) rfl rfl ?_|refine X_yl (Za7 rfl rfl rfl (by omega)) rfl rfl ?_|refine X_yl (Zbk rfl rfl rfl (w64 (by omega) (by omega))) rfl rfl ?_|refine X_yl (Zdn rfl rfl rfl (w64 (by omega) (by omega))) rfl rfl ?_|refine X_yl (Zmf rfl rfl rfl (by omega) (by omega) (by omega)) rfl rfl ?_)|(refine C_id ?_;first|refine Zak ?_|refine Zaa ?_|refine Za2 ?_|refine Zaw ?_|refine Zaj rfl ?_)|(refine E_id ?_;first|refine Zae ?_|refine Zax rfl (Zap rfl) (Ret.mk ?_)))
  exact ⟨rfl,rfl⟩
end Cr
namespace Cr
open Go Go.Proofs
set_option maxRecDepth 100000
set_option maxHeartbeats 8000000
attribute [local irreducible] Calls

theorem grow_ (n : Nat) (W : World) (hn : n ≤ 1099511627776) :
  Calls Tryz.prog 210 #[.slice none 0 0,.int .i64 (n : Nat)] W (Ret fun v w => ∃ a c,v = .slice a 0 c ∧ St W noF [own 5 1 a c []] w) := by
 have hS := (St.start W).own_none 5 1 none
 by_cases h0 : n = 0
 ·subst h0
  refine Zas Tryz.func210 rfl Tryz.ntmps210 rfl ?_
  repeat (first|(refine G_id ?_;first|refine Zah ?_|refine Zab rfl rfl ?_)|(refine X_id ?_;first|refine X_yl (Zad rfl rfl) rfl rfl ?_|refine X_yl (Zac rfl rfl) rfl rfl ?_|refine X_yl (Zbt rfl rfl) rfl rfl ?_|refine X_yl (Yl_cap rfl rfl) rfl rfl ?_|refine X_yl (Za7 rfl rfl rfl (by omega)) rfl rfl ?_|refine X_yl (Zdl rfl rfl rfl (by omega)) rfl rfl ?_|refine X_yl (Zdn rfl rfl rfl (w64 (by omega) (by omega))) rfl rfl ?_)|(refine C_id ?_;first|refine Zak ?_|refine Zaa ?_|refine Za2 ?_|refine Zaw ?_|refine Zaj rfl ?_)|(refine E_id ?_;first|refine Zae ?_|refine Zax rfl (Zap rfl) (Ret.mk ?_)))
  exact ⟨none,0,rfl,hS⟩
 ·refine Zas Tryz.func210 rfl Tryz.ntmps210 rfl ?_
  repeat (first|(refine G_id ?_;first|refine Zah ?_|refine Zab rfl rfl ?_)|(refine X_id ?_;first|refine X_yl (Zad rfl rfl) rfl rfl ?_|refine X_yl (Zac rfl rfl) rfl rfl ?_|refine X_yl (Zbt rfl rfl) rfl rfl ?_|refine X_yl (Yl_cap rfl rfl) rfl rfl ?_|refine X_yl (Za7 rfl rfl rfl (by omega)) rfl rfl ?_|refine X_yl (Zhj rfl rfl rfl (by omega)) rfl rfl ?_|refine X_yl (Zdn rfl rfl rfl (w64 (by omega) (by omega))) rfl rfl ?_)|(refine C_id ?_;first|refine Zak ?_|refine Zaa ?_|refine Zaw ?_|refine Zam rfl ?_|refine Zaj rfl ?_)|(refine E_id ?_;first|refine Zae ?_))
  refine X_yl (Zcw (l := 0) (h := 0) rfl rfl rfl rfl (.inr ⟨_,_,rfl,by omega,by omega,by omega⟩) (.inl ⟨rfl,rfl⟩)) rfl rfl ?_
  rw [sub_zero]
  repeat (first|(refine G_id ?_;first|refine Zab rfl rfl ?_)|(refine X_id ?_;first|refine X_yl (Zad rfl rfl) rfl rfl ?_))
  have e0 : ((n : Int) - (((0 : Nat) : Int) - ((0 : Nat) : Int))) = (n : Nat) := by omega
  refine X_appendZ (m := n) (n := 0) rfl rfl (by first | rfl | (rw [e0]; rfl) | (simp only [e0]; rfl)) rfl rfl rfl rfl hS rfl (by omega) (by omega) (by simp only [maxLen]; omega) (fun a c w hS hc _ => ?_)
  repeat (first|(refine G_id ?_;first|refine Zab rfl rfl ?_)|(refine X_id ?_;first|refine X_yl (Zad rfl rfl) rfl rfl ?_|refine X_yl (Zbt rfl rfl) rfl rfl ?_))
  refine X_yl (Zcw (l := 0) (h := 0) rfl rfl rfl rfl (.inr ⟨_,_,rfl,by omega,by omega,by omega⟩) (.inl ⟨rfl,rfl⟩)) rfl rfl ?_
  rw [sub_zero]
  repeat (first|(refine G_id ?_;first|refine Zah ?_|refine Zab rfl rfl ?_)|(refine X_id ?_;first|refine X_yl (Zad rfl rfl) rfl rfl ?_|refine X_yl (Zac rfl rfl) rfl rfl ?_)|(refine C_id ?_;first|refine Zak ?_|refine Zaa ?_|refine Za2 ?_)|(refine E_id ?_;first|refine Zae ?_|refine Zax rfl (Zap rfl) (Ret.mk ?_)))
  exact ⟨a,c,rfl,hS.head (own.shrink 0)⟩
theorem Zl1 (a : Option Addr) (c : Nat) (l : List Bs) (W : World) (hB : Bss W noF a l) (hl : l.length ≤ 1099511627776) (hn : (Zbd l).length ≤ 1099511627776) :
  Calls Tryz.prog 174 #[.slice a l.length c] W (Ret fun v w => ∃ a' c',v = .slice a' (Zbd l).length c' ∧ (Zbd l).length ≤ c' ∧ St W noF [own 5 1 a' c' (bv (Zbd l))] w) := by
 have hS := St.start W
 have hBr := hB.row
 refine Zas Tryz.func174 rfl Tryz.ntmps174 rfl ?_
 repeat (first|(refine G_id ?_;first|refine Zah ?_|refine Zab rfl rfl ?_)|(refine X_id ?_;first|refine X_yl (Zad rfl rfl) rfl rfl ?_|refine X_yl (Zac rfl rfl) rfl rfl ?_|refine X_yl (Zbt rfl rfl) rfl rfl ?_)|(refine C_id ?_;first|refine Zak ?_|refine Zaa ?_|refine Zaq ?_)|(refine E_id ?_;first|refine Zae ?_))
 refine Zg8 (α := Unit) (fun _ => [(0,.slice a l.length c),(3,.int .i64 ((Zbd l).length : Nat))]) (fun _ w => St W noF [] w) ?_ ?_
 ·refine Zb7 (α := Nat) (fun i => [(0,.slice a l.length c),(3,.int .i64 ((Zbd (l.take i)).length : Nat)),(9,.slice a l.length c),(10,.int .i64 (l.length : Nat)),(11,.int .i64 (i : Nat))])
   (fun i w => i ≤ l.length ∧ St W noF [] w) (fun i => l.length - i) 0 ⟨rfl,rfl,rfl,rfl,rfl,trivial⟩ ⟨Nat.zero_le _,hS⟩ ?_
  clear hS
  rintro i w ⟨hi,hS⟩
  have hle := Zc2 l i
  by_cases hlt : i < l.length
  ·have hx0 : l[i]? = some l[i] := List.getElem?_eq_getElem hlt
   generalize l[i] = x at hx0
   have hj := Zeb hx0
   have hle2 := Zc2 l (i + 1)
   have hjl : (Zbd (l.take (i + 1))).length = (Zbd (l.take i)).length + x.s.length := by rw [hj]; simp
   have hr := hBr
   have hx : (l.map Bs.val)[i]? = some (.slice x.a x.s.length x.c) := by simp [hx0,Bs.val]
   obtain ⟨xb,xo,rfl⟩ := (hr.rd hS).base (by intro e; rw [e] at hx; simp at hx)
   repeat (first|(refine G_id ?_;first|refine Zah ?_|refine Zab rfl rfl ?_)|(refine X_id ?_;first|refine X_yl (Zad rfl rfl) rfl rfl ?_|refine X_yl (Zac rfl rfl) rfl rfl ?_|refine X_yl (Zbt rfl rfl) rfl rfl ?_|refine X_yl (Za3 rfl rfl rfl (by omega)) rfl rfl ?_|refine X_yl (Za7 rfl rfl rfl (by omega)) rfl rfl ?_|refine X_yl (Zau rfl rfl rfl (by omega) (by omega) (by first|assumption|exact ⟨_,_,rfl⟩)) rfl rfl ?_|refine X_yl (Zbk rfl rfl rfl (w64 (by omega) (by omega))) rfl rfl ?_|refine X_yl (Zao rfl rfl ((hr.rd hS).cellX (by omega) hx)) rfl rfl ?_)|(refine C_id ?_;first|refine Zak ?_|refine Zaa ?_|refine Zaq ?_|refine Zaw ?_|refine Zam rfl ?_|refine Zaj rfl ?_)|(refine E_id ?_;first|refine Zae ?_|refine Zbf ?_))
   refine Zbu (i + 1) ⟨rfl,?_,rfl,rfl,rfl,trivial⟩ ⟨by omega,hS⟩ (by omega)
   rw [hjl]; rfl
  ·obtain rfl : i = l.length := by omega
   rw [List.take_length]
   repeat (first|(refine G_id ?_;first|refine Zah ?_|refine Zab rfl rfl ?_)|(refine X_id ?_;first|refine X_yl (Za7 rfl rfl rfl (by omega)) rfl rfl ?_)|(refine C_id ?_;first|refine Zak ?_|refine Zaa ?_|refine Zb0 ?_|refine Zaj rfl ?_)|(refine E_id ?_;first|refine Zae ?_|refine Zav ?_|refine Zaz ?_))
   exact Ziz () ⟨rfl,rfl,trivial⟩ hS
 ·clear hS
  rintro _ w hS
  repeat (first|(refine G_id ?_;first|refine Zab rfl rfl ?_)|(refine X_id ?_;first|refine X_yl (Zad rfl rfl) rfl rfl ?_)|(refine C_id ?_;first|refine Zak ?_|refine Zaa ?_))
  refine Zan _ rfl rfl rfl rfl rfl (grow_ (Zbd l).length _ hn) ?_
  rintro _ w ⟨a1,c1,rfl,hS'⟩
  replace hS := hS.plus hS'
  clear hS'
  repeat (first|(refine G_id ?_;first|refine Zah ?_|refine Zab rfl rfl ?_)|(refine X_id ?_;first|refine X_yl (Zad rfl rfl) rfl rfl ?_|refine X_yl (Zac rfl rfl) rfl rfl ?_|refine X_yl (Zbt rfl rfl) rfl rfl ?_)|(refine C_id ?_;first|refine Zak ?_|refine Zaa ?_|refine Zaq ?_)|(refine E_id ?_;first|refine Zae ?_))
  refine Zb7 (α := Nat × Option Addr × Nat) (fun z => [(6,.slice z.2.1 (Zbd (l.take z.1)).length z.2.2),(25,.slice a l.length c),(26,.int .i64 (l.length : Nat)),(27,.int .i64 (z.1 : Nat))])
   (fun z w => z.1 ≤ l.length ∧ (Zbd (l.take z.1)).length ≤ z.2.2 ∧ St W noF [own 5 1 z.2.1 z.2.2 (bv (Zbd (l.take z.1)))] w) (fun z => l.length - z.1) (0,a1,c1) ⟨rfl,rfl,rfl,rfl,trivial⟩ ⟨Nat.zero_le _,by simp [Zbd],hS⟩ ?_
  clear hS
  rintro ⟨i,a2,c2⟩ w ⟨hi,hc,hS⟩
  simp only at hi hc hS ⊢
  have hle := Zc2 l i
  by_cases hlt : i < l.length
  ·have hx0 : l[i]? = some l[i] := List.getElem?_eq_getElem hlt
   have hxm := List.getElem_mem hlt
   generalize l[i] = x at hx0 hxm
   have hj := Zeb hx0
   have hle2 := Zc2 l (i + 1)
   have hjl : (Zbd (l.take (i + 1))).length = (Zbd (l.take i)).length + x.s.length := by rw [hj]; simp
   have hr := hBr
   have hx : (l.map Bs.val)[i]? = some (.slice x.a x.s.length x.c) := by simp [hx0,Bs.val]
   obtain ⟨xb,xo,rfl⟩ := (hr.rd hS).base (by intro e; rw [e] at hx; simp at hx)
   have hbx := hB.all x hxm
   repeat (first|(refine G_id ?_;first|refine Zah ?_|refine Zab rfl rfl ?_)|(refine X_id ?_;first|refine X_yl (Zad rfl rfl) rfl rfl ?_|refine X_yl (Zac rfl rfl) rfl rfl ?_|refine X_yl (Za3 rfl rfl rfl (by omega)) rfl rfl ?_|refine X_yl (Zau rfl rfl rfl (by omega) (by omega) (by first|assumption|exact ⟨_,_,rfl⟩)) rfl rfl ?_|refine X_yl (Zao rfl rfl ((hr.rd hS).cellX (by omega) hx)) rfl rfl ?_)|(refine C_id ?_;first|refine Zak ?_|refine Zaa ?_|refine Zaq ?_|refine Zaw ?_|refine Zam rfl ?_)|(refine E_id ?_;first|refine Zae ?_))
   refine Zc4 rfl rfl rfl rfl rfl hS (by simp) hc (hbx.rd hS) (by simp) Zfm (by omega) (by simp only [maxLen]; omega) (fun a' c' w hS hc' _ => ?_)
   repeat (first|(refine G_id ?_;first|refine Zah ?_|refine Zab rfl rfl ?_)|(refine X_id ?_;first|refine X_yl (Zad rfl rfl) rfl rfl ?_|refine X_yl (Zac rfl rfl) rfl rfl ?_|refine X_yl (Zbk rfl rfl rfl (w64 (by omega) (by omega))) rfl rfl ?_)|(refine C_id ?_;first|refine Zaa ?_)|(refine E_id ?_;first|refine Zae ?_|refine Zbf ?_))
   refine Zbu (z := (i,a2,c2)) (i + 1,a',c') ⟨?_,rfl,rfl,rfl,trivial⟩ ⟨by simp only; omega,by simp only; omega,?_⟩ (by simp only; omega)
   ·simp only
    rw [hjl]; rfl
   ·simp only
    rw [hj,Zf3]
    exact hS
  ·obtain rfl : i = l.length := by omega
   rw [List.take_length] at hS hc ⊢
   repeat (first|(refine G_id ?_;first|refine Zah ?_|refine Zab rfl rfl ?_)|(refine X_id ?_;first|refine X_yl (Zad rfl rfl) rfl rfl ?_|refine X_yl (Zac rfl rfl) rfl rfl ?_|refine X_yl (Za7 rfl rfl rfl (by omega)) rfl rfl ?_)|(refine C_id ?_;first|refine Zak ?_|refine Zaa ?_|refine Za2 ?_|refine Zb0 ?_|refine Zaj rfl ?_)|(refine E_id ?_;first|refine Zae ?_|refine Zav ?_|refine Zaz ?_|refine Zax rfl (Zap rfl) (Ret.mk ?_)))
   exact ⟨a2,c2,rfl,hc,hS⟩
end Cr
namespace Cr
open Go Go.Proofs
set_option maxRecDepth 10000

theorem Ze4 (l : List (Int × List UInt8)) : ∀ i,i ≤ l.length → (Zcy l i = false ↔ ((l.take i).map (·.1)).Nodup)
 | 0,_ => by simp [Zcy]
 | i + 1,h => by
  have ih := Ze4 l i (by omega)
  have e : (l.take (i + 1)).map (·.1) = (l.take i).map (·.1) ++ [(l.getD i (0,[])).1] := by
   rw [List.take_succ_eq_append_getElem (show i < l.length by omega),List.map_append,List.getD_eq_getElem?_getD,List.getElem?_eq_getElem (show i < l.length by omega)]
   rfl
  rw [e,Zcy,Bool.or_eq_false_iff,ih,List.nodup_append]
  simp only [decide_eq_false_iff_not]
  constructor
  ·rintro ⟨h1,h2⟩
   refine ⟨h1,by simp,fun a ha b hb => ?_⟩
   rw [List.mem_singleton] at hb
   rw [hb]
   exact fun e => h2 (e ▸ ha)
  ·rintro ⟨h1,_,h2⟩
   exact ⟨h1,fun hm => h2 _ hm _ (List.mem_singleton.2 rfl) rfl⟩
theorem Zo5 {l : List (Int × List UInt8)} (h : (l.map (·.1)).Nodup) : Zcy l l.length = false := (Ze4 l _ (Nat.le_refl _)).2 (by simpa using h)
theorem Zo6 {l : List Chg} (h : Zmu l = false) : (l.map (·.no)).Nodup := by
 unfold Zmu at h
 have e : l.length = (l.map fun c => (c.no,([] : List UInt8))).length := by simp
 rw [e] at h
 have := (Ze4 _ _ (Nat.le_refl _)).1 h
 rw [List.take_length] at this
 simpa [Function.comp_def] using this
theorem Zjx {l : List (Int × List UInt8)} (h : (l.map (·.1)).Nodup) {m : Int} {s : List UInt8} (hv : (m,s) ∈ l) : Zd1 l m = some s := Zrc (Zo5 h) hv

/-! ### counting -/
theorem sum_upd (g : Nat → Nat) (a k : Nat) (hg : g k = 0) : ∀ n,((List.range n).map fun i => if i = k then a else g i).sum = (if k < n then a else 0) + ((List.range n).map g).sum
 | 0 => by simp
 | n + 1 => by
  rw [List.range_succ,List.map_append,List.sum_append,sum_upd g a k hg n,List.map_append,List.sum_append]
  simp only [List.map_cons,List.map_nil,List.sum_cons,List.sum_nil]
  by_cases h : n = k
  ·subst h; simp [hg]; omega
  ·by_cases h2 : k < n
   ·rw [if_pos h2,if_neg h,if_pos (by omega)]; omega
   ·rw [if_neg h2,if_neg h,if_neg (by omega)]; omega
def wtO (x : Option Nd) : Nat := match x with | some x => nblk x.data.length | none => 0
theorem sum_tab (n : Nat) : ∀ A : Ents,(∀ k ∈ Zb9 A,0 ≤ k ∧ k < n) → (Zb9 A).Nodup → ((List.range n).map fun i => wtO ((getA (i : Nat) A).map (·.nd))).sum = (A.map fun x => nblk x.2.nd.data.length).sum
 | [],_,_ => by
  have : ∀ n,((List.range n).map fun i : Nat => wtO ((getA (i : Nat) ([] : Ents)).map (·.nd))).sum = 0 := fun n => by
   induction n with
   | zero => rfl
   | succ n ih => rw [List.range_succ,List.map_append,List.sum_append,ih]; simp [getA,wtO]
  simpa using this n
 | x :: A,hk,hn => by
  have hn' : x.1 ∉ Zb9 A ∧ (Zb9 A).Nodup := List.nodup_cons.1 hn
  have ih := sum_tab n A (fun k h => hk k (List.mem_cons_of_mem _ h)) hn'.2
  have hx := hk x.1 (List.mem_cons_self ..)
  have h0 : wtO ((getA ((x.1.toNat : Nat) : Int) A).map (·.nd)) = 0 := by
   rw [show ((x.1.toNat : Nat) : Int) = x.1 by omega,getA_none.2 hn'.1]; rfl
  have e : (fun i : Nat => wtO ((getA (i : Nat) (x :: A)).map (·.nd))) = fun i => if i = x.1.toNat then nblk x.2.nd.data.length else (fun i : Nat => wtO ((getA (i : Nat) A).map (·.nd))) i := by
   funext i
   simp only [getA]
   by_cases h : i = x.1.toNat
   ·rw [if_pos h,if_pos (by omega)]; rfl
   ·rw [if_neg h,if_neg (by omega)]
  rw [e,sum_upd _ _ _ h0,ih,if_pos (by omega)]
  simp
theorem roomT_sum (T : Tb) (nb : Nat) : roomT T nb = (nb : Int) - ((T.map wtO).sum : Nat) := by
 unfold roomT
 have key : ∀ (T : Tb) (r : Int),T.foldl (fun r x => match x with | some x => r - (nblk x.data.length : Nat) | none => r) r = r - ((T.map wtO).sum : Nat) := by
  intro T
  induction T with
  | nil => intro r; simp
  | cons x T ih =>
   intro r
   rw [List.foldl_cons,ih,List.map_cons,List.sum_cons]
   cases x <;> simp [wtO] <;> omega
 exact key T nb
theorem Znk (nb : Nat) : ∀ A : Ents,(∀ x ∈ A,x.2.ok nb) → (Zb6 A).length = (A.map fun x => nblk x.2.nd.data.length).sum
 | [],_ => rfl
 | x :: A,h => by
  have ih := Znk nb A fun y hy => h y (List.mem_cons_of_mem _ hy)
  have hx := (h x (List.mem_cons_self ..)).cnt
  simp only [Zb6,List.flatMap_cons,List.length_append,List.map_cons,List.sum_cons] at ih ⊢
  rw [ih,hx]
theorem room_is {A : Ents} {n nb : Nat} (hk : ∀ k ∈ Zb9 A,0 ≤ k ∧ k < n) (hn : (Zb9 A).Nodup) (hok : ∀ x ∈ A,x.2.ok nb) : roomT (tabOf A n) nb = (nb : Int) - ((Zb6 A).length : Nat) := by
 rw [roomT_sum,Znk nb A hok,← sum_tab n A hk hn,tabOf,List.map_map]
 rfl
theorem cnt_in : ∀ (nb : Nat) (B : List Int),B.Nodup → (∀ b ∈ B,0 ≤ b ∧ b < nb) → (((List.range nb).map fun k => ((k : Nat) : Int)).filter fun b => decide (b ∈ B)).length = B.length
 | 0,B,_,hb => by
  cases B with
  | nil => rfl
  | cons b B => have := hb b (List.mem_cons_self ..); omega
 | nb + 1,B,hn,hb => by
  have ih := cnt_in nb (B.erase (nb : Nat)) (hn.erase _) fun b h => by
   have h1 := hb b (List.mem_of_mem_erase h)
   have h2 : b ≠ (nb : Nat) := ((hn.mem_erase_iff).1 h).1
   omega
  have e : ((List.range nb).map fun k => ((k : Nat) : Int)).filter (fun b => decide (b ∈ B)) = ((List.range nb).map fun k => ((k : Nat) : Int)).filter (fun b => decide (b ∈ B.erase (nb : Nat))) := by
   refine List.filter_congr fun x hx => ?_
   obtain ⟨k,hk,rfl⟩ := List.mem_map.1 hx
   have hk := List.mem_range.1 hk
   have : ((k : Nat) : Int) ≠ (nb : Nat) := by omega
   simp [hn.mem_erase_iff,this]
  rw [List.range_succ,List.map_append,List.filter_append,List.length_append,e,ih]
  by_cases h : ((nb : Nat) : Int) ∈ B
  ·have := List.length_erase_of_mem h
   have h2 : 0 < B.length := List.length_pos_of_mem h
   simp [h]; omega
  ·rw [List.erase_of_not_mem h]
   simp [h]
theorem freeL_mem {A : Ents} {nb : Nat} {b : Int} : b ∈ Zh4 A nb ↔ (0 ≤ b ∧ b < nb) ∧ b ∉ Zb6 A := by
 unfold Zh4
 rw [List.mem_filter,List.mem_map]
 simp only [List.mem_range,decide_eq_true_eq]
 constructor
 ·rintro ⟨⟨k,hk,rfl⟩,h⟩
  exact ⟨by omega,h⟩
 ·rintro ⟨⟨h1,h2⟩,h⟩
  exact ⟨⟨b.toNat,by omega,by omega⟩,h⟩
theorem Zrg (A : Ents) (nb : Nat) : (Zh4 A nb).Nodup := by
 unfold Zh4
 refine List.Nodup.sublist List.filter_sublist ?_
 rw [List.Nodup,List.pairwise_map]
 exact (List.nodup_range (n := nb)).imp fun h e => h (by omega)
theorem free_len {A : Ents} {nb : Nat} (hn : (Zb6 A).Nodup) (hb : ∀ b ∈ Zb6 A,0 ≤ b ∧ b < nb) : (Zb6 A).length + (Zh4 A nb).length = nb := by
 have h1 := cnt_in nb (Zb6 A) hn hb
 have h2 := List.length_eq_countP_add_countP (l := (List.range nb).map fun k => ((k : Nat) : Int)) (fun b => decide (b ∈ Zb6 A))
 rw [List.countP_eq_length_filter,List.countP_eq_length_filter,h1] at h2
 simp only [List.length_map,List.length_range] at h2
 have e : Zh4 A nb = ((List.range nb).map fun k => ((k : Nat) : Int)).filter (fun a => decide ¬(decide (a ∈ Zb6 A) = true)) := by
  unfold Zh4
  refine List.filter_congr fun x _ => ?_
  simp
 rw [e]; omega

/-! ### one change -/
structure Inv (rd fs : List Int) (dat : List (List UInt8)) (n nb : Nat) (q : List Chg) (z : ApS) (x : Tb × Nat × Bool) : Prop where
 keys : ∀ k ∈ Zb9 z.A,0 ≤ k ∧ k < n
 nodup : (Zb9 z.A).Nodup
 pend : ∀ c ∈ q,c.no ∉ Zb9 z.A
 ok : ∀ s ∈ z.A,s.2.ok nb
 flow : ∀ b ∈ z.free,0 ≤ b ∧ b < nb
 all : (Zb6 z.A ++ z.free).Nodup
 count : (Zb6 z.A).length + z.free.length = nb
 front : (Zdi dat z.w).getD 0 [] = Zdw rd fs n
 node : ∀ i,i < n → (i : Int) ∉ q.map (·.no) → (Zdi dat z.w).getD (1 + i) [] = match getA (i : Nat) z.A with | some s => stoB s | none => zero64
 at_ : ∀ s ∈ z.A,∀ k b,s.2.blocks[k]? = some b → (Zdi dat z.w).getD (1 + n + b.toNat) [] = Zhq s.2.nd.data k
 wlen : ∀ v ∈ z.w,v.2.length = 64
 wlow : ∀ v ∈ z.w,1 ≤ v.1 ∧ v.1 < 1 + (n : Int) + nb
 wpend : ∀ v ∈ z.w,v.1 < 1 + (n : Int) → ∀ c ∈ q,v.1 ≠ 1 + c.no
 wfree : ∀ v ∈ z.w,∀ b ∈ z.free,v.1 ≠ 1 + (n : Int) + b
 wnodup : (z.w.map (·.1)).Nodup
 tab : x.1 = tabOf z.A n
 cnt : x.2.1 = z.w.length
 fine : x.2.2 = false
theorem Zjw (l : List (List UInt8)) (a b : List (Int × List UInt8)) : Zdi l (a ++ b) = Zdi (Zdi l a) b := by simp [Zdi]
theorem Zoo (d : List UInt8) (i : Nat) : (Zhq d i).length = 64 := Zc5 _
theorem Ze5 (s : Sto) : (stoB s).length = 64 := Zc5 _
theorem tabOf_set {A : Ents} {n : Nat} {k : Int} {s : Sto} (h0 : 0 ≤ k) (h1 : k < n) : tabOf (setA k s A) n = (tabOf A n).set k.toNat (some s.nd) := by
 apply List.ext_getElem?
 intro i
 rw [List.getElem?_set]
 by_cases hi : i < n
 ·rw [Zgs _ hi,Zip]
  by_cases hk : k.toNat = i
  ·rw [if_pos hk,if_pos (by omega),if_pos (by rw [Zdc]; omega)]; rfl
  ·rw [if_neg hk,if_neg (by omega),Zgs _ hi]
 ·have h2 : ∀ A : Ents,(tabOf A n)[i]? = none := fun A => List.getElem?_eq_none (by rw [Zdc]; omega)
  rw [h2,h2,if_neg (by omega)]
theorem Zee {n : Nat} {bs : List Int} {d : List UInt8} {v : Int × List UInt8} (h : v ∈ Zdt n bs d) : ∃ k b,bs[k]? = some b ∧ v = (1 + (n : Int) + b,Zhq d k) := by
 obtain ⟨k,hk,rfl⟩ := List.mem_map.1 h
 have hk := List.mem_range.1 hk
 exact ⟨k,bs[k],List.getElem?_eq_getElem hk,by simp [List.getD_eq_getElem?_getD,hk]⟩
theorem blockW_of {n : Nat} {bs : List Int} {d : List UInt8} {k : Nat} {b : Int} (h : bs[k]? = some b) : (1 + (n : Int) + b,Zhq d k) ∈ Zdt n bs d := by
 have hk := (List.getElem?_eq_some_iff.1 h).1
 exact List.mem_map.2 ⟨k,List.mem_range.2 hk,by simp [List.getD_eq_getElem?_getD,h]⟩
theorem blockW_fst (n : Nat) (bs : List Int) (d : List UInt8) : (Zdt n bs d).map (·.1) = bs.map fun b => 1 + (n : Int) + b := by
 apply List.ext_getElem
 ·simp [Zdt]
 ·intro i h1 h2
  simp [Zdt] at h1 h2 ⊢
  simp [h1]
theorem Inv.step {rd fs : List Int} {dat : List (List UInt8)} {n nb : Nat} {c : Chg} {q : List Chg} {z : ApS} {x : Tb × Nat × Bool} (hlen : dat.length = 1 + n + nb) (h : Inv rd fs dat n nb (c :: q) z x) (hc0 : 0 ≤ c.no) (hc1 : c.no < n) (hq : ∀ c' ∈ q,c'.no ≠ c.no)
  (hst : c.drop = false → c.nd.st.check = 0 ∧ c.nd.data.length ≤ 512) :
  (z.step n c = none ∧ (Zfp x nb c).2.2 = true) ∨ ∃ z',z.step n c = some z' ∧ Inv rd fs dat n nb q z' (Zfp x nb c) := by
 have hcA : c.no ∉ Zb9 z.A := h.pend c (List.mem_cons_self ..)
 have hll : ∀ a,(Zdi dat a).length = 1 + n + nb := fun a => by rw [Zb4]; exact hlen
 by_cases hd : c.drop = true
 ·right
  have e : Zfp x nb c = (x.1,x.2.1 + 1,false) := by unfold Zfp; rw [if_neg (by simp [h.fine]),if_pos hd]
  refine ⟨_,by unfold ApS.step; rw [if_pos hd],?_⟩
  rw [e]
  have hget : ∀ k,k < 1 + n + nb → (Zdi dat (z.w ++ [(1 + c.no,zero64)])).getD k [] = if (k : Int) = 1 + c.no then zero64 else (Zdi dat z.w).getD k [] := fun k hk => by
   rw [Zjw,Zep _ _ _ (by rw [hll]; exact hk) (fun v hv => by rw [List.mem_singleton] at hv; rw [hv]; simp only; omega),Zfb]
   by_cases hk2 : (k : Int) = 1 + c.no
   ·rw [if_pos hk2,if_pos hk2.symm]; rfl
   ·rw [if_neg hk2,if_neg (fun e => hk2 e.symm)]; rfl
  refine ⟨h.keys,h.nodup,fun c' hc' => h.pend c' (List.mem_cons_of_mem _ hc'),h.ok,h.flow,h.all,h.count,?_,?_,?_,?_,?_,?_,?_,?_,h.tab,by simp [h.cnt],rfl⟩
  ·rw [hget 0 (by omega),if_neg (by omega)]; exact h.front
  ·intro i hi hiq
   rw [hget _ (by omega)]
   by_cases hic : ((1 + i : Nat) : Int) = 1 + c.no
   ·rw [if_pos hic]
    have : ((i : Nat) : Int) = c.no := by omega
    simp only [this,getA_none.2 hcA]
   ·rw [if_neg hic]
    exact h.node i hi fun hm => by
     rcases List.mem_cons.1 hm with e | e
     ·have e : ((i : Nat) : Int) = c.no := e
      omega
     ·exact hiq e
  ·intro s hs k b hb
   have hb2 := (h.ok s hs).low b (List.mem_of_getElem? hb)
   rw [hget _ (by omega),if_neg (by omega)]
   exact h.at_ s hs k b hb
  ·intro v hv
   rcases List.mem_append.1 hv with hv | hv
   ·exact h.wlen v hv
   ·rw [List.mem_singleton] at hv; rw [hv]; simp [zero64]
  ·intro v hv
   rcases List.mem_append.1 hv with hv | hv
   ·exact h.wlow v hv
   ·rw [List.mem_singleton] at hv; rw [hv]; simp only; omega
  ·intro v hv hlt c' hc'
   rcases List.mem_append.1 hv with hv | hv
   ·exact h.wpend v hv hlt c' (List.mem_cons_of_mem _ hc')
   ·rw [List.mem_singleton] at hv; rw [hv]; simp only
    have := hq c' hc'
    omega
  ·intro v hv b hb
   rcases List.mem_append.1 hv with hv | hv
   ·exact h.wfree v hv b hb
   ·have := h.flow b hb
    rw [List.mem_singleton] at hv; rw [hv]; simp only; omega
  ·rw [List.map_append,List.nodup_append]
   refine ⟨h.wnodup,by simp,fun a ha b hb => ?_⟩
   simp only [List.map_cons,List.map_nil,List.mem_singleton] at hb
   obtain ⟨v,hv,rfl⟩ := List.mem_map.1 ha
   rw [hb]
   by_cases hlt : v.1 < 1 + (n : Int)
   ·exact h.wpend v hv hlt c (List.mem_cons_self ..)
   ·omega
 ·have hd' : c.drop = false := by simpa using hd
  obtain ⟨hst1,hst2⟩ := hst hd'
  have hroom : roomT x.1 nb = (z.free.length : Nat) := by
   rw [h.tab,room_is h.keys h.nodup h.ok]
   have := h.count
   omega
  by_cases hr : z.free.length < nblk c.nd.data.length
  ·left
   refine ⟨by unfold ApS.step; rw [if_neg hd,if_pos hr],?_⟩
   unfold Zfp
   rw [if_neg (by simp [h.fine]),if_neg hd,if_pos (by rw [hroom]; omega)]
  ·right
   have e : Zfp x nb c = (x.1.set c.no.toNat (some c.nd),x.2.1 + 1 + nblk c.nd.data.length,false) := by
    unfold Zfp
    rw [if_neg (by simp [h.fine]),if_neg hd,if_neg (by rw [hroom]; omega)]
   obtain ⟨bs,hbs⟩ : ∃ bs,bs = z.free.take (nblk c.nd.data.length) := ⟨_,rfl⟩
   obtain ⟨fr,hfr⟩ : ∃ fr,fr = z.free.drop (nblk c.nd.data.length) := ⟨_,rfl⟩
   have hbl : bs.length = nblk c.nd.data.length := by rw [hbs,List.length_take]; omega
   have hsp : z.free = bs ++ fr := by rw [hbs,hfr,List.take_append_drop]
   refine ⟨_,by unfold ApS.step; rw [if_neg hd,if_neg hr,← hbs,← hfr],?_⟩
   rw [e]
   have hset : setA c.no (⟨c.nd,bs⟩ : Sto) z.A = z.A ++ [(c.no,⟨c.nd,bs⟩)] := Zr7 hcA
   have hbo : Zb6 (setA c.no (⟨c.nd,bs⟩ : Sto) z.A) = Zb6 z.A ++ bs := by rw [hset]; simp [Zb6]
   have hall := h.all
   rw [hsp] at hall
   have hnA := List.nodup_append.1 hall
   have hnF := List.nodup_append.1 hnA.2.1
   have hlowb : ∀ b ∈ bs,0 ≤ b ∧ b < nb := fun b hb => h.flow b (by rw [hsp]; exact List.mem_append_left _ hb)
   have hxs0 : ∀ v ∈ Zdt n bs c.nd.data ++ [(1 + c.no,stoB ⟨c.nd,bs⟩)],0 ≤ v.1 := fun v hv => by
    rcases List.mem_append.1 hv with hv | hv
    ·obtain ⟨k,b,hb,rfl⟩ := Zee hv
     have := hlowb b (List.mem_of_getElem? hb)
     simp only; omega
    ·rw [List.mem_singleton] at hv; rw [hv]; simp only; omega
   have hxn : ((Zdt n bs c.nd.data ++ [(1 + c.no,stoB ⟨c.nd,bs⟩)]).map (·.1)).Nodup := by
    rw [List.map_append,blockW_fst,List.nodup_append]
    refine ⟨?_,by simp,fun a ha b hb => ?_⟩
    ·rw [List.Nodup,List.pairwise_map]
     exact hnF.1.imp fun h e => h (by omega)
    ·simp only [List.map_cons,List.map_nil,List.mem_singleton] at hb
     obtain ⟨y,hy,rfl⟩ := List.mem_map.1 ha
     have := hlowb y hy
     omega
   have hget : ∀ k,k < 1 + n + nb → (Zdi dat (z.w ++ (Zdt n bs c.nd.data ++ [(1 + c.no,stoB ⟨c.nd,bs⟩)]))).getD k [] = (Zd1 (Zdt n bs c.nd.data ++ [(1 + c.no,stoB ⟨c.nd,bs⟩)]) k).getD ((Zdi dat z.w).getD k []) := fun k hk => by
    rw [Zjw,Zep _ _ _ (by rw [hll]; exact hk) hxs0]
   have hnone : ∀ k : Nat,(k : Int) ≠ 1 + c.no → (∀ b ∈ bs,(k : Int) ≠ 1 + (n : Int) + b) → Zd1 (Zdt n bs c.nd.data ++ [(1 + c.no,stoB ⟨c.nd,bs⟩)]) k = none := fun k h1 h2 => by
    refine Zh1 fun v hv e => ?_
    rcases List.mem_append.1 hv with hv | hv
    ·obtain ⟨i,b,hb,rfl⟩ := Zee hv
     exact h2 b (List.mem_of_getElem? hb) e.symm
    ·rw [List.mem_singleton] at hv; rw [hv] at e; exact h1 e.symm
   refine ⟨?_,?_,?_,?_,?_,?_,?_,?_,?_,?_,?_,?_,?_,?_,?_,?_,?_,rfl⟩
   ·intro k hk
    rw [hset] at hk
    simp only [Zb9,List.map_append,List.map_cons,List.map_nil,List.mem_append,List.mem_singleton] at hk
    rcases hk with hk | rfl
    ·exact h.keys k hk
    ·exact ⟨hc0,hc1⟩
   ·rw [hset]
    simp only [Zb9,List.map_append,List.map_cons,List.map_nil]
    rw [List.nodup_append]
    refine ⟨h.nodup,by simp,fun a ha b hb => ?_⟩
    rw [List.mem_singleton] at hb
    rw [hb]
    exact fun e => hcA (e ▸ ha)
   ·intro c' hc' hm
    rw [hset] at hm
    simp only [Zb9,List.map_append,List.map_cons,List.map_nil,List.mem_append,List.mem_singleton] at hm
    rcases hm with hm | hm
    ·exact h.pend c' (List.mem_cons_of_mem _ hc') hm
    ·exact hq c' hc' hm
   ·intro s hs
    rw [hset] at hs
    rcases List.mem_append.1 hs with hs | hs
    ·exact h.ok s hs
    ·rw [List.mem_singleton] at hs; rw [hs]
     exact ⟨hst1,hst2,hbl,hlowb⟩
   ·intro b hb
    exact h.flow b (by rw [hsp]; exact List.mem_append_right _ hb)
   ·rw [hbo,List.append_assoc]; exact hall
   ·show (Zb6 (setA c.no (⟨c.nd,bs⟩ : Sto) z.A)).length + fr.length = nb
    rw [hbo,List.length_append]
    have := h.count
    rw [hsp,List.length_append] at this
    omega
   ·rw [hget 0 (by omega),hnone 0 (by omega) (fun b hb => by have := hlowb b hb; omega)]; exact h.front
   ·intro i hi hiq
    simp only [Zip]
    rw [hget _ (by omega)]
    by_cases hic : ((i : Nat) : Int) = c.no
    ·rw [if_pos hic,show ((1 + i : Nat) : Int) = 1 + c.no by omega,Zjx hxn (List.mem_append_right _ (List.mem_singleton.2 rfl))]; rfl
    ·rw [if_neg hic,hnone _ (by omega) (fun b hb => by have := hlowb b hb; omega)]
     exact h.node i hi fun hm => by
      rcases List.mem_cons.1 hm with e | e
      ·exact hic e
      ·exact hiq e
   ·intro s hs k b hb
    rw [hset] at hs
    rcases List.mem_append.1 hs with hs | hs
    ·have hb1 := List.mem_of_getElem? hb
     have hb2 := (h.ok s hs).low b hb1
     rw [hget _ (by omega),hnone _ (by omega) (fun b' hb' e => ?_)]
     ·exact h.at_ s hs k b hb
     ·refine hnA.2.2 b (List.mem_flatMap.2 ⟨s,hs,hb1⟩) b' (List.mem_append_left _ hb') ?_
      have := hlowb b' hb'
      omega
    ·rw [List.mem_singleton] at hs
     subst hs
     have hb2 := hlowb b (List.mem_of_getElem? hb)
     rw [hget _ (by omega),show ((1 + n + b.toNat : Nat) : Int) = 1 + (n : Int) + b by omega,Zjx hxn (List.mem_append_left _ (blockW_of hb))]; rfl
   ·intro v hv
    rcases List.mem_append.1 hv with hv | hv
    ·exact h.wlen v hv
    ·rcases List.mem_append.1 hv with hv | hv
     ·obtain ⟨k,b,hb,rfl⟩ := Zee hv
      exact Zoo ..
     ·rw [List.mem_singleton] at hv; rw [hv]; exact Ze5 _
   ·intro v hv
    rcases List.mem_append.1 hv with hv | hv
    ·exact h.wlow v hv
    ·rcases List.mem_append.1 hv with hv | hv
     ·obtain ⟨k,b,hb,rfl⟩ := Zee hv
      have := hlowb b (List.mem_of_getElem? hb)
      simp only; omega
     ·rw [List.mem_singleton] at hv; rw [hv]; simp only; omega
   ·intro v hv hlt c' hc'
    rcases List.mem_append.1 hv with hv | hv
    ·exact h.wpend v hv hlt c' (List.mem_cons_of_mem _ hc')
    ·rcases List.mem_append.1 hv with hv | hv
     ·obtain ⟨k,b,hb,rfl⟩ := Zee hv
      have := hlowb b (List.mem_of_getElem? hb)
      simp only at hlt; omega
     ·rw [List.mem_singleton] at hv; rw [hv]; simp only
      have := hq c' hc'
      omega
   ·intro v hv b hb
    rcases List.mem_append.1 hv with hv | hv
    ·exact h.wfree v hv b (by rw [hsp]; exact List.mem_append_right _ hb)
    ·rcases List.mem_append.1 hv with hv | hv
     ·obtain ⟨k,b',hb',rfl⟩ := Zee hv
      have := hnF.2.2 b' (List.mem_of_getElem? hb') b hb
      simp only; omega
     ·have := h.flow b (by rw [hsp]; exact List.mem_append_right _ hb)
      rw [List.mem_singleton] at hv; rw [hv]; simp only; omega
   ·rw [List.map_append,List.nodup_append]
    refine ⟨h.wnodup,hxn,fun a ha b hb => ?_⟩
    obtain ⟨v,hv,rfl⟩ := List.mem_map.1 ha
    obtain ⟨u,hu,rfl⟩ := List.mem_map.1 hb
    rcases List.mem_append.1 hu with hu | hu
    ·obtain ⟨k,b',hb',rfl⟩ := Zee hu
     exact h.wfree v hv b' (by rw [hsp]; exact List.mem_append_left _ (List.mem_of_getElem? hb'))
    ·rw [List.mem_singleton] at hu; rw [hu]; simp only
     by_cases hlt : v.1 < 1 + (n : Int)
     ·exact h.wpend v hv hlt c (List.mem_cons_self ..)
     ·omega
   ·rw [h.tab,tabOf_set hc0 hc1]
   ·simp only [h.cnt,List.length_append,List.length_cons,List.length_nil,Zdt,List.length_map,List.length_range,hbl]; omega
theorem Zo7 {nb : Nat} : ∀ (q : List Chg) (x : Tb × Nat × Bool),x.2.2 = true → (q.foldl (fun x c => Zfp x nb c) x).2.2 = true
 | [],_,h => h
 | c :: q,x,h => Zo7 q _ (by show (Zfp x nb c).2.2 = true; unfold Zfp; rw [if_pos h]; exact h)
theorem Inv.run {rd fs : List Int} {dat : List (List UInt8)} {n nb : Nat} (hlen : dat.length = 1 + n + nb) : ∀ {q : List Chg} {z : ApS} {x : Tb × Nat × Bool},Inv rd fs dat n nb q z x → (∀ c ∈ q,0 ≤ c.no ∧ c.no < n) → (q.map (·.no)).Nodup → (∀ c ∈ q,c.drop = false → c.nd.st.check = 0 ∧ c.nd.data.length ≤ 512) →
  (z.run n q = none ∧ (q.foldl (fun x c => Zfp x nb c) x).2.2 = true) ∨ ∃ z',z.run n q = some z' ∧ Inv rd fs dat n nb [] z' (q.foldl (fun x c => Zfp x nb c) x)
 | [],z,x,h,_,_,_ => .inr ⟨z,rfl,h⟩
 | c :: q,z,x,h,h1,h2,h3 => by
  have h2' : c.no ∉ q.map (·.no) ∧ (q.map (·.no)).Nodup := List.nodup_cons.1 h2
  have hc := h1 c (List.mem_cons_self ..)
  rcases h.step hlen hc.1 hc.2 (fun c' hc' e => h2'.1 (List.mem_map.2 ⟨c',hc',e⟩)) (h3 c (List.mem_cons_self ..)) with ⟨e1,e2⟩ | ⟨z',e1,h'⟩
  ·left
   refine ⟨by simp [ApS.run,e1],?_⟩
   rw [List.foldl_cons]; exact Zo7 q _ e2
  ·rcases h'.run hlen (fun c' hc' => h1 c' (List.mem_cons_of_mem _ hc')) h2'.2 (fun c' hc' => h3 c' (List.mem_cons_of_mem _ hc')) with ⟨g1,g2⟩ | ⟨z2,g1,g2⟩
   ·exact .inl ⟨by simp [ApS.run,e1,g1],g2⟩
   ·exact .inr ⟨z2,by simp [ApS.run,e1,g1],g2⟩
/-! ### all changes -/
theorem Zhi {k : Int} : ∀ (l : List Chg) (A : Ents),(Zb9 A).Nodup → getA k (Zfl A l) = if k ∈ l.map (·.no) then none else getA k A
 | [],A,_ => by simp [Zfl]
 | c :: l,A,h => by
  have ih := Zhi (k := k) l (delA c.no A) (h.sublist Zm9)
  have e : Zfl A (c :: l) = Zfl (delA c.no A) l := rfl
  rw [e,ih,Zlt h]
  by_cases h1 : k = c.no
  ·simp [h1]
  ·simp [h1]
theorem Znh : ∀ (l : List Chg) (A : Ents),(Zfl A l).Sublist A
 | [],_ => List.Sublist.refl _
 | c :: l,A => (Znh l (delA c.no A)).trans Zom
theorem Zp2 : ∀ (l : List Chg) (T : Tb),(∀ c ∈ l,0 ≤ c.no) → ∀ i,i < T.length → (Zg4 T l)[i]? = if (i : Int) ∈ l.map (·.no) then some none else T[i]?
 | [],T,_,i,_ => by simp [Zg4]
 | c :: l,T,h,i,hi => by
  have e : Zg4 T (c :: l) = Zg4 (T.set c.no.toNat none) l := rfl
  have hc := h c (List.mem_cons_self ..)
  rw [e,Zp2 l _ (fun c' hc' => h c' (List.mem_cons_of_mem _ hc')) i (by simpa using hi),List.getElem?_set]
  have hmc : ((i : Int) ∈ (c :: l).map (·.no)) ↔ ((i : Int) = c.no ∨ (i : Int) ∈ l.map (·.no)) := by simp
  by_cases hm : (i : Int) ∈ l.map (·.no)
  ·rw [if_pos hm,if_pos (hmc.2 (.inr hm))]
  ·rw [if_neg hm]
   by_cases h1 : c.no.toNat = i
   ·have h2 : (i : Int) = c.no := by omega
    rw [if_pos h1,if_pos (by rw [h1]; exact hi),if_pos (hmc.2 (.inl h2))]
   ·rw [if_neg h1,if_neg (fun h => (hmc.1 h).elim (fun e => h1 (by omega)) hm)]
theorem Zj0 : ∀ (l : List Chg) (T : Tb),(Zg4 T l).length = T.length
 | [],_ => rfl
 | c :: l,T => by
  have e : Zg4 T (c :: l) = Zg4 (T.set c.no.toNat none) l := rfl
  rw [e,Zj0 l]; simp
theorem dropT_is {A : Ents} {n : Nat} {l : List Chg} (h : ∀ c ∈ l,0 ≤ c.no) (hn : (Zb9 A).Nodup) : Zg4 (tabOf A n) l = tabOf (Zfl A l) n := by
 apply List.ext_getElem?
 intro i
 by_cases hi : i < n
 ·rw [Zp2 l _ h i (by rw [Zdc]; exact hi),Zgs _ hi,Zgs _ hi,Zhi l A hn]
  split <;> rfl
 ·rw [List.getElem?_eq_none (by rw [Zj0,Zdc]; omega),List.getElem?_eq_none (by rw [Zdc]; omega)]
theorem Zrq : ∀ {l : List Chg},badC l = 0 → ∀ c ∈ l,c.drop = false → c.nd.st.check = 0 ∧ c.nd.data.length ≤ 512
 | c :: l,h,c',hc',hd => by
  unfold badC at h
  rcases List.mem_cons.1 hc' with rfl | hc'
  ·rw [if_neg (by simp [hd])] at h
   split at h
   ·rename_i h1; exact absurd h h1
   ·rename_i h1
    split at h
    ·cases h
    ·exact ⟨by simpa using h1,by omega⟩
  ·split at h
   ·exact Zrq h c' hc' hd
   ·split at h
    ·rename_i h1; exact absurd h h1
    ·split at h
     ·cases h
     ·exact Zrq h c' hc' hd
structure Right (l : List Chg) (n : Nat) : Prop where
 low : ∀ c ∈ l,0 ≤ c.no ∧ c.no < n
 nodup : (l.map (·.no)).Nodup
 ok : ∀ c ∈ l,c.drop = false → c.nd.st.check = 0 ∧ c.nd.data.length ≤ 512
theorem right_of {l : List Chg} {n : Nat} (h : Zf2 l n = 0) : Right l n := by
 unfold Zf2 at h
 split at h
 ·cases h
 ·rename_i h1
  split at h
  ·cases h
  ·rename_i h2
   refine ⟨fun c hc => ?_,Zo6 (by simpa using h2),Zrq h⟩
   have h3 : ¬ ((decide (c.no < 0) || decide ((n : Int) ≤ c.no)) = true) := fun e => h1 (List.any_eq_true.2 ⟨c,hc,e⟩)
   simp at h3
   omega
theorem blocks_low {A : Ents} {nb : Nat} (h : ∀ x ∈ A,x.2.ok nb) : ∀ b ∈ Zb6 A,0 ≤ b ∧ b < nb := fun b hb => by
 obtain ⟨x,hx,hbx⟩ := List.mem_flatMap.1 hb
 exact (h x hx).low b hbx
theorem blocks_sub {A B : Ents} (h : A.Sublist B) : (Zb6 A).Sublist (Zb6 B) := by
 induction h with
 | slnil => exact List.Sublist.refl _
 | cons a _ ih => exact ih.trans (List.sublist_append_right _ _)
 | cons_cons a _ ih => exact ih.append_left _
theorem Inv.start {rd fs : List Int} {dat : List (List UInt8)} {n nb : Nat} {A : Ents} {l : List Chg} (hE : Enc rd fs dat n nb A) (hl : Right l n) : Inv rd fs dat n nb l (ApS.start A nb l) (Zg4 (tabOf A n) l,0,false) := by
 have hsub := Znh l A
 have hok : ∀ s ∈ Zfl A l,s.2.ok nb := fun s hs => hE.ok s (hsub.mem hs)
 have hbn : (Zb6 (Zfl A l)).Nodup := hE.apart.sublist (blocks_sub hsub)
 refine ⟨fun k hk => hE.keys k ((hsub.map _).mem hk),hE.nodup.sublist (hsub.map _),fun c hc hm => ?_,hok,fun b hb => (freeL_mem.1 hb).1,?_,free_len hbn (blocks_low hok),hE.front,?_,?_,(fun v hv => by cases hv),(fun v hv => by cases hv),(fun v hv => by cases hv),(fun v hv => by cases hv),List.nodup_nil,dropT_is (fun c hc => (hl.low c hc).1) hE.nodup,rfl,rfl⟩
 ·have := Zhi (k := c.no) l A hE.nodup
  rw [if_pos (List.mem_map.2 ⟨c,hc,rfl⟩)] at this
  exact getA_none.1 this hm
 ·rw [List.nodup_append]
  exact ⟨hbn,Zrg _ _,fun a ha b hb e => (freeL_mem.1 hb).2 (e ▸ ha)⟩
 ·intro i hi hil
  have := hE.node i hi
  show dat.getD (1 + i) [] = match getA (i : Nat) (Zfl A l) with | some s => stoB s | none => zero64
  rw [Zhi l A hE.nodup,if_neg hil]
  exact this
 ·intro s hs k b hb
  exact hE.at_ s (hsub.mem hs) k b hb
theorem apply_law {rd fs : List Int} {dat : List (List UInt8)} {n nb : Nat} {A : Ents} {l : List Chg} (hE : Enc rd fs dat n nb A) (hl : Right l n) :
  ((ApS.start A nb l).run n l = none ∧ (runT (tabOf A n) nb l).2.2 = true) ∨
  ∃ z,(ApS.start A nb l).run n l = some z ∧ (runT (tabOf A n) nb l) = (tabOf z.A n,z.w.length,false) ∧ Enc rd fs (Zdi dat z.w) n nb z.A ∧ Zdm z.w = 0 ∧ hasM ((1 + n + nb : Nat) : Int) z.w = true := by
 rcases (Inv.start hE hl).run hE.len hl.low hl.nodup hl.ok with ⟨h1,h2⟩ | ⟨z,h1,h⟩
 ·exact .inl ⟨h1,h2⟩
 ·refine .inr ⟨z,h1,?_,⟨by rw [Zb4]; exact hE.len,h.front,h.keys,h.nodup,fun i hi => h.node i hi (by simp),h.ok,h.at_,(List.nodup_append.1 h.all).1⟩,?_,?_⟩
  ·have e1 := h.tab
   have e2 := h.cnt
   have e3 := h.fine
   have e : runT (tabOf A n) nb l = l.foldl (fun x c => Zfp x nb c) (Zg4 (tabOf A n) l,0,false) := rfl
   rw [e]
   generalize l.foldl (fun x c => Zfp x nb c) (Zg4 (tabOf A n) l,0,false) = x at e1 e2 e3 ⊢
   obtain ⟨x1,x2,x3⟩ := x
   simp only at e1 e2 e3
   rw [e1,e2,e3]
  ·unfold Zdm
   rw [if_neg ?_,if_neg (by rw [Zo5 h.wnodup]; simp)]
   intro hb
   obtain ⟨v,hv,hb⟩ := List.any_eq_true.1 hb
   have h1 := h.wlen v hv
   have h2 := h.wlow v hv
   unfold badW at hb
   simp [h1] at hb
   omega
  ·unfold hasM
   rw [List.all_eq_true]
   intro v hv
   have h2 := h.wlow v hv
   simp; omega
end Cr
namespace Cr
open Go Go.Proofs
set_option maxRecDepth 10000
theorem Zq6 {n : Nat} (h : n ≤ 512) : nblk n ≤ 8 := by unfold nblk; omega
theorem Zmm {s : Sto} {nb : Nat} (_ : s.ok nb) : (Zgu s).length = 13 + 4 * s.blocks.length := by
 have : (s.blocks.flatMap fun b => bigB b 4).length = s.blocks.length * 4 := Zfd fun b _ => Za0 b 4
 unfold Zgu
 simp only [List.length_append,List.length_cons,List.length_nil,Za0,this]; omega
theorem stoB_eq {s : Sto} {nb : Nat} (h : s.ok nb) : stoB s = Zgu s ++ List.replicate (64 - (Zgu s).length) 0 := by
 have h1 := Zmm h
 have h2 := h.cnt
 have h3 := Zq6 h.len
 exact Zsv (by omega)
theorem stoB_len {s : Sto} {nb : Nat} (h : s.ok nb) : ((stoB s).drop 9).take 4 = bigB (s.nd.data.length : Nat) 4 := by
 rw [stoB_eq h]
 unfold Zgu
 have h1 : (bigB s.nd.st.num 8).length = 8 := Za0 _ _
 have h2 : (bigB ((s.nd.data.length : Nat) : Int) 4).length = 4 := Za0 _ _
 simp [h1,h2]
end Cr
namespace Cr
open Go Go.Proofs
set_option maxRecDepth 100000
set_option maxHeartbeats 8000000
attribute [local irreducible] Calls

structure QlogOk (D : DiskM) (j m : Nat) (done : Int) (dat : List (List UInt8)) : Prop where
 q : Quiet D (1 + j + dat.length)
 line : D.line = []
 d0 : 0 ≤ done
 dm : done ≤ (m : Nat)
 jl : j ≤ 1024
 at_ : ∀ k,k < dat.length → D.laid.getD (1 + j + k) [] = dat.getD k []
def qlog (lp p j m : Nat) (dat : List (List UInt8)) : Res := fun h => ∃ D done,QlogOk D j m done dat ∧ Sep [Zdr lp p 1 0 0 j done false,disk p D] h
theorem Rd.qlog {w : World} {lp p j m : Nat} {dat : List (List UInt8)} (h : Rd w (Cr.qlog lp p j m dat)) : ∃ D done,QlogOk D j m done dat ∧ Rd w (Zdr lp p 1 0 0 j done false) ∧ Rd w (Cr.disk p D) := by
 obtain ⟨f,⟨D,done,hq,hs⟩,ha⟩ := h
 have hr := Rd.sep ⟨f,hs,ha⟩
 exact ⟨D,done,hq,hr _ (List.mem_cons_self ..),hr _ (List.mem_cons_of_mem _ (List.mem_cons_self ..))⟩
theorem St.openQlog {W : World} {F : Nat → Prop} {lp p j m : Nat} {dat : List (List UInt8)} {rs : List Res} {w : World} (hS : St W F (qlog lp p j m dat :: rs) w) : ∃ D done,QlogOk D j m done dat ∧ St W F (Zdr lp p 1 0 0 j done false :: disk p D :: rs) w := by
 obtain ⟨h,⟨h1,h2,⟨D,done,hq,hs⟩,hr,hd,hu⟩,s⟩ := hS
 exact ⟨D,done,hq,h,Sep.append_mk hs hr hd hu,s⟩
theorem St.shutQlog {W : World} {F : Nat → Prop} {lp p j m : Nat} {dat : List (List UInt8)} {rs : List Res} {w : World} {D : DiskM} {done : Int} (hq : QlogOk D j m done dat) (hS : St W F (Zdr lp p 1 0 0 j done false :: disk p D :: rs) w) : St W F (qlog lp p j m dat :: rs) w :=
 St.shutR (rs' := [Zdr lp p 1 0 0 j done false,disk p D]) hS fun _ hh => ⟨D,done,hq,hh⟩
theorem qlen {w : World} {lp p j m : Nat} {dat : List (List UInt8)} (h : Rd w (Cr.qlog lp p j m dat)) : 1 + j + dat.length ≤ 4096 ∧ ∀ s ∈ dat,s.length = 64 := by
 obtain ⟨D,done,hq,_,hD⟩ := h.qlog
 have hok := hD.disk.1
 have h1 := hok.most
 rw [hq.q.len] at h1
 refine ⟨h1,fun s hs => ?_⟩
 obtain ⟨k,hk,rfl⟩ := List.mem_iff_getElem.1 hs
 have h2 := hq.at_ k hk
 rw [List.getD_eq_getElem?_getD,List.getD_eq_getElem?_getD,List.getElem?_eq_getElem hk,List.getElem?_eq_getElem (show 1 + j + k < D.laid.length by rw [hq.q.len]; omega)] at h2
 simp only [Option.getD_some] at h2
 rw [← h2]
 exact hok.laid64 _ (List.getElem_mem _)
theorem Zph (lp p j m : Nat) (dat : List (List UInt8)) (W : World) (h : Rd W (qlog lp p j m dat)) :
  Calls Tryz.prog 165 #[.pointer (some ⟨lp,0,none⟩)] W (Ret fun v w => v = .int .i64 (dat.length : Nat) ∧ St W noF [] w) := by
 obtain ⟨D,done,hq,hL,hD⟩ := h.qlog
 have hj := hq.jl
 have := Zft lp p 1 0 0 j done false D W hL hD (by omega)
 rwa [show (D.laid.length : Int) - 1 - j = (dat.length : Nat) by rw [hq.q.len]; omega] at this
theorem qread_ (lp p j m : Nat) (dat : List (List UInt8)) (no : Nat) (W : World) (h : Rd W (qlog lp p j m dat)) (hno : no < dat.length) :
  Calls Tryz.prog 118 #[.pointer (some ⟨lp,0,none⟩),.int .i64 (no : Nat)] W (Ret fun v w => ∃ a c,v = .tuple #[.slice a 64 c,.int .i64 0] ∧ 64 ≤ c ∧ St W noF [bytes a (dat.getD no [])] w) := by
 have h64 := (qlen h).2
 obtain ⟨D,done,hq,hL,hD⟩ := h.qlog
 have hj := hq.jl
 have := wread_ lp p 1 0 0 j done false D (no : Nat) W hL hD (by omega) (by rw [hq.line]; simp)
 have hl := hq.q.len
 have e : Zhm D j (no : Nat) = (0,dat.getD no []) := by
  unfold Zhm DiskM.read
  rw [if_neg (by simp [hq.q.off]),if_neg (by omega),if_neg (by simp [hq.q.off]),if_neg (by simp [Zeq]; omega),find_quiet hq.line,show ((1 : Int) + j + (no : Nat)).toNat = 1 + j + no by omega,hq.at_ no hno]
 have e2 : (dat.getD no []).length = 64 := by
  rw [List.getD_eq_getElem?_getD,List.getElem?_eq_getElem hno]
  exact h64 _ (List.getElem_mem _)
 rw [e] at this
 simp only [e2] at this
 exact this
theorem Zsd (lp p j m : Nat) (dat : List (List UInt8)) (a : Option Addr) (c : Nat) (l : List Wr) (rd fs : List Int) (W : World) (F : Nat → Prop) (hG : Gl W F rd fs) (hW : Wrs W F a l) (hl : l.length ≤ 1048576) (hm : (m : Int) < last)
  (hc : Zdm (l.map Wr.data) = 0) (hh : hasM (dat.length : Nat) (l.map Wr.data) = true) (hS : St W F [qlog lp p j m dat] W) :
  Calls Tryz.prog 121 #[.pointer (some ⟨lp,0,none⟩),.slice a l.length c] W (Ret fun v w =>
   (j / 2 < l.length ∧ v = .int .i64 6 ∧ St W F [qlog lp p j m dat] w) ∨ (l.length ≤ j / 2 ∧ v = .int .i64 0 ∧ St W F [qlog lp p j (m + 1) (Zdi dat (l.map Wr.data))] w)) := by
 obtain ⟨D,done,hq,hS⟩ := hS.openQlog
 have hj := hq.jl
 have h0 := hq.d0
 have hdm := hq.dm
 have hlen := hq.q.len
 have hgood := Zf1 hc
 have hx64 : ∀ v ∈ l,v.x.s.length ≤ 140737488355328 := fun v hv => by
  have := (hgood v.data (List.mem_map.2 ⟨v,hv,rfl⟩)).2
  simp only [Wr.data] at this
  omega
 have := commit_ lp p 1 0 0 j done false D a c l rd fs W F hG hW (by omega) h0 hl hx64 (by rw [hq.line]; simp) hS
 refine Calls.mono this fun e w ⟨v,he,hv,hS⟩ => ⟨v,he,?_⟩
 have hn : ((1 + j + dat.length : Nat) : Int) - 1 - j = (dat.length : Nat) := by omega
 have hnl : (l.map Wr.data).length = l.length := by simp
 by_cases hfull : j / 2 < l.length
 ·left
  have e : Zc3 rd fs D j done (l.map Wr.data) = (6,D,done) := by
   unfold Zc3
   rw [if_neg (by simp [hq.q.off]),if_neg (by simpa using hc),hlen,hn,if_neg (by simp [hh]),if_pos (.inl (by rw [hnl]; omega))]
  rw [e] at hv hS
  exact ⟨hfull,hv,hS.shutQlog hq⟩
 ·right
  have hD := Zrm rd fs (j := j) (done := done) hq.q hq.line hc (by rw [hn]; exact hh) (by rw [hnl]; omega) (by omega)
  have hq2 : QlogOk (Zc3 rd fs D j done (l.map Wr.data)).2.1 j (m + 1) (Zc3 rd fs D j done (l.map Wr.data)).2.2 (Zdi dat (l.map Wr.data)) := by
   refine ⟨by rw [Zb4]; exact hD.q,hD.line,by have := hD.lo; omega,by have := hD.hi; omega,hj,fun k hk => ?_⟩
   rw [Zb4] at hk
   rw [hD.at_ k (by omega),hq.at_ k hk,Zep _ _ _ hk (fun v hv => (hgood v hv).1)]
  rw [hD.e] at hv
  exact ⟨by omega,hv,hS.shutQlog hq2⟩
end Cr
