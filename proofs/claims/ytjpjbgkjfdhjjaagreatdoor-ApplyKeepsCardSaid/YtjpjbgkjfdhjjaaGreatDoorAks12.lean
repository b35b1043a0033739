/-
  Layer 9 (table) in plain words: what a put and a drop change of the keys' values. No program is in sight.
  Trees in plain words,for archives that are kept: a node is made; nodes are numbered without a gap; what stands ahead of and beside a place that is turned.
  Package apply in plain words: the ways to a path,an archive's parts; what a tree of archives has.
  A tree of archives: what it has,what comes of a way and of parts that are made.
  Layer 7 (inode): the free blocks of nodes; does a block stand in two Zg5?
  Layer 7 (inode): what is wrong with changes.
  Layer 7 (inode): a map copied; a write noted.
-/
import Derived.Test.YtjpjbgkjfdhjjaaGreatDoorAks11
import Derived.Test.YtjpjbgkjfdhjjaaGreatDoorAks8
import Derived.Test.YtjpjbgkjfdhjjaaGreatDoorAks7
import Derived.Shelf.SlMaps.Clone
namespace Cr
open Go
set_option maxHeartbeats 64000000

theorem Zuo {f : Tn → Tn} (hf : ∀ u,(f u).nm = u.nm) : ∀ (p : List (List UInt8)) (t : Tn),(updT p f t).nm = t.nm
 | [],t => hf t
 | _ :: _,.mk _ _ _ _ _ => rfl
theorem Zvn {f : Tn → Tn} (hf : ∀ u,(f u).nm = u.nm) (s s' : List UInt8) (p : List (List UInt8)) : ∀ l : List Tn,kidT s (l.map fun k => if k.nm = s' then updT p f k else k) = (kidT s l).map fun k => if k.nm = s' then updT p f k else k
 | [] => rfl
 | x :: l => by
  have hn : (if x.nm = s' then updT p f x else x).nm = x.nm := by split; exact Zuo hf p x; rfl
  have ih := Zvn hf s s' p l
  unfold kidT at ih ⊢
  rw [List.map_cons];by_cases h : x.nm = s
  ·rw [List.find?_cons_of_pos (by rw [hn]; simpa using h),List.find?_cons_of_pos (by simpa using h)]; rfl
  ·rw [List.find?_cons_of_neg (by rw [hn]; simpa using h),List.find?_cons_of_neg (by simpa using h),ih]
theorem Zmv {f : Tn → Tn} (hf : ∀ u,(f u).nm = u.nm) (s s' : List UInt8) (p : List (List UInt8)) (t : Tn) : Zaz (updT (s' :: p) f t) s = match Zaz t s with
  | .ok k => .ok (if s = s' then updT p f k else k)
  | .error e => .error e := by
 obtain ⟨nm,no,st,data,kids⟩ := t
 unfold Zaz
 rw [updT];show (if st.kind = 1 then (match kidT s (kids.map fun k => if k.nm = s' then updT p f k else k) with | some k => .ok k | none => .error 7) else .error 17 : Except Int Tn) = match (if st.kind = 1 then (match kidT s kids with | some k => .ok k | none => .error 7) else .error 17 : Except Int Tn) with
  | .ok k => .ok (if s = s' then updT p f k else k)
  | .error e => .error e
 rw [Zvn hf];by_cases hk : st.kind = 1
 ·rw [if_pos hk,if_pos hk]
  cases hq : kidT s kids with
  | none => rfl
  | some k => simp only [Option.map_some,(Zi5 hq).2]
 ·rw [if_neg hk,if_neg hk]
theorem Zoq {f : Tn → Tn} (hf : ∀ u,(f u).nm = u.nm) (r : List (List UInt8)) : ∀ (p : List (List UInt8)) (t : Tn),goT (updT p f t) (p ++ r) = match goT t p with
  | .ok u => goT (f u) r
  | .error e => .error e
 | [],t => rfl
 | s :: p,t => by
  rw [List.cons_append,goT,Zmv hf,goT];cases hg : Zaz t s with
  | error e => rfl
  | ok k =>
   simp only [if_pos]
   exact Zoq hf r p k
theorem Zvs {f : Tn → Tn} (hf : ∀ u,(f u).nm = u.nm) : ∀ (p q : List (List UInt8)) (t : Tn),¬ p <+: q → ¬ q <+: p → goT (updT p f t) q = goT t q
 | [],q,t,h,_ => absurd (List.nil_prefix ..) h
 | s :: p,[],t,_,h => absurd (List.nil_prefix ..) h
 | s :: p,x :: q,t,h,h2 => by
  rw [goT,Zmv hf,goT];cases hg : Zaz t x with
  | error e => rfl
  | ok k =>
   simp only
   by_cases hx : x = s
   ·subst hx
    rw [if_pos rfl];exact Zvs hf p q k (fun e => h (List.cons_prefix_cons.2 ⟨rfl,e⟩)) fun e => h2 (List.cons_prefix_cons.2 ⟨rfl,e⟩)
   ·rw [if_neg hx]
theorem Zwk (k u : Tn) : (addF k u).nm = u.nm := rfl
theorem Zli (s : List UInt8) (u : Tn) : (rmF s u).nm = u.nm := rfl
theorem Zvo {k : Tn} : ∀ {l : List Tn},kidT k.nm l = none → kidT k.nm (insT k l) = some k
 | [],_ => by unfold kidT insT; rw [List.find?_cons_of_pos (by simp)]
 | x :: l,h => by
  have hx : ¬ x.nm = k.nm := Zj8 h x (List.mem_cons_self ..)
  have ih := Zvo (k := k) (l := l) (by unfold kidT at h ⊢; rwa [List.find?_cons_of_neg (by simpa using hx)] at h)
  rw [insT];unfold kidT at ih ⊢
  split
  ·rw [List.find?_cons_of_neg (by simpa using hx),ih]
  ·rw [List.find?_cons_of_pos (by simp)]
theorem Zsc {k : Tn} {s : List UInt8} (hs : s ≠ k.nm) : ∀ (l : List Tn),kidT s (insT k l) = kidT s l
 | [] => by unfold kidT insT; rw [List.find?_cons_of_neg (by simpa using fun e => hs e.symm)]
 | x :: l => by
  have ih := Zsc hs l
  rw [insT];unfold kidT at ih ⊢
  split
  ·by_cases h : x.nm = s
   ·rw [List.find?_cons_of_pos (by simpa using h),List.find?_cons_of_pos (by simpa using h)]
   ·rw [List.find?_cons_of_neg (by simpa using h),List.find?_cons_of_neg (by simpa using h),ih]
  ·rw [List.find?_cons_of_neg (by simpa using fun e => hs e.symm)]
theorem Zzx (s : List UInt8) (l : List Tn) : kidT s (rmT s l) = none := by
 unfold kidT rmT
 rw [List.find?_eq_none];intro x hx
 have := (List.mem_filter.1 hx).2
 simpa using this
theorem Zvm {s k : List UInt8} (h : k ≠ s) : ∀ (l : List Tn),kidT k (rmT s l) = kidT k l
 | [] => rfl
 | x :: l => by
  have ih := Zvm h l
  unfold kidT rmT at ih ⊢
  by_cases hx : x.nm = s
  ·rw [List.filter_cons_of_neg (by simpa using hx),ih,List.find?_cons_of_neg (by rw [hx]; simpa using fun e => h e.symm)]
  ·rw [List.filter_cons_of_pos (by simpa using hx)]
   by_cases hk : x.nm = k
   ·rw [List.find?_cons_of_pos (by simpa using hk),List.find?_cons_of_pos (by simpa using hk)]
   ·rw [List.find?_cons_of_neg (by simpa using hk),List.find?_cons_of_neg (by simpa using hk),ih]
theorem Zyq {k u : Tn} {s : List UInt8} (hs : s ≠ k.nm) : Zaz (addF k u) s = Zaz u s := by
 unfold Zaz
 show (if u.st.kind = 1 then (match kidT s (insT k u.kids) with | some k => .ok k | none => .error 7) else .error 17 : Except Int Tn) = _
 rw [Zsc hs] <;> rfl
theorem Zsj {k u : Tn} (hu : u.st.kind = 1) (h : kidT k.nm u.kids = none) : Zaz (addF k u) k.nm = .ok k := by
 unfold Zaz
 show (if u.st.kind = 1 then (match kidT k.nm (insT k u.kids) with | some k => .ok k | none => .error 7) else .error 17 : Except Int Tn) = _
 rw [Zvo h,if_pos hu]
theorem Z1n {u : Tn} (s : List UInt8) : ∃ e,Zaz (rmF s u) s = .error e := by
 unfold Zaz
 show ∃ e,(if u.st.kind = 1 then (match kidT s (rmT s u.kids) with | some k => .ok k | none => .error 7) else .error 17 : Except Int Tn) = .error e
 rw [Zzx]
 split
 ·exact ⟨_,rfl⟩
 ·exact ⟨_,rfl⟩
theorem Zyp {u : Tn} {s k : List UInt8} (h : k ≠ s) : Zaz (rmF s u) k = Zaz u k := by
 unfold Zaz
 show (if u.st.kind = 1 then (match kidT k (rmT s u.kids) with | some k => .ok k | none => .error 7) else .error 17 : Except Int Tn) = _
 rw [Zvm h] <;> rfl
/-! ### a key's value,by what stands at its path -/
theorem Zyt {t : Tn} {p : List (List UInt8)} {e : Int} (h : goT t p = .error e) : ∃ e,getR t p = .error e := by
 unfold getR goR
 by_cases hr : Zav p
 ·rw [if_pos hr,h]; exact ⟨_,rfl⟩
 ·rw [if_neg hr]; exact ⟨_,rfl⟩
theorem Zkd {t u : Tn} {p : List (List UInt8)} (hr : Zav p) (h : goT t p = .ok u) : getR t p = .ok (shN u.nd) := by
 unfold getR goR
 rw [if_pos hr,h]
theorem Zyd {t : Tn} {p : List (List UInt8)} {e : Int} (h : Zfc t p = .error e) : e ≠ 0 := by
 unfold Zfc at h
 split at h
 ·split at h
  ·injection h with h; subst h; decide
  ·split at h
   ·rename_i e' hg
    injection h with h; subst h
    rcases Zqs hg with rfl | rfl <;> decide
   ·split at h
    ·cases h
    ·injection h with h; subst h; decide
 ·injection h with h; subst h; decide
theorem Zx8 {n : Nat} {t : Tn} {nd : Nd} {p : List (List UInt8)} (h : (Zbq n t nd p).1 = 0) : ∃ u s i,Zfc t p = .ok (u,s) ∧ kidT s u.kids = none ∧ (Zbq n t nd p).2 = updT p.dropLast (addF (.mk s i nd.st nd.data [])) t := by
 unfold Zbq at h ⊢
 split
 ·rename_i h1; rw [if_pos h1] at h; cases h
 ·rename_i h1
  split
  ·rename_i h2; rw [if_neg h1,if_pos h2] at h; exact absurd h h2
  ·rename_i h2
   rw [if_neg h1,if_neg h2] at h;cases hl : Zfc t p with
   | error e =>
    rw [hl] at h;exact absurd h (Zyd hl)
   | ok x =>
    rw [hl] at h;simp only at h ⊢
    split
    ·rename_i h3; rw [if_pos h3] at h; cases h
    ·rename_i h3
     rw [if_neg h3] at h;cases hf : Zkg n (Nt t) with
     | none => rw [hf] at h; cases h
     | some i =>
      rw [hf] at h;simp only at h ⊢
      split
      ·rename_i h4; rw [if_pos h4] at h; cases h
      ·exact ⟨x.1,x.2,i,rfl,by simpa using h3,rfl⟩
theorem Zvj {n : Nat} {t : Tn} {nd : Nd} {p : List (List UInt8)} {s : List UInt8} (h : (Zbq n t nd (p ++ [s])).1 = 0) : ∃ u i,Zav (p ++ [s]) ∧ goT t p = .ok u ∧ u.st.kind = 1 ∧ kidT s u.kids = none ∧ (∀ r,goT (Zbq n t nd (p ++ [s])).2 (p ++ s :: r) = goT (.mk s i nd.st nd.data []) r) ∧
  ∀ k r,k ≠ s → goT (Zbq n t nd (p ++ [s])).2 (p ++ k :: r) = goT t (p ++ k :: r) := by
 obtain ⟨u,s',i,hl,hn,he⟩ := Zx8 h
 obtain ⟨h1,h2,h3,h4,_⟩ := Zhg hl
 rw [List.dropLast_concat] at h2 h4 he;obtain rfl : s = s' := by simpa using h4
 refine ⟨u,i,h1,h2,h3,hn,fun r => ?_,fun k r hk => ?_⟩
 ·rw [he,Zoq (Zwk _),h2]
  show goT (addF _ u) (s :: r) = _
  rw [goT,show Zaz (addF (Tn.mk s i nd.st nd.data []) u) s = .ok (Tn.mk s i nd.st nd.data []) from Zsj h3 hn]
 ·rw [he,Zoq (Zwk _),h2,Zmw,h2]
  show goT (addF _ u) (k :: r) = goT u (k :: r)
  rw [goT,goT,Zyq hk]
section
variable {n : Nat} {t : Tn} {name : List UInt8}
theorem Zzq {p : List (List UInt8)} {s : List UInt8} {u : Tn} (h2 : goT t p = .ok u) : (∀ r,∃ e,goT (updT p (rmF s) t) (p ++ s :: r) = .error e) ∧ ∀ k r,k ≠ s → goT (updT p (rmF s) t) (p ++ k :: r) = goT t (p ++ k :: r) := by
 refine ⟨fun r => ?_,fun k r hk => ?_⟩
 ·rw [Zoq (Zli _),h2]
  show ∃ e,goT (rmF s u) (s :: r) = .error e
  obtain ⟨e,he⟩ := Z1n (u := u) s
  rw [goT,he];exact ⟨e,rfl⟩
 ·rw [Zoq (Zli _),h2,Zmw,h2]
  show goT (rmF s u) (k :: r) = goT u (k :: r)
  rw [goT,goT,Zyp hk]
end
def Cont (m : Nat) (t : Tn) : Prop := ∀ j : Nat,(Nt t (j : Int)).isSome = decide (j < m)
theorem Cont.free {n m : Nat} {t : Tn} (h : Cont m t) (hm : m < n) : Zkg n (Nt t) = some m :=
 Zlu hm (by have := h m; rw [decide_eq_false (by omega)] at this; simpa using this) fun j hj e => by
  have := h j
  rw [e,decide_eq_true hj] at this;cases this
theorem Cont.new {m : Nat} {t : Tn} (h : Cont m t) : Nt t (m : Int) = none := by
 have := h m
 rw [decide_eq_false (by omega)] at this
 simpa using this
theorem Zzs {n m : Nat} {t u : Tn} (ht : TreeOk n t) (hc : Cont m t) (hm : m < n) {p : List (List UInt8)} {s : List UInt8} (hr : Zav (p ++ [s])) (hg : goT t p = .ok u) (hu : u.st.kind = 1) (hno : kidT s u.kids = none) {nd : Nd} (hnd : Zhf nd = 0) (hsz : (wrD (insN (s,(m : Int)) u.names)).length ≤ 512) :
  Zbq n t nd (p ++ [s]) = (0,updT p (addF (.mk s m nd.st nd.data [])) t) ∧ Cont (m + 1) (updT p (addF (.mk s m nd.st nd.data [])) t) := by
 constructor
 ·unfold Zbq
  rw [if_neg (fun h => h.elim (fun h => h hr) (fun h => by simp at h)),if_neg (fun h => h hnd),Zh6 hr,hg]
  simp only
  rw [if_pos hu];simp only
  rw [if_neg (by rw [hno]; simp),hc.free hm]
  simp only
  rw [if_neg (by omega),List.dropLast_concat]
 ·intro j
  rw [Z0f (k := .mk s m nd.st nd.data []) ht hg rfl hc.new]
  by_cases hj : (j : Int) = (m : Int)
  ·rw [if_pos (show (j : Int) = (Tn.mk s (m : Int) nd.st nd.data []).no from hj)]
   simp; omega
  ·rw [if_neg (show ¬ (j : Int) = (Tn.mk s (m : Int) nd.st nd.data []).no from hj)]
   by_cases hju : (j : Int) = u.no
   ·rw [if_pos hju]
    have h := ht.at_ (Zba hg)
    have hs := hc j
    rw [hju,h] at hs;have : j < m := by simpa using hs
    simp; omega
   ·rw [if_neg hju,hc j]
    exact decide_eq_decide.2 (by omega)
theorem Zf6 {f : Tn → Tn} (hf : ∀ u,(f u).nm = u.nm) (r : List (List UInt8)) : ∀ (q : List (List UInt8)) (t u : Tn),goT t q = .ok u → goT (updT (q ++ r) f t) q = .ok (updT r f u)
 | [],t,u,h => by
  injection h with h
  subst h; rfl
 | s :: q,t,u,h => by
  rw [List.cons_append,goT,Zmv hf];rw [goT] at h;cases hg : Zaz t s with
  | error e => rw [hg] at h; cases h
  | ok k =>
   rw [hg] at h;simp only [if_pos] at h ⊢
   exact Zf6 hf r q k u h
theorem Zdg {f : Tn → Tn} (hf : ∀ u,(f u).nm = u.nm ∧ (f u).no = u.no) (s : List UInt8) (r : List (List UInt8)) : ∀ u : Tn,(updT (s :: r) f u).names = u.names ∧ (updT (s :: r) f u).st = u.st
 | .mk nm no st d kids => by
  rw [updT];refine ⟨?_,rfl⟩
  show (kids.map fun k => if k.nm = s then updT r f k else k).map _ = kids.map _
  rw [List.map_map];refine List.map_congr_left fun k _ => ?_
  show ((if k.nm = s then updT r f k else k).nm,(if k.nm = s then updT r f k else k).no) = (k.nm,k.no)
  split
  ·have h1 := Zuo (fun u => (hf u).1) r k
   have h2 : ∀ (r : List (List UInt8)) (k : Tn),(updT r f k).no = k.no := fun r k => by
    cases r with
    | nil => exact (hf k).2
    | cons _ _ => cases k; rfl
   rw [h1,h2]
  ·rfl
end Cr
namespace Cr
open Go
set_option maxRecDepth 10000
set_option maxHeartbeats 64000000

def varN : List UInt8 := [118,97,114]
abbrev dirA : Nd := ⟨⟨1,493,0,0⟩,[]⟩
abbrev Zd9 (d : List UInt8) : Nd := ⟨⟨0,384,0,0⟩,d⟩
def rN (no : Int) : List UInt8 := 114 :: Lib.itoa no
def pN (i : Nat) : List UInt8 := 112 :: Lib.itoa (i : Nat)
def Zbw (p : List (List UInt8)) : List (List (List UInt8)) := (List.range p.length).map fun i => p.take (i + 1)
def wayG (n : Nat) : Tn → List (List (List UInt8)) → Int × Tn
 | t,[] => (0,t)
 | t,q :: l => match getR t q with
  | .error e => if e = 7 then (if (Zbq n t dirA q).1 = 0 then wayG n (Zbq n t dirA q).2 l else ((Zbq n t dirA q).1,(Zbq n t dirA q).2)) else (e,t)
  | .ok nd => if nd.st.kind = 1 then wayG n t l else (17,t)
def Zan (b : List UInt8) : List (List UInt8) := (List.range (max ((b.length + 511) / 512) 1)).map fun i => (b.drop (512 * i)).take 512
def Zez (n : Nat) (p : List (List UInt8)) : Nat → Tn → List (List UInt8) → Int × Tn
 | _,t,[] => (0,t)
 | i,t,c :: l => if (Zbq n t (Zd9 c) (p ++ [pN i])).1 = 0 then Zez n p (i + 1) (Zbq n t (Zd9 c) (p ++ [pN i])).2 l else ((Zbq n t (Zd9 c) (p ++ [pN i])).1,(Zbq n t (Zd9 c) (p ++ [pN i])).2)
theorem kidT_iff {s : List UInt8} {l : List Tn} : kidT s l = none ↔ s ∉ l.map Tn.nm := by
 unfold kidT
 rw [List.find?_eq_none]
 constructor
 ·intro h hm
  obtain ⟨x,hx,he⟩ := List.mem_map.1 hm
  exact h x hx (by simpa using he)
 ·intro h x hx he
  exact h (List.mem_map.2 ⟨x,hx,by simpa using he⟩)
theorem Zef (k : Tn) : ∀ l : List Tn,(insT k l).Perm (k :: l)
 | [] => .refl _
 | x :: l => by
  rw [insT]
  split
  ·exact ((Zef k l).cons x).trans (.swap _ _ _)
  ·exact .refl _
theorem Zcp {t u : Tn} {p : List (List UInt8)} {s : List UInt8} (hr : Zav (p ++ [s])) (hg : goT t p = .ok u) (hu : u.st.kind = 1) (hno : kidT s u.kids = none) : getR t (p ++ [s]) = .error 7 := by
 unfold getR goR
 rw [if_pos hr,Zcw,hg];simp only
 unfold Zaz
 rw [if_pos hu,hno]
theorem Zox : ∀ {l : List Nm},(∀ x ∈ l,x.1.length ≤ 24 ∧ 0 ≤ x.2 ∧ x.2 ≤ 1000000) → (Zay (l.map Zdu)).length ≤ 50 * l.length
 | [],_ => by simp [Zay]
 | x :: l,h => by
  obtain ⟨h1,h2,h3⟩ := h x (List.mem_cons_self ..)
  have ih := Zox (l := l) fun y hy => h y (List.mem_cons_of_mem _ hy)
  have h4 := Zc3 (n := (x.1.length : Nat)) (by omega) (by omega)
  have h5 := Zc3 h2 h3
  have e : (encM (Zdu x)).length ≤ 50 := by
   rw [Zdu,Zbj,Zay,Zay,Zay,Zes,Zd2];simp only [List.length_cons,List.length_append,List.length_nil]
   omega
  rw [List.map_cons,Zay,List.length_append,List.length_cons]; omega
theorem Z0j {l : List Nm} (h : ∀ x ∈ l,x.1.length ≤ 24 ∧ 0 ≤ x.2 ∧ x.2 ≤ 1000000) (hl : l.length ≤ 10) : (wrD l).length ≤ 512 := by
 have := Zox h
 rw [wrD,dirM,Zbj];simp only [List.length_cons,List.length_append,List.length_nil]
 omega
theorem Zvh {n : Nat} {t u : Tn} (ht : TreeOk n t) (hu : u ∈ subT t) : ∀ x ∈ u.names,x.1.length ≤ 24 ∧ 0 ≤ x.2 ∧ x.2 ≤ 1000000 := fun x hx => by
 obtain ⟨k,hk,rfl⟩ := List.mem_map.1 hx
 have h1 := (ht.node u hu).nmk k hk
 have h2 := (ht.node k (Zcx hu (Zj3 hk))).low
 have h3 := ht.small
 exact ⟨h1.2.1,h2.1,by dsimp only; omega⟩
theorem Zvi {n m : Nat} {t u : Tn} (ht : TreeOk n t) (hc : Cont m t) (hm : m < n) {p : List (List UInt8)} {s : List UInt8} (hr : Zav (p ++ [s])) (hg : goT t p = .ok u) (hu : u.st.kind = 1) (hno : kidT s u.kids = none) {nd : Nd} (hnd : Zhf nd = 0) (hl : u.kids.length < 10) :
  Zbq n t nd (p ++ [s]) = (0,updT p (addF (.mk s m nd.st nd.data [])) t) ∧ Cont (m + 1) (updT p (addF (.mk s m nd.st nd.data [])) t) ∧ TreeOk n (updT p (addF (.mk s m nd.st nd.data [])) t) := by
 have hs : nameOk s := hr.2 s (by simp)
 have hsm := ht.small
 have hp := Zfe (s,(m : Int)) u.names
 obtain ⟨h1,h2⟩ := Zzs ht hc hm hr hg hu hno hnd (Z0j (fun x hx => by
  rcases List.mem_cons.1 (hp.mem_iff.1 hx) with rfl | hx
  ·exact ⟨hs.2.1,by dsimp only; omega,by dsimp only; omega⟩
  ·exact Zvh ht (Zba hg) x hx) (by rw [hp.length_eq,List.length_cons,Tn.names,List.length_map]; omega))
 have h3 := Zhe ht nd (p ++ [s])
 rw [h1] at h3;exact ⟨h1,h2,h3⟩
theorem Zm4 {m : Nat} (h : ¬ m < 10) : Lib.decDigits m = Lib.decDigits (m / 10) ++ [UInt8.ofNat (48 + m % 10)] := by
 rw [Lib.decDigits,dif_neg h]
theorem Zlz : ∀ {l : List Nm},(∀ x ∈ l,x.1.length ≤ 3 ∧ 0 ≤ x.2 ∧ x.2 ≤ 99) → (Zay (l.map Zdu)).length ≤ 14 * l.length
 | [],_ => by simp [Zay]
 | x :: l,h => by
  obtain ⟨h1,h2,h3⟩ := h x (List.mem_cons_self ..)
  have ih := Zlz (l := l) fun y hy => h y (List.mem_cons_of_mem _ hy)
  obtain ⟨k,hk⟩ : ∃ k : Nat,x.2 = (k : Nat) := ⟨x.2.toNat,by omega⟩
  have h4 : (Lib.itoa (x.1.length : Nat)).length ≤ 1 := by rw [Za7,Lib.decDigits_one (by omega)]; simp
  have h5 : (Lib.itoa x.2).length ≤ 2 := by
   rw [hk,Za7];by_cases h : k < 10
   ·rw [Lib.decDigits_one h]; simp
   ·rw [Zm4 h,List.length_append,Lib.decDigits_one (by omega)]; simp
  have e : (encM (Zdu x)).length ≤ 14 := by
   rw [Zdu,Zbj,Zay,Zay,Zay,Zes,Zd2];simp only [List.length_cons,List.length_append,List.length_nil]
   omega
  rw [List.map_cons,Zay,List.length_append,List.length_cons]; omega
theorem Zxf {l : List Nm} (h : ∀ x ∈ l,x.1.length ≤ 3 ∧ 0 ≤ x.2 ∧ x.2 ≤ 99) (hl : l.length ≤ 33) : (wrD l).length ≤ 512 := by
 have := Zlz h
 rw [wrD,dirM,Zbj];simp only [List.length_cons,List.length_append,List.length_nil]
 omega
theorem Z1g {n m : Nat} {t u : Tn} (ht : TreeOk n t) (hc : Cont m t) (hm : m < n) (hn : n ≤ 99) {p : List (List UInt8)} {s : List UInt8} (hr : Zav (p ++ [s])) (hg : goT t p = .ok u) (hu : u.st.kind = 1) (hno : kidT s u.kids = none) {nd : Nd} (hnd : Zhf nd = 0) (hl : u.kids.length < 33) (hs3 : s.length ≤ 3) (h3 : ∀ k ∈ u.kids,k.nm.length ≤ 3) :
  Zbq n t nd (p ++ [s]) = (0,updT p (addF (.mk s m nd.st nd.data [])) t) ∧ Cont (m + 1) (updT p (addF (.mk s m nd.st nd.data [])) t) ∧ TreeOk n (updT p (addF (.mk s m nd.st nd.data [])) t) := by
 have hp := Zfe (s,(m : Int)) u.names
 obtain ⟨h1,h2⟩ := Zzs ht hc hm hr hg hu hno hnd (Zxf (fun x hx => by
  rcases List.mem_cons.1 (hp.mem_iff.1 hx) with rfl | hx
  ·exact ⟨hs3,by dsimp only; omega,by dsimp only; omega⟩
  ·obtain ⟨k,hk,rfl⟩ := List.mem_map.1 hx
   have h2 := (ht.node k (Zcx (Zba hg) (Zj3 hk))).low
   exact ⟨h3 k hk,h2.1,by dsimp only; omega⟩) (by rw [hp.length_eq,List.length_cons,Tn.names,List.length_map]; omega))
 have h3 := Zhe ht nd (p ++ [s])
 rw [h1] at h3;exact ⟨h1,h2,h3⟩
structure RevS (t : Tn) (pack r : List UInt8) (cs : List (List UInt8)) : Prop where
 dir : ∃ u,goT t [varN,pack,r] = .ok u ∧ u.st.kind = 1 ∧ u.kids.length = cs.length ∧ ∀ x ∈ u.kids,∃ i,i < cs.length ∧ x.nm = pN i
 part : ∀ i c,cs[i]? = some c → ∃ num,goT t [varN,pack,r,pN i] = .ok (.mk (pN i) num ⟨0,384,0,0⟩ c [])
structure AppS (t : Tn) (m : Nat) (pack : List UInt8) (rs : List (List UInt8)) : Prop where
 ok : TreeOk 80 t
 ct : Cont m t
 var : ∃ u,goT t [varN] = .ok u ∧ u.st.kind = 1
 pk : ∃ u,goT t [varN,pack] = .ok u ∧ u.st.kind = 1 ∧ u.kids.length = rs.length ∧ ∀ s,s ∈ u.kids.map Tn.nm ↔ s ∈ rs
theorem Zn0 {f : Tn → Tn} (hf : ∀ u,(f u).nm = u.nm ∧ (f u).no = u.no) (s : List UInt8) (r : List (List UInt8)) (u : Tn) : (updT (s :: r) f u).kids.map Tn.nm = u.kids.map Tn.nm ∧ (updT (s :: r) f u).kids.length = u.kids.length := by
 have h := (Zdg hf s r u).1
 have h2 := congrArg (fun l : List Nm => l.map fun x => x.1) h
 simp only [Tn.names,List.map_map] at h2
 have h3 : (updT (s :: r) f u).kids.map Tn.nm = u.kids.map Tn.nm := h2
 exact ⟨h3,by simpa using congrArg List.length h3⟩
theorem Zq8 (k : Tn) : ∀ u,(addF k u).nm = u.nm ∧ (addF k u).no = u.no := fun _ => ⟨rfl,rfl⟩
theorem Zr0 {i : Nat} (h : i < 10) : pN i = [112,UInt8.ofNat (48 + i)] := by rw [pN,Za7,Lib.decDigits_one h]
theorem Zv8 {c : UInt8} (h : dig c = true) : okC c := by
 unfold dig at h
 simp only [Bool.and_eq_true,decide_eq_true_eq] at h
 exact .inr (.inl h)
theorem Zva {i : Nat} (h : i < 100) : (pN i).length ≤ 3 := by
 rw [pN,Za7,List.length_cons];by_cases h1 : i < 10
 ·rw [Lib.decDigits_one h1]; simp
 ·rw [Zm4 h1,List.length_append,Lib.decDigits_one (by omega)]; simp
theorem Zzr {i k : Nat} (h : pN i = pN k) : i = k := by
 rw [pN,pN,Za7,Za7] at h;injection h with _ h
 have h2 := congrArg (fun l => val l 0) h
 simp only [(Zbz i).2.2.2,(Zbz k).2.2.2] at h2
 exact h2
theorem Z29 {i : Nat} (h : i < 100) : nameOk (pN i) := by
 have hl := Zva h
 have hf := (Zbz i).1
 have e : pN i = 112 :: Lib.decDigits i := by rw [pN,Za7]
 rw [e] at hl ⊢;refine ⟨by simp,by omega,fun h => by injection h with h _; exact absurd h (by decide),fun h => by injection h with h _; exact absurd h (by decide),fun c hc => ?_⟩
 rcases List.mem_cons.1 hc with rfl | hc
 ·exact .inl (by decide)
 ·exact Zv8 (hf c hc)
theorem Zrx {pack r s : List UInt8} (h1 : nameOk pack) (h2 : nameOk r) (h3 : nameOk s) : Zav ([varN,pack,r] ++ [s]) := ⟨by simp,fun x hx => by
 simp only [List.mem_append,List.mem_cons,List.not_mem_nil,or_false] at hx
 rcases hx with (rfl | rfl | rfl) | rfl
 ·decide
 ·exact h1
 ·exact h2
 ·exact h3⟩
theorem Zql {c : List UInt8} (h : c.length ≤ 512) : Zhf (Zd9 c) = 0 := by
 unfold Zhf
 rw [if_neg (by rintro (h | h); exact h.1 rfl; cases h.1),if_neg (show ¬ (⟨0,384,0,0⟩ : StatM).check ≠ 0 by decide),if_neg (by show ¬ 512 < c.length; omega)]
theorem Zx4 {t : Tn} {m : Nat} {pack r : List UInt8} {rs cs : List (List UInt8)} (hp : nameOk pack) (hr : nameOk r) (h : AppS t m pack rs) (hv : RevS t pack r cs) (hm : m < 80) (hc : cs.length < 33) {c : List UInt8} (hcl : c.length ≤ 512) :
  (Zbq 80 t (Zd9 c) ([varN,pack,r] ++ [pN cs.length])).1 = 0 ∧ AppS (Zbq 80 t (Zd9 c) ([varN,pack,r] ++ [pN cs.length])).2 (m + 1) pack rs ∧ RevS (Zbq 80 t (Zd9 c) ([varN,pack,r] ++ [pN cs.length])).2 pack r (cs ++ [c]) ∧
   ∀ r' cs',r' ≠ r → RevS t pack r' cs' → RevS (Zbq 80 t (Zd9 c) ([varN,pack,r] ++ [pN cs.length])).2 pack r' cs' := by
 obtain ⟨u,hg,hu,hul,hun⟩ := hv.dir
 have hpn := Z29 (i := cs.length) (by omega)
 have hno : kidT (pN cs.length) u.kids = none := kidT_iff.2 fun hx => by
  obtain ⟨x,hx,he⟩ := List.mem_map.1 hx
  obtain ⟨i,hi,hxi⟩ := hun x hx
  rw [hxi] at he;have := Zzr he
  omega
 obtain ⟨h1,h2,h3⟩ := Z1g h.ok h.ct hm (by omega) (Zrx hp hr hpn) hg hu hno (Zql hcl) (by omega) (Zva (by omega)) fun k hk => by
  obtain ⟨i,hi,hki⟩ := hun k hk
  rw [hki];exact Zva (by omega)
 rw [h1];simp only
 have hf := Zq8 (Tn.mk (pN cs.length) (m : Int) (Zd9 c).st (Zd9 c).data [])
 have hf1 := fun u => (hf u).1
 refine ⟨trivial,⟨h3,h2,?_,?_⟩,⟨?_,?_⟩,?_⟩
 ·obtain ⟨uv,hgv,huv⟩ := h.var
  exact ⟨_,Zf6 hf1 [pack,r] [varN] t uv hgv,by rw [(Zdg hf pack [r] uv).2]; exact huv⟩
 ·obtain ⟨up,hgp,hup,hpl,hps⟩ := h.pk
  obtain ⟨k1,k2⟩ := Zn0 hf r [] up
  exact ⟨_,Zf6 hf1 [r] [varN,pack] t up hgp,by rw [(Zdg hf r [] up).2]; exact hup,by rw [k2]; exact hpl,fun s => by rw [k1]; exact hps s⟩
 ·refine ⟨_,Zf6 hf1 [] [varN,pack,r] t u hg,hu,?_,fun x hx => ?_⟩
  ·show (insT _ u.kids).length = _
   rw [(Zef _ u.kids).length_eq,List.length_cons,hul,List.length_append]; rfl
  ·have hx : x ∈ insT (Tn.mk (pN cs.length) (m : Int) (Zd9 c).st (Zd9 c).data []) u.kids := hx
   rcases List.mem_cons.1 ((Zef _ u.kids).mem_iff.1 hx) with rfl | hx
   ·exact ⟨cs.length,by simp,rfl⟩
   ·obtain ⟨i,hi,hxi⟩ := hun x hx
    exact ⟨i,by rw [List.length_append]; omega,hxi⟩
 ·intro i d hd
  have hmk := Zvj (n := 80) (t := t) (nd := Zd9 c) (p := [varN,pack,r]) (s := pN cs.length) (by rw [h1])
  obtain ⟨u',i',_,_,_,_,hnew,hold⟩ := hmk
  rw [h1] at hnew hold;simp only at hnew hold
  by_cases hi : i < cs.length
  ·rw [List.getElem?_append_left hi] at hd
   obtain ⟨num,hnum⟩ := hv.part i d hd
   refine ⟨num,?_⟩
   have := hold (pN i) [] fun e => by have := Zzr e; omega
   exact this.trans hnum
  ·have hie : i = cs.length := by
    have := (List.getElem?_eq_some_iff.1 hd).1
    rw [List.length_append,List.length_singleton] at this;omega
   subst hie
   have hdc : c = d := by simpa using hd
   subst hdc
   exact ⟨i',(hnew []).trans rfl⟩
 ·intro r' cs' hne hv'
  have off : ∀ q,goT (updT [varN,pack,r] (addF (Tn.mk (pN cs.length) (m : Int) (Zd9 c).st (Zd9 c).data [])) t) ([varN,pack,r'] ++ q) = goT t ([varN,pack,r'] ++ q) := fun q => Zvs hf1 _ _ t (fun hx => by
   have h1 := List.cons_prefix_cons.1 hx
   have h2 := List.cons_prefix_cons.1 h1.2
   have h3 := List.cons_prefix_cons.1 h2.2
   exact hne h3.1.symm) (fun hx => by
   have h1 := List.cons_prefix_cons.1 hx
   have h2 := List.cons_prefix_cons.1 h1.2
   have h3 := List.cons_prefix_cons.1 h2.2
   exact hne h3.1)
  refine ⟨?_,fun i d hd => ?_⟩
  ·obtain ⟨w,hw,hr⟩ := hv'.dir
   exact ⟨w,(off []).trans hw,hr⟩
  ·obtain ⟨num,hnum⟩ := hv'.part i d hd
   exact ⟨num,(off [pN i]).trans hnum⟩
theorem Zj1 {pack r : List UInt8} {rs : List (List UInt8)} (hp : nameOk pack) (hr : nameOk r) : ∀ (l cs : List (List UInt8)) (t : Tn) (m : Nat),AppS t m pack rs → RevS t pack r cs → m + l.length ≤ 80 → cs.length + l.length ≤ 33 → (∀ c ∈ l,c.length ≤ 512) →
  (Zez 80 [varN,pack,r] cs.length t l).1 = 0 ∧ AppS (Zez 80 [varN,pack,r] cs.length t l).2 (m + l.length) pack rs ∧ RevS (Zez 80 [varN,pack,r] cs.length t l).2 pack r (cs ++ l) ∧ ∀ r' cs',r' ≠ r → RevS t pack r' cs' → RevS (Zez 80 [varN,pack,r] cs.length t l).2 pack r' cs'
 | [],cs,t,m,h,hv,_,_,_ => by
  rw [Zez,List.append_nil];exact ⟨rfl,h,hv,fun _ _ _ h => h⟩
 | c :: l,cs,t,m,h,hv,hm,hc,hl => by
  rw [List.length_cons] at hm hc;obtain ⟨h1,h2,h3,h4⟩ := Zx4 hp hr h hv (by omega) (by omega) (hl c (List.mem_cons_self ..))
  have ih := Zj1 hp hr l (cs ++ [c]) _ _ h2 h3 (by omega) (by rw [List.length_append,List.length_singleton]; omega) fun x hx => hl x (List.mem_cons_of_mem _ hx)
  rw [List.length_append,List.length_singleton,List.append_assoc] at ih;rw [Zez,if_pos h1,List.length_cons,show m + (l.length + 1) = m + 1 + l.length by omega]
  exact ⟨ih.1,ih.2.1,ih.2.2.1,fun r' cs' hne h' => ih.2.2.2 r' cs' hne (h4 r' cs' hne h')⟩
end Cr
namespace Cr
open Go Go.Proofs
set_option maxRecDepth 100000
set_option maxHeartbeats 64000000
attribute [local irreducible] Calls

theorem Zvu (k k' : Int) (v : Value) (L : List (Int × Value)) : getM k (setM k' v L) = if k = k' then some v else getM k L := Zke k k' v L
def Seen (L : List (Int × Value)) (D : List Int) : Prop := ∀ k,(getM k L).getD (.bool false) = .bool (decide (k ∈ D))
theorem Seen.nil : Seen [] [] := fun k => by simp [getM]
theorem Seen.add {L : List (Int × Value)} {D : List Int} (h : Seen L D) (b : Int) : Seen (setM b (.bool true) L) (D ++ [b]) := fun k => by
 rw [Zvu];by_cases e : k = b
 ·rw [if_pos e]; simp [e]
 ·rw [if_neg e,h k]; simp [e]
structure Gone (A : AV) (left : List MapEntry) (D : List Int) : Prop where
 sub : ∀ k ∈ D,∃ x ∈ A,k ∈ x.2.s.blocks ∧ ¬ ∃ e ∈ left,(e.key,e.val) = (Value.int .i64 x.1,x.2.val)
 all : ∀ x ∈ A,(∀ b ∈ x.2.s.blocks,b ∈ D) ∨ ∃ e ∈ left,(e.key,e.val) = (Value.int .i64 x.1,x.2.val)
theorem Gone.start {A : AV} {es : Array MapEntry} (h : kvs es = A.vals.map (fun x => (Value.int .i64 x.1,x.2))) : Gone A es.toList [] :=
 ⟨fun _ h => by simp at h,fun x hx => .inr (by
  have hm : (Value.int .i64 x.1,x.2.val) ∈ kvs es := by
   rw [h];exact List.mem_map.2 ⟨(x.1,x.2.val),List.mem_map.2 ⟨x,hx,rfl⟩,rfl⟩
  obtain ⟨e,he,hk⟩ := List.mem_map.1 hm
  exact ⟨e,he,hk⟩)⟩
theorem Zsq {A : AV} {es : Array MapEntry} (h : kvs es = A.vals.map (fun x => (Value.int .i64 x.1,x.2))) {e : MapEntry} (he : e ∈ es.toList) : ∃ x ∈ A,e.key = Value.int .i64 x.1 ∧ e.val = x.2.val := by
 have hm : (e.key,e.val) ∈ kvs es := List.mem_map.2 ⟨e,he,rfl⟩
 rw [h] at hm;obtain ⟨y,hy,hk⟩ := List.mem_map.1 hm
 obtain ⟨x,hx,rfl⟩ := List.mem_map.1 hy
 exact ⟨x,hx,(Prod.mk.inj hk).1.symm,(Prod.mk.inj hk).2.symm⟩
theorem Z1k {A : AV} (hn : (Zas A).Nodup) {x y : Int × SV} (hx : x ∈ A) (hy : y ∈ A) (h : x.1 = y.1) : x = y := by
 have h1 := Zdr hn (show (x.1,x.2) ∈ A from hx)
 have h2 := Zdr hn (show (y.1,y.2) ∈ A from hy)
 rw [h,h2] at h1;exact Prod.ext h (Option.some.inj h1).symm
theorem Zok (A : AV) : Zas A.ents = Zas A := by simp [Zas,AV.ents]
theorem Gone.step {A : AV} {left left' : List MapEntry} {D : List Int} (h : Gone A left D) (hn : (Zas A).Nodup) {e : MapEntry} (hp : left.Perm (e :: left')) {x : Int × SV} (hx : x ∈ A) (h1 : e.key = Value.int .i64 x.1) (h2 : e.val = x.2.val)
  (hborn : ∀ e' ∈ left',¬ (e'.key = e.key)) : Gone A left' (D ++ x.2.s.blocks) := by
 refine ⟨fun k hk => ?_,fun y hy => ?_⟩
 ·rcases List.mem_append.1 hk with hk | hk
  ·obtain ⟨y,hy,hky,hne⟩ := h.sub k hk
   exact ⟨y,hy,hky,fun ⟨e',he',q⟩ => hne ⟨e',hp.symm.subset (List.mem_cons_of_mem _ he'),q⟩⟩
  ·exact ⟨x,hx,hk,fun ⟨e',he',q⟩ => hborn e' he' (by rw [h1]; exact (Prod.mk.inj q).1)⟩
 ·rcases h.all y hy with ha | ⟨e',he',q⟩
  ·exact .inl fun b hb => List.mem_append_left _ (ha b hb)
  ·rcases List.mem_cons.1 (hp.subset he') with rfl | he'
   ·left
    have : y.1 = x.1 := by
     have := (Prod.mk.inj q).1
     rw [h1] at this;exact (Value.int.inj this).2.symm
    rw [Z1k hn hy hx this];exact fun b hb => List.mem_append_right _ hb
   ·exact .inr ⟨e',he',q⟩
theorem Gone.done {A : AV} {D : List Int} (h : Gone A [] D) (k : Int) : k ∈ D ↔ k ∈ Zax A.ents := by
 constructor
 ·intro hk
  obtain ⟨x,hx,hb,_⟩ := h.sub k hk
  exact List.mem_flatMap.2 ⟨_,AV.mem_ents hx,hb⟩
 ·intro hk
  obtain ⟨y,hy,hb⟩ := List.mem_flatMap.1 hk
  obtain ⟨x,hx,rfl⟩ := List.mem_map.1 hy
  rcases h.all x hx with ha | ⟨e,he,_⟩
  ·exact ha k hb
  ·cases he
theorem Zvk {A : AV} {es : Array MapEntry} (h : kvs es = A.vals.map (fun x => (Value.int .i64 x.1,x.2))) (hn : (Zas A).Nodup) {seen : Array Nat} {e : MapEntry} {left' : List MapEntry} (hp : (Zc0 es seen).Perm (e :: left')) : ∀ e' ∈ left',¬ (e'.key = e.key) := by
 have hk : (es.toList.map (·.key)).Nodup := by
  have e1 : es.toList.map (·.key) = (kvs es).map (·.1) := by simp [kvs,Function.comp_def]
  rw [e1,h];have e2 : ((AV.vals A).map (fun x => (Value.int .i64 x.1,x.2))).map (·.1) = (Zas A).map (Value.int .i64) := by simp [AV.vals,Zas,Function.comp_def]
  rw [e2,List.Nodup,List.pairwise_map];exact hn.imp fun h e => h (Value.int.inj e).2
 have h2 : ((Zc0 es seen).map (·.key)).Nodup := hk.sublist (List.filter_sublist.map _)
 have h3 := (hp.map (·.key)).nodup_iff.1 h2
 rw [List.map_cons,List.nodup_cons] at h3;exact fun e' he' q => h3.1 (by rw [← q]; exact List.mem_map.2 ⟨e',he',rfl⟩)
def Zf7 (D : List Int) (i : Nat) : List Int := ((List.range i).map fun k => ((k : Nat) : Int)).filter fun b => decide (b ∉ D)
theorem Zqv (D : List Int) (i : Nat) : Zf7 D (i + 1) = Zf7 D i ++ if ((i : Nat) : Int) ∈ D then [] else [((i : Nat) : Int)] := by
 unfold Zf7
 rw [List.range_succ,List.map_append,List.filter_append]
 congr 1
 by_cases h : ((i : Nat) : Int) ∈ D <;> simp [h]
theorem Zvy (D : List Int) (i : Nat) : (Zf7 D i).length ≤ i := by
 unfold Zf7
 exact Nat.le_trans (List.length_filter_le ..) (by simp)
theorem Ztt {A : AV} {D : List Int} (h : Gone A [] D) (nb : Nat) : Zf7 D nb = Zgm A.ents nb := by
 unfold Zf7 Zgm
 refine List.filter_congr fun x _ => ?_
 have := h.done x
 by_cases hx : x ∈ D
 ·simp [hx,this.1 hx]
 ·have h2 : x ∉ Zax A.ents := fun h => hx (this.2 h)
  simp [hx,h2]
theorem Zj9 (k : IntKind) (L M : List Int) : ints k (L ++ M) = ints k L ++ ints k M := by simp [ints]
theorem Z48 (tp lp n r r2 p j m nb : Nat) (A : AV) (dat : List (List UInt8)) (W : World) (hT : Rd W (Zhz tp lp n r)) (hq : Rd W (qlog lp p j m dat)) (hd : dat.length = 1 + n + nb) (hm : Rd W (mapq (Value.int .i64) r2 A.vals)) (hb : ∀ x ∈ A,Rd W (row x.2.ba (ints .i64 x.2.s.blocks))) (hbl : ∀ x ∈ A,x.2.s.blocks.length ≤ 1048576) (hn : (Zas A).Nodup) :
  Calls Tryz.prog 127 #[.pointer (some ⟨tp,0,none⟩),.map (some r2)] W (Ret fun v w => ∃ a c,v = .slice a (Zgm A.ents nb).length c ∧ (Zgm A.ents nb).length ≤ c ∧ St W noF [own 3 1 a c (ints .i64 (Zgm A.ents nb))] w) := by
 have hTo := hT.ro
 have hqo := hq.ro
 have hql := (qlen hq).1
 obtain ⟨es,clock,hes,hst,hmp⟩ := hm.openMap
 have hmpo := hmp.ro
 have hbo : ∀ x ∈ A,Ro W noF (row x.2.ba (ints .i64 x.2.s.blocks)) := fun x hx => (hb x hx).ro
 have hS := St.start W
 refine Zab Tryz.func127 rfl Tryz.ntmps127 rfl ?_
 repeat (first|refine Yd1 ?_|refine Yag ?_|refine Yd2 ?_|refine Yab ?_)
 refine Zel (Value.int .i64) rfl rfl rfl hS (fun r3 w hS => ?_)
 repeat (first|refine Yd1 ?_|refine Yef ?_|refine Yd2 ?_|refine Yab ?_)
 refine Zl9 rfl rfl (hmpo.rd hS) rfl rfl hS (fun it w hS _ => ?_)
 repeat (first|refine Yac ?_|refine Yal ?_|refine Yab ?_)
 refine Zcd (α := Nat × List (Int × Value) × List Int) (fun z => [(0,.pointer (some ⟨tp,0,none⟩)),(5,.map (some z.1))]) (fun z w => Seen z.2.1 z.2.2 ∧ Gone A [] z.2.2 ∧ St W noF [mapq (Value.int .i64) z.1 z.2.1] w) ?_ ?_
 ·refine Zak (α := Array Nat × List (Int × Value) × List Int) (fun _ => [(0,.pointer (some ⟨tp,0,none⟩)),(5,.map (some r3)),(14,.pointer (some ⟨it,0,none⟩))])
   (fun z w => Seen z.2.1 z.2.2 ∧ Gone A (Zc0 es z.1) z.2.2 ∧ St W noF [pts it (.mapIter (some r2) clock z.1 clock),mapq (Value.int .i64) r3 z.2.1] w) (fun z => (Zc0 es z.1).length) (#[],[],[]) ⟨rfl,rfl,rfl,trivial⟩ ⟨Seen.nil,by rw [Zj5]; exact Gone.start hes,hS⟩ ?_
  clear hS;rintro ⟨seen,L,D⟩ w ⟨hse,hgo,hS⟩
  simp only at hse hgo hS ⊢
  repeat (first|refine Yaa ?_|refine Yd2 ?_)
  refine Zpp rfl rfl hst (hmpo.rd hS) rfl rfl hS (fun h0 => ?_) (fun e he w hS => ?_)
  ·repeat (first|refine Yd1 ?_|refine Yax ?_|refine Yae ?_|refine Ya6 ?_|refine Yai ?_|refine Yd7 ?_)
   refine Zcb (r3,L,D) ⟨rfl,rfl,trivial⟩ ⟨hse,by rw [h0] at hgo; exact hgo,hS.pick [1]⟩
  ·have hel : e ∈ es.toList := (List.mem_filter.1 he).1
   have hstep := Zlq hst he
   obtain ⟨x,hxA,hk,hv⟩ := Zsq hes hel
   have hgo2 := hgo.step hn hstep hxA hk hv (Zvk hes hn hstep)
   have hlt : (Zc0 es (seen.push e.born)).length < (Zc0 es seen).length := by rw [hstep.length_eq]; simp
   have hxl := hbl x hxA
   have hr := hbo x hxA
   repeat (first|refine Yd1 ?_|refine Yax ?_|refine Yd5 ?_|refine Yab ?_)
   refine X_yl (Zs2 rfl rfl hst hel hS.has (hmpo.rd hS).pts) rfl rfl ?_
   rw [hv];repeat (first|refine Yd1 ?_|(refine X_id ?_;first|refine Yaf ?_|refine Yan ?_|refine Yax ?_|refine Yar ?_|refine Yaq ?_|refine Yao (fun _ hS _ => ?_)|refine Yas (fun _ _ hS _ => ?_))|refine Yd4 ?_|refine Yab ?_)
   refine Zak (α := Nat × List (Int × Value)) (fun z => [(0,.pointer (some ⟨tp,0,none⟩)),(5,.map (some r3)),(14,.pointer (some ⟨it,0,none⟩)),(20,.slice x.2.ba x.2.s.blocks.length x.2.bc),(21,.int .i64 (x.2.s.blocks.length : Nat)),(22,.int .i64 (z.1 : Nat))])
    (fun z w => z.1 ≤ x.2.s.blocks.length ∧ Seen z.2 (D ++ x.2.s.blocks.take z.1) ∧ St W noF [mapq (Value.int .i64) r3 z.2,pts it (.mapIter (some r2) clock (seen.push e.born) clock)] w) (fun z => x.2.s.blocks.length - z.1) (0,L) ⟨rfl,rfl,rfl,rfl,rfl,rfl,trivial⟩ ⟨Nat.zero_le _,by simpa using hse,hS.pick [2,1]⟩ ?_
   clear hS hse;rintro ⟨i,L2⟩ w ⟨hi,hse,hS⟩
   simp only at hi hse hS ⊢
   by_cases hlt2 : i < x.2.s.blocks.length
   ·have hx0 : x.2.s.blocks[i]? = some x.2.s.blocks[i] := List.getElem?_eq_getElem hlt2
    generalize x.2.s.blocks[i] = b at hx0;have hx : (ints .i64 x.2.s.blocks)[i]? = some (.int .i64 b) := by simp [ints,hx0]
    have hbase := (hr.rd hS).base (by intro e; rw [e] at hx; simp at hx)
    obtain ⟨xb,xo,hxa⟩ := hbase
    rw [hxa] at hr ⊢;repeat (first|refine Yd1 ?_|refine Yey ?_|refine Yd5 ?_|refine Yab ?_)
    refine Zd7 rfl rfl rfl rfl rfl hS (fun w hS => ?_)
    repeat (first|refine Yd1 ?_|refine Yd6 ?_|refine Yad ?_|refine Yd9 ?_)
    refine Zaf (z := (i,L2)) (i + 1,setM b (.bool true) L2) ⟨rfl,rfl,rfl,rfl,rfl,rfl,trivial⟩ ⟨by simp only; omega,?_,hS⟩ (by simp only; omega)
    simp only
    rw [List.take_add_one,hx0];have := hse.add b
    rwa [List.append_assoc] at this
   ·obtain rfl : i = x.2.s.blocks.length := by omega
    rw [List.take_length] at hse;repeat (first|refine Yd1 ?_|refine Ya1 ?_|refine Yed ?_|refine Yab ?_|refine Ya7 ?_|refine Ya8 ?_|refine Yau ?_)
    exact Zaf (z := (seen,L,D)) (seen.push e.born,L2,D ++ x.2.s.blocks) ⟨rfl,rfl,rfl,trivial⟩ ⟨hse,hgo2,hS.pick [1,0]⟩ hlt
 ·clear hS
  rintro ⟨r3,L,D⟩ w ⟨hse,hgo,hS⟩
  simp only at hse hgo hS ⊢
  rw [← Ztt hgo nb];repeat (first|refine Yd1 ?_|refine Yef ?_|refine Yd2 ?_|refine Yab ?_)
  refine Zad _ rfl rfl rfl rfl rfl hS (Zxl tp lp n r p j m nb dat _ (hTo.rd hS) (hqo.rd hS) hd) ?_
  rintro _ w rfl hS
  repeat (first|refine Yd1 ?_|refine Yaf ?_|refine Yal ?_|refine Yab ?_)
  refine Zak (α := Nat × Option Addr × Nat) (fun z => [(5,.map (some r3)),(10,.slice z.2.1 (Zf7 D z.1).length z.2.2),(30,.int .i64 (nb : Nat)),(31,.int .i64 (z.1 : Nat))])
   (fun z w => z.1 ≤ nb ∧ (Zf7 D z.1).length ≤ z.2.2 ∧ St W noF [own 3 1 z.2.1 z.2.2 (ints .i64 (Zf7 D z.1)),mapq (Value.int .i64) r3 L] w) (fun z => nb - z.1) (0,none,0) ⟨rfl,rfl,rfl,rfl,trivial⟩ ⟨Nat.zero_le _,Nat.le_refl _,hS.own_none _ _ _⟩ ?_
  clear hS;rintro ⟨i,a,c⟩ w ⟨hi,hc,hS⟩
  simp only at hi hc hS ⊢
  have hfl := Zvy D i
  by_cases hlt : i < nb
  ·have hg := hse (i : Nat)
   have hsu := Zqv D i
   by_cases hin : ((i : Nat) : Int) ∈ D
   ·rw [decide_eq_true hin] at hg
    rw [if_pos hin,List.append_nil] at hsu;repeat (first|refine Yd1 ?_|refine Yaf ?_|refine Yag ?_|refine Ya0 ?_|refine Yd5 ?_|refine Yab ?_)
    refine X_yl (Zhr (mk := Value.int .i64) (L := L) (k := ((i : Nat) : Int)) rfl rfl rfl ((hS.rd (by simp)).mapq_r)) rfl rfl ?_
    rw [hg];repeat (first|refine Yd1 ?_|refine Yaf ?_|refine Ybb ?_|refine Yaw ?_|refine Yes ?_|refine Yd9 ?_)
    refine Zaf (z := (i,a,c)) (i + 1,a,c) ⟨rfl,?_,rfl,rfl,trivial⟩ ⟨by simp only; omega,by simp only; rw [hsu]; exact hc,?_⟩ (by simp only; omega)
    ·simp only; rw [hsu]; rfl
    ·simp only; rw [hsu]; exact hS
   ·rw [decide_eq_false hin] at hg
    rw [if_neg hin] at hsu;repeat (first|refine Yd1 ?_|refine Yaf ?_|refine Yag ?_|refine Ya0 ?_|refine Yd5 ?_|refine Yab ?_)
    refine X_yl (Zhr (mk := Value.int .i64) (L := L) (k := ((i : Nat) : Int)) rfl rfl rfl ((hS.rd (by simp)).mapq_r)) rfl rfl ?_
    rw [hg];repeat (first|refine Yd1 ?_|refine Yaf ?_|refine Ybn ?_|refine Ybi (fun _ _ hS _ => ?_)|refine Yad ?_|refine Yaj ?_|refine Yab ?_)
    refine Zar (m := 1) rfl rfl rfl rfl rfl hS (by simp [ints_length]) hc ((hS.rd (List.mem_cons_self ..)).own_row) (by simp) (by simp [Value.oneCell']) (by omega) (by simp only [maxLen]; omega) (fun a' c' w hS hc' _ => ?_)
    repeat (first|refine Yd1 ?_|refine Yeg ?_|refine Yad ?_|refine Yd9 ?_)
    refine Zaf (z := (i,a,c)) (i + 1,a',c') ⟨rfl,?_,rfl,rfl,trivial⟩ ⟨by simp only; omega,by simp only; rw [hsu]; simpa using hc',?_⟩ (by simp only; omega)
    ·simp only; rw [hsu,List.length_append]; rfl
    ·simp only; rw [hsu,Zj9]; have h := hS.pick [0,1]; exact h
  ·obtain rfl : i = nb := by omega
   repeat (first|refine Yd1 ?_|refine Ye2 ?_|refine Yea ?_|refine Ye3 ?_)
   exact ⟨a,c,rfl,hc,hS.pick [0]⟩
section
variable {rd fs : List Int} {tp lp p j m n nb : Nat} {T : Tb}
end
structure ChgA where
 c : Chg
 a : Option Addr
 k : Nat
abbrev ChgA.cells (x : ChgA) : List Value := [.int .i64 x.c.no,.int .i64 x.c.nd.st.kind,.int .i64 x.c.nd.st.mode,.int .i64 x.c.nd.st.owner,.int .i64 x.c.nd.st.group,.slice x.a x.c.nd.data.length x.k,.bool x.c.drop]
structure Chgs (W : World) (F : Nat → Prop) (a : Option Addr) (l : List ChgA) : Prop where
 row : Ro W F (row a (l.flatMap ChgA.cells))
 all : ∀ x ∈ l,Ro W F (bytes x.a x.c.nd.data)
theorem Chgs.mono {W w : World} {F F' : Nat → Prop} {a : Option Addr} {l : List ChgA} (h : Chgs W F a l) (hw : ∀ r,Ro W F r → Ro w F' r) : Chgs w F' a l := ⟨hw _ h.row,fun x hx => hw _ (h.all x hx)⟩
theorem Zic {l : List ChgA} {i : Nat} {x : ChgA} (h : l[i]? = some x) : ((l.flatMap ChgA.cells).drop (i * 7)).take 7 = x.cells := Zdt (f := ChgA.cells) (fun _ _ => rfl) h
theorem Zwd (x : ChgA) (b : Nat) (cs : List Value) (no : Int) (T : TypeId) (hno : cs[0]? = some (.int .i64 no)) (W : World) (hb : Rd W (pts b (.cells cs.toArray T))) :
  Calls Tryz.prog 171 #[.agg (ChgA.cells x).toArray,.pointer (some ⟨b,0,none⟩)] W (Ret fun v w => v = .bool (decide (x.c.no = no)) ∧ St W noF [] w) := by
 have hbo := hb.ro
 have hS := St.start W
 refine Zab Tryz.func171 rfl Tryz.ntmps171 rfl ?_
 repeat (first|refine Yd1 ?_|refine Yag ?_|refine Yan ?_|refine Yaq ?_|refine Ybc (fun _ _ hS _ => ?_)|refine Yd2 ?_|refine Yab ?_)
 refine X_yl (Zaw rfl rfl ((cell_of_row _ b 0 cs.toArray T (0,0) (hbo.rd hS).pts).trans (by simpa using hno))) rfl rfl ?_
 repeat (first|refine Yd1 ?_|refine Yag ?_|refine Ycq ?_|refine Yah ?_|refine Yd3 ?_)
 exact ⟨rfl,hS.drops⟩
theorem Zts (a : Option Addr) (i c b : Nat) (l : List ChgA) (cs : List Value) (no : Int) (T : TypeId) (hno : cs[0]? = some (.int .i64 no)) (W : World) (hr0 : Rd W (row a (l.flatMap ChgA.cells))) (hb : Rd W (pts b (.cells cs.toArray T))) (hi : i ≤ l.length) (hl : l.length ≤ 1048576) :
  Calls Tryz.prog 204 #[.slice a i c,.func (.func 171) #[] #[.pointer (some ⟨b,0,none⟩)]] W (Ret fun v w => (∃ z : Int,v = .int .i64 z ∧ (0 ≤ z ↔ no ∈ (l.take i).map (·.c.no)) ∧ -1 ≤ z) ∧ St W noF [] w) := by
 have hbo := hb.ro
 have hr1 := hr0.ro
 have hS := St.start W
 refine Zab Tryz.func204 rfl Tryz.ntmps204 rfl ?_
 repeat (first|refine Yd1 ?_|refine Ye1 ?_|refine Yd4 ?_|refine Yab ?_)
 refine Zak (α := Nat) (fun k => [(0,.slice a i c),(1,.func (.func 171) #[] #[.pointer (some ⟨b,0,none⟩)]),(7,.int .i64 (i : Nat)),(8,.int .i64 (k : Nat))])
  (fun k w => k ≤ i ∧ (no ∉ (l.take k).map (·.c.no)) ∧ St W noF [] w) (fun k => i - k) 0 ⟨rfl,rfl,rfl,rfl,trivial⟩ ⟨Nat.zero_le _,by simp,hS⟩ ?_
 clear hS;rintro k w ⟨hk,hne,hS⟩
 by_cases hlt : k < i
 ·have hx0 : l[k]? = some l[k] := List.getElem?_eq_getElem (by omega)
  generalize l[k] = x at hx0;have hr := hr1
  have hxs : ((l.flatMap ChgA.cells).drop (k * 7)).take 7 = [.int .i64 x.c.no,.int .i64 x.c.nd.st.kind,.int .i64 x.c.nd.st.mode,.int .i64 x.c.nd.st.owner,.int .i64 x.c.nd.st.group,.slice x.a x.c.nd.data.length x.k,.bool x.c.drop] := Zic hx0
  obtain ⟨xb,xo,rfl⟩ := (hr.rd hS).base (by intro e; rw [e] at hxs; simp at hxs)
  have htk : (l.take (k + 1)).map (·.c.no) = (l.take k).map (·.c.no) ++ [x.c.no] := by rw [List.take_add_one,hx0]; simp
  by_cases hq : x.c.no = no
  ·have hc1 := fun w h => Zwd x b cs no T hno w h
   rw [decide_eq_true hq] at hc1;repeat (first|refine Yd1 ?_|(refine X_id ?_;first|refine Yaf ?_|refine Yag ?_|refine Ya0 ?_|refine Ybd ?_|refine Ybp ?_)|refine Yd5 ?_|refine Yab ?_)
   refine Zca (first := []) (captured := [.pointer (some ⟨b,0,none⟩)]) rfl rfl rfl rfl rfl (hc1 _ (hbo.rd hS)) ?_
   rintro _ w' ⟨rfl,hS'⟩
   replace hS := hS.plus hS';clear hS';repeat (first|refine Yd1 ?_|refine Yef ?_|refine Yei ?_|refine Yem ?_)
   refine ⟨⟨(k : Nat),rfl,⟨fun _ => ?_,fun _ => by omega⟩,by omega⟩,hS⟩
   have : no ∈ (l.take (k + 1)).map (·.c.no) := by rw [htk,hq]; simp
   exact (List.Sublist.map _ (List.take_sublist_take_left (by omega))).subset this
  ·have hc1 := fun w h => Zwd x b cs no T hno w h
   rw [decide_eq_false hq] at hc1;repeat (first|refine Yd1 ?_|(refine X_id ?_;first|refine Yaf ?_|refine Yag ?_|refine Ya0 ?_|refine Ybd ?_|refine Ybp ?_)|refine Yd5 ?_|refine Yab ?_)
   refine Zca (first := []) (captured := [.pointer (some ⟨b,0,none⟩)]) rfl rfl rfl rfl rfl (hc1 _ (hbo.rd hS)) ?_
   rintro _ w' ⟨rfl,hS'⟩
   replace hS := hS.plus hS';clear hS';repeat (first|refine Yd1 ?_|refine Yd6 ?_|refine Yes ?_|refine Yd9 ?_)
   refine Zaf (k + 1) ⟨rfl,rfl,rfl,rfl,trivial⟩ ⟨by omega,?_,hS⟩ (by omega)
   rw [htk];simp only [List.mem_append,List.mem_singleton,not_or]
   exact ⟨hne,fun e => hq e.symm⟩
 ·obtain rfl : k = i := by omega
  repeat (first|refine Yd1 ?_|refine Yag ?_|refine Ya1 ?_|refine Yea ?_|refine Ye3 ?_)
  exact ⟨⟨-1,rfl,⟨fun h => by omega,fun h => absurd h hne⟩,by omega⟩,hS⟩
theorem Zhl (a : Option Addr) (i c b : Nat) (l : List ChgA) (cs : List Value) (no : Int) (T : TypeId) (hno : cs[0]? = some (.int .i64 no)) (W : World) (hr0 : Rd W (row a (l.flatMap ChgA.cells))) (hb : Rd W (pts b (.cells cs.toArray T))) (hi : i ≤ l.length) (hl : l.length ≤ 1048576) :
  Calls Tryz.prog 170 #[.slice a i c,.func (.func 171) #[] #[.pointer (some ⟨b,0,none⟩)]] W (Ret fun v w => v = .bool (decide (no ∈ (l.take i).map (·.c.no))) ∧ St W noF [] w) := by
 have hS := St.start W
 refine Zab Tryz.func170 rfl Tryz.ntmps170 rfl ?_
 repeat (first|refine Yd1 ?_|refine Yef ?_|refine Yd2 ?_|refine Yab ?_)
 refine Zaa _ rfl rfl rfl rfl rfl (Zts a i c b l cs no T hno _ hr0 hb hi hl) ?_
 rintro _ w ⟨⟨z,rfl,hz,hz1⟩,hS'⟩
 replace hS := hS.plus hS';clear hS';repeat (first|refine Yd1 ?_|(refine X_id ?_;first|refine Yag ?_|refine X_yl (Zs1 rfl rfl rfl) rfl rfl ?_)|refine Yah ?_|refine Yd3 ?_)
 refine ⟨?_,hS⟩
 simp [hz]
theorem Z11 (tp lp n r : Nat) (a : Option Addr) (c : Nat) (l : List ChgA) (W : World) (hT : Rd W (Zhz tp lp n r)) (hC : Chgs W noF a l) (hl : l.length ≤ 1048576) (hc : l.length ≤ c) (_ : n ≤ 1048576) :
  Calls Tryz.prog 125 #[.pointer (some ⟨tp,0,none⟩),.slice a l.length c] W (Ret fun v w => v = .int .i64 (Zek (l.map ChgA.c) n) ∧ St W noF [] w) := by
 have hTo := hT.ro
 have hS := St.start W
 obtain ⟨cl,hcl⟩ : ∃ cl,cl = l.map ChgA.c := ⟨_,rfl⟩
 have hget : ∀ {i : Nat} {x : ChgA},l[i]? = some x → cl[i]? = some x.c := fun {i x} h => by rw [hcl]; simp [h]
 rw [← hcl];refine Zab Tryz.func125 rfl Tryz.ntmps125 rfl ?_
 repeat (first|refine Yd1 ?_|refine Ye1 ?_|refine Yd4 ?_|refine Yab ?_)
 refine Zcd (α := Unit) (fun _ => [(0,.pointer (some ⟨tp,0,none⟩)),(1,.slice a l.length c)]) (fun _ w => (∀ x ∈ cl,0 ≤ x.no ∧ x.no < n) ∧ St W noF [] w) ?_ ?_
 ·refine Zak (α := Nat) (fun i => [(0,.pointer (some ⟨tp,0,none⟩)),(1,.slice a l.length c),(12,.slice a l.length c),(13,.int .i64 (l.length : Nat)),(14,.int .i64 (i : Nat))])
   (fun i w => i ≤ l.length ∧ (∀ x ∈ cl.take i,0 ≤ x.no ∧ x.no < n) ∧ St W noF [] w) (fun i => l.length - i) 0 ⟨rfl,rfl,rfl,rfl,rfl,trivial⟩ ⟨Nat.zero_le _,by simp,hS⟩ ?_
  clear hS;rintro i w ⟨hi,hall,hS⟩
  by_cases hlt : i < l.length
  ·have hx0 : l[i]? = some l[i] := List.getElem?_eq_getElem (by omega)
   generalize l[i] = x at hx0;have hr := hC.row
   have hxs : ((l.flatMap ChgA.cells).drop (i * 7)).take 7 = [.int .i64 x.c.no,.int .i64 x.c.nd.st.kind,.int .i64 x.c.nd.st.mode,.int .i64 x.c.nd.st.owner,.int .i64 x.c.nd.st.group,.slice x.a x.c.nd.data.length x.k,.bool x.c.drop] := Zic hx0
   obtain ⟨xb,xo,hxa⟩ := (hr.rd hS).base (by intro e; rw [e] at hxs; simp at hxs)
   rw [hxa] at hr ⊢;have hgx := hget hx0
   have hbad : (¬ (0 ≤ x.c.no ∧ x.c.no < n)) → Zek cl n = 1 := fun h => by
    unfold Zek
    rw [if_pos];refine List.any_eq_true.2 ⟨x.c,List.mem_of_getElem? hgx,?_⟩
    simp; omega
   have htk : cl.take (i + 1) = cl.take i ++ [x.c] := by rw [List.take_add_one,hgx]; rfl
   by_cases h0 : x.c.no < 0
   ·rw [hbad (by omega)]
    repeat (first|refine Yd1 ?_|(refine X_id ?_;first|refine Ya0 ?_|refine Ybd ?_|refine Ybp ?_|refine Yao (fun _ hS _ => ?_)|refine Yas (fun _ _ hS _ => ?_))|refine Yd5 ?_|refine Yab ?_)
    refine Zaq (.s 0 (.s 1 (.s 2 (.s 3 (.s 4 (.s 5 (.s 6 (.s 7 (.s 8 (.s 9 (.s 10 (.s 11 .nil)))))))))))) mixed (by kernel_rfl) rfl ?_
    have hS := hS.drew
    have hc := hTo
    repeat (first|refine Yd1 ?_|refine Yag ?_|refine Yei ?_|refine Yem ?_|(refine Zae ?_;first|refine Ya2 ?_|refine Ya4 ?_|refine Ybk ?_|refine Ycg ?_|refine Zah rfl rfl (fun _ => Znf rfl rfl rfl (by omega)) rfl rfl ?_|refine Ybm ?_|refine Ycf ?_))
    exact ⟨rfl,hS.drops⟩
   ·by_cases h1 : (n : Int) ≤ x.c.no
    ·rw [hbad (by omega)]
     repeat (first|refine Yd1 ?_|(refine X_id ?_;first|refine Ya0 ?_|refine Ybd ?_|refine Ybp ?_|refine Yao (fun _ hS _ => ?_)|refine Yas (fun _ _ hS _ => ?_))|refine Yd5 ?_|refine Yab ?_)
     refine Zaq (.s 0 (.s 1 (.s 2 (.s 3 (.s 4 (.s 5 (.s 6 (.s 7 (.s 8 (.s 9 (.s 10 (.s 11 .nil)))))))))))) mixed (by kernel_rfl) rfl ?_
     have hS := hS.drew
     have hc := hTo
     repeat (first|refine Yd1 ?_|refine Yag ?_|refine Yei ?_|refine Yem ?_|(refine Zae ?_;first|refine Ya2 ?_|refine Ya4 ?_|refine Ybk ?_|refine Yca ?_|refine Zah rfl rfl (fun _ => Zjc rfl rfl rfl (by omega)) rfl rfl ?_|refine Ybm ?_|refine Ycb ?_|refine Ycy ?_|refine Ycr ?_|refine Zb4 rfl rfl rfl rfl (fun _ => Zje rfl rfl rfl (by omega)) rfl rfl ?_|refine Ycz ?_|refine Ydw ?_))
     exact ⟨rfl,hS.drops⟩
    ·repeat (first|refine Yd1 ?_|(refine X_id ?_;first|refine Ya0 ?_|refine Ybd ?_|refine Ybp ?_|refine Yao (fun _ hS _ => ?_)|refine Yas (fun _ _ hS _ => ?_))|refine Yd5 ?_|refine Yab ?_)
     refine Zaq (.s 0 (.s 1 (.s 2 (.s 3 (.s 4 (.s 5 (.s 6 (.s 7 (.s 8 (.s 9 (.s 10 (.s 11 .nil)))))))))))) mixed (by kernel_rfl) rfl ?_
     have hS := hS.drew
     have hc := hTo
     repeat (first|refine Yd1 ?_|refine Yd6 ?_|refine Yes ?_|refine Yd9 ?_|(refine Zae ?_;first|refine Ya2 ?_|refine Ya4 ?_|refine Ybk ?_|refine Yca ?_|refine Zah rfl rfl (fun _ => Zjc rfl rfl rfl (by omega)) rfl rfl ?_|refine Ybm ?_|refine Ycb ?_|refine Ycy ?_|refine Ycr ?_|refine Zb4 rfl rfl rfl rfl (fun _ => Zni rfl rfl rfl (by omega)) rfl rfl ?_|refine Ycz ?_|refine Ydw ?_))
     refine Zaf (i + 1) ⟨rfl,rfl,rfl,rfl,rfl,trivial⟩ ⟨by omega,?_,hS.drops⟩ (by omega)
     rw [htk];intro y hy
     rcases List.mem_append.1 hy with hy | hy
     ·exact hall y hy
     ·rw [List.mem_singleton] at hy; rw [hy]; omega
  ·obtain rfl : i = l.length := by omega
   rw [List.take_of_length_le (by rw [hcl]; simp)] at hall
   repeat (first|refine Yd1 ?_|refine Ya1 ?_|refine Yed ?_|refine Yd7 ?_)
   exact Zcb () ⟨rfl,rfl,trivial⟩ ⟨hall,hS⟩
 clear hS;rintro _ w ⟨hall,hS⟩
 have hany : ¬ (cl.any (fun c => decide (c.no < 0) || decide ((n : Int) ≤ c.no)) = true) := fun h => by
  obtain ⟨x,hx,hb⟩ := List.any_eq_true.1 h
  have := hall x hx
  simp at hb
  omega
 repeat (first|refine Yd1 ?_|refine Yaf ?_|refine Yar ?_|refine Yd4 ?_|refine Yab ?_)
 have hcll : cl.length = l.length := by rw [hcl]; simp
 obtain ⟨tl,htl⟩ : ∃ tl : List (Int × List UInt8),tl = cl.map fun c => (c.no,[]) := ⟨_,rfl⟩
 have htll : tl.length = l.length := by rw [htl]; simp [hcll]
 have htwC : Zlb cl = Zbc tl l.length := by unfold Zlb; rw [← htl,hcll]
 have hmn : ∀ i,(tl.take i).map (·.1) = (l.take i).map (·.c.no) := fun i => by rw [htl,hcl]; simp [List.map_take,Function.comp_def]
 refine Zcd (α := Unit) (fun _ => [(0,.pointer (some ⟨tp,0,none⟩)),(1,.slice a l.length c)]) (fun _ w => Zlb cl = false ∧ St W noF [] w) ?_ ?_
 ·refine Zak (α := Nat) (fun i => [(0,.pointer (some ⟨tp,0,none⟩)),(1,.slice a l.length c),(31,.slice a l.length c),(32,.int .i64 (l.length : Nat)),(33,.int .i64 (i : Nat))])
   (fun i w => i ≤ l.length ∧ Zbc tl i = false ∧ St W noF [] w) (fun i => l.length - i) 0 ⟨rfl,rfl,rfl,rfl,rfl,trivial⟩ ⟨Nat.zero_le _,rfl,hS⟩ ?_
  clear hS;rintro i w ⟨hi,htw,hS⟩
  by_cases hlt : i < l.length
  ·have hx0 : l[i]? = some l[i] := List.getElem?_eq_getElem (by omega)
   generalize l[i] = x at hx0;have hr := hC.row
   have hxs : ((l.flatMap ChgA.cells).drop (i * 7)).take 7 = [.int .i64 x.c.no,.int .i64 x.c.nd.st.kind,.int .i64 x.c.nd.st.mode,.int .i64 x.c.nd.st.owner,.int .i64 x.c.nd.st.group,.slice x.a x.c.nd.data.length x.k,.bool x.c.drop] := Zic hx0
   have hgi : (tl.getD i (0,[])).1 = x.c.no := by rw [List.getD_eq_getElem?_getD,htl,List.getElem?_map,hget hx0]; rfl
   have hts : Zbc tl (i + 1) = (Zbc tl i || decide (x.c.no ∈ (l.take i).map (·.c.no))) := by rw [Zbc,hgi,hmn]
   obtain ⟨xb,xo,hxa⟩ := (hr.rd hS).base (by intro e; rw [e] at hxs; simp at hxs)
   rw [hxa] at hr ⊢;by_cases hq : x.c.no ∈ (l.take i).map (·.c.no)
   ·have hcc := fun w b cs T h1 h2 h3 => Zhl (some ⟨xb,xo,none⟩) i c b l cs x.c.no T h1 w h2 h3 (by omega) hl
    rw [decide_eq_true hq] at hcc hts;have hone : Zek cl n = 8 := by
     unfold Zek
     rw [if_neg hany,if_pos];rw [htwC];cases hb : Zbc tl l.length
     ·exfalso
      have h1 := (Zdl tl l.length (by omega)).1 hb
      have h2 := (Zdl tl (i + 1) (by omega)).2 (h1.sublist ((List.take_sublist_take_left (by omega)).map _))
      rw [hts] at h2;simp at h2
     ·rfl
    rw [hone];repeat (first|refine Yd1 ?_|(refine X_id ?_;first|refine Yaf ?_|refine Yag ?_|refine Ya0 ?_|refine Ybd ?_|refine Ybp ?_|refine Yao (fun _ hS _ => ?_)|refine Yas (fun _ _ hS _ => ?_))|refine Yd5 ?_|refine Yab ?_)
    refine X_yl (Zam (l := 0) (h := i) rfl rfl rfl rfl (.inr ⟨_,_,rfl,by omega,by omega,by omega⟩) (.inl ⟨rfl,rfl⟩)) rfl rfl ?_
    rw [sub_zero];repeat (first|refine Yaa ?_|refine Ycd ?_)
    rename_i b8 _ _ _ _ _;refine Zad _ rfl rfl rfl rfl rfl hS (hcc _ b8 [.int .i64 x.c.no,.int .i64 x.c.nd.st.kind,.int .i64 x.c.nd.st.mode,.int .i64 x.c.nd.st.owner,.int .i64 x.c.nd.st.group,.slice x.a x.c.nd.data.length x.k,.bool x.c.drop] _ rfl (hr.rd hS) (hS.rd (List.mem_cons_self ..))) ?_
    rintro _ w rfl hS
    repeat (first|refine Yd1 ?_|refine Yag ?_|refine Yei ?_|refine Yem ?_)
    exact ⟨rfl,hS.drops⟩
   ·have hcc := fun w b cs T h1 h2 h3 => Zhl (some ⟨xb,xo,none⟩) i c b l cs x.c.no T h1 w h2 h3 (by omega) hl
    rw [decide_eq_false hq] at hcc hts;repeat (first|refine Yd1 ?_|(refine X_id ?_;first|refine Yaf ?_|refine Yag ?_|refine Ya0 ?_|refine Ybd ?_|refine Ybp ?_|refine Yao (fun _ hS _ => ?_)|refine Yas (fun _ _ hS _ => ?_))|refine Yd5 ?_|refine Yab ?_)
    refine X_yl (Zam (l := 0) (h := i) rfl rfl rfl rfl (.inr ⟨_,_,rfl,by omega,by omega,by omega⟩) (.inl ⟨rfl,rfl⟩)) rfl rfl ?_
    rw [sub_zero];repeat (first|refine Yaa ?_|refine Ycd ?_)
    rename_i b8 _ _ _ _ _;refine Zad _ rfl rfl rfl rfl rfl hS (hcc _ b8 [.int .i64 x.c.no,.int .i64 x.c.nd.st.kind,.int .i64 x.c.nd.st.mode,.int .i64 x.c.nd.st.owner,.int .i64 x.c.nd.st.group,.slice x.a x.c.nd.data.length x.k,.bool x.c.drop] _ rfl (hr.rd hS) (hS.rd (List.mem_cons_self ..))) ?_
    rintro _ w rfl hS
    repeat (first|refine Yd1 ?_|refine Yd6 ?_|refine Yes ?_|refine Yd9 ?_)
    exact Zaf (i + 1) ⟨rfl,rfl,rfl,rfl,rfl,trivial⟩ ⟨by omega,by rw [hts,htw]; rfl,hS.drops⟩ (by omega)
  ·obtain rfl : i = l.length := by omega
   repeat (first|refine Yd1 ?_|refine Ya1 ?_|refine Yed ?_|refine Yd7 ?_)
   exact Zcb () ⟨rfl,rfl,trivial⟩ ⟨by rw [htwC]; exact htw,hS⟩
 clear hS;rintro _ w ⟨htw,hS⟩
 have hcc : Zek cl n = badC cl := by unfold Zek; rw [if_neg hany,if_neg (by simp [htw])]
 rw [hcc];repeat (first|refine Yd1 ?_|refine Yaf ?_|refine Yar ?_|refine Yd4 ?_|refine Yab ?_)
 refine Zak (α := Nat) (fun i => [(0,.pointer (some ⟨tp,0,none⟩)),(1,.slice a l.length c),(44,.slice a l.length c),(45,.int .i64 (l.length : Nat)),(46,.int .i64 (i : Nat))])
  (fun i w => i ≤ l.length ∧ badC cl = badC (cl.drop i) ∧ St W noF [] w) (fun i => l.length - i) 0 ⟨rfl,rfl,rfl,rfl,rfl,trivial⟩ ⟨Nat.zero_le _,rfl,hS⟩ ?_
 clear hS;rintro i w ⟨hi,hbe,hS⟩
 by_cases hlt : i < l.length
 ·have hx0 : l[i]? = some l[i] := List.getElem?_eq_getElem (by omega)
  generalize l[i] = x at hx0;have hr := hC.row
  have hxs : ((l.flatMap ChgA.cells).drop (i * 7)).take 7 = [.int .i64 x.c.no,.int .i64 x.c.nd.st.kind,.int .i64 x.c.nd.st.mode,.int .i64 x.c.nd.st.owner,.int .i64 x.c.nd.st.group,.slice x.a x.c.nd.data.length x.k,.bool x.c.drop] := Zic hx0
  have hdr : cl.drop i = x.c :: cl.drop (i + 1) := (List.drop_eq_getElem?_toList_append (l := cl) (i := i)).trans (by rw [hget hx0]; rfl)
  obtain ⟨xb,xo,hxa⟩ := (hr.rd hS).base (by intro e; rw [e] at hxs; simp at hxs)
  rw [hxa] at hr ⊢;cases hdp : x.c.drop
  ·have hb2 : badC cl = if ¬ x.c.nd.st.check = 0 then x.c.nd.st.check else if 512 < x.c.nd.data.length then 2 else badC (cl.drop (i + 1)) := by rw [hbe,hdr,badC,if_neg (by simp [hdp])]
   rw [hdp] at hxs;have hck := Zqk x.c.nd.st
   by_cases hst : x.c.nd.st.check = 0
   ·rw [if_neg (by simp [hst])] at hb2
    rw [hst] at hck;by_cases h5 : 512 < x.c.nd.data.length
    ·rw [hb2,if_pos h5]
     repeat (first|refine Yd1 ?_|(refine X_id ?_;first|(refine Zad 88 rfl rfl rfl rfl rfl hS (hck _) ?_;rintro _ _ rfl hS)|refine Yaf ?_|refine Yag ?_|refine Yan ?_|refine Yby ?_|refine Yar ?_|refine Ya5 ?_|refine Ya0 ?_|refine Ybv ?_|refine Ybd ?_|refine Yaq ?_|refine Ybh ?_|refine Ybp ?_|refine Yao (fun _ hS _ => ?_)|refine Yas (fun _ _ hS _ => ?_))|refine Ye9 ?_|refine Yem ?_)
     exact ⟨rfl,hS.drops⟩
    ·rw [if_neg h5] at hb2
     repeat (first|refine Yd1 ?_|(refine X_id ?_;first|(refine Zad 88 rfl rfl rfl rfl rfl hS (hck _) ?_;rintro _ _ rfl hS)|refine Yaf ?_|refine Yag ?_|refine Yan ?_|refine Yby ?_|refine Yar ?_|refine Ya5 ?_|refine Ya0 ?_|refine Ybq ?_|refine Ybd ?_|refine Yaw ?_|refine Yaq ?_|refine Ybh ?_|refine Ybp ?_|refine Yao (fun _ hS _ => ?_)|refine Yas (fun _ _ hS _ => ?_))|refine Yd8 ?_|refine Yd9 ?_)
     exact Zaf (i + 1) ⟨rfl,rfl,rfl,rfl,rfl,trivial⟩ ⟨by omega,hb2,hS.drops⟩ (by omega)
   ·rw [if_pos hst] at hb2
    rw [hb2];repeat (first|refine Yd1 ?_|(refine X_id ?_;first|(refine Zad 88 rfl rfl rfl rfl rfl hS (hck _) ?_;rintro _ _ rfl hS)|refine Yaf ?_|refine Yag ?_|refine Yan ?_|refine Yby ?_|refine Ybj ?_|refine Ya0 ?_|refine Ybd ?_|refine Yaq ?_|refine Ybh ?_|refine Ybp ?_|refine Yao (fun _ hS _ => ?_)|refine Yas (fun _ _ hS _ => ?_))|refine Ye9 ?_|refine Yem ?_)
    exact ⟨rfl,hS.drops⟩
  ·have hb2 : badC cl = badC (cl.drop (i + 1)) := by rw [hbe,hdr,badC,if_pos hdp]
   rw [hdp] at hxs;repeat (first|refine Yd1 ?_|(refine X_id ?_;first|refine Yaf ?_|refine Yan ?_|refine Ya0 ?_|refine Ybd ?_|refine Yaw ?_|refine Yaq ?_|refine Ybp ?_|refine Yao (fun _ hS _ => ?_)|refine Yas (fun _ _ hS _ => ?_))|refine Yae ?_|refine Yad ?_|refine Yal ?_|refine Yak ?_|refine Ya6 ?_|refine Yaj ?_|refine Yd7 ?_)
   exact Zaf (i + 1) ⟨rfl,rfl,rfl,rfl,rfl,trivial⟩ ⟨by omega,hb2,hS.drops⟩ (by omega)
 ·obtain rfl : i = l.length := by omega
  have hb2 : badC cl = 0 := by rw [hbe,List.drop_eq_nil_of_le (by omega)]; rfl
  rw [hb2];repeat (first|refine Yd1 ?_|refine Yag ?_|refine Ya1 ?_|refine Yea ?_|refine Ye3 ?_)
  exact ⟨rfl,hS⟩
theorem Zpn {P : Program} {o : Oper} {σ : Env} {w : World} {x : Operand} {t xT k e : TypeId} {v : Value} (ho : o.op = .typeAssert x xT t false) (hx : ev σ x = some (.iface t v)) [h : Und P t (.map k e)] : Yl P o σ w v := ⟨fun N ds f ha => by
 have := run_typeAssert_map_sl (P := P) w t xT k e v h.und
 simp [execOp,ho,ha.eval hx,this]⟩
instance : EClone Tryz.prog 172 := ⟨fun {t r es clock w} hb => by
 rw [run_callFunc_extern Tryz.func172 (by kernel_rfl) (by kernel_rfl) (by kernel_rfl) (e := Extern.MapsClone.clone) (by kernel_rfl),run_maps_clone_sl w t hb]
 rfl⟩
theorem Z1h (r : Nat) (L : List (Int × Value)) (W : World) (h : Rd W (mapq (Value.int .i64) r L)) :
  Calls Tryz.prog 126 #[.map (some r)] W (Ret fun v w => ∃ r2,v = .map (some r2) ∧ St W noF [mapq (Value.int .i64) r2 L] w) := by
 obtain ⟨es,clock,hes,hst,hmp⟩ := h.openMap
 have hb := hmp.pts
 have hS := St.start W
 refine Zab Tryz.func126 rfl Tryz.ntmps126 rfl ?_
 repeat (first|refine Yd1 ?_|refine Yef ?_|refine Yd2 ?_|refine Yab ?_)
 refine X_yl (Zpl rfl rfl rfl) rfl rfl ?_
 repeat (first|refine Yd1 ?_|refine Yaf ?_|refine Yec ?_|refine Yab ?_)
 refine X_yl (Zpg rfl rfl (fun w => by simp [Instr.makeInterface,run_underlying Tryz.underlying159])) rfl rfl ?_
 repeat (first|refine Yaa ?_)
 refine Znl rfl rfl rfl (EClone.run hb) rfl rfl ?_
 have hS := (hS.alloc (.map es clock)).head fun h hh => (⟨es,clock,hes,hst,hh⟩ : mapq (Value.int .i64) W.heap.size L h)
 repeat (first|refine Yaa ?_)
 refine X_yl (Zpn rfl rfl) rfl rfl ?_
 repeat (first|refine Yd1 ?_|refine Yag ?_|refine Yah ?_|refine Yd3 ?_)
 exact ⟨_,rfl,hS⟩
abbrev putW (no : Int) (q : Nat) (s : List UInt8) : Wr := ⟨no,⟨some ⟨q,0,none⟩,64,Zcq s⟩⟩
theorem put_ (t10 : Nat) (aw : Option Addr) (cw : Nat) (ws : List Wr) (no : Int) (ba : Option Addr) (bc : Nat) (s : List UInt8) (W : World) (F : Nat → Prop) (hb : Ro W F (bytes ba s)) (hcw : ws.length ≤ cw) (hl : ws.length ≤ 1048576)
  (hS : St W F [pts t10 (.cells #[.slice aw ws.length cw] 227),own 158 2 aw cw (ws.flatMap Wr.cells)] W) :
  Calls Tryz.prog 128 #[.int .i64 no,.slice ba s.length bc,.pointer (some ⟨t10,0,none⟩)] W (Ret fun v w => v = .tuple #[] ∧ ∃ aw' cw' q,ws.length + 1 ≤ cw' ∧
   St W F [pts t10 (.cells #[.slice aw' (ws.length + 1) cw'] 227),own 158 2 aw' cw' ((ws ++ [putW no q s]).flatMap Wr.cells),bytes (some ⟨q,0,none⟩) (Zcq s)] w) := by
 refine Zab Tryz.func128 rfl Tryz.ntmps128 rfl ?_
 repeat (first|fail)
 refine Zaq (.s 0 (.s 1 (.s 2 (.h 3 (.s 4 (.h 5 (.h 6 (.h 7 .nil .no) .no) .no)) .no)))) mixed (by kernel_rfl) rfl ?_
 have hS := hS.drew
 repeat (first|(refine Zae ?_;first|refine Ya4 ?_|refine Ybm ?_|refine Yay ?_))
 refine Zaa _ rfl rfl rfl rfl rfl (Zm0 ba bc s _ (hb.rd hS)) ?_
 rintro _ w ⟨q,rfl,hS'⟩
 replace hS := hS.plus hS';clear hS';repeat (first|refine Ybi (fun _ _ hS _ => ?_)|(refine Zae ?_;first|refine Yb8 ?_|refine Yay ?_)|(refine Zac ?_;first|refine Yaz ?_))
 refine Zar (n := ws.length) (m := 1) rfl rfl rfl rfl rfl hS (by rw [Z2m]) hcw ((hS.rd (List.mem_cons_self ..)).own_row) (by simp) (by simp [Value.oneCell']) (by omega) (by simp only [maxLen]; omega) (fun a' c' w hS hc' _ => ?_)
 repeat (first|refine Yao (fun _ hS _ => ?_)|refine Ybs ?_|(refine Zae ?_;first|refine Ya2 ?_|refine Yay ?_)|(refine Zac ?_;first|refine Yaz ?_))
 refine ⟨rfl,a',c',q,hc',?_⟩
 rw [List.flatMap_append];have h := hS.took (out := [pts t10 (.cells #[.slice a' (ws.length + 1) c'] 227),own 158 2 a' c' (ws.flatMap Wr.cells ++ [.int .i64 no,.slice (some ⟨q,0,none⟩) 64 64]),bytes (some ⟨q,0,none⟩) (Zcq s)])
 have e : (List.flatMap Wr.cells [putW no q s]) = [.int .i64 no,.slice (some ⟨q,0,none⟩) 64 64] := by simp [Wr.cells,Zbn]
 rw [e];exact h
end Cr
