/-
  Package codec in plain words: what bytes say (parse),how leaves are written (encL),and that the two fit.
  Package codec's values as resources: leaves,lists of leaves; what can be read of them. No program is in sight.
  Package codec in plain words,lists in lists too: values as they stand in memory (Mv),what is wrong with them (chkM),their bytes (encM),what bytes say (decM),and that these fit.
  Package codec's values,lists in lists too,in memory: to be read,among rows of a bag. No program is in sight.
  Layer 8 (tree): a change in memory as a resource: which nodes it has by now (N),over a table that tells T. Nodes told,set,freed.
  Layer 8 (tree) in plain words,1: a directory's bytes. No program is in sight.
  DERIVED: THE SHELF's CONTRACTS AT THIS DUMP,IN PLAIN WORDS (tools/lay-plain.mjs out of 'TryzShelf.lean',which tools/lay-shelf.mjs wrote): THE SAME DECLARATIONS UNDER THE SAME NAMES: 'import','namespace','open','def','theorem' AND NOTHING ELSE: no command of the shelf's: FOR A HAND-IN. Each laying: the table of numbers ('.._ren') and one theorem,a field a fact of the dump's own or the kernel's comparison; each contract: ONE APPLICATION.
  The library's functions that packages codec and command call: numbers as text and back,bytes copied and compared.
  Package codec: a reader's small steps: more,is,wrong,take,digits.
  Package codec: a reader takes a byte; a reader takes digits.
  Package codec: a reader takes the digits that come.
-/
import Derived.Lib.ItoaNum
import Derived.Lib.AtoiAll
import Derived.Test.YtjpjbgkjfdhjjaaGreatDoorBsl3
import Derived.Test.YtjpjbgkjfdhjjaaGreatDoorBsl6
import Derived.Test.YtjpjbgkjfdhjjaaGreatDoorBsl7
import Derived.Shelf.Strings.Builder1
import Derived.Shelf.Strings.Builder2
import Derived.Shelf.Small.Strs
import Derived.Shelf.Strings.BuilderF
import Derived.Shelf.Strconv.Atoi
import Derived.Shelf.Strconv.Itoa0
import Derived.Shelf.Strconv.Itoa1
import Derived.Shelf.LaysM
import Derived.Shelf.Strconv.Itoa2
import Derived.Shelf.Strconv.Itoa3
import Derived.Shelf.Strconv.AtoiErrFast
import Derived.Shelf.Strconv.ParseIntEmpty
import Derived.Shelf.Strconv.AtoiFail
import Derived.Shelf.Strconv.Clone
import Derived.Shelf.Strconv.SyntaxError
import Derived.Shelf.LaysC
import Derived.Shelf.Strconv.ToError
import Derived.Shelf.Strconv.Lower
import Derived.Shelf.Strconv.ParseUint10
import Derived.Shelf.Strconv.ParseUint10Empty
import Derived.Shelf.Strconv.ParseUint10Any
import Derived.Shelf.Strconv.ParseInt10
import Derived.Shelf.Strconv.AtoiLong
import Derived.Shelf.Strconv.AtoiInnerAll
import Derived.Shelf.Strconv.RangeError
import Derived.Shelf.Strconv.ToErrorRange
import Derived.Shelf.Strconv.AtoiAll
import Derived.Shelf.Strconv.ErrVarAll
import Derived.Shelf.Strings.Search1
import Derived.Shelf.Strings.Search2
import Derived.Shelf.Strings.Search3
import Derived.Shelf.Strings.Count
import Derived.Shelf.Strings.Shaped
import Derived.Shelf.Sort.Plain
import Derived.Shelf.Strings.Prefix
import Derived.Shelf.Strings.Split
import Derived.Shelf.Strings.SplitShaped
import Derived.Shelf.Unicode.DecodeSlow
import Derived.Shelf.Slices.In.SortNone
import Derived.Test.YtjpjbgkjfdhjjaaGreatDoorProg
import Derived.Lib.LaidTab
import Derived.KernelRfl
import Derived.Test.YtjpjbgkjfdhjjaaGreatDoorBsl4
namespace Cr
open Go
set_option maxHeartbeats 64000000

inductive Leaf where
 | num (n : Int)
 | txt (b : List UInt8)
 | oth
inductive Top where
 | leaf (x : Leaf)
 | list (l : List Leaf)
def Top.shut : Top → Leaf
 | .leaf x => x
 | .list _ => .oth

def dig (c : UInt8) : Bool := decide (48 ≤ c.toNat) && decide (c.toNat ≤ 57)
theorem dig_iff {c : UInt8} : dig c = true ↔ 48 ≤ c.toNat ∧ c.toNat ≤ 57 := by simp [dig]
def sgn (below : Bool) (l : List UInt8) : List UInt8 := if below = true ∧ l.head? = some 45 then [45] else []
def numS (below : Bool) (l : List UInt8) : List UInt8 := sgn below l ++ (l.drop (sgn below l).length).takeWhile dig
def badN (s : List UInt8) : Prop := s = [] ∨ s = [45] ∨ s = [45,48] ∨ (s.head? = some 48 ∧ 1 < s.length) ∨ (2 < s.length ∧ s.take 2 = [45,48])
instance (s : List UInt8) : Decidable (badN s) := by unfold badN; infer_instance
def num (below : Bool) (e : UInt8) (l : List UInt8) : Option (Int × List UInt8) :=
 match l.drop (numS below l).length with
 | [] => none
 | c :: r => if badN (numS below l) ∨ c ≠ e then none else
  match Lib.atoiAll (numS below l) with
  | .ok v => some (v,r)
  | _ => none

/-! ### digits and numbers -/
def val (d : List UInt8) (acc : Nat) : Nat := d.foldl (fun a c => a * 10 + (c.toNat - 48)) acc
theorem Zvb (a : Nat) : val [] a = a := rfl
theorem Zg5 (c : UInt8) (d : List UInt8) (a : Nat) : val (c :: d) a = val d (a * 10 + (c.toNat - 48)) := by simp [val]
theorem Zrr (c : UInt8) (d : List UInt8) (a : Nat) : val (d ++ [c]) a = val d a * 10 + (c.toNat - 48) := by simp [val]
theorem Zvc : ∀ (d : List UInt8) (a : Nat),a ≤ val d a
 | [],a => Nat.le_refl _
 | c :: d,a => by rw [Zg5]; have := Zvc d (a * 10 + (c.toNat - 48)); omega
theorem Z2s (c : UInt8) (d : List UInt8) (a : Nat) : (Lib.parseUint10 a (c :: d) = Lib.parseUint10 (a * 10 + (c.toNat - 48)) d ∧ dig c = true) ∨ ∀ u,Lib.parseUint10 a (c :: d) ≠ .ok u := by
 by_cases h1 : 48 ≤ c.toNat ∧ c.toNat ≤ 57
 ·by_cases h2 : 1844674407370955162 ≤ a
  ·refine .inr fun u => ?_
   rw [Lib.parseUint10,if_pos h1,if_pos h2]; exact fun h => nomatch h
  ·by_cases h3 : 18446744073709551616 ≤ a * 10 + (c.toNat - 48)
   ·refine .inr fun u => ?_
    rw [Lib.parseUint10,if_pos h1,if_neg h2,if_pos h3]; exact fun h => nomatch h
   ·refine .inl ⟨?_,dig_iff.2 h1⟩
    rw [Lib.parseUint10,if_pos h1,if_neg h2,if_neg h3]
 ·refine .inr fun u => ?_
  rw [Lib.parseUint10,if_neg h1]; exact fun h => nomatch h
theorem Z50 (d : List UInt8) : ∀ (a u : Nat),Lib.parseUint10 a d = .ok u → u = val d a ∧ ∀ c ∈ d,dig c = true := by
 induction d with
 | nil => intro a u h; rw [Lib.parseUint10] at h; injection h with h; exact ⟨h.symm,fun _ hc => by cases hc⟩
 | cons c d ih =>
  intro a u h
  rcases Z2s c d a with ⟨h1,h2⟩ | h1
  ·rw [h1] at h
   obtain ⟨h3,h4⟩ := ih _ u h
   refine ⟨h3,fun x hx => ?_⟩
   rcases List.mem_cons.1 hx with rfl | hx
   ·exact h2
   ·exact h4 x hx
  ·exact absurd h (h1 u)
theorem Z2t : ∀ (d : List UInt8) (a : Nat),(∀ c ∈ d,dig c = true) → val d a ≤ 9223372036854775808 → Lib.parseUint10 a d = .ok (val d a)
 | [],a,_,_ => rfl
 | c :: d,a,hd,hv => by
  have hc := dig_iff.1 (hd c (List.mem_cons_self ..))
  rw [Zg5] at hv ⊢;have := Zvc d (a * 10 + (c.toNat - 48))
  simp only [Lib.parseUint10]
  rw [if_pos hc,if_neg (by omega),if_neg (by omega)];exact Z2t d _ (fun x hx => hd x (List.mem_cons_of_mem _ hx)) hv
theorem Zva {d : List UInt8} (hd : ∀ c ∈ d,dig c = true) (h0 : d ≠ []) (h1 : d.head? ≠ some 48) : 1 ≤ val d 0 := by
 cases d with
 | nil => exact absurd rfl h0
 | cons c d =>
  rw [Zg5];have hc := dig_iff.1 (hd c (List.mem_cons_self ..))
  have := Zvc d (0 * 10 + (c.toNat - 48))
  have : c.toNat ≠ 48 := fun e => h1 (by rw [List.head?_cons,show c = 48 from UInt8.toNat_inj.1 e])
  omega
theorem Zoo {c : UInt8} (hc : 48 ≤ c.toNat) : UInt8.ofNat (48 + (c.toNat - 48)) = c := by
 rw [show 48 + (c.toNat - 48) = c.toNat by omega]; exact UInt8.ofNat_toNat
theorem Zq1 : ∀ (n : Nat) (d : List UInt8),d.length = n + 1 → (∀ c ∈ d,dig c = true) → (d.head? ≠ some 48 ∨ n = 0) → Lib.decDigits (val d 0) = d
 | 0,d,hl,hd,_ => by
  obtain ⟨c,rfl⟩ : ∃ c,d = [c] := List.length_eq_one_iff.1 hl
  have hc := dig_iff.1 (hd c (List.mem_cons_self ..))
  rw [Zg5,Zvb,Lib.decDigits,dif_pos (by omega),Nat.zero_mul,Nat.zero_add,Zoo hc.1]
 | n + 1,d,hl,hd,hh => by
  obtain ⟨d',c,rfl⟩ : ∃ d' c,d = d' ++ [c] := (List.eq_nil_or_concat d).resolve_left (fun e => by rw [e] at hl; cases hl) |>.imp fun _ h => h.imp fun _ h => by simpa using h
  have hl' : d'.length = n + 1 := by simpa using hl
  have hn0 : d' ≠ [] := fun e => by rw [e] at hl'; cases hl'
  have hh' : d'.head? ≠ some 48 := by
   rcases hh with hh | hh
   ·cases d' with
    | nil => exact absurd rfl hn0
    | cons x y => exact hh
   ·cases hh
  have hd' : ∀ c ∈ d',dig c = true := fun x hx => hd x (List.mem_append_left _ hx)
  have hc := dig_iff.1 (hd c (List.mem_append_right _ (List.mem_cons_self ..)))
  have hp := Zva hd' hn0 hh'
  have ih := Zq1 n d' hl' hd' (.inl hh')
  rw [Zrr,Lib.decDigits,dif_neg (by omega)];rw [show (val d' 0 * 10 + (c.toNat - 48)) / 10 = val d' 0 by omega,show (val d' 0 * 10 + (c.toNat - 48)) % 10 = c.toNat - 48 by omega,ih,Zoo hc.1]
theorem Zb1 {k : Nat} (h : k < 10) : (UInt8.ofNat (48 + k)).toNat = 48 + k := by
 rw [UInt8.toNat_ofNat']; exact Nat.mod_eq_of_lt (by omega)
theorem Zcm (u : Nat) : (∀ c ∈ Lib.decDigits u,dig c = true) ∧ Lib.decDigits u ≠ [] ∧ ((Lib.decDigits u).head? = some 48 → u = 0) ∧ val (Lib.decDigits u) 0 = u := by
 induction u using Nat.strongRecOn with
 | _ u ih =>
  rw [Lib.decDigits];by_cases h : u < 10
  ·rw [dif_pos h]
   refine ⟨fun c hc => ?_,by simp,fun hh => ?_,?_⟩
   ·obtain rfl := List.mem_singleton.1 hc
    rw [dig_iff,Zb1 h]; omega
   ·have h1 : UInt8.ofNat (48 + u) = 48 := by simpa using hh
    have := congrArg UInt8.toNat h1
    rw [Zb1 h] at this;have h48 : (48 : UInt8).toNat = 48 := rfl
    omega
   ·rw [Zg5,Zvb,Zb1 h]; omega
  ·rw [dif_neg h]
   obtain ⟨h1,h2,h3,h4⟩ := ih (u / 10) (by omega)
   refine ⟨fun c hc => ?_,by simp,fun hh => ?_,?_⟩
   ·rcases List.mem_append.1 hc with hc | hc
    ·exact h1 c hc
    ·obtain rfl := List.mem_singleton.1 hc
     rw [dig_iff,Zb1 (by omega)]; omega
   ·exfalso
    cases e : Lib.decDigits (u / 10) with
    | nil => exact h2 e
    | cons x y =>
     rw [e] at hh h3;have := h3 (by simpa using hh)
     omega
   ·rw [Zrr,h4,Zb1 (by omega)]; omega

theorem Zey {p : UInt8 → Bool} {e : UInt8} {r : List UInt8} : ∀ {d : List UInt8},(∀ c ∈ d,p c = true) → p e = false → (d ++ e :: r).takeWhile p = d
 | [],_,he => by simp [he]
 | c :: d,hd,he => by
  rw [List.cons_append,List.takeWhile_cons,if_pos (hd c (List.mem_cons_self ..)),Zey (fun x hx => hd x (List.mem_cons_of_mem _ hx)) he]
theorem Zhl {p : UInt8 → Bool} : ∀ {l : List UInt8} {c : UInt8},c ∈ l.takeWhile p → p c = true
 | [],_,h => by cases h
 | x :: l,c,h => by
  rw [List.takeWhile_cons] at h
  split at h
  ·rename_i hx
   rcases List.mem_cons.1 h with rfl | h
   ·exact hx
   ·exact Zhl h
  ·cases h
theorem Zgc {p : UInt8 → Bool} : ∀ (l : List UInt8),l.take (l.takeWhile p).length = l.takeWhile p
 | [] => rfl
 | x :: l => by
  rw [List.takeWhile_cons]
  split
  ·simp [Zgc l]
  ·rfl
theorem Zzc (below : Bool) (l : List UInt8) : l.take (sgn below l).length = sgn below l := by
 unfold sgn
 split
 ·rename_i h
  cases l with
  | nil => simp at h
  | cons c l => have := h.2; simp at this; simp [this]
 ·rfl
theorem Zhh (below : Bool) (l : List UInt8) : l.take (numS below l).length = numS below l := by
 unfold numS
 generalize hs : sgn below l = s;have h1 : l.take s.length = s := by rw [← hs]; exact Zzc below l
 rw [List.length_append,List.take_add,h1,Zgc]
theorem Z2z (below : Bool) (l : List UInt8) : (numS below l).length ≤ l.length := by
 have h := congrArg List.length (Zhh below l)
 rw [List.length_take] at h; omega

theorem Zhg {below : Bool} {e : UInt8} {l r : List UInt8} {v : Int} (h : num below e l = some (v,r)) :
  l = numS below l ++ e :: r ∧ ¬ badN (numS below l) ∧ Lib.atoiAll (numS below l) = .ok v := by
 unfold num at h
 split at h
 ·cases h
 ·rename_i c r' hd
  split at h
  ·cases h
  ·rename_i hb
   split at h
   ·rename_i v' hv
    obtain ⟨rfl,rfl⟩ : v' = v ∧ r' = r := by simpa using h
    have hc : c = e := Decidable.not_not.1 fun hc => hb (.inr hc)
    have hn := fun hbad => hb (.inl hbad)
    refine ⟨?_,hn,hv⟩
    have := List.take_append_drop (numS below l).length l
    rw [Zhh,hd,hc] at this;exact this.symm
   ·cases h
theorem Zii (below : Bool) (l : List UInt8) : ∃ d,(∀ c ∈ d,dig c = true) ∧ (numS below l = d ∨ numS below l = 45 :: d ∧ below = true) := by
 refine ⟨(l.drop (sgn below l).length).takeWhile dig,fun c hc => Zhl hc,?_⟩
 unfold numS
 by_cases h : below = true ∧ l.head? = some 45
 ·right; rw [show sgn below l = [45] from if_pos h]; exact ⟨rfl,h.1⟩
 ·left; rw [show sgn below l = [] from if_neg h]; rfl
theorem Z20 {c : UInt8} (hc : dig c = true) : ¬ c.toNat = 45 ∧ ¬ (c.toNat = 43 ∨ c.toNat = 45) := by
 have := dig_iff.1 hc; omega
theorem Zs4 {d : List UInt8} {v : Int} (hd : ∀ c ∈ d,dig c = true) (h : Lib.atoiAll d = .ok v) : d ≠ [] ∧ v = (val d 0 : Nat) := by
 cases d with
 | nil => cases h
 | cons c d =>
  refine ⟨by simp,?_⟩
  have hc := Z20 (hd c (List.mem_cons_self ..))
  unfold Lib.atoiAll at h
  simp only at h
  rw [if_neg hc.2] at h;unfold Lib.parseMag at h
  rw [if_neg (by simp)] at h;rcases hp : Lib.parseUint10 0 (c :: d) with u | _ | _
  ·rw [hp] at h
   simp only at h
   split at h
   ·cases h
   ·split at h
    ·cases h
    ·rw [if_neg hc.1] at h
     injection h with h
     rw [← h,(Z50 _ _ _ hp).1]
  ·rw [hp] at h; cases h
  ·rw [hp] at h; cases h
theorem Z0s {d : List UInt8} {v : Int} (h : Lib.atoiAll (45 :: d) = .ok v) : d ≠ [] ∧ v = - ((val d 0 : Nat) : Int) := by
 unfold Lib.atoiAll at h
 simp only at h
 rw [if_pos (.inr rfl)] at h;unfold Lib.parseMag at h
 by_cases hd : d = []
 ·rw [if_pos hd] at h; cases h
 ·rw [if_neg hd] at h
  refine ⟨hd,?_⟩
  rcases hp : Lib.parseUint10 0 d with u | _ | _
  ·rw [hp] at h
   simp only at h
   split at h
   ·cases h
   ·split at h
    ·cases h
    ·rw [if_pos (show UInt8.toNat 45 = 45 from rfl)] at h
     injection h with h
     rw [← h,(Z50 _ _ _ hp).1]
  ·rw [hp] at h; cases h
  ·rw [hp] at h; cases h
theorem Zbt (u : Nat) : Lib.itoa (u : Int) = Lib.decDigits u := by
 unfold Lib.itoa; rw [if_neg (by omega),Int.toNat_natCast]
theorem Zm5 {u : Nat} (h : 1 ≤ u) : Lib.itoa (-(u : Int)) = 45 :: Lib.decDigits u := by
 unfold Lib.itoa; rw [if_pos (by omega)]; congr 2; omega
theorem Zoq {below : Bool} {e : UInt8} {l r : List UInt8} {v : Int} (h : num below e l = some (v,r)) : l = Lib.itoa v ++ e :: r := by
 obtain ⟨hl,hb,hv⟩ := Zhg h
 have key : numS below l = Lib.itoa v := by
  obtain ⟨d,hd,hs | ⟨hs,_⟩⟩ := Zii below l
  ·rw [hs] at hb hv ⊢
   obtain ⟨h0,rfl⟩ := Zs4 hd hv
   rw [Zbt];refine (Zq1 (d.length - 1) d (by have := List.length_pos_iff.2 h0; omega) hd ?_).symm
   by_cases h1 : d.length - 1 = 0
   ·exact .inr h1
   ·refine .inl fun hh => hb ?_
    exact .inr (.inr (.inr (.inl ⟨hh,by omega⟩)))
  ·rw [hs] at hb hv ⊢
   obtain ⟨h0,rfl⟩ := Z0s hv
   have hh : d.head? ≠ some 48 := fun hh => by
    cases d with
    | nil => exact h0 rfl
    | cons c d =>
     obtain rfl : c = 48 := by simpa using hh
     cases d with
     | nil => exact hb (.inr (.inr (.inl rfl)))
     | cons x y => exact hb (.inr (.inr (.inr (.inr ⟨by simp,rfl⟩))))
   rw [Zm5 (Zva hd h0 hh),Zq1 (d.length - 1) d (by have := List.length_pos_iff.2 h0; omega) hd (.inl hh)]
 rw [key] at hl;exact hl
theorem Zlu {e : UInt8} {l r : List UInt8} {v : Int} (h : num false e l = some (v,r)) : 0 ≤ v := by
 obtain ⟨_,_,hv⟩ := Zhg h
 obtain ⟨d,hd,hs | ⟨_,hs⟩⟩ := Zii false l
 ·rw [hs] at hv
  rw [(Zs4 hd hv).2]; omega
 ·cases hs
theorem Zwa {below : Bool} {e : UInt8} {l r : List UInt8} {v : Int} (h : num below e l = some (v,r)) : r.length < l.length := by
 obtain ⟨hl,_,_⟩ := Zhg h
 have := congrArg List.length hl
 simp at this; omega

theorem Zxt {v : Int} (h1 : -9223372036854775808 ≤ v) (h2 : v ≤ 9223372036854775807) : Lib.atoiAll (Lib.itoa v) = .ok v := by
 by_cases h : v < 0
 ·obtain ⟨u,rfl⟩ : ∃ u : Nat,v = -(u : Int) := ⟨v.natAbs,by omega⟩
  rw [Zm5 (by omega)];obtain ⟨f1,f2,_,f4⟩ := Zcm u
  unfold Lib.atoiAll
  simp only
  rw [if_pos (.inr rfl)];unfold Lib.parseMag
  rw [if_neg f2,Z2t _ _ f1 (by rw [f4]; omega),f4]
  simp only
  rw [if_neg (by intro h; exact h.1 rfl),if_neg (by omega),if_pos (show UInt8.toNat 45 = 45 from rfl)]
 ·obtain ⟨u,rfl⟩ : ∃ u : Nat,v = (u : Int) := ⟨v.toNat,by omega⟩
  rw [Zbt];obtain ⟨f1,f2,_,f4⟩ := Zcm u
  cases hd : Lib.decDigits u with
  | nil => exact absurd hd f2
  | cons c d =>
   have hc := Z20 (f1 c (by rw [hd]; exact List.mem_cons_self ..))
   unfold Lib.atoiAll
   simp only
   rw [if_neg hc.2,← hd];unfold Lib.parseMag
   rw [if_neg f2,Z2t _ _ f1 (by rw [f4]; omega),f4]
   simp only
   rw [if_neg (by omega),if_neg (by intro h; exact hc.1 h.1),if_neg hc.1]
theorem Zr9 {below : Bool} {e : UInt8} {r : List UInt8} {v : Int} (h1 : -9223372036854775808 ≤ v) (h2 : v ≤ 9223372036854775807) (hs : below = true ∨ 0 ≤ v) (he : dig e = false) : num below e (Lib.itoa v ++ e :: r) = some (v,r) := by
 have key : numS below (Lib.itoa v ++ e :: r) = Lib.itoa v ∧ ¬ badN (Lib.itoa v) := by
  by_cases h : v < 0
  ·obtain ⟨u,rfl⟩ : ∃ u : Nat,v = -(u : Int) := ⟨v.natAbs,by omega⟩
   rw [Zm5 (by omega)];obtain ⟨f1,f2,f3,f4⟩ := Zcm u
   obtain rfl : below = true := hs.resolve_right (by omega)
   constructor
   ·unfold numS
    rw [show sgn true (45 :: Lib.decDigits u ++ e :: r) = [45] by simp [sgn]]
    simp only [List.length_cons,List.length_nil,Nat.zero_add,List.cons_append,List.drop_succ_cons,List.drop_zero,List.nil_append]
    rw [Zey f1 he]
   ·rintro (h | h | h | ⟨h,_⟩ | ⟨h,h'⟩)
    ·cases h
    ·injection h with _ h; exact f2 h
    ·injection h with _ h
     have := f3 (by rw [h]; rfl)
     omega
    ·cases h
    ·cases hd : Lib.decDigits u with
     | nil => exact f2 hd
     | cons x y =>
      rw [hd] at h' f3;have hx : x = 48 := by simpa using h'
      have := f3 (by rw [hx]; rfl)
      omega
  ·obtain ⟨u,rfl⟩ : ∃ u : Nat,v = (u : Int) := ⟨v.toNat,by omega⟩
   rw [Zbt];obtain ⟨f1,f2,f3,f4⟩ := Zcm u
   have hne : (Lib.decDigits u).head? ≠ some 45 := fun hh => by
    cases hd : Lib.decDigits u with
    | nil => exact f2 hd
    | cons x y =>
     rw [hd] at hh f1;have := dig_iff.1 (f1 x (List.mem_cons_self ..))
     obtain rfl : x = 45 := by simpa using hh
     exact absurd this (by decide)
   constructor
   ·unfold numS
    rw [show sgn below (Lib.decDigits u ++ e :: r) = [] by
     unfold sgn; rw [if_neg]; rintro ⟨_,hh⟩
     cases hd : Lib.decDigits u with
     | nil => exact f2 hd
     | cons x y => rw [hd] at hh hne; exact hne (by simpa using hh)]
    simp only [List.length_nil,List.drop_zero,List.nil_append]
    rw [Zey f1 he]
   ·rintro (h | h | h | ⟨h,h'⟩ | ⟨h,h'⟩)
    ·exact f2 h
    ·exact hne (by rw [h]; rfl)
    ·exact hne (by rw [h]; rfl)
    ·have h0 := f3 h
     subst h0
     rw [Lib.decDigits_one (by omega)] at h';simp at h'
    ·refine hne ?_
     cases hd : Lib.decDigits u with
     | nil => exact absurd hd f2
     | cons x y => rw [hd] at h'; simp at h'; simp [h'.1]
 unfold num
 rw [key.1,List.drop_left];simp only
 rw [if_neg (by rintro (h | h); exact key.2 h; exact h rfl),Zxt h1 h2]

/-! ### values -/
mutual
def pv : Nat → Nat → List UInt8 → Option (Top × List UInt8)
 | 0,_,_ => none
 | _ + 1,_,[] => none
 | f + 1,deep,c :: r =>
  if c = 40 then
   if 8 < deep then none else
   match pl f deep r with
   | some (x,r') => some (.list x,r')
   | none => none
  else if c = 105 then
   match num true 59 r with
   | some (v,r') => some (.leaf (.num v),r')
   | none => none
  else
   match num false 58 (c :: r) with
   | some (v,r') => if v.toNat ≤ r'.length then some (.leaf (.txt (r'.take v.toNat)),r'.drop v.toNat) else none
   | none => none
def pl : Nat → Nat → List UInt8 → Option (List Leaf × List UInt8)
 | 0,_,_ => none
 | _ + 1,_,[] => none
 | f + 1,deep,c :: r =>
  if c = 41 then some ([],r) else
  match pv f (deep + 1) (c :: r) with
  | none => none
  | some (t,r') =>
   match pl f deep r' with
   | none => none
   | some (x,r'') => some (t.shut :: x,r'')
end
theorem Zoy {u : Nat} : ∃ c r,Lib.itoa (u : Int) = c :: r ∧ dig c = true := by
 rw [Zbt];obtain ⟨f1,f2,_,_⟩ := Zcm u
 cases hd : Lib.decDigits u with
 | nil => exact absurd hd f2
 | cons c r => exact ⟨c,r,rfl,f1 c (by rw [hd]; exact List.mem_cons_self ..)⟩
def z0 : Value := .slice none 0 0
/-! ### laying together,taking apart -/
theorem Z0k : emp (fun _ => none) := fun _ => rfl
/-! ### reading -/
theorem Zst : ∀ {rows : List (List Value)} {i : Nat} {cs : List Value},(∀ r ∈ rows,r.length = 4) → rows[i]? = some cs → (rows.flatten.drop (i * 4)).take 4 = cs
 | [],_,_,_,h => by cases h
 | r :: rs,i,cs,hl,h => by
  have h4 := hl r (List.mem_cons_self ..)
  cases i with
  | zero =>
   obtain rfl : r = cs := by simpa using h
   simp [← h4]
  | succ i =>
   have ih := Zst (fun z hz => hl z (List.mem_cons_of_mem _ hz)) (show rs[i]? = some cs by simpa using h)
   rw [List.flatten_cons,List.drop_append,h4,show (i + 1) * 4 - 4 = i * 4 by omega,List.drop_of_length_le (by omega),List.nil_append]
   exact ih
theorem Zi6 : ∀ {rows : List (List Value)},(∀ r ∈ rows,r.length = 4) → rows.flatten.length = rows.length * 4
 | [],_ => rfl
 | r :: rs,hl => by
  have h4 := hl r (List.mem_cons_self ..)
  have := Zi6 (fun z hz => hl z (List.mem_cons_of_mem _ hz)) (rows := rs)
  simp only [List.flatten_cons,List.length_append,List.length_cons]; omega
inductive Mv where
 | mk (k n : Int) (b : List UInt8) (l : List Mv)
 deriving Inhabited
abbrev nuM (n : Int) : Mv := .mk 0 n [] []
abbrev txM (b : List UInt8) : Mv := .mk 1 0 b []
abbrev liM (l : List Mv) : Mv := .mk 2 0 [] l
def Mv.kind : Mv → Int | .mk k _ _ _ => k
def Mv.num : Mv → Int | .mk _ n _ _ => n
def Mv.txt : Mv → List UInt8 | .mk _ _ b _ => b
def Mv.lst : Mv → List Mv | .mk _ _ _ l => l
def Zei : Nat → Mv → Mv
 | 0,.mk k n b _ => .mk k n b []
 | d + 1,.mk k n b l => .mk k n b (l.map (Zei d))
def kdM (k n : Int) (b : List UInt8) (l : List Mv) : Bool :=
 (decide (k = 0) && b.isEmpty && l.isEmpty) || (decide (k = 1) && decide (n = 0) && l.isEmpty) || (decide (k = 2) && decide (n = 0) && b.isEmpty)
def Zhx : List Int → Int
 | [] => 0
 | e :: r => if e = 0 then Zhx r else e
def chkM : Nat → Mv → Int
 | 0,.mk k n b l => if kdM k n b l = true then (if k = 2 then 18 else 0) else 17
 | m + 1,.mk k n b l => if kdM k n b l = true then Zhx (l.map (chkM m)) else 17
theorem Zgx : ∀ {l : List Int},Zhx l = 0 ↔ ∀ e ∈ l,e = 0
 | [] => by simp [Zhx]
 | e :: r => by
  unfold Zhx
  split
  ·rename_i h; rw [Zgx]; simp [h]
  ·rename_i h; simp [h]
mutual
def encM : Mv → List UInt8
 | .mk k n b l => if k = 0 then 105 :: Lib.itoa n ++ [59] else if k = 1 then Lib.itoa (b.length : Nat) ++ 58 :: b else 40 :: Za3 l ++ [41]
def Za3 : List Mv → List UInt8
 | [] => []
 | x :: l => encM x ++ Za3 l
end
mutual
def fitM : Mv → Prop
 | .mk _ n b l => (-9223372036854775808 ≤ n ∧ n ≤ 9223372036854775807) ∧ b.length ≤ 9223372036854775807 ∧ Zga l
def Zga : List Mv → Prop
 | [] => True
 | x :: l => fitM x ∧ Zga l
end
theorem Zfq : ∀ (l m : List Mv),Za3 (l ++ m) = Za3 l ++ Za3 m
 | [],m => by simp [Za3]
 | x :: l,m => by rw [List.cons_append,Za3,Za3,Zfq l m,List.append_assoc]
theorem fitMs_mem : ∀ {l : List Mv},Zga l ↔ ∀ x ∈ l,fitM x
 | [] => by simp [Zga]
 | x :: l => by rw [Zga,fitMs_mem]; simp
theorem Zd9 (n : Int) (b : List UInt8) (l : List Mv) : encM (.mk 0 n b l) = 105 :: Lib.itoa n ++ [59] := by rw [encM,if_pos rfl]
theorem Ze4 (n : Int) (b : List UInt8) (l : List Mv) : encM (.mk 1 n b l) = Lib.itoa (b.length : Nat) ++ 58 :: b := by rw [encM,if_neg (by decide),if_pos rfl]
theorem Zbz (n : Int) (b : List UInt8) (l : List Mv) : encM (.mk 2 n b l) = 40 :: Za3 l ++ [41] := by rw [encM,if_neg (by decide),if_neg (by decide)]
mutual
def wM : Mv → Nat
 | .mk _ _ b l => 1 + b.length + wMs l
def wMs : List Mv → Nat
 | [] => 0
 | x :: l => wM x + wMs l
end
theorem Zoa (k n : Int) (b : List UInt8) (l : List Mv) : wM (.mk k n b l) = 1 + b.length + wMs l := by rw [wM]
theorem Zjx : ∀ {l : List Mv} {x : Mv},x ∈ l → wM x ≤ wMs l
 | y :: l,x,h => by
  rw [wMs];rcases List.mem_cons.1 h with rfl | h
  ·omega
  ·have := Zjx h; omega
theorem Zjy : ∀ (l : List Mv),l.length ≤ wMs l
 | [] => by simp
 | ⟨k,n,b,m⟩ :: l => by
  rw [wMs,Zoa];have := Zjy l
  simp only [List.length_cons]; omega
theorem Zox {k n : Int} {b : List UInt8} {l : List Mv} (h : kdM k n b l = true) : (k = 0 ∧ b = [] ∧ l = []) ∨ (k = 1 ∧ n = 0 ∧ l = []) ∨ (k = 2 ∧ n = 0 ∧ b = []) := by
 unfold kdM at h
 simp only [Bool.or_eq_true,Bool.and_eq_true,decide_eq_true_eq,List.isEmpty_iff] at h
 rcases h with (⟨⟨h1,h2⟩,h3⟩ | ⟨⟨h1,h2⟩,h3⟩) | ⟨⟨h1,h2⟩,h3⟩
 ·exact .inl ⟨h1,h2,h3⟩
 ·exact .inr (.inl ⟨h1,h2,h3⟩)
 ·exact .inr (.inr ⟨h1,h2,h3⟩)
theorem Z3p {m : Nat} {k n : Int} {b : List UInt8} {l : List Mv} (h : chkM m (.mk k n b l) = 0) : kdM k n b l = true := by
 cases m <;> (rw [chkM] at h; split at h; assumption; cases h)
theorem Zes {m : Nat} {v : Mv} (h : chkM m v = 0) : (∃ n,v = nuM n) ∨ (∃ b,v = txM b) ∨ ∃ l m',v = liM l ∧ m = m' + 1 ∧ ∀ x ∈ l,chkM m' x = 0 := by
 obtain ⟨k,n,b,l⟩ := v
 rcases Zox (Z3p h) with ⟨rfl,rfl,rfl⟩ | ⟨rfl,rfl,rfl⟩ | ⟨rfl,rfl,rfl⟩
 ·exact .inl ⟨n,rfl⟩
 ·exact .inr (.inl ⟨b,rfl⟩)
 ·refine .inr (.inr ?_)
  cases m with
  | zero => rw [chkM,if_pos (by rfl),if_pos rfl] at h; cases h
  | succ m =>
   rw [chkM,if_pos (by rfl),Zgx] at h;exact ⟨l,m,rfl,rfl,fun x hx => h _ (List.mem_map.2 ⟨x,hx,rfl⟩)⟩
theorem Znl {m : Nat} {l : List Mv} (h : ∀ x ∈ l,chkM m x = 0) : chkM (m + 1) (liM l) = 0 := by
 rw [chkM,if_pos (by rfl),Zgx];intro e he
 obtain ⟨x,hx,rfl⟩ := List.mem_map.1 he
 exact h x hx
theorem Zs2 (m : Nat) (n : Int) : chkM m (nuM n) = 0 := by cases m <;> rfl
theorem Zs1 (m : Nat) (b : List UInt8) : chkM m (txM b) = 0 := by cases m <;> rfl
theorem Zno {s : List UInt8} {v : Int} (h : Lib.atoiAll s = .ok v) : -9223372036854775808 ≤ v ∧ v ≤ 9223372036854775807 := by
 cases s with
 | nil => cases h
 | cons c r =>
  unfold Lib.atoiAll at h
  simp only at h
  generalize Lib.parseMag _ = p at h;rcases p with u | _ | _
  ·simp only at h
   split at h
   ·cases h
   ·split at h
    ·cases h
    ·injection h with h
     rename_i h1 h2
     split at h <;> omega
  ·cases h
  ·cases h
theorem Zop {below : Bool} {e : UInt8} {l r : List UInt8} {v : Int} (h : num below e l = some (v,r)) : -9223372036854775808 ≤ v ∧ v ≤ 9223372036854775807 := Zno (Zhg h).2.2
/-! ### reading -/
mutual
def pvM : Nat → Nat → List UInt8 → Option (Mv × List UInt8)
 | 0,_,_ => none
 | _ + 1,_,[] => none
 | f + 1,deep,c :: r =>
  if c = 40 then
   if 8 < deep then none else
   match plM f deep r with
   | some (x,r') => some (liM x,r')
   | none => none
  else if c = 105 then
   match num true 59 r with
   | some (v,r') => some (nuM v,r')
   | none => none
  else
   match num false 58 (c :: r) with
   | some (v,r') => if v.toNat ≤ r'.length then some (txM (r'.take v.toNat),r'.drop v.toNat) else none
   | none => none
def plM : Nat → Nat → List UInt8 → Option (List Mv × List UInt8)
 | 0,_,_ => none
 | _ + 1,_,[] => none
 | f + 1,deep,c :: r =>
  if c = 41 then some ([],r) else
  match pvM f (deep + 1) (c :: r) with
  | none => none
  | some (t,r') =>
   match plM f deep r' with
   | none => none
   | some (x,r'') => some (t :: x,r'')
end
theorem Z55 (f : Nat) : (∀ deep l t r,pvM f deep l = some (t,r) → r.length < l.length) ∧ (∀ deep l x r,plM f deep l = some (x,r) → r.length < l.length) := by
 induction f with
 | zero => exact ⟨fun _ _ _ _ h => by simp [pvM] at h,fun _ _ _ _ h => by simp [plM] at h⟩
 | succ f ih =>
  obtain ⟨ihv,ihl⟩ := ih
  refine ⟨fun deep l t r h => ?_,fun deep l x r h => ?_⟩
  ·cases l with
   | nil => simp [pvM] at h
   | cons c l =>
    rw [pvM] at h
    split at h
    ·split at h
     ·cases h
     ·split at h
      ·rename_i x r' hp
       have := ihl _ _ _ _ hp
       obtain ⟨_,rfl⟩ : _ ∧ r' = r := by simpa using h
       simp; omega
      ·cases h
    ·split at h
     ·split at h
      ·rename_i v r' hp
       have := Zwa hp
       obtain ⟨_,rfl⟩ : _ ∧ r' = r := by simpa using h
       simp; omega
      ·cases h
     ·split at h
      ·rename_i v r' hp
       have := Zwa hp
       split at h
       ·obtain ⟨_,rfl⟩ : _ ∧ r'.drop v.toNat = r := by simpa using h
        simp at this ⊢; omega
       ·cases h
      ·cases h
  ·cases l with
   | nil => simp [plM] at h
   | cons c l =>
    rw [plM] at h
    split at h
    ·obtain ⟨_,rfl⟩ : _ ∧ l = r := by simpa using h
     simp
    ·split at h
     ·cases h
     ·rename_i t r' hp
      have h1 := ihv _ _ _ _ hp
      split at h
      ·cases h
      ·rename_i x' r'' hp'
       have h2 := ihl _ _ _ _ hp'
       obtain ⟨_,rfl⟩ : _ ∧ r'' = r := by simpa using h
       omega
theorem Zzp (f : Nat) : (∀ deep m l t r,deep + m = 9 → pvM f deep l = some (t,r) → l = encM t ++ r ∧ chkM m t = 0 ∧ fitM t) ∧ (∀ deep m l x r,deep + m = 8 → plM f deep l = some (x,r) → l = Za3 x ++ 41 :: r ∧ (∀ t ∈ x,chkM m t = 0) ∧ Zga x) := by
 induction f with
 | zero => exact ⟨fun _ _ _ _ _ _ h => by simp [pvM] at h,fun _ _ _ _ _ _ h => by simp [plM] at h⟩
 | succ f ih =>
  obtain ⟨ihv,ihl⟩ := ih
  refine ⟨fun deep m l t r hm h => ?_,fun deep m l x r hm h => ?_⟩
  ·cases l with
   | nil => simp [pvM] at h
   | cons c l =>
    rw [pvM] at h
    split at h
    ·rename_i hc
     split at h
     ·cases h
     ·rename_i hd
      split at h
      ·rename_i x r' hp
       obtain ⟨m,rfl⟩ : ∃ k,m = k + 1 := ⟨m - 1,by omega⟩
       obtain ⟨h1,h2,h3⟩ := ihl deep m l x r' (by omega) hp
       obtain ⟨rfl,rfl⟩ : liM x = t ∧ r' = r := by simpa using h
       refine ⟨?_,Znl h2,by rw [fitM]; exact ⟨⟨by omega,by omega⟩,by simp,h3⟩⟩
       rw [Zbz,hc,h1]; simp
      ·cases h
    ·split at h
     ·rename_i hc
      split at h
      ·rename_i v r' hp
       obtain ⟨rfl,rfl⟩ : nuM v = t ∧ r' = r := by simpa using h
       refine ⟨?_,Zs2 _ _,?_⟩
       ·rw [Zd9,hc,Zoq hp]; simp
       ·rw [fitM]; exact ⟨Zop hp,by simp,by rw [Zga]; trivial⟩
      ·cases h
     ·split at h
      ·rename_i v r' hp
       split at h
       ·rename_i hle
        obtain ⟨rfl,rfl⟩ : txM (r'.take v.toNat) = t ∧ r'.drop v.toNat = r := by simpa using h
        have h0 := Zlu hp
        have hr := Zop hp
        refine ⟨?_,Zs1 _ _,?_⟩
        ·rw [Ze4,Zoq hp]
         simp only [List.length_take]
         rw [show ((min v.toNat r'.length : Nat) : Int) = v by omega]
         simp
        ·rw [fitM]; exact ⟨⟨by omega,by omega⟩,by simp; omega,by rw [Zga]; trivial⟩
       ·cases h
      ·cases h
  ·cases l with
   | nil => simp [plM] at h
   | cons c l =>
    rw [plM] at h
    split at h
    ·rename_i hc
     obtain ⟨rfl,rfl⟩ : [] = x ∧ l = r := by simpa using h
     refine ⟨by rw [hc,Za3]; rfl,fun t ht => (by cases ht),by rw [Zga]; trivial⟩
    ·split at h
     ·cases h
     ·rename_i t r' hp
      obtain ⟨h1,h2,h3⟩ := ihv (deep + 1) m _ t r' (by omega) hp
      split at h
      ·cases h
      ·rename_i x' r'' hp'
       obtain ⟨h4,h5,h6⟩ := ihl deep m _ x' r'' hm hp'
       obtain ⟨rfl,rfl⟩ : t :: x' = x ∧ r'' = r := by simpa using h
       refine ⟨by rw [h1,h4,Za3]; simp,fun y hy => ?_,by rw [Zga]; exact ⟨h3,h6⟩⟩
       rcases List.mem_cons.1 hy with rfl | hy
       ·exact h2
       ·exact h5 y hy
theorem Znh {m : Nat} {v : Mv} (h : chkM m v = 0) : 2 ≤ (encM v).length := by
 rcases Zes h with ⟨n,rfl⟩ | ⟨b,rfl⟩ | ⟨l,m',rfl,_,_⟩
 ·rw [Zd9]; simp
 ·rw [Ze4]
  obtain ⟨c,l,hc,_⟩ := Zoy (u := b.length)
  rw [hc]; simp; omega
 ·rw [Zbz]; simp
theorem Z56 (f : Nat) : (∀ deep m v r,deep + m = 9 → chkM m v = 0 → fitM v → 2 * (encM v).length ≤ f → ∃ c t,encM v ++ r = c :: t ∧ c ≠ 41 ∧ pvM f deep (encM v ++ r) = some (v,r)) ∧
  (∀ deep m l r,deep + m = 8 → (∀ x ∈ l,chkM m x = 0) → Zga l → 2 * (Za3 l).length + 1 ≤ f → plM f deep (Za3 l ++ 41 :: r) = some (l,r)) := by
 induction f with
 | zero =>
  refine ⟨fun deep m v r _ hc _ hf => ?_,fun _ _ _ _ _ _ _ hf => by omega⟩
  have := Znh hc; omega
 | succ f ih =>
  obtain ⟨ihv,ihl⟩ := ih
  refine ⟨fun deep m v r hm hc hfit hf => ?_,fun deep m l r hm hc hfit hf => ?_⟩
  ·rcases Zes hc with ⟨n,rfl⟩ | ⟨b,rfl⟩ | ⟨l,m',rfl,rfl,hl⟩
   ·rw [fitM] at hfit
    refine ⟨105,Lib.itoa n ++ 59 :: r,by rw [Zd9]; simp,by decide,?_⟩
    rw [show encM (nuM n) ++ r = 105 :: (Lib.itoa n ++ 59 :: r) by rw [Zd9]; simp,pvM,if_neg (by decide),if_pos rfl,Zr9 hfit.1.1 hfit.1.2 (.inl rfl) (by decide)]
   ·rw [fitM] at hfit
    obtain ⟨c,l,hc,hd⟩ := Zoy (u := b.length)
    have hd' := dig_iff.1 hd
    have e : encM (txM b) ++ r = c :: (l ++ 58 :: (b ++ r)) := by rw [Ze4,hc]; simp
    have e2 : c :: (l ++ 58 :: (b ++ r)) = Lib.itoa (b.length : Nat) ++ 58 :: (b ++ r) := by rw [hc]; simp
    have ne : ∀ k : Nat,k < 48 ∨ 57 < k → k < 256 → c ≠ UInt8.ofNat k := fun k hk hk2 h => by
     have := congrArg UInt8.toNat h
     rw [UInt8.toNat_ofNat',Nat.mod_eq_of_lt hk2] at this;omega
    refine ⟨c,l ++ 58 :: (b ++ r),e,ne 41 (by omega) (by omega),?_⟩
    rw [e,pvM,if_neg (show ¬ c = 40 from ne 40 (by omega) (by omega)),if_neg (show ¬ c = 105 from ne 105 (by omega) (by omega)),e2,Zr9 (by omega) (by omega) (.inr (by omega)) (by decide)];simp only [Int.toNat_natCast]
    rw [if_pos (by simp),List.take_left,List.drop_left]
   ·rw [fitM] at hfit
    rw [Zbz] at hf ⊢;simp only [List.length_cons,List.length_append,List.length_nil] at hf
    refine ⟨40,Za3 l ++ 41 :: r,by simp,by decide,?_⟩
    rw [show 40 :: Za3 l ++ [41] ++ r = 40 :: (Za3 l ++ 41 :: r) by simp,pvM,if_pos rfl,if_neg (by omega),ihl deep m' l r (by omega) hl hfit.2.2 (by omega)]
  ·cases l with
   | nil => rw [show Za3 [] ++ 41 :: r = 41 :: r by rw [Za3]; rfl,plM,if_pos rfl]
   | cons x l =>
    rw [Zga] at hfit;rw [Za3] at hf ⊢;rw [List.length_append] at hf;have hx := hc x (List.mem_cons_self ..)
    have hp := Znh hx
    obtain ⟨c,t,h1,h2,h3⟩ := ihv (deep + 1) m x (Za3 l ++ 41 :: r) (by omega) hx hfit.1 (by omega)
    rw [List.append_assoc,h1,plM,if_neg h2,← h1,h3];simp only
    rw [ihl deep m l r hm (fun y hy => hc y (List.mem_cons_of_mem _ hy)) hfit.2 (by omega)]
def decM (b : List UInt8) : Option Mv :=
 match pvM (2 * b.length + 1) 1 b with
 | some (t,[]) => some t
 | _ => none
theorem Zup {b : List UInt8} {v : Mv} (h : decM b = some v) : b = encM v ∧ chkM 8 v = 0 ∧ fitM v := by
 unfold decM at h
 split at h
 ·rename_i t hp
  injection h with h
  subst h
  have := (Zzp _).1 1 8 _ _ _ rfl hp
  rwa [List.append_nil] at this
 ·cases h
theorem Z0n {v : Mv} (h : chkM 8 v = 0) (hf : fitM v) : decM (encM v) = some v := by
 obtain ⟨_,_,_,_,h3⟩ := (Z56 (2 * (encM v).length + 1)).1 1 8 v [] rfl h hf (by omega)
 rw [List.append_nil] at h3;unfold decM
 rw [h3]
inductive Mrd (R : Option Addr → List Value → Prop) : Mv → List Value → Prop
 | mk {k n : Int} {b : List UInt8} {l : List Mv} {a a2 : Option Addr} {c c2 : Nat} {rows : List (List Value)} (hc : b.length ≤ c) (hb : R a (bv b)) (hr : R a2 rows.flatten) (hl : rows.length = l.length) (h : ∀ (i : Nat) (y : Mv) (cs : List Value),l[i]? = some y → rows[i]? = some cs → Mrd R y cs) :
  Mrd R (.mk k n b l) [.int .i64 k,.int .i64 n,.slice a b.length c,.slice a2 l.length c2]
theorem Mrd.mk' {R : Option Addr → List Value → Prop} {k n : Int} {b : List UInt8} {l : List Mv} {a a2 : Option Addr} {c c2 nb nl : Nat} {rows : List (List Value)} (hnb : b.length = nb) (hnl : l.length = nl) (hc : nb ≤ c) (hb : R a (bv b)) (hr : R a2 rows.flatten) (hl : rows.length = l.length) (h : ∀ (i : Nat) (y : Mv) (cs : List Value),l[i]? = some y → rows[i]? = some cs → Mrd R y cs) : Mrd R (.mk k n b l) [.int .i64 k,.int .i64 n,.slice a nb c,.slice a2 nl c2] := by
 subst hnb hnl; exact .mk hc hb hr hl h
def Mrds (R : Option Addr → List Value → Prop) (l : List Mv) (rows : List (List Value)) : Prop :=
 rows.length = l.length ∧ ∀ (i : Nat) (y : Mv) (cs : List Value),l[i]? = some y → rows[i]? = some cs → Mrd R y cs
section
variable {R R' : Option Addr → List Value → Prop}
theorem Mrd.mono {v : Mv} {cs : List Value} (h : Mrd R v cs) (hm : ∀ a cs,R a cs → R' a cs) : Mrd R' v cs := by
 induction h with
 | mk hc hb hr hl h ih => exact .mk hc (hm _ _ hb) (hm _ _ hr) hl ih
theorem Mrds.mono {l : List Mv} {rows : List (List Value)} (h : Mrds R l rows) (hm : ∀ a cs,R a cs → R' a cs) : Mrds R' l rows := ⟨h.1,fun i y cs h1 h2 => (h.2 i y cs h1 h2).mono hm⟩
theorem Mrds.nil : Mrds R [] [] := ⟨rfl,fun i y cs h => by simp at h⟩
theorem Mrds.snoc {l : List Mv} {rows : List (List Value)} {y : Mv} {r : List Value} (h : Mrds R l rows) (hy : Mrd R y r) : Mrds R (l ++ [y]) (rows ++ [r]) := by
 refine ⟨by simp [h.1],fun i z cs h1 h2 => ?_⟩
 by_cases hi : i < l.length
 ·rw [List.getElem?_append_left hi] at h1
  rw [List.getElem?_append_left (by have := h.1; omega)] at h2;exact h.2 i z cs h1 h2
 ·rw [List.getElem?_append_right (by omega)] at h1
  rw [List.getElem?_append_right (by have := h.1; omega),h.1] at h2;cases hk : i - l.length with
  | zero =>
   rw [hk] at h1 h2;obtain rfl : y = z := by simpa using h1
   obtain rfl : r = cs := by simpa using h2
   exact hy
  | succ k => rw [hk] at h1; simp at h1
theorem Mrd.lit {v : Mv} {cs : List Value} (h : Mrd R v cs) : ∃ a1 c1 a2 c2 rows,cs = [.int .i64 v.kind,.int .i64 v.num,.slice a1 v.txt.length c1,.slice a2 v.lst.length c2] ∧ v.txt.length ≤ c1 ∧ R a1 (bv v.txt) ∧ R a2 rows.flatten ∧ Mrds R v.lst rows := by
 cases h with
 | mk hc hb hr hl h => exact ⟨_,_,_,_,_,rfl,hc,hb,hr,hl,h⟩
theorem Mrd.len {v : Mv} {cs : List Value} (h : Mrd R v cs) : cs.length = 4 := by cases h; rfl
theorem Mrds.four {l : List Mv} {rows : List (List Value)} (H : Mrds R l rows) : ∀ r ∈ rows,r.length = 4 := fun r hr => by
 obtain ⟨i,hi,he⟩ := List.mem_iff_getElem.1 hr
 have hix : i < l.length := by have := H.1; omega
 exact (H.2 i l[i] r (List.getElem?_eq_getElem hix) (by rw [List.getElem?_eq_getElem hi,he])).len
theorem Mrds.flat {l : List Mv} {rows : List (List Value)} (H : Mrds R l rows) : rows.flatten.length = l.length * 4 := by rw [Zi6 H.four,H.1]
theorem Mrds.at_ {l : List Mv} {rows : List (List Value)} (H : Mrds R l rows) {i : Nat} {y : Mv} (hy : l[i]? = some y) : ∃ cs,(rows.flatten.drop (i * 4)).take 4 = cs ∧ Mrd R y cs := by
 have hi := (List.getElem?_eq_some_iff.1 hy).1
 have hir : i < rows.length := by have := H.1; omega
 exact ⟨rows[i],Zst H.four (List.getElem?_eq_getElem hir),H.2 i y _ hy (List.getElem?_eq_getElem hir)⟩
end
abbrev RoR (W : World) (F : Nat → Prop) : Option Addr → List Value → Prop := fun a cs => Ro W F (row a cs)
def RX (X : List RowD) : Option Addr → List Value → Prop := fun a cs => cs = [] ∨ (a,cs) ∈ X
theorem RX.nil {X : List RowD} {a : Option Addr} : RX X a [] := .inl rfl
theorem RX.mem {X : List RowD} {a : Option Addr} {cs : List Value} (h : (a,cs) ∈ X) : RX X a cs := .inr h
theorem RX.sub {X Y : List RowD} (h : ∀ x ∈ X,x ∈ Y) {a : Option Addr} {cs : List Value} (hx : RX X a cs) : RX Y a cs := hx.imp id (h _)
theorem RX.left {X Y : List RowD} {a : Option Addr} {cs : List Value} (hx : RX X a cs) : RX (X ++ Y) a cs := hx.sub fun _ h => List.mem_append_left _ h
theorem RX.right {X Y : List RowD} {a : Option Addr} {cs : List Value} (hx : RX Y a cs) : RX (X ++ Y) a cs := hx.sub fun _ h => List.mem_append_right _ h
theorem RX.tail {X : List RowD} {x : RowD} {a : Option Addr} {cs : List Value} (hx : RX X a cs) : RX (x :: X) a cs := hx.sub fun _ h => List.mem_cons_of_mem _ h
theorem RX.ro {W : World} {F : Nat → Prop} {X : List RowD} (H : Ro W F (bag X)) {a : Option Addr} {cs : List Value} (hx : RX X a cs) : Ro W F (row a cs) := by
 rcases hx with rfl | hx
 ·exact Zh5 _ _ _
 ·exact H.bag hx
theorem RX.rd {w : World} {X : List RowD} (H : Rd w (bag X)) {a : Option Addr} {cs : List Value} (hx : RX X a cs) : Rd w (row a cs) := by
 rcases hx with rfl | hx
 ·exact Zp1 _ _
 ·exact H.bag hx
theorem Mrd.ro {W : World} {F : Nat → Prop} {X : List RowD} {v : Mv} {cs : List Value} (h : Mrd (RX X) v cs) (H : Ro W F (bag X)) : Mrd (RoR W F) v cs := h.mono fun _ _ hx => hx.ro H
end Cr
namespace Cr
open Go Go.Proofs
set_option maxRecDepth 100000
set_option maxHeartbeats 64000000
attribute [local irreducible] Calls

section
variable {β : Type} {k : Int} (f : β → Value)
theorem Znc : ∀ l : List (Int × β),getM k (l.map fun x => (x.1,f x.2)) = (getA k l).map f
 | [] => rfl
 | x :: l => by
  have ih := Znc l
  simp only [List.map_cons,getM,getA] at ih ⊢
  split
  ·rfl
  ·exact ih
theorem Zrz {v : β} : ∀ l : List (Int × β),setM k (f v) (l.map fun x => (x.1,f x.2)) = (setA k v l).map fun x => (x.1,f x.2)
 | [] => rfl
 | x :: l => by
  have ih := Zrz (v := v) l
  simp only [List.map_cons,setM,setA] at ih ⊢
  split
  ·rfl
  ·rw [ih]; rfl
theorem Zsx : ∀ l : List (Int × β),delM k (l.map fun x => (x.1,f x.2)) = (delA k l).map fun x => (x.1,f x.2)
 | [] => rfl
 | x :: l => by
  have ih := Zsx l
  simp only [List.map_cons,delM,delA] at ih ⊢
  split
  ·rfl
  ·rw [ih]; rfl
theorem Zt2 {v : β} {l : List (Int × β)} (h : (Zav l).Nodup) : (Zav (setA k v l)).Nodup := by
 induction l with
 | nil => simp [setA,Zav]
 | cons x l ih =>
  have h' : x.1 ∉ Zav l ∧ (Zav l).Nodup := List.nodup_cons.1 h
  unfold setA
  split
  ·rename_i e; simp only [Zav,List.map_cons] at h' ⊢; rw [e]; exact List.nodup_cons.2 h'
  ·rename_i e
   refine List.nodup_cons.2 ⟨fun hm => ?_,ih h'.2⟩
   have : getA x.1 (setA k v l) ≠ none := fun hn => (getA_none.1 hn) hm
   rw [Zep,if_neg (fun q => e q.symm)] at this;exact this (getA_none.2 h'.1)
theorem Zt3 {l : List (Int × β)} (h : (Zav l).Nodup) : (Zav (delA k l)).Nodup := h.sublist Zij
theorem Zog {v : β} : ∀ {l : List (Int × β)} {x : Int × β},x ∈ setA k v l → x = (k,v) ∨ x ∈ l
 | [],x,h => by simp [setA] at h; exact .inl h
 | y :: l,x,h => by
  unfold setA at h
  split at h
  ·rcases List.mem_cons.1 h with h | h
   ·exact .inl h
   ·exact .inr (List.mem_cons_of_mem _ h)
  ·rcases List.mem_cons.1 h with h | h
   ·exact .inr (by rw [h]; exact List.mem_cons_self ..)
   ·exact (Zog h).imp id (List.mem_cons_of_mem _)
end
structure PN where
 nd : Nd
 a : Option Addr
 c : Nat
abbrev PN.val (x : PN) : Value := .agg (ndV x.nd x.a x.c).toArray
abbrev PV := List (Int × PN)
abbrev DV := List (Int × Bool)
def eff (T : Int → Option Nd) (P : PV) (D : DV) (no : Int) : Option Nd :=
 match getA no P with
 | some x => some x.nd
 | none => if (getA no D).getD false = true then none else T no
structure ChOk (T N : Int → Option Nd) (X : List RowD) (P : PV) (D : DV) : Prop where
 kp : (Zav P).Nodup
 kd : (Zav D).Nodup
 eff : ∀ no,Cr.eff T P D no = N no
 row : ∀ x ∈ P,RX X x.2.a (bv x.2.nd.data) ∧ x.2.nd.data.length ≤ x.2.c
abbrev chC (f : Nat) (b : Int) (pm dm : Nat) : Obj := .cells (List.toArray [.pointer (some ⟨f,0,none⟩),.int .i64 b,.bool false,.map (some pm),.map (some dm)]) 173 (0,0)
def PV.vals (P : PV) : List (Int × Value) := P.map fun x => (x.1,PN.val x.2)
def DV.vals (D : DV) : List (Int × Value) := D.map fun x => (x.1,Value.bool x.2)
theorem Z6s {k : Int} (P : PV) : getM k P.vals = (getA k P).map PN.val := Znc _ _
theorem Z6t {k : Int} (D : DV) : getM k D.vals = (getA k D).map Value.bool := Znc _ _
theorem Z4p {k : Int} {v : PN} (P : PV) : setM k v.val P.vals = PV.vals (setA k v P) := Zrz PN.val P
theorem Z62 {k : Int} (D : DV) : delM k D.vals = DV.vals (delA k D) := Zsx Value.bool D
def chR (c f : Nat) (b : Int) (T N : Int → Option Nd) (X : List RowD) : Res := fun h => ∃ (P : PV) (D : DV) (pm dm : Nat),ChOk T N X P D ∧
 Sep [bag X,pts c (chC f b pm dm),mapq (Value.int .i64) pm P.vals,mapq (Value.int .i64) dm D.vals] h
structure TabOf (W : World) (F : Nat → Prop) (tp n : Nat) (T : Int → Option Nd) : Prop where
 nodes : ∀ w,(∀ r,Ro W F r → Rd w r) → Calls Tryz.prog 91 #[.pointer (some ⟨tp,0,none⟩)] w (Ret fun v w' => v = .int .i64 (n : Nat) ∧ w = w')
 get : ∀ w no,(∀ r,Ro W F r → Rd w r) → Calls Tryz.prog 67 #[.pointer (some ⟨tp,0,none⟩),.int .i64 no] w (Ret fun v w' => match T no with
  | none => v = .tuple #[nd0,.int .i64 7] ∧ St w noF [] w'
  | some x => ∃ a c,v = .tuple #[.agg (ndV x a c).toArray,.int .i64 0] ∧ x.data.length ≤ c ∧ St w noF [own 5 1 a c (bv x.data)] w')
theorem TabOf.mono {W W' : World} {F F' : Nat → Prop} {tp n : Nat} {T : Int → Option Nd} (h : TabOf W F tp n T) (hm : ∀ r,Ro W F r → Ro W' F' r) : TabOf W' F' tp n T :=
 ⟨fun w hw => h.nodes w fun r hr => hw r (hm r hr),fun w no hw => h.get w no fun r hr => hw r (hm r hr)⟩
structure TreeRo (W : World) (F : Nat → Prop) (f tp n : Nat) (b : Int) (T : Int → Option Nd) : Prop where
 blk : Ro W F (pts f (.cells (List.toArray [.pointer (some ⟨tp,0,none⟩),.int .i64 b]) 168 (0,0)))
 tab : TabOf W F tp n T
theorem TreeRo.mono {W W' : World} {F F' : Nat → Prop} {f tp n : Nat} {b : Int} {T : Int → Option Nd} (h : TreeRo W F f tp n b T) (hm : ∀ r,Ro W F r → Ro W' F' r) : TreeRo W' F' f tp n b T := ⟨hm _ h.blk,h.tab.mono hm⟩
section
variable {W : World} {F : Nat → Prop} {rs : List Res} {w : World} {c f : Nat} {b : Int} {T N : Int → Option Nd} {X : List RowD}
theorem St.openCh (hS : St W F (chR c f b T N X :: rs) w) : ∃ P D pm dm,ChOk T N X P D ∧ St W F (bag X :: pts c (chC f b pm dm) :: mapq (Value.int .i64) pm P.vals :: mapq (Value.int .i64) dm D.vals :: rs) w := by
 obtain ⟨h,⟨h1,h2,⟨P,D,pm,dm,hq,hs⟩,hr,hd,hu⟩,s⟩ := hS
 exact ⟨P,D,pm,dm,hq,h,Sep.append_mk hs hr hd hu,s⟩
theorem St.shutCh {P : PV} {D : DV} {pm dm : Nat} (hq : ChOk T N X P D) (hS : St W F (bag X :: pts c (chC f b pm dm) :: mapq (Value.int .i64) pm P.vals :: mapq (Value.int .i64) dm D.vals :: rs) w) : St W F (chR c f b T N X :: rs) w :=
 St.shutR (rs' := [bag X,pts c (chC f b pm dm),mapq (Value.int .i64) pm P.vals,mapq (Value.int .i64) dm D.vals]) hS fun _ hh => ⟨P,D,pm,dm,hq,hh⟩
theorem ChOk.more {X' : List RowD} {P : PV} {D : DV} (h : ChOk T N X P D) (hX : ∀ x ∈ X,x ∈ X') : ChOk T N X' P D := ⟨h.kp,h.kd,h.eff,fun x hx => ⟨(h.row x hx).1.sub hX,(h.row x hx).2⟩⟩
theorem Z7b {X Y : List RowD} {h1 h3 : Frag} (a : bag Y h1) (b : bag X h3) (d : ∀ k,h1 k = none ∨ h3 k = none) : bag (Y ++ X) (fun k => (h1 k).or (h3 k)) := fun x hx => by
 rcases List.mem_append.1 hx with hx | hx
 ·obtain ⟨h',hr,hs⟩ := a x hx
  exact ⟨h',hr,fun b o e => Zv8 (hs b o e)⟩
 ·obtain ⟨h',hr,hs⟩ := b x hx
  exact ⟨h',hr,fun b o e => Zr7 d (hs b o e)⟩
theorem St.chAdd {Y : List RowD} (hS : St W F (bag Y :: chR c f b T N X :: rs) w) : St W F (chR c f b T N (Y ++ X) :: rs) w :=
 hS.merge fun h1 h3 hY ⟨P,D,pm,dm,hq,hs⟩ hd => ⟨P,D,pm,dm,hq.more fun x hx => List.mem_append_right _ hx,
  Sep.merge (Sep.append_mk (rs := [Cr.bag Y]) ⟨h1,fun _ => none,hY,Z0k,fun _ => .inr rfl,fun k => by simp⟩ hs hd fun _ => rfl) fun _ _ a b d => Z7b a b d⟩
theorem Rd.ch {w : World} (H : Rd w (chR c f b T N X)) : Rd w (Cr.bag X) := H.mono fun h ⟨_,_,_,_,_,h1,h2,a,_,_,u⟩ => ⟨h1,a,fun b o e => by rw [u,e]; rfl⟩
end
def Z35 (W : World) (F : Nat → Prop) (c f : Nat) (b : Int) (T N : Int → Option Nd) (X : List RowD) (no : Int) (v : Value) (w : World) : Prop :=
 ∃ X',(∀ x ∈ X,x ∈ X') ∧ St W F [chR c f b T N X'] w ∧ ∃ nd a q,v = .tuple #[.agg (ndV nd a q).toArray,.bool (N no).isSome] ∧ ∀ x,N no = some x → nd = x ∧ x.data.length ≤ q ∧ RX X' a (bv x.data)
theorem Z22 {c f tp n : Nat} {b : Int} {T N : Int → Option Nd} {X : List RowD} (no : Int) (W : World) (F : Nat → Prop) (hT : TreeRo W F f tp n b T) (hS : St W F [chR c f b T N X] W) :
  Calls Tryz.prog 92 #[.pointer (some ⟨c,0,none⟩),.int .i64 no] W (Ret fun v w => Z35 W F c f b T N X no v w) := by
 obtain ⟨P,D,pm,dm,hq,hS⟩ := hS.openCh
 have hc := hT.blk
 refine Zab Tryz.func92 rfl Tryz.ntmps92 rfl ?_
 repeat (first|refine Yeb ?_|(refine X_id ?_;first|refine Yaf ?_|refine Yag ?_|refine Yau ?_|refine Yan ?_|refine Yaq ?_|refine Yar (fun _ _ hS _ => ?_))|refine Yec ?_|refine Yab ?_)
 refine X_yl (Zg1 (mk := Value.int .i64) (L := P.vals) (k := no) rfl rfl rfl ((hS.rd (by simp)).mapq_r)) rfl rfl ?_
 rw [Z6s];have he := hq.eff no
 unfold eff at he
 cases hg : getA no P with
 | some x =>
  rw [hg] at he;simp only [Option.map_some,Option.getD_some,Option.isSome_some]
  repeat (first|refine Yeb ?_|(refine X_id ?_;first|refine Yaf ?_|refine Yag ?_|refine Ya0 ?_|refine Ybi ?_|refine Yao (fun _ hS _ => ?_)|refine Yar (fun _ _ hS _ => ?_))|refine Yet ?_|refine Yab ?_|refine Yap ?_|refine Ybz ?_)
  have hS : St W F [bag X,pts c (chC f b pm dm),mapq (Value.int .i64) pm P.vals,mapq (Value.int .i64) dm D.vals] _ := hS.took
  obtain ⟨h1,h2⟩ := hq.row _ (Zjj hg)
  exact ⟨X,fun _ h => h,hS.shutCh hq,x.nd,x.a,x.c,by rw [← he]; rfl,fun y hy => by rw [← he] at hy; cases hy; exact ⟨rfl,h2,h1⟩⟩
 | none =>
  rw [hg] at he;simp only [Option.map_none,Option.getD_none,Option.isSome_none]
  repeat (first|refine Yeb ?_|(refine X_id ?_;first|refine Yaf ?_|refine Yag ?_|refine Yau ?_|refine Yan ?_|refine Ya0 ?_|refine Yaq ?_|refine Yao (fun _ hS _ => ?_)|refine Yar (fun _ _ hS _ => ?_)|refine Ycv ?_)|refine Yen ?_|refine Yab ?_)
  refine Zaa _ rfl rfl rfl rfl rfl (hT.tab.get _ no fun r h => h.rd hS) ?_
  rintro v w hV
  cases hTn : T no with
  | none =>
   rw [hTn] at hV;obtain ⟨rfl,hS'⟩ := hV
   replace hS := hS.plus hS';clear hS';have hN : N no = none := by rw [← he]; simp [hTn]
   repeat (first|refine Yeb ?_|refine Ye5 ?_|refine Yao (fun _ hS _ => ?_)|refine Yar (fun _ _ hS _ => ?_)|refine Yae ?_|refine Yab ?_)
   refine Zao (.s 0 (.s 1 (.s 2 (.s 3 (.s 4 (.s 5 (.s 6 (.s 7 (.s 8 (.s 9 (.s 10 (.s 11 (.h 12 (.s 13 .nil) .no))))))))))))) mixed (by kernel_rfl) rfl ?_
   have hS := hS.drew
   repeat (first|refine Yao (fun _ hS _ => ?_)|refine Yah ?_|refine Yab ?_|refine Ybz ?_|(refine Zaf ?_;first|refine Ya2 ?_|refine Ya6 ?_|refine Ybl ?_|refine Ych ?_|refine Zai rfl rfl (fun _ => Zjp rfl rfl rfl (by omega)) rfl rfl ?_|refine Yb0 ?_|refine Yax ?_|refine Ycm ?_)|(refine Zad ?_;first|refine Ydb ?_))
   have hS : St W F [bag X,pts c (chC f b pm dm),mapq (Value.int .i64) pm P.vals,mapq (Value.int .i64) dm D.vals] _ := hS.took
   exact ⟨X,fun _ h => h,hS.shutCh hq,⟨⟨0,0,0,0⟩,[]⟩,none,0,by rw [hN]; rfl,fun y hy => by rw [hN] at hy; cases hy⟩
  | some x =>
   rw [hTn] at hV;obtain ⟨a,q,rfl,hq2,hS'⟩ := hV
   replace hS := hS.plus hS';clear hS';repeat (first|refine Yeb ?_|refine Ye5 ?_|refine Yao (fun _ hS _ => ?_)|refine Yar (fun _ _ hS _ => ?_)|refine Yae ?_|refine Yab ?_)
   refine Zao (.s 0 (.s 1 (.s 2 (.s 3 (.s 4 (.s 5 (.s 6 (.s 7 (.s 8 (.s 9 (.s 10 (.s 11 (.h 12 (.s 13 .nil) .no))))))))))))) mixed (by kernel_rfl) rfl ?_
   have hS := hS.drew
   repeat (first|(refine Zaf ?_;first|refine Ya6 ?_|refine Ydu ?_|refine Yb0 ?_|refine Yci ?_|refine Yc2 ?_|refine Ycz ?_|refine Yc3 ?_))
   refine Zd6 (fun w' => Rd w' (mapr (Value.int .i64) dm D.vals)) rfl rfl rfl rfl ((hS.rd (by simp)).mapq_r) (fun _ h => Zh3 (mk := Value.int .i64) (L := D.vals) (k := no) rfl rfl rfl h) rfl rfl ?_
   rw [Z6t];obtain ⟨d,hd⟩ : ∃ d,d = (getA no D).getD false := ⟨_,rfl⟩
   have hdv : ((getA no D).map Value.bool).getD (.bool false) = .bool d := by rw [hd]; cases getA no D <;> rfl
   rw [hdv];repeat (first|refine Yao (fun _ hS _ => ?_)|refine Yah ?_|refine Yab ?_|refine Ybz ?_|(refine Zaf ?_;first|refine Ya2 ?_|refine Ybl ?_|refine Ycn ?_|refine Yax ?_|refine Zco rfl rfl rfl rfl (fun _ => Znr rfl rfl) rfl rfl ?_)|(refine Zad ?_;first|refine Ydb ?_))
   have hS : St W F [own 5 1 a q (bv x.data),bag X,pts c (chC f b pm dm),mapq (Value.int .i64) pm P.vals,mapq (Value.int .i64) dm D.vals] _ := hS.took
   have hS := hS.bagAdd (a := a) (cs := bv x.data) fun _ h => h.row
   refine ⟨(a,bv x.data) :: X,fun _ h => List.mem_cons_of_mem _ h,hS.shutCh (hq.more fun _ h => List.mem_cons_of_mem _ h),x,a,q,?_,fun y hy => ?_⟩
   ·rw [← he,← hd,hTn]; cases d <;> rfl
   ·rw [← he,hTn] at hy
    simp only at hy
    split at hy
    ·cases hy
    ·cases hy; exact ⟨rfl,hq2,.mem (List.mem_cons_self ..)⟩
theorem Z66 {T N : Int → Option Nd} {X X' : List RowD} {P : PV} {D : DV} (h : ChOk T N X P D) (hX : ∀ x ∈ X,x ∈ X') (no : Int) (nd : Nd) (a : Option Addr) (q : Nat) (hr : RX X' a (bv nd.data)) (hq : nd.data.length ≤ q) : ChOk T (fun k => if k = no then some nd else N k) X' (setA no ⟨nd,a,q⟩ P) (delA no D) := by
 refine ⟨Zt2 h.kp,Zt3 h.kd,fun k => ?_,fun x hx => ?_⟩
 ·have he := h.eff k
  unfold Cr.eff at he ⊢
  rw [Zep,Zht h.kd];by_cases hk : k = no
  ·rw [if_pos hk]; simp [hk]
  ·simp only [if_neg hk]; exact he
 ·rcases Zog hx with rfl | hx
  ·exact ⟨hr,hq⟩
  ·exact ⟨(h.row x hx).1.sub hX,(h.row x hx).2⟩
theorem set_ {c f : Nat} {b : Int} {T N : Int → Option Nd} {X : List RowD} (no : Int) (nd : Nd) (a : Option Addr) (q : Nat) (W : World) (F : Nat → Prop) (ha : Ro W F (bytes a nd.data) ∨ RX X a (bv nd.data)) (hl : nd.data.length ≤ 1073741824) (hS : St W F [chR c f b T N X] W) :
  Calls Tryz.prog 52 #[.pointer (some ⟨c,0,none⟩),.int .i64 no,.agg (List.toArray [.int .i64 nd.st.kind,.int .i64 nd.st.mode,.int .i64 nd.st.owner,.int .i64 nd.st.group,.slice a nd.data.length q])] W (Ret fun v w => v = .tuple #[] ∧ ∃ X',(∀ x ∈ X,x ∈ X') ∧ St W F [chR c f b T (fun k => if k = no then some nd else N k) X'] w) := by
 obtain ⟨P,D,pm,dm,hq,hS⟩ := hS.openCh
 refine Zab Tryz.func52 rfl Tryz.ntmps52 rfl ?_
 repeat (first|refine Yeb ?_|(refine X_id ?_;first|refine Yaf ?_|refine Yau ?_|refine Yan ?_|refine Yaq ?_|refine Yba (fun _ _ hS _ => ?_))|refine Yec ?_|refine Yab ?_)
 have hS := hS.pick [4,0,0,0,0]
 refine Zjb (mk := Value.int .i64) (L := D.vals) (k := no) rfl rfl rfl rfl hS (fun w hS => ?_)
 rw [Z62] at hS;repeat (first|refine Yac ?_|refine Yab ?_)
 refine Zao (.s 0 (.s 1 (.s 2 (.s 3 (.s 4 (.s 5 (.s 6 (.s 7 (.s 8 (.h 9 (.s 10 (.h 11 .nil .no)) .no)))))))))) mixed (by kernel_rfl) rfl ?_
 have hS := hS.drew
 repeat (first|(refine Zaf ?_;first|refine Ya6 ?_|refine Ybs ?_|refine Ybk ?_|refine Ybn ?_|refine Yb0 ?_|refine Yax ?_))
 refine Zaa _ rfl rfl rfl rfl rfl (Ze6 a nd.data.length q nd.data _ (by
  rcases ha with ha | ha
  ·exact ha.rd hS
  ·exact ha.rd (hS.rd (r := bag X) (by simp))) rfl hl) ?_
 rintro _ w ⟨a',q',rfl,_,hqq,hS'⟩
 replace hS := hS.plus hS';clear hS';repeat (first|(refine Zaf ?_;first|refine Ycd ?_|refine Yax ?_)|(refine Zad ?_;first|refine Ydb ?_))
 have hS := hS.pick [5,0,2,2,0]
 refine Zfw (mk := Value.int .i64) (L := P.vals) (k := no) rfl rfl rfl rfl rfl hS (fun w hS => ?_)
 rw [show (Value.agg (List.toArray [.int .i64 nd.st.kind,.int .i64 nd.st.mode,.int .i64 nd.st.owner,.int .i64 nd.st.group,.slice a' nd.data.length q'])) = PN.val ⟨nd,a',q'⟩ from rfl,Z4p] at hS
 repeat (first|refine Ybu ?_|(refine Zaf ?_;first|refine Ya2 ?_)|(refine Zad ?_;first|refine Ydb ?_))
 have hS : St W F [own 5 1 a' q' (bv nd.data),bag X,pts c (chC f b pm dm),mapq (Value.int .i64) pm (PV.vals (setA no ⟨nd,a',q'⟩ P)),mapq (Value.int .i64) dm (DV.vals (delA no D))] _ := hS.took
 have hS := hS.bagAdd (a := a') (cs := bv nd.data) fun _ h => h.row
 exact ⟨rfl,_,fun _ h => List.mem_cons_of_mem _ h,hS.shutCh (Z66 hq (fun _ h => List.mem_cons_of_mem _ h) no nd a' q' (.mem (List.mem_cons_self ..)) hqq)⟩
end Cr
namespace Cr
open Go
set_option maxHeartbeats 64000000

abbrev Nm := List UInt8 × Int
def Zeh (x : Nm) : Mv := liM [txM x.1,nuM x.2]
def dirM (l : List Nm) : Mv := liM (l.map Zeh)
def wrD (l : List Nm) : List UInt8 := encM (dirM l)
def Zfr (x : Mv) : Option Nm := match x.lst with
 | [a,b] => some (a.txt,b.num)
 | _ => none
def rdV (v : Mv) : List Nm := v.lst.filterMap Zfr
def rdD (b : List UInt8) : List Nm := match decM b with
 | some v => rdV v
 | none => []
def NmOk (l : List Nm) : Prop := l.length ≤ 1024 ∧ ∀ x ∈ l,x.1.length ≤ 64 ∧ 0 ≤ x.2 ∧ x.2 ≤ 1000000
theorem Zkw (x : Nm) (m : Nat) : chkM (m + 1) (Zeh x) = 0 := Znl fun y hy => by
 simp only [List.mem_cons,List.not_mem_nil,or_false] at hy
 rcases hy with rfl | rfl
 ·exact Zs1 _ _
 ·exact Zs2 _ _
theorem Zs0 (l : List Nm) : chkM 8 (dirM l) = 0 := Znl fun y hy => by
 obtain ⟨x,_,rfl⟩ := List.mem_map.1 hy
 exact Zkw x _
theorem Zw8 {x : Nm} (h : x.1.length ≤ 64 ∧ 0 ≤ x.2 ∧ x.2 ≤ 1000000) : fitM (Zeh x) := by
 rw [Zeh,fitM,Zga,Zga,Zga,fitM,fitM,Zga];refine ⟨by omega,by simp,⟨by omega,by omega,trivial⟩,⟨by omega,by simp,trivial⟩,trivial⟩
theorem Zsu {l : List Nm} (h : ∀ x ∈ l,x.1.length ≤ 64 ∧ 0 ≤ x.2 ∧ x.2 ≤ 1000000) : fitM (dirM l) := by
 rw [dirM,fitM,fitMs_mem];refine ⟨by omega,by simp,fun y hy => ?_⟩
 obtain ⟨x,hx,rfl⟩ := List.mem_map.1 hy
 exact Zw8 (h x hx)
theorem Zzi (l : List Nm) : rdV (dirM l) = l := by
 show List.filterMap Zfr (l.map Zeh) = l
 rw [List.filterMap_map];have : (Zfr ∘ Zeh) = some := by funext x; rfl
 rw [this,List.filterMap_some]
theorem Zv0 {l : List Nm} (h : ∀ x ∈ l,x.1.length ≤ 64 ∧ 0 ≤ x.2 ∧ x.2 ≤ 1000000) : rdD (wrD l) = l := by
 unfold rdD wrD
 rw [Z0n (Zs0 l) (Zsu h)];exact Zzi l
theorem Zrw : ∀ (k u : Nat),u < 10 ^ (k + 1) → (Lib.decDigits u).length ≤ k + 1
 | 0,u,h => by rw [Lib.decDigits_one (by simpa using h)]; simp
 | k + 1,u,h => by
  rw [Lib.decDigits];by_cases h' : u < 10
  ·rw [dif_pos h']; simp
  ·rw [dif_neg h',List.length_append]
   have := Zrw k (u / 10) (by rw [Nat.pow_succ] at h; omega)
   simp; omega
theorem Zd0 {n : Int} (h0 : 0 ≤ n) (h1 : n ≤ 1000000) : (Lib.itoa n).length ≤ 7 := by
 obtain ⟨u,rfl⟩ : ∃ u : Nat,n = u := ⟨n.toNat,by omega⟩
 rw [Zbt]; exact Zrw 6 u (by omega)
theorem Zxh {x : Nm} (h : x.1.length ≤ 64 ∧ 0 ≤ x.2 ∧ x.2 ≤ 1000000) : (encM (Zeh x)).length ≤ 83 := by
 have h1 := Zd0 (n := (x.1.length : Nat)) (by omega) (by omega)
 have h2 := Zd0 h.2.1 h.2.2
 rw [Zeh,Zbz,Za3,Za3,Za3,Ze4,Zd9];simp only [List.length_cons,List.length_append,List.length_nil]
 omega
theorem Zl6 : ∀ {l : List Nm},(∀ x ∈ l,x.1.length ≤ 64 ∧ 0 ≤ x.2 ∧ x.2 ≤ 1000000) → (Za3 (l.map Zeh)).length ≤ 83 * l.length
 | [],_ => by simp [Za3]
 | x :: l,h => by
  have h1 := Zxh (h x (List.mem_cons_self ..))
  have h2 := Zl6 fun y hy => h y (List.mem_cons_of_mem _ hy)
  rw [List.map_cons,Za3,List.length_append,List.length_cons]; omega
theorem Zu5 {l : List Nm} (h : NmOk l) : (wrD l).length ≤ 84994 := by
 have := Zl6 h.2
 have := h.1
 rw [wrD,dirM,Zbz];simp only [List.length_cons,List.length_append,List.length_nil]; omega
theorem Zyz (x : Nm) : wM (Zeh x) = 3 + x.1.length := by
 simp only [Zeh,Zoa,wMs,List.length_nil]; omega
theorem Zrq : ∀ {l : List Nm},(∀ x ∈ l,x.1.length ≤ 64) → wMs (l.map Zeh) ≤ 67 * l.length
 | [],_ => by simp [wMs]
 | x :: l,h => by
  have h1 := h x (List.mem_cons_self ..)
  have h2 := Zrq fun y hy => h y (List.mem_cons_of_mem _ hy)
  rw [List.map_cons,wMs,Zyz,List.length_cons]; omega
theorem Z10 {l : List Nm} (h : NmOk l) : wM (dirM l) ≤ 1048576 := by
 have := Zrq (l := l) fun x hx => (h.2 x hx).1
 have := h.1
 rw [dirM,Zoa]; simp only [List.length_nil]; omega
theorem Zjk {m : Nat} : ∀ {l : List Mv},(∀ x ∈ l,chkM m x = 0) → 2 * l.length ≤ (Za3 l).length
 | [],_ => by simp
 | x :: l,h => by
  have h1 := Znh (h x (List.mem_cons_self ..))
  have h2 := Zjk (m := m) fun y hy => h y (List.mem_cons_of_mem _ hy)
  rw [Za3,List.length_append,List.length_cons]; omega
theorem Zma {s : List UInt8} {v : Mv} (h : decM s = some v) : 2 * v.lst.length ≤ s.length := by
 obtain ⟨rfl,hc,_⟩ := Zup h
 rcases Zes hc with ⟨n,rfl⟩ | ⟨b,rfl⟩ | ⟨l,m',rfl,_,hl⟩
 ·simp [Mv.lst]
 ·simp [Mv.lst]
 ·have := Zjk hl
  rw [Zbz]; simp [Mv.lst]; omega
end Cr
namespace Go.Proofs
open Go.Shelf
def Tryz.laysM171_ren : Go.Shelf.Ren := ⟨fun | 171 => 72 | 243 => 136 | 246 => 177 | 283 => 208 | 284 => 209 | 285 => 210 | 286 => 211 | 129 => 237 | 317 => 236 | 318 => 238 | 319 => 239 | 320 => 240 | 337 => 271 | 338 => 272 | n => n,fun | 3 => 3 | 9 => 9 | 2 => 2 | 4 => 4 | 171 => 319 | 0 => 0 | 53 => 43 | 37 => 22 | 5 => 5 | 173 => 322 | 212 => 352 | 51 => 139 | 20 => 20 | 213 => 353 | 46 => 125 | 232 => 54 | 233 => 214 | n => n,fun | 17 => 3 | 18 => 4 | 19 => 5 | n => n⟩
theorem Tryz.laysM171 : Go.Proofs.LaysM.n171 Tryz.prog Tryz.laysM171_ren := {
 mixed := by kernel_rfl
 f129 := Tryz.func237.trans (congrArg some (by kernel_rfl))
 f171 := Tryz.func72.trans (congrArg some (by kernel_rfl))
 f243 := Tryz.func136.trans (congrArg some (by kernel_rfl))
 f246 := Tryz.func177.trans (congrArg some (by kernel_rfl))
 f283 := Tryz.func208.trans (congrArg some (by kernel_rfl))
 f284 := Tryz.func209.trans (congrArg some (by kernel_rfl))
 f285 := Tryz.func210.trans (congrArg some (by kernel_rfl))
 f286 := Tryz.func211.trans (congrArg some (by kernel_rfl))
 f317 := Tryz.func236.trans (congrArg some (by kernel_rfl))
 f318 := Tryz.func238.trans (congrArg some (by kernel_rfl))
 f319 := Tryz.func239.trans (congrArg some (by kernel_rfl))
 f320 := Tryz.func240.trans (congrArg some (by kernel_rfl))
 f337 := Tryz.func271.trans (congrArg some (by kernel_rfl))
 f338 := Tryz.func272.trans (congrArg some (by kernel_rfl))
 t0 := Tryz.underlying0
 a0 := Tryz.isAgg0
 z0 := Tryz.sizeOf0
 v0 := Tryz.zeroValue0
 t2 := Tryz.underlying2
 a2 := Tryz.isAgg2
 z2 := Tryz.sizeOf2
 v2 := Tryz.zeroValue2
 t3 := Tryz.underlying3
 a3 := Tryz.isAgg3
 z3 := Tryz.sizeOf3
 v3 := Tryz.zeroValue3
 t4 := Tryz.underlying4
 a4 := Tryz.isAgg4
 z4 := Tryz.sizeOf4
 v4 := Tryz.zeroValue4
 t5 := Tryz.underlying5
 a5 := Tryz.isAgg5
 z5 := Tryz.sizeOf5
 v5 := Tryz.zeroValue5
 t9 := Tryz.underlying9
 a9 := Tryz.isAgg9
 z9 := Tryz.sizeOf9
 v9 := Tryz.zeroValue9
 t20 := Tryz.underlying20
 a20 := Tryz.isAgg20
 z20 := Tryz.sizeOf20
 v20 := Tryz.zeroValue20
 t37 := Tryz.underlying22
 a37 := Tryz.isAgg22
 z37 := Tryz.sizeOf22
 v37 := Tryz.zeroValue22
 t46 := Tryz.underlying125
 a46 := Tryz.isAgg125
 z46 := Tryz.sizeOf125
 v46 := Tryz.zeroValue125
 t51 := Tryz.underlying139
 a51 := Tryz.isAgg139
 z51 := Tryz.sizeOf139
 v51 := Tryz.zeroValue139
 t53 := Tryz.underlying43
 a53 := Tryz.isAgg43
 z53 := Tryz.sizeOf43
 v53 := Tryz.zeroValue43
 t171 := Tryz.underlying319
 a171 := Tryz.isAgg319
 z171 := Tryz.sizeOf319
 v171 := Tryz.zeroValue319
 t173 := Tryz.underlying322
 a173 := Tryz.isAgg322
 z173 := Tryz.sizeOf322
 v173 := Tryz.zeroValue322
 t212 := Tryz.underlying352
 a212 := Tryz.isAgg352
 z212 := Tryz.sizeOf352
 v212 := Tryz.zeroValue352
 t213 := Tryz.underlying353
 a213 := Tryz.isAgg353
 z213 := Tryz.sizeOf353
 t232 := Tryz.underlying54
 a232 := Tryz.isAgg54
 z232 := Tryz.sizeOf54
 v232 := Tryz.zeroValue54
 t233 := Tryz.underlying214
 a233 := Tryz.isAgg214
 z233 := Tryz.sizeOf214
 v233 := Tryz.zeroValue214
 g17 := by kernel_rfl
 g18 := by kernel_rfl
 g19 := by kernel_rfl
 i0 := by kernel_rfl
 i2 := by kernel_rfl
 i3 := by kernel_rfl
 i4 := by kernel_rfl
 i5 := by kernel_rfl
 i9 := by kernel_rfl
 i20 := by kernel_rfl
 i37 := by kernel_rfl
 i46 := by kernel_rfl
 i51 := by kernel_rfl
 i53 := by kernel_rfl
 i171 := by kernel_rfl
 i173 := by kernel_rfl
 i212 := by kernel_rfl
 i232 := by kernel_rfl
 i233 := by kernel_rfl
 m17 := by kernel_rfl
 m18 := by kernel_rfl
 m19 := by kernel_rfl }
open Go.RowKit Go.Sort Go.Lib in
theorem Tryz.strconv_Itoa (n : Int) (h0 : -9223372036854775808 ≤ n) (h1 : n ≤ 9223372036854775807) (w : World) (htab : Lib.TabIs Tryz.prog w "internal/strconv.uint64pow10" .u64 Lib.pow10Tab) :
  Calls Tryz.prog 72 #[.int .i64 n] w fun e w' => e = .returned (.string ⟨(Lib.itoa n).toArray⟩) ∧ ∃ k os,w' = grow (w.drewN k) os := Any.strconv_Itoa Tryz.laysM171 n h0 h1 w htab
def Tryz.laysC172_ren : Go.Shelf.Ren := ⟨fun | 172 => 274 | 244 => 286 | 245 => 287 | 247 => 294 | 279 => 295 | 280 => 296 | 281 => 297 | 282 => 298 | 287 => 304 | 316 => 305 | 171 => 72 | 205 => 306 | 321 => 312 | 322 => 313 | 243 => 136 | 246 => 177 | 283 => 208 | 284 => 209 | 285 => 210 | 286 => 211 | 129 => 237 | 317 => 236 | 318 => 238 | 319 => 239 | 320 => 240 | 337 => 271 | 338 => 272 | n => n,fun | 9 => 9 | 3 => 3 | 75 => 376 | 76 => 377 | 4 => 4 | 5 => 5 | 167 => 396 | 37 => 22 | 0 => 0 | 85 => 397 | 2 => 2 | 168 => 399 | 53 => 43 | 175 => 407 | 46 => 125 | 210 => 411 | 127 => 391 | 145 => 416 | 143 => 414 | 21 => 21 | 171 => 319 | 173 => 322 | 212 => 352 | 51 => 139 | 20 => 20 | 213 => 353 | 232 => 54 | 233 => 214 | 80 => 382 | n => n,fun | 15 => 6 | 16 => 7 | 17 => 3 | 18 => 4 | 19 => 5 | n => n⟩
theorem Tryz.laysC172 : Go.Proofs.LaysC.n172 Tryz.prog Tryz.laysC172_ren := {
 mixed := by kernel_rfl
 f129 := Tryz.func237.trans (congrArg some (by kernel_rfl))
 f171 := Tryz.func72.trans (congrArg some (by kernel_rfl))
 f172 := Tryz.func274.trans (congrArg some (by kernel_rfl))
 f205 := Tryz.func306.trans (congrArg some (by kernel_rfl))
 f243 := Tryz.func136.trans (congrArg some (by kernel_rfl))
 f244 := Tryz.func286.trans (congrArg some (by kernel_rfl))
 f245 := Tryz.func287.trans (congrArg some (by kernel_rfl))
 f246 := Tryz.func177.trans (congrArg some (by kernel_rfl))
 f247 := Tryz.func294.trans (congrArg some (by kernel_rfl))
 f279 := Tryz.func295.trans (congrArg some (by kernel_rfl))
 f280 := Tryz.func296.trans (congrArg some (by kernel_rfl))
 f281 := Tryz.func297.trans (congrArg some (by kernel_rfl))
 f282 := Tryz.func298.trans (congrArg some (by kernel_rfl))
 f283 := Tryz.func208.trans (congrArg some (by kernel_rfl))
 f284 := Tryz.func209.trans (congrArg some (by kernel_rfl))
 f285 := Tryz.func210.trans (congrArg some (by kernel_rfl))
 f286 := Tryz.func211.trans (congrArg some (by kernel_rfl))
 f287 := Tryz.func304.trans (congrArg some (by kernel_rfl))
 f316 := Tryz.func305.trans (congrArg some (by kernel_rfl))
 f317 := Tryz.func236.trans (congrArg some (by kernel_rfl))
 f318 := Tryz.func238.trans (congrArg some (by kernel_rfl))
 f319 := Tryz.func239.trans (congrArg some (by kernel_rfl))
 f320 := Tryz.func240.trans (congrArg some (by kernel_rfl))
 f321 := Tryz.func312.trans (congrArg some (by kernel_rfl))
 f322 := Tryz.func313.trans (congrArg some (by kernel_rfl))
 f337 := Tryz.func271.trans (congrArg some (by kernel_rfl))
 f338 := Tryz.func272.trans (congrArg some (by kernel_rfl))
 t0 := Tryz.underlying0
 a0 := Tryz.isAgg0
 z0 := Tryz.sizeOf0
 v0 := Tryz.zeroValue0
 t2 := Tryz.underlying2
 a2 := Tryz.isAgg2
 z2 := Tryz.sizeOf2
 v2 := Tryz.zeroValue2
 t3 := Tryz.underlying3
 a3 := Tryz.isAgg3
 z3 := Tryz.sizeOf3
 v3 := Tryz.zeroValue3
 t4 := Tryz.underlying4
 a4 := Tryz.isAgg4
 z4 := Tryz.sizeOf4
 v4 := Tryz.zeroValue4
 t5 := Tryz.underlying5
 a5 := Tryz.isAgg5
 z5 := Tryz.sizeOf5
 v5 := Tryz.zeroValue5
 t9 := Tryz.underlying9
 a9 := Tryz.isAgg9
 z9 := Tryz.sizeOf9
 v9 := Tryz.zeroValue9
 t20 := Tryz.underlying20
 a20 := Tryz.isAgg20
 z20 := Tryz.sizeOf20
 v20 := Tryz.zeroValue20
 t21 := Tryz.underlying21
 a21 := Tryz.isAgg21
 z21 := Tryz.sizeOf21
 v21 := Tryz.zeroValue21
 t37 := Tryz.underlying22
 a37 := Tryz.isAgg22
 z37 := Tryz.sizeOf22
 v37 := Tryz.zeroValue22
 t46 := Tryz.underlying125
 a46 := Tryz.isAgg125
 z46 := Tryz.sizeOf125
 v46 := Tryz.zeroValue125
 t51 := Tryz.underlying139
 a51 := Tryz.isAgg139
 z51 := Tryz.sizeOf139
 v51 := Tryz.zeroValue139
 t53 := Tryz.underlying43
 a53 := Tryz.isAgg43
 z53 := Tryz.sizeOf43
 v53 := Tryz.zeroValue43
 t75 := Tryz.underlying376
 a75 := Tryz.isAgg376
 z75 := Tryz.sizeOf376
 v75 := Tryz.zeroValue376
 t76 := Tryz.underlying377
 a76 := Tryz.isAgg377
 z76 := Tryz.sizeOf377
 v76 := Tryz.zeroValue377
 t85 := Tryz.underlying397
 a85 := Tryz.isAgg397
 z85 := Tryz.sizeOf397
 v85 := Tryz.zeroValue397
 t127 := Tryz.underlying391
 a127 := Tryz.isAgg391
 z127 := Tryz.sizeOf391
 v127 := Tryz.zeroValue391
 t143 := Tryz.underlying414
 a143 := Tryz.isAgg414
 z143 := Tryz.sizeOf414
 v143 := Tryz.zeroValue414
 t145 := Tryz.underlying416
 a145 := Tryz.isAgg416
 z145 := Tryz.sizeOf416
 v145 := Tryz.zeroValue416
 t167 := Tryz.underlying396
 a167 := Tryz.isAgg396
 z167 := Tryz.sizeOf396
 v167 := Tryz.zeroValue396
 t168 := Tryz.underlying399
 a168 := Tryz.isAgg399
 z168 := Tryz.sizeOf399
 v168 := Tryz.zeroValue399
 t171 := Tryz.underlying319
 a171 := Tryz.isAgg319
 z171 := Tryz.sizeOf319
 v171 := Tryz.zeroValue319
 t173 := Tryz.underlying322
 a173 := Tryz.isAgg322
 z173 := Tryz.sizeOf322
 v173 := Tryz.zeroValue322
 t175 := Tryz.underlying407
 a175 := Tryz.isAgg407
 z175 := Tryz.sizeOf407
 v175 := Tryz.zeroValue407
 t210 := Tryz.underlying411
 a210 := Tryz.isAgg411
 z210 := Tryz.sizeOf411
 v210 := Tryz.zeroValue411
 t212 := Tryz.underlying352
 a212 := Tryz.isAgg352
 z212 := Tryz.sizeOf352
 v212 := Tryz.zeroValue352
 t213 := Tryz.underlying353
 a213 := Tryz.isAgg353
 z213 := Tryz.sizeOf353
 t232 := Tryz.underlying54
 a232 := Tryz.isAgg54
 z232 := Tryz.sizeOf54
 v232 := Tryz.zeroValue54
 t233 := Tryz.underlying214
 a233 := Tryz.isAgg214
 z233 := Tryz.sizeOf214
 v233 := Tryz.zeroValue214
 g15 := by kernel_rfl
 g16 := by kernel_rfl
 g17 := by kernel_rfl
 g18 := by kernel_rfl
 g19 := by kernel_rfl
 t80 := Tryz.underlying382
 a80 := Tryz.isAgg382
 z80 := Tryz.sizeOf382
 v80 := Tryz.zeroValue382
 i0 := by kernel_rfl
 i2 := by kernel_rfl
 i3 := by kernel_rfl
 i4 := by kernel_rfl
 i5 := by kernel_rfl
 i9 := by kernel_rfl
 i20 := by kernel_rfl
 i21 := by kernel_rfl
 i37 := by kernel_rfl
 i46 := by kernel_rfl
 i51 := by kernel_rfl
 i53 := by kernel_rfl
 i75 := by kernel_rfl
 i76 := by kernel_rfl
 i80 := by kernel_rfl
 i85 := by kernel_rfl
 i127 := by kernel_rfl
 i143 := by kernel_rfl
 i145 := by kernel_rfl
 i167 := by kernel_rfl
 i168 := by kernel_rfl
 i171 := by kernel_rfl
 i173 := by kernel_rfl
 i175 := by kernel_rfl
 i210 := by kernel_rfl
 i212 := by kernel_rfl
 i232 := by kernel_rfl
 i233 := by kernel_rfl
 m15 := by kernel_rfl
 m16 := by kernel_rfl
 m17 := by kernel_rfl
 m18 := by kernel_rfl
 m19 := by kernel_rfl
 c0 := by kernel_rfl
 c2 := by kernel_rfl
 c3 := by kernel_rfl
 c4 := by kernel_rfl
 c5 := by kernel_rfl
 c9 := by kernel_rfl
 c20 := by kernel_rfl
 c21 := by kernel_rfl
 c37 := by kernel_rfl
 c46 := by kernel_rfl
 c51 := by kernel_rfl
 c53 := by kernel_rfl
 c75 := by kernel_rfl
 c76 := by kernel_rfl
 c80 := by kernel_rfl
 c85 := by kernel_rfl
 c127 := by kernel_rfl
 c143 := by kernel_rfl
 c145 := by kernel_rfl
 c167 := by kernel_rfl
 c168 := by kernel_rfl
 c171 := by kernel_rfl
 c173 := by kernel_rfl
 c175 := by kernel_rfl
 c210 := by kernel_rfl
 c212 := by kernel_rfl
 c213 := by kernel_rfl
 c232 := by kernel_rfl
 c233 := by kernel_rfl }
open Go.RowKit in
theorem Tryz.strconv_Atoi_ok (s : ByteArray) (hmax : s.size ≤ 9223372036854775806) (v : Int) (h : Lib.atoiAll s.data.toList = .ok v) (w : World) :
  Calls Tryz.prog 274 #[.string s] w fun e w' => e = .returned (.tuple #[.int .i64 v,.nilIface]) ∧ (w' = w ∨ ∃ t,w' = Lib.bytesWorld w 5 t) := Any.strconv_Atoi_ok Tryz.laysC172 s hmax v h w
open Go.RowKit in
theorem Tryz.strconv_Atoi_range_var (s : ByteArray) (hlim : s.size ≤ 281474976710656) (h : Lib.atoiAll s.data.toList = .range) (tp : TypeId) (p : Value) (w : World) (hvar : w.var? Tryz.prog "strconv.ErrRange" = some #[.iface tp p]) :
  Calls Tryz.prog 274 #[.string s] w fun e w' => ∃ N,e = .returned (.tuple #[.int .i64 (Lib.atoiSat s.data.toList),.iface 399 (.pointer (some ⟨N,0,none⟩))]) ∧ w.heap.size ≤ N ∧ w'.heap[N]? = some (.cells #[.string ⟨#[65,116,111,105]⟩,.string s,.iface tp p] 411 (0,0)) ∧ Below w.heap.size w w' := Any.strconv_Atoi_range_var Tryz.laysC172 s hlim h tp p w hvar
def Tryz.lays189_ren : Go.Shelf.Ren := ⟨fun | 189 => 206 | 125 => 235 | 257 => 234 | 128 => 270 | 129 => 237 | 294 => 261 | 295 => 262 | 296 => 263 | 297 => 264 | 298 => 265 | 299 => 266 | 216 => 267 | 300 => 268 | 301 => 269 | 328 => 280 | 329 => 281 | 330 => 282 | 331 => 283 | 332 => 284 | 215 => 285 | 343 => 293 | n => n,fun | 28 => 94 | 3 => 3 | 46 => 125 | 0 => 0 | 51 => 139 | 53 => 43 | 4 => 4 | 183 => 367 | 182 => 366 | 131 => 117 | 5 => 5 | 9 => 9 | 218 => 384 | 222 => 388 | 228 => 393 | 229 => 394 | n => n,fun | n => n⟩
theorem Tryz.lays189 : Go.Proofs.Lays.n189 Tryz.prog Tryz.lays189_ren := {
 mixed := by kernel_rfl
 f125 := Tryz.func235.trans (congrArg some (by kernel_rfl))
 f128 := Tryz.func270.trans (congrArg some (by kernel_rfl))
 f129 := Tryz.func237.trans (congrArg some (by kernel_rfl))
 f189 := Tryz.func206.trans (congrArg some (by kernel_rfl))
 f215 := Tryz.func285.trans (congrArg some (by kernel_rfl))
 f216 := Tryz.func267.trans (congrArg some (by kernel_rfl))
 f257 := Tryz.func234.trans (congrArg some (by kernel_rfl))
 f294 := Tryz.func261.trans (congrArg some (by kernel_rfl))
 f295 := Tryz.func262.trans (congrArg some (by kernel_rfl))
 f296 := Tryz.func263.trans (congrArg some (by kernel_rfl))
 f297 := Tryz.func264.trans (congrArg some (by kernel_rfl))
 f298 := Tryz.func265.trans (congrArg some (by kernel_rfl))
 f299 := Tryz.func266.trans (congrArg some (by kernel_rfl))
 f300 := Tryz.func268.trans (congrArg some (by kernel_rfl))
 f301 := Tryz.func269.trans (congrArg some (by kernel_rfl))
 f328 := Tryz.func280.trans (congrArg some (by kernel_rfl))
 f329 := Tryz.func281.trans (congrArg some (by kernel_rfl))
 f330 := Tryz.func282.trans (congrArg some (by kernel_rfl))
 f331 := Tryz.func283.trans (congrArg some (by kernel_rfl))
 f332 := Tryz.func284.trans (congrArg some (by kernel_rfl))
 f343 := Tryz.func293.trans (congrArg some (by kernel_rfl))
 t0 := Tryz.underlying0
 a0 := Tryz.isAgg0
 z0 := Tryz.sizeOf0
 v0 := Tryz.zeroValue0
 t3 := Tryz.underlying3
 a3 := Tryz.isAgg3
 z3 := Tryz.sizeOf3
 v3 := Tryz.zeroValue3
 t4 := Tryz.underlying4
 a4 := Tryz.isAgg4
 z4 := Tryz.sizeOf4
 v4 := Tryz.zeroValue4
 t5 := Tryz.underlying5
 a5 := Tryz.isAgg5
 z5 := Tryz.sizeOf5
 v5 := Tryz.zeroValue5
 t9 := Tryz.underlying9
 a9 := Tryz.isAgg9
 z9 := Tryz.sizeOf9
 v9 := Tryz.zeroValue9
 t28 := Tryz.underlying94
 a28 := Tryz.isAgg94
 z28 := Tryz.sizeOf94
 v28 := Tryz.zeroValue94
 t46 := Tryz.underlying125
 a46 := Tryz.isAgg125
 z46 := Tryz.sizeOf125
 v46 := Tryz.zeroValue125
 t51 := Tryz.underlying139
 a51 := Tryz.isAgg139
 z51 := Tryz.sizeOf139
 v51 := Tryz.zeroValue139
 t53 := Tryz.underlying43
 a53 := Tryz.isAgg43
 z53 := Tryz.sizeOf43
 v53 := Tryz.zeroValue43
 t131 := Tryz.underlying117
 a131 := Tryz.isAgg117
 z131 := Tryz.sizeOf117
 v131 := Tryz.zeroValue117
 t182 := Tryz.underlying366
 a182 := Tryz.isAgg366
 z182 := Tryz.sizeOf366
 v182 := Tryz.zeroValue366
 t183 := Tryz.underlying367
 a183 := Tryz.isAgg367
 z183 := Tryz.sizeOf367
 v183 := Tryz.zeroValue367
 t218 := Tryz.underlying384
 a218 := Tryz.isAgg384
 z218 := Tryz.sizeOf384
 v218 := Tryz.zeroValue384
 t222 := Tryz.underlying388
 a222 := Tryz.isAgg388
 z222 := Tryz.sizeOf388
 v222 := Tryz.zeroValue388
 t228 := Tryz.underlying393
 a228 := Tryz.isAgg393
 z228 := Tryz.sizeOf393
 v228 := Tryz.zeroValue393
 t229 := Tryz.underlying394
 a229 := Tryz.isAgg394
 z229 := Tryz.sizeOf394
 v229 := Tryz.zeroValue394 }
open Go.Sort Go.RowKit in
theorem Tryz.slices_Sort_int (blk off cap : Nat) (zs : List Int) (w : World) (hH : Holds (Value.int .i64) w blk off zs.toArray) (hblk : blk < w.heap.size) (hsz : zs.length < 4611686018427387904) :
  Calls Tryz.prog 206 #[.slice (some ⟨blk,off,none⟩) zs.length cap] w fun e w' =>
   e = .returned (.tuple #[]) ∧ ∃ n os,w' = grow (putRow (Value.int .i64) (Sort.ahead w n) blk off (zs.mergeSort fun x y => decide (x ≤ y)).toArray) os := Any.slices_Sort_int Tryz.lays189 blk off cap zs w hH hblk hsz
open Go.RowKit Go.Sort in
theorem Tryz.slices_Sort_int_none (p : Option Addr) (cap : Nat) (w : World) :
  Calls Tryz.prog 206 #[.slice p 0 cap] w fun e w' => e = .returned (.tuple #[]) ∧ w' = w := Any.slices_Sort_int_none Tryz.lays189 p cap w
end Go.Proofs
namespace Cr
open Go Go.Proofs
set_option maxRecDepth 100000
set_option maxHeartbeats 64000000
attribute [local irreducible] Calls

def glob (g : Nat) (cs : List Value) : Res := fun h => ∃ t fz,h = Zcl g (.cells cs.toArray t fz)
theorem Zsq {P : Program} {w : World} {g : Nat} {cs : List Value} {n : String} (hg : P.globalNamed n = some g) (H : Rd w (glob g cs)) : w.var? P n = some cs.toArray := by
 obtain ⟨h,⟨t,fz,rfl⟩,ha⟩ := H
 have hb := ha g _ (Zan _ _)
 unfold World.var?
 rw [hg];simp only [Option.bind_some]
 rw [hb]
theorem glob_of_var {P : Program} {w : World} {g : Nat} {cs : Array Value} {n : String} (hg : P.globalNamed n = some g) (H : w.var? P n = some cs) : Rd w (glob g cs.toList) := by
 unfold World.var? at H
 rw [hg] at H;simp only [Option.bind_some] at H
 cases hb : w.heap[g]? with
 | none => rw [hb] at H; cases H
 | some o =>
  cases o with
  | cells c t fz =>
   rw [hb] at H;obtain rfl : c = cs := by simpa using H
   refine ⟨Zcl g (.cells c t fz),⟨t,fz,by simp⟩,fun b o e => ?_⟩
   obtain ⟨rfl,rfl⟩ := Zhf e
   exact hb
  | _ => rw [hb] at H; cases H
def Lg (W : World) (F : Nat → Prop) : Prop := Ro W F (glob 3 (Lib.pow10Tab.map fun z => Value.int .u64 z)) ∧ ∃ tp p,Ro W F (glob 7 [.iface tp p])
theorem Lg.mono {W W' : World} {F F' : Nat → Prop} (H : Lg W F) (hm : ∀ r,Ro W F r → Ro W' F' r) : Lg W' F' := by
 obtain ⟨h1,tp,p,h2⟩ := H
 exact ⟨hm _ h1,tp,p,hm _ h2⟩
theorem Zz7 (n : Int) (W : World) (F : Nat → Prop) (hG : Lg W F) (h0 : -9223372036854775808 ≤ n) (h1 : n ≤ 9223372036854775807) :
  Calls Tryz.prog 72 #[.int .i64 n] W (Ret fun v w => v = .string (str (Lib.itoa n)) ∧ St W noF [] w) := by
 refine (Tryz.strconv_Itoa n h0 h1 W (Zsq (by kernel_rfl) hG.1.start)).mono ?_
 rintro e w ⟨rfl,k,os,rfl⟩
 refine ⟨_,rfl,rfl,(St.start W).below ⟨rfl,rfl,rfl,by simp [Sort.grow],fun j hj => ?_⟩⟩
 show (W.heap ++ os)[j]? = _
 rw [Array.getElem?_append_left hj]
theorem Z9a (s : List UInt8) (W : World) (F : Nat → Prop) (hG : Lg W F) (hl : s.length ≤ 1099511627776) (hs : (∃ n,Lib.atoiAll s = .ok n) ∨ Lib.atoiAll s = .range) :
  Calls Tryz.prog 274 #[.string (str s)] W (Ret fun v w => (∃ n er,v = .tuple #[.int .i64 n,er] ∧ ((Lib.atoiAll s = .ok n ∧ er = .nilIface) ∨ (Lib.atoiAll s = .range ∧ ∃ t p,er = .iface t p))) ∧ St W noF [] w) := by
 have hz : (str s).size = s.length := Zci s
 have ht : (str s).data.toList = s := by simp [str]
 rcases hs with ⟨n,h⟩ | h
 ·refine (Tryz.strconv_Atoi_ok (str s) (by omega) n (by rw [ht]; exact h) W).mono ?_
  rintro e w ⟨rfl,hw⟩
  refine ⟨_,rfl,⟨n,_,rfl,.inl ⟨h,rfl⟩⟩,?_⟩
  rcases hw with rfl | ⟨t,rfl⟩
  ·exact St.start _
  ·exact (St.start W).below (Lib.bytesWorld_below W _ t)
 ·obtain ⟨tp,p,he⟩ := hG.2
  have hv := Zsq (P := Tryz.prog) (n := "strconv.ErrRange") (by kernel_rfl) he.start
  refine (Tryz.strconv_Atoi_range_var (str s) (by omega) (by rw [ht]; exact h) tp p W hv).mono ?_
  rintro e w ⟨N,rfl,_,_,hb⟩
  exact ⟨_,rfl,⟨_,_,rfl,.inr ⟨h,_,_,rfl⟩⟩,(St.start W).below hb⟩
abbrev rdC (a : Option Addr) (n c : Nat) (i : Nat) (e : Int) : List Value := [.slice a n c,.int .i64 (i : Nat),.int .i64 e]
abbrev Rdr (p : Nat) (a : Option Addr) (n c : Nat) (i : Nat) (e : Int) : Res := pts p (.cells (rdC a n c i e).toArray 328 (0,0))

theorem Ziq (p : Nat) (a : Option Addr) (n c : Nat) (i : Nat) (e : Int) (W : World) (hc : Rd W (Rdr p a n c i e)) :
  Calls Tryz.prog 241 #[.pointer (some ⟨p,0,none⟩)] W (Ret fun v w => v = .bool (decide (i < n)) ∧ St W noF [] w) := by
 have hS := St.start W
 replace hc := hc.ro
 refine Zab Tryz.func241 rfl Tryz.ntmps241 rfl ?_
 repeat (first|refine Yeb ?_|refine Yag ?_|refine Yec ?_|refine Yab ?_)
 refine Zao (.s 0 (.s 1 (.s 2 (.s 3 (.s 4 (.s 5 (.s 6 (.s 7 (.s 8 (.s 9 (.s 10 .nil))))))))))) mixed (by kernel_rfl) rfl ?_
 have hS := hS.drew
 repeat (first|refine Yah ?_|refine Yed ?_|(refine Zaf ?_;first|refine Ya2 ?_|refine Ya6 ?_|refine Ybl ?_|refine Ybs ?_|refine Ybk ?_|refine Ydv ?_|refine Zai rfl rfl (fun _ => Zps rfl rfl rfl) rfl rfl ?_|refine Ydw ?_))
 refine ⟨?_,hS⟩
 congr 2
 exact propext (by omega)
theorem Zjs (p : Nat) (a : Option Addr) (n c : Nat) (i : Nat) (e k : Int) (W : World) (F : Nat → Prop) (hS : St W F [Rdr p a n c i e] W) :
  Calls Tryz.prog 242 #[.pointer (some ⟨p,0,none⟩),.int .i64 k] W (Ret fun v w => v = .tuple #[] ∧ St W F [Rdr p a n c i (if e = 0 then k else e)] w) := by
 by_cases h : e = 0
 ·refine Zab Tryz.func242 rfl Tryz.ntmps242 rfl ?_
  repeat (first|refine Yeb ?_|(refine X_id ?_;first|refine Yaf ?_|refine Yau ?_|refine Yan ?_|refine Ybg ?_|refine Yaq ?_|refine Yao (fun _ hS _ => ?_))|refine Yem ?_|refine Yab ?_|refine Ybu ?_)
  rw [if_pos h];exact ⟨rfl,hS⟩
 ·refine Zab Tryz.func242 rfl Tryz.ntmps242 rfl ?_
  repeat (first|refine Yeb ?_|(refine X_id ?_;first|refine Yaf ?_|refine Yau ?_|refine Yan ?_|refine Ybh ?_|refine Yaq ?_)|refine Yen ?_|refine Yab ?_|refine Ybu ?_)
  rw [if_neg h];exact ⟨rfl,hS⟩
theorem Z81 {s : List UInt8} {i j : Nat} {k : UInt8} (h : i < s.length) (hj : j = i) : decide (((s.getD j 0).toNat : Int) = (k.toNat : Int)) = decide (s[i]? = some k) := by
 subst hj
 rw [List.getD_eq_getElem?_getD,List.getElem?_eq_getElem h,Option.getD_some]
 congr 1
 simp only [Option.some.injEq]
 exact propext ⟨fun h => UInt8.toNat_inj.1 (by omega),fun h => by rw [h]⟩
theorem is_ (p : Nat) (a : Option Addr) (s : List UInt8) (c : Nat) (i : Nat) (e : Int) (k : UInt8) (W : World) (hc : Rd W (Rdr p a s.length c i e)) (hb : Rd W (bytes a s)) :
  Calls Tryz.prog 243 #[.pointer (some ⟨p,0,none⟩),.int .u8 (k.toNat : Int)] W (Ret fun v w => v = .bool (decide (s[i]? = some k)) ∧ St W noF [] w) := by
 have hS := St.start W
 have hm := Ziq p a s.length c i e
 by_cases h : i < s.length
 ·simp only [decide_eq_true h] at hm
  obtain ⟨ab,ao,rfl⟩ := hb.base (by intro e; have := Zak s; rw [e] at this; simp at this; omega)
  replace hc := hc.ro
  replace hb := hb.ro
  refine Zab Tryz.func243 rfl Tryz.ntmps243 rfl ?_
  repeat (first|refine Yeb ?_|refine Yag ?_|refine Yec ?_|refine Yab ?_)
  refine Zao (.s 0 (.h 1 (.s 2 (.s 3 (.s 4 (.s 5 (.s 6 (.s 7 (.s 8 (.s 9 (.s 10 (.s 11 (.s 12 (.s 13 (.s 14 (.s 15 (.s 16 .nil))))))))))))))) .no)) mixed (by kernel_rfl) rfl ?_
  have hS := hS.drew
  repeat (first|(refine X_id ?_;first|(refine Zac 241 rfl rfl rfl rfl rfl hS (hm _ (hc.rd hS)) ?_;rintro _ _ rfl hS))|refine Yah ?_|refine Yed ?_|(refine Zaf ?_;first|refine Ya2 ?_|refine Ya6 ?_|refine Ybl ?_|refine Ycn ?_|refine Yax ?_|refine Yci ?_|refine Yc2 ?_|refine Ycz ?_|refine Zco rfl rfl rfl rfl (fun _ => Zpv rfl rfl rfl) rfl rfl ?_|refine Zco rfl rfl rfl rfl (fun _ => Zfu rfl rfl rfl (by omega) (by omega) (by first|assumption|exact ⟨_,_,rfl⟩)) rfl rfl ?_|refine Yd1 ?_|refine Zd6 (fun w' => w'.cell? _ = some _) rfl rfl rfl rfl ((hb.rd hS).cellB' (by omega)) (fun _ hc => Zau rfl rfl hc) rfl rfl ?_)|(refine Zad ?_;first|refine Yay ?_))
  refine ⟨?_,hS⟩
  rw [Z81 h (by omega)]
 ·simp only [decide_eq_false h] at hm
  replace hc := hc.ro
  refine Zab Tryz.func243 rfl Tryz.ntmps243 rfl ?_
  repeat (first|refine Yeb ?_|refine Yag ?_|refine Yec ?_|refine Yab ?_)
  refine Zao (.s 0 (.h 1 (.s 2 (.s 3 (.s 4 (.s 5 (.s 6 (.s 7 (.s 8 (.s 9 (.s 10 (.s 11 (.s 12 (.s 13 (.s 14 (.s 15 (.s 16 .nil))))))))))))))) .no)) mixed (by kernel_rfl) rfl ?_
  have hS := hS.drew
  repeat (first|(refine X_id ?_;first|(refine Zac 241 rfl rfl rfl rfl rfl hS (hm _ (hc.rd hS)) ?_;rintro _ _ rfl hS))|refine Yah ?_|refine Yed ?_|(refine Zaf ?_;first|refine Ya2 ?_|refine Ya6 ?_|refine Ybl ?_|refine Ych ?_|refine Yax ?_|refine Ycm ?_)|(refine Zad ?_;first|refine Yay ?_))
  refine ⟨?_,hS⟩
  rw [List.getElem?_eq_none (by omega)];simp
def Zfe (s : List UInt8) (i : Nat) (e : Int) (k : UInt8) : Nat × Int :=
 if e ≠ 0 then (i,e) else if ¬ i < s.length then (i,4) else if s[i]? = some k then (i + 1,0) else (i,3)
theorem Zy6 (p : Nat) (a : Option Addr) (s : List UInt8) (c : Nat) (i : Nat) (e : Int) (k : UInt8) (W : World) (F : Nat → Prop) (hS : St W F [Rdr p a s.length c i e] W) (hb : Ro W F (bytes a s)) (hl : s.length ≤ 1099511627776) :
  Calls Tryz.prog 245 #[.pointer (some ⟨p,0,none⟩),.int .u8 (k.toNat : Int)] W (Ret fun v w => v = .tuple #[] ∧ St W F [Rdr p a s.length c (Zfe s i e k).1 (Zfe s i e k).2] w) := by
 by_cases he : e = 0
 ·subst he
  by_cases h : i < s.length
  ·have hm := Ziq p a s.length c i 0
   simp only [decide_eq_true h] at hm
   have hq := is_ p a s c i 0 k
   by_cases hk : s[i]? = some k
   ·simp only [decide_eq_true hk] at hq
    rw [show Zfe s i 0 k = (i + 1,0) by unfold Zfe; rw [if_neg (by simp),if_neg (by simpa using h),if_pos hk]]
    refine Zab Tryz.func245 rfl Tryz.ntmps245 rfl ?_
    repeat (first|refine Yeb ?_|(refine X_id ?_;first|(refine Zac 241 rfl rfl rfl rfl rfl hS (hm _ (hS.rd (List.mem_cons_self ..))) ?_;rintro _ _ rfl hS)|(refine Zac 243 rfl rfl rfl rfl rfl hS (hq _ (hS.rd (List.mem_cons_self ..)) (hb.rd hS)) ?_;rintro _ _ rfl hS)|refine Yaf ?_|refine Yag ?_|refine Yau ?_|refine Yan ?_|refine Ybb ?_|refine Ybc ?_|refine Yaw ?_|refine Yaq ?_|refine Yao (fun _ hS _ => ?_))|refine Yey ?_|refine Yab ?_|refine Yas ?_|refine Ybu ?_)
    exact ⟨rfl,hS⟩
   ·simp only [decide_eq_false hk] at hq
    rw [show Zfe s i 0 k = (i,3) by unfold Zfe; rw [if_neg (by simp),if_neg (by simpa using h),if_neg hk]]
    refine Zab Tryz.func245 rfl Tryz.ntmps245 rfl ?_
    repeat (first|refine Yeb ?_|(refine X_id ?_;first|(refine Zac 241 rfl rfl rfl rfl rfl hS (hm _ (hS.rd (List.mem_cons_self ..))) ?_;rintro _ _ rfl hS)|(refine Zac 243 rfl rfl rfl rfl rfl hS (hq _ (hS.rd (List.mem_cons_self ..)) (hb.rd hS)) ?_;rintro _ _ rfl hS)|refine Yaf ?_|refine Yag ?_|refine Yau ?_|refine Yan ?_|refine Ybb ?_|refine Ybo ?_|refine Ybc ?_|refine Yaq ?_)|refine Yfn ?_|refine Yab ?_)
    obtain ⟨_,hc,hr,hw,hbk⟩ := hS.call [true]
    refine Zaa _ rfl rfl rfl rfl rfl (Zjs p a s.length c i 0 3 _ _ hc) ?_
    rintro _ w ⟨rfl,hS⟩
    replace hS := hbk hS
    clear hc hr hw hbk;repeat (first|refine Yac ?_|refine Yas ?_|refine Ybu ?_)
    exact ⟨rfl,hS⟩
  ·have hm := Ziq p a s.length c i 0
   simp only [decide_eq_false h] at hm
   rw [show Zfe s i 0 k = (i,4) by unfold Zfe; rw [if_neg (by simp),if_pos h]]
   refine Zab Tryz.func245 rfl Tryz.ntmps245 rfl ?_
   repeat (first|refine Yeb ?_|(refine X_id ?_;first|(refine Zac 241 rfl rfl rfl rfl rfl hS (hm _ (hS.rd (List.mem_cons_self ..))) ?_;rintro _ _ rfl hS)|refine Yaf ?_|refine Yag ?_|refine Yau ?_|refine Yan ?_|refine Ybo ?_|refine Ybc ?_|refine Yaq ?_)|refine Yfn ?_|refine Yab ?_)
   obtain ⟨_,hc,hr,hw,hbk⟩ := hS.call [true]
   refine Zaa _ rfl rfl rfl rfl rfl (Zjs p a s.length c i 0 4 _ _ hc) ?_
   rintro _ w ⟨rfl,hS⟩
   replace hS := hbk hS
   clear hc hr hw hbk;repeat (first|refine Yac ?_|refine Yas ?_|refine Ybu ?_)
   exact ⟨rfl,hS⟩
 ·rw [show Zfe s i e k = (i,e) by unfold Zfe; rw [if_pos he]]
  refine Zab Tryz.func245 rfl Tryz.ntmps245 rfl ?_
  repeat (first|refine Yeb ?_|(refine X_id ?_;first|refine Yaf ?_|refine Yag ?_|refine Yau ?_|refine Yan ?_|refine Ybj ?_|refine Yaq ?_)|refine Yef ?_|refine Yab ?_|refine Yas ?_|refine Ybu ?_)
  exact ⟨rfl,hS⟩
theorem Zy5 (p : Nat) (a : Option Addr) (n c : Nat) (i : Nat) (e : Int) (k : UInt8) (W : World) (F : Nat → Prop) (hS : St W F [Rdr p a n c i e] W) (he : e ≠ 0) :
  Calls Tryz.prog 245 #[.pointer (some ⟨p,0,none⟩),.int .u8 (k.toNat : Int)] W (Ret fun v w => v = .tuple #[] ∧ St W F [Rdr p a n c i e] w) := by
 refine Zab Tryz.func245 rfl Tryz.ntmps245 rfl ?_
 repeat (first|refine Yeb ?_|(refine X_id ?_;first|refine Yaf ?_|refine Yag ?_|refine Yau ?_|refine Yan ?_|refine Ybj ?_|refine Yaq ?_)|refine Yef ?_|refine Yab ?_|refine Yas ?_|refine Ybu ?_)
 exact ⟨rfl,hS⟩
theorem Zgd {p : UInt8 → Bool} : ∀ {l : List UInt8} {j : Nat},(∀ i c,i < j → l[i]? = some c → p c = true) → (∀ c,l[j]? = some c → p c = false) → j ≤ l.length → (l.takeWhile p).length = j
 | [],j,_,_,h => by simp at h; simp [h]
 | x :: l,0,_,h2,_ => by rw [List.takeWhile_cons,if_neg (by rw [h2 x rfl]; simp)]; rfl
 | x :: l,j + 1,h1,h2,h => by
  rw [List.takeWhile_cons,if_pos (h1 0 x (by omega) rfl),List.length_cons,Zgd (j := j) (fun i c hi hc => h1 (i + 1) c (by omega) (by simpa using hc)) (fun c hc => h2 c (by simpa using hc)) (by simpa using h)]
theorem Zwb {s : List UInt8} {i : Nat} {below : Bool} {j : Nat} (h1 : ∀ k c,k < j → s[i + (sgn below (s.drop i)).length + k]? = some c → dig c = true) (h2 : ∀ c,s[i + (sgn below (s.drop i)).length + j]? = some c → dig c = false) (hj : i + (sgn below (s.drop i)).length + j ≤ s.length) :
  (numS below (s.drop i)).length = (sgn below (s.drop i)).length + j := by
 unfold numS
 generalize (sgn below (s.drop i)) = g at *;rw [List.length_append,List.drop_drop,Zgd (j := j) (fun k c hk hc => h1 k c hk (by rw [List.getElem?_drop] at hc; exact hc)) (fun c hc => h2 c (by rw [List.getElem?_drop] at hc; exact hc)) (by simp; omega)]
theorem Zry {s : List UInt8} {i : Nat} {below : Bool} : sgn below (s.drop i) = if below = true ∧ s[i]? = some 45 then [45] else [] := by
 unfold sgn
 rw [List.head?_drop]
theorem Zy9 {s : List UInt8} {i n : Nat} {t : List UInt8} (h : (s.drop i).take n = t) : (s.drop i).take (i + n - i) = t := by
 rw [show i + n - i = n by omega]; exact h
theorem Z88 {x : UInt8} (h : dig x = true) : ¬ ((x.toNat : Int) < 48) ∧ ¬ ((57 : Int) < (x.toNat : Int)) := by
 have := dig_iff.1 h
 constructor <;> omega
theorem Z89 {x : UInt8} (h : ¬ dig x = true) : ((x.toNat : Int) < 48) ∨ (¬ ((x.toNat : Int) < 48) ∧ (57 : Int) < (x.toNat : Int)) := by
 have h2 : ¬ (48 ≤ x.toNat ∧ x.toNat ≤ 57) := fun q => h (dig_iff.2 q)
 rcases Nat.lt_or_ge x.toNat 48 with h3 | h3
 ·exact .inl (by omega)
 ·exact .inr ⟨by omega,by omega⟩
theorem St.conv {W : World} {F : Nat → Prop} {rs rs' : List Res} {w : World} (h : St W F rs w) (e : rs = rs') : St W F rs' w := e ▸ h
theorem Z3n (p : Nat) (a : Option Addr) (s : List UInt8) (c : Nat) (hsc : s.length ≤ c) (i : Nat) (e : Int) (below : Bool) (W : World) (F : Nat → Prop) (hS : St W F [Rdr p a s.length c i e] W) (hb : Ro W F (bytes a s)) (hl : s.length ≤ 1099511627776) (hi : i ≤ s.length) :
  Calls Tryz.prog 273 #[.pointer (some ⟨p,0,none⟩),.bool below] W (Ret fun v w => v = .string (str (numS below (s.drop i))) ∧ St W F [Rdr p a s.length c (i + (numS below (s.drop i)).length) e] w) := by
 have hq := is_ p a s c i e 45
 have hm := Ziq p a s.length c
 obtain ⟨g,hg⟩ : ∃ g,(sgn below (s.drop i)).length = g := ⟨_,rfl⟩
 have hgi : i + g ≤ s.length := by
  rw [← hg,Zry]
  split
  ·rename_i h
   have := (List.getElem?_eq_some_iff.1 h.2).1
   simp; omega
  ·simpa using hi
 have h3 : (below = true ∧ s[i]? = some 45 ∧ g = 1) ∨ (below = true ∧ ¬ s[i]? = some 45 ∧ g = 0) ∨ (below = false ∧ g = 0) := by
  rw [Zry] at hg;cases below
  ·exact .inr (.inr ⟨rfl,by rw [← hg]; simp⟩)
  ·by_cases hk : s[i]? = some 45
   ·exact .inl ⟨rfl,hk,by rw [← hg,if_pos ⟨rfl,hk⟩]; rfl⟩
   ·exact .inr (.inl ⟨rfl,hk,by rw [← hg,if_neg (fun h => hk h.2)]; rfl⟩)
 have hstop := fun j => Zwb (s := s) (i := i) (below := below) (j := j)
 rw [hg] at hstop;have htk := Zhh below (s.drop i)
 generalize numS below (s.drop i) = T at hstop htk ⊢;clear hg;refine Zab Tryz.func273 rfl Tryz.ntmps273 rfl ?_
 rcases h3 with ⟨rfl,hk,hg⟩ | ⟨rfl,hk,hg⟩ | ⟨rfl,hg⟩
 case' inl =>
  simp only [decide_eq_true hk] at hq
  repeat (first|refine Yes ?_|(refine X_id ?_;first|(refine Zac 243 rfl rfl rfl rfl rfl hS (hq _ (hS.rd (List.mem_cons_self ..)) (hb.rd hS)) ?_;rintro _ _ rfl hS)|refine Yaf ?_|refine Yag ?_|refine Yau ?_|refine Yan ?_|refine Ya9 ?_|refine Yaw ?_|refine Yaq ?_|refine Yao (fun _ hS _ => ?_))|refine Yae ?_|refine Ziu ?_|refine Ycg ?_|refine Yad ?_|refine Yak ?_|refine Yaj ?_|refine Yab ?_)
  have hS := hS.conv (rs' := [Rdr p a s.length c (i + g) e]) (by rw [hg]; rfl)
 case' inr.inl =>
  simp only [decide_eq_false hk] at hq
  repeat (first|refine Yes ?_|(refine X_id ?_;first|(refine Zac 243 rfl rfl rfl rfl rfl hS (hq _ (hS.rd (List.mem_cons_self ..)) (hb.rd hS)) ?_;rintro _ _ rfl hS)|refine Yaf ?_|refine Yag ?_|refine Yau ?_|refine Yan ?_|refine Ya9 ?_|refine Yaq ?_)|refine Yae ?_|refine Ziu ?_|refine Ycg ?_|refine Yad ?_|refine Yak ?_|refine Yal ?_|refine Yai ?_|refine Yab ?_)
  have hS := hS.conv (rs' := [Rdr p a s.length c (i + g) e]) (by rw [hg]; rfl)
 case' inr.inr =>
  repeat (first|refine Yev ?_|(refine X_id ?_;first|refine Yaf ?_|refine Yag ?_|refine Yau ?_|refine Yan ?_|refine Ya7 ?_|refine Yaq ?_)|refine Yae ?_|refine Ziu ?_|refine Ycg ?_|refine Yad ?_|refine Yak ?_|refine Yal ?_|refine Yai ?_|refine Yab ?_)
  have hS := hS.conv (rs' := [Rdr p a s.length c (i + g) e]) (by rw [hg]; rfl)
 all_goals
  clear hq hg;refine Zbq (α := Unit) (fun _ => [(0,.pointer (some ⟨p,0,none⟩)),(5,.int .i64 (i : Nat))]) (fun _ w => i + T.length ≤ s.length ∧ St W F [Rdr p a s.length c (i + T.length) e] w) ?_ ?_
  ·refine Zaj (α := Nat) (fun _ => [(0,.pointer (some ⟨p,0,none⟩)),(5,.int .i64 (i : Nat))])
    (fun j w => i + g + j ≤ s.length ∧ (∀ k c,k < j → s[i + g + k]? = some c → dig c = true) ∧ St W F [Rdr p a s.length c (i + g + j) e] w) (fun j => s.length - j) 0 ⟨rfl,rfl,trivial⟩ ⟨hgi,fun k c hk => by omega,hS⟩ ?_
   clear hS;rintro j w ⟨hj,hd,hS⟩
   by_cases hlt : i + g + j < s.length
   ·obtain ⟨ab,ao,rfl⟩ := hb.start.base (by intro e; have := Zak s; rw [e] at this; simp at this; omega)
    have hm := hm (i + g + j) e
    simp only [decide_eq_true hlt] at hm
    obtain ⟨x,hx⟩ : ∃ x,s[i + g + j]? = some x := ⟨_,List.getElem?_eq_getElem hlt⟩
    have hx2 : s.getD ((((i + g + j : Nat) : Int)).toNat * 1) 0 = x := by
     rw [List.getD_eq_getElem?_getD,show ((((i + g + j : Nat) : Int)).toNat * 1) = i + g + j by omega,hx]; rfl
    by_cases hdx : dig x = true
    ·obtain ⟨d1,d2⟩ := Z88 hdx
     rw [← hx2] at d1 d2;repeat (first|refine Yeb ?_|(refine X_id ?_;first|(refine Zac 241 rfl rfl rfl rfl rfl hS (hm _ (hS.rd (List.mem_cons_self ..))) ?_;rintro _ _ rfl hS)|refine Yaf ?_|refine Yau ?_|refine Yan ?_)|refine Yef ?_|refine Yab ?_)
     refine Zao (.s 0 (.s 1 (.s 2 (.s 3 (.s 4 (.s 5 (.s 6 (.s 7 (.s 8 (.s 9 (.s 10 (.s 11 (.s 12 .nil))))))))))))) mixed (by kernel_rfl) rfl ?_
     have hS := hS.drew
     repeat (first|refine Yes ?_|(refine X_id ?_;first|refine Yaf ?_|refine Yag ?_|refine Yau ?_|refine Yan ?_|refine Ya7 ?_|refine Yaz ?_|refine Ybr ?_|refine Yaw ?_|refine Yaq ?_|refine Yao (fun _ hS _ => ?_))|refine Yfa ?_|refine Yej ?_|(refine Zaf ?_;first|refine Ya2 ?_|refine Ya6 ?_|refine Ybl ?_|refine Ybs ?_|refine Ybk ?_|refine Yca ?_|refine Ybn ?_|refine Ydo ?_))
     refine Zae (j + 1) ⟨rfl,rfl,trivial⟩ ⟨by omega,fun k c hk hc => ?_,hS⟩ (by omega)
     rcases Nat.lt_or_ge k j with h | h
     ·exact hd k c h hc
     ·obtain rfl : k = j := by omega
      rw [hx] at hc;rw [← Option.some.inj hc]; exact hdx
    ·have hT := hstop j hd (fun c hc => by
      rw [hx] at hc;rw [← Option.some.inj hc]; simpa using hdx) hj
     rcases Z89 hdx with d1 | ⟨d1,d2⟩
     ·rw [← hx2] at d1
      repeat (first|refine Yeb ?_|(refine X_id ?_;first|(refine Zac 241 rfl rfl rfl rfl rfl hS (hm _ (hS.rd (List.mem_cons_self ..))) ?_;rintro _ _ rfl hS)|refine Yaf ?_|refine Yau ?_|refine Yan ?_)|refine Yef ?_|refine Yab ?_)
      refine Zao (.s 0 (.s 1 (.s 2 (.s 3 (.s 4 (.s 5 (.s 6 (.s 7 (.s 8 (.s 9 (.s 10 (.s 11 (.s 12 .nil))))))))))))) mixed (by kernel_rfl) rfl ?_
      have hS := hS.drew
      repeat (first|refine Yev ?_|refine Yaf ?_|refine Yag ?_|refine Ya9 ?_|refine Ya1 ?_|refine Yae ?_|refine Yad ?_|refine Yak ?_|refine Ya3 ?_|refine Yaj ?_|refine Yfm ?_|(refine Zaf ?_;first|refine Ya2 ?_|refine Ya6 ?_|refine Ybl ?_|refine Ybs ?_|refine Ybk ?_|refine Yca ?_|refine Ybn ?_|refine Ydo ?_))
      exact Zbw () ⟨rfl,rfl,trivial⟩ ⟨by omega,hS.conv (by rw [hT,Nat.add_assoc])⟩
     ·rw [← hx2] at d1 d2
      repeat (first|refine Yeb ?_|(refine X_id ?_;first|(refine Zac 241 rfl rfl rfl rfl rfl hS (hm _ (hS.rd (List.mem_cons_self ..))) ?_;rintro _ _ rfl hS)|refine Yaf ?_|refine Yau ?_|refine Yan ?_)|refine Yef ?_|refine Yab ?_)
      refine Zao (.s 0 (.s 1 (.s 2 (.s 3 (.s 4 (.s 5 (.s 6 (.s 7 (.s 8 (.s 9 (.s 10 (.s 11 (.s 12 .nil))))))))))))) mixed (by kernel_rfl) rfl ?_
      have hS := hS.drew
      repeat (first|refine Yes ?_|(refine X_id ?_;first|refine Yaf ?_|refine Yag ?_|refine Ya7 ?_|refine Yaz ?_|refine Ybx ?_)|refine Yae ?_|refine Yad ?_|refine Yak ?_|refine Ya3 ?_|refine Yaj ?_|refine Yfm ?_|(refine Zaf ?_;first|refine Ya2 ?_|refine Ya6 ?_|refine Ybl ?_|refine Ybs ?_|refine Ybk ?_|refine Yca ?_|refine Ybn ?_|refine Ydo ?_))
      exact Zbw () ⟨rfl,rfl,trivial⟩ ⟨by omega,hS.conv (by rw [hT,Nat.add_assoc])⟩
   ·have hm := hm (i + g + j) e
    simp only [decide_eq_false hlt] at hm
    have hT := hstop j hd (fun c hc => by rw [List.getElem?_eq_none (by omega)] at hc; cases hc) hj
    repeat (first|refine Yeb ?_|(refine X_id ?_;first|(refine Zac 241 rfl rfl rfl rfl rfl hS (hm _ (hS.rd (List.mem_cons_self ..))) ?_;rintro _ _ rfl hS)|refine Yaf ?_|refine Yau ?_|refine Yan ?_)|refine Yeo ?_|refine Yeh ?_)
    exact Zbw () ⟨rfl,rfl,trivial⟩ ⟨by omega,hS.conv (by rw [hT,Nat.add_assoc])⟩
  ·clear hS
   rintro _ w ⟨hT,hS⟩
   repeat (first|refine Yae ?_)
   have hsb := hb.subBytes (l := i) (h := i + T.length) (c := c) (by omega) (by omega)
   rw [Zy9 htk] at hsb;refine Zao (.s 0 (.s 1 (.s 2 (.s 3 (.s 4 (.s 5 (.s 6 (.s 7 (.s 8 (.s 9 (.s 10 (.s 11 (.s 12 (.s 13 .nil)))))))))))))) mixed (by kernel_rfl) rfl ?_
   have hS := hS.drew
   repeat (first|(refine Zaf ?_;first|refine Ya6 ?_|refine Ybs ?_|refine Ybk ?_|refine Ybn ?_))
   refine Zai rfl rfl (fun _ => Zaq (l := i) (h := i + T.length) rfl rfl rfl rfl (.inr ⟨_,_,rfl,by omega,by omega,by omega⟩) (.inr ⟨_,_,rfl,by omega,by omega,by omega⟩)) rfl rfl ?_
   refine Zbp (fun w' => Rd w' (bytes (sub a i 1 c) T)) rfl rfl (hsb.rd hS) (fun _ h => Zcz rfl rfl h (by omega)) rfl rfl ?_
   repeat (first|refine Yah ?_|refine Yab ?_|refine Yb4 ?_|refine Yam ?_|(refine Zaf ?_;first|refine Ya2 ?_|refine Ybl ?_))
   exact ⟨rfl,hS⟩
end Cr
