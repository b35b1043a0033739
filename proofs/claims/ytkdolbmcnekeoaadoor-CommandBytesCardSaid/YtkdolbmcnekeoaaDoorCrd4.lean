/-
  Package codec in plain words: what bytes say (parse), how leaves are written (encL), and that the two fit.
  Package command in plain words: a command, its parts by its word, its leaves, what is read of leaves; the document's check says the same.
  Package codec's values as resources: leaves, lists of leaves; what can be read of them. No program is in sight.
  Two more rules of the walk: a join behind a test (the rest is walked once), and an assertion in the middle.
  Package codec: a reader's small steps: more, is, wrong, take, digits.
  Package codec: values made: Text, Int, Of; a leaf copied.
  Package command: a command's parts, by its word.
-/
import Derived.Lib.ItoaNum
import Derived.Lib.AtoiAll
import Derived.Test.YtkdolbmcnekeoaaDoorCrd2
import Derived.Test.YtkdolbmcnekeoaaDoorCrd3
namespace Cr
open Go

/-- A value that is no list; or (oth) a list that nobody looks into. -/
inductive Leaf where
  | num (n : Int)
  | txt (b : List UInt8)
  | oth
inductive Top where
  | leaf (x : Leaf)
  | list (l : List Leaf)
def Top.shut : Top → Leaf
  | .leaf x => x
  | .list _ => .oth

def dig (c : UInt8) : Bool := decide (48 ≤ c.toNat) && decide (c.toNat ≤ 57)
theorem dig_iff {c : UInt8} : dig c = true ↔ 48 ≤ c.toNat ∧ c.toNat ≤ 57 := by simp [dig]
def sgn (below : Bool) (l : List UInt8) : List UInt8 := if below = true ∧ l.head? = some 45 then [45] else []
def numS (below : Bool) (l : List UInt8) : List UInt8 := sgn below l ++ (l.drop (sgn below l).length).takeWhile dig
def badN (s : List UInt8) : Prop := s = [] ∨ s = [45] ∨ s = [45, 48] ∨ (s.head? = some 48 ∧ 1 < s.length) ∨ (2 < s.length ∧ s.take 2 = [45, 48])
instance (s : List UInt8) : Decidable (badN s) := by unfold badN; infer_instance
def num (below : Bool) (e : UInt8) (l : List UInt8) : Option (Int × List UInt8) :=
  match l.drop (numS below l).length with
  | [] => none
  | c :: r => if badN (numS below l) ∨ c ≠ e then none else
    match Lib.atoiAll (numS below l) with
    | .ok v => some (v, r)
    | _ => none

/-! ### digits and numbers -/
def val (d : List UInt8) (acc : Nat) : Nat := d.foldl (fun a c => a * 10 + (c.toNat - 48)) acc
theorem val_nil (a : Nat) : val [] a = a := rfl
theorem val_cons (c : UInt8) (d : List UInt8) (a : Nat) : val (c :: d) a = val d (a * 10 + (c.toNat - 48)) := by simp [val]
theorem val_snoc (c : UInt8) (d : List UInt8) (a : Nat) : val (d ++ [c]) a = val d a * 10 + (c.toNat - 48) := by simp [val]
theorem val_ge : ∀ (d : List UInt8) (a : Nat), a ≤ val d a
  | [], a => Nat.le_refl _
  | c :: d, a => by rw [val_cons]; have := val_ge d (a * 10 + (c.toNat - 48)); omega
theorem pu_step (c : UInt8) (d : List UInt8) (a : Nat) : (Lib.parseUint10 a (c :: d) = Lib.parseUint10 (a * 10 + (c.toNat - 48)) d ∧ dig c = true) ∨ ∀ u, Lib.parseUint10 a (c :: d) ≠ .ok u := by
  by_cases h1 : 48 ≤ c.toNat ∧ c.toNat ≤ 57
  · by_cases h2 : 1844674407370955162 ≤ a
    · refine .inr fun u => ?_
      rw [Lib.parseUint10, if_pos h1, if_pos h2]; exact fun h => nomatch h
    · by_cases h3 : 18446744073709551616 ≤ a * 10 + (c.toNat - 48)
      · refine .inr fun u => ?_
        rw [Lib.parseUint10, if_pos h1, if_neg h2, if_pos h3]; exact fun h => nomatch h
      · refine .inl ⟨?_, dig_iff.2 h1⟩
        rw [Lib.parseUint10, if_pos h1, if_neg h2, if_neg h3]
  · refine .inr fun u => ?_
    rw [Lib.parseUint10, if_neg h1]; exact fun h => nomatch h
theorem pu_ok (d : List UInt8) : ∀ (a u : Nat), Lib.parseUint10 a d = .ok u → u = val d a ∧ ∀ c ∈ d, dig c = true := by
  induction d with
  | nil => intro a u h; rw [Lib.parseUint10] at h; injection h with h; exact ⟨h.symm, fun _ hc => by cases hc⟩
  | cons c d ih =>
    intro a u h
    rcases pu_step c d a with ⟨h1, h2⟩ | h1
    · rw [h1] at h
      obtain ⟨h3, h4⟩ := ih _ u h
      refine ⟨h3, fun x hx => ?_⟩
      rcases List.mem_cons.1 hx with rfl | hx
      · exact h2
      · exact h4 x hx
    · exact absurd h (h1 u)
theorem pu_mk : ∀ (d : List UInt8) (a : Nat), (∀ c ∈ d, dig c = true) → val d a ≤ 9223372036854775808 → Lib.parseUint10 a d = .ok (val d a)
  | [], a, _, _ => rfl
  | c :: d, a, hd, hv => by
    have hc := dig_iff.1 (hd c (List.mem_cons_self ..))
    rw [val_cons] at hv ⊢
    have := val_ge d (a * 10 + (c.toNat - 48))
    simp only [Lib.parseUint10]
    rw [if_pos hc, if_neg (by omega), if_neg (by omega)]
    exact pu_mk d _ (fun x hx => hd x (List.mem_cons_of_mem _ hx)) hv
theorem val_pos {d : List UInt8} (hd : ∀ c ∈ d, dig c = true) (h0 : d ≠ []) (h1 : d.head? ≠ some 48) : 1 ≤ val d 0 := by
  cases d with
  | nil => exact absurd rfl h0
  | cons c d =>
    rw [val_cons]
    have hc := dig_iff.1 (hd c (List.mem_cons_self ..))
    have := val_ge d (0 * 10 + (c.toNat - 48))
    have : c.toNat ≠ 48 := fun e => h1 (by rw [List.head?_cons, show c = 48 from UInt8.toNat_inj.1 e])
    omega
theorem ofNat_dig {c : UInt8} (hc : 48 ≤ c.toNat) : UInt8.ofNat (48 + (c.toNat - 48)) = c := by
  rw [show 48 + (c.toNat - 48) = c.toNat by omega]; exact UInt8.ofNat_toNat
theorem dec_val : ∀ (n : Nat) (d : List UInt8), d.length = n + 1 → (∀ c ∈ d, dig c = true) → (d.head? ≠ some 48 ∨ n = 0) → Lib.decDigits (val d 0) = d
  | 0, d, hl, hd, _ => by
    obtain ⟨c, rfl⟩ : ∃ c, d = [c] := List.length_eq_one_iff.1 hl
    have hc := dig_iff.1 (hd c (List.mem_cons_self ..))
    rw [val_cons, val_nil, Lib.decDigits, dif_pos (by omega), Nat.zero_mul, Nat.zero_add, ofNat_dig hc.1]
  | n + 1, d, hl, hd, hh => by
    obtain ⟨d', c, rfl⟩ : ∃ d' c, d = d' ++ [c] := (List.eq_nil_or_concat d).resolve_left (fun e => by rw [e] at hl; cases hl) |>.imp fun _ h => h.imp fun _ h => by simpa using h
    have hl' : d'.length = n + 1 := by simpa using hl
    have hn0 : d' ≠ [] := fun e => by rw [e] at hl'; cases hl'
    have hh' : d'.head? ≠ some 48 := by
      rcases hh with hh | hh
      · cases d' with
        | nil => exact absurd rfl hn0
        | cons x y => exact hh
      · cases hh
    have hd' : ∀ c ∈ d', dig c = true := fun x hx => hd x (List.mem_append_left _ hx)
    have hc := dig_iff.1 (hd c (List.mem_append_right _ (List.mem_cons_self ..)))
    have hp := val_pos hd' hn0 hh'
    have ih := dec_val n d' hl' hd' (.inl hh')
    rw [val_snoc, Lib.decDigits, dif_neg (by omega)]
    rw [show (val d' 0 * 10 + (c.toNat - 48)) / 10 = val d' 0 by omega, show (val d' 0 * 10 + (c.toNat - 48)) % 10 = c.toNat - 48 by omega, ih, ofNat_dig hc.1]
theorem toNat_ofNat_dig {k : Nat} (h : k < 10) : (UInt8.ofNat (48 + k)).toNat = 48 + k := by
  rw [UInt8.toNat_ofNat']; exact Nat.mod_eq_of_lt (by omega)
theorem dec_facts (u : Nat) : (∀ c ∈ Lib.decDigits u, dig c = true) ∧ Lib.decDigits u ≠ [] ∧ ((Lib.decDigits u).head? = some 48 → u = 0) ∧ val (Lib.decDigits u) 0 = u := by
  induction u using Nat.strongRecOn with
  | _ u ih =>
    rw [Lib.decDigits]
    by_cases h : u < 10
    · rw [dif_pos h]
      refine ⟨fun c hc => ?_, by simp, fun hh => ?_, ?_⟩
      · obtain rfl := List.mem_singleton.1 hc
        rw [dig_iff, toNat_ofNat_dig h]; omega
      · have h1 : UInt8.ofNat (48 + u) = 48 := by simpa using hh
        have := congrArg UInt8.toNat h1
        rw [toNat_ofNat_dig h] at this
        have h48 : (48 : UInt8).toNat = 48 := rfl
        omega
      · rw [val_cons, val_nil, toNat_ofNat_dig h]; omega
    · rw [dif_neg h]
      obtain ⟨h1, h2, h3, h4⟩ := ih (u / 10) (by omega)
      refine ⟨fun c hc => ?_, by simp, fun hh => ?_, ?_⟩
      · rcases List.mem_append.1 hc with hc | hc
        · exact h1 c hc
        · obtain rfl := List.mem_singleton.1 hc
          rw [dig_iff, toNat_ofNat_dig (by omega)]; omega
      · exfalso
        cases e : Lib.decDigits (u / 10) with
        | nil => exact h2 e
        | cons x y =>
          rw [e] at hh h3
          have := h3 (by simpa using hh)
          omega
      · rw [val_snoc, h4, toNat_ofNat_dig (by omega)]; omega

theorem takeWhile_app {p : UInt8 → Bool} {e : UInt8} {r : List UInt8} : ∀ {d : List UInt8}, (∀ c ∈ d, p c = true) → p e = false → (d ++ e :: r).takeWhile p = d
  | [], _, he => by simp [he]
  | c :: d, hd, he => by
    rw [List.cons_append, List.takeWhile_cons, if_pos (hd c (List.mem_cons_self ..)), takeWhile_app (fun x hx => hd x (List.mem_cons_of_mem _ hx)) he]
theorem mem_takeWhile {p : UInt8 → Bool} : ∀ {l : List UInt8} {c : UInt8}, c ∈ l.takeWhile p → p c = true
  | [], _, h => by cases h
  | x :: l, c, h => by
    rw [List.takeWhile_cons] at h
    split at h
    · rename_i hx
      rcases List.mem_cons.1 h with rfl | h
      · exact hx
      · exact mem_takeWhile h
    · cases h
theorem take_takeWhile {p : UInt8 → Bool} : ∀ (l : List UInt8), l.take (l.takeWhile p).length = l.takeWhile p
  | [] => rfl
  | x :: l => by
    rw [List.takeWhile_cons]
    split
    · simp [take_takeWhile l]
    · rfl
theorem sgn_take (below : Bool) (l : List UInt8) : l.take (sgn below l).length = sgn below l := by
  unfold sgn
  split
  · rename_i h
    cases l with
    | nil => simp at h
    | cons c l => have := h.2; simp at this; simp [this]
  · rfl
theorem numS_take (below : Bool) (l : List UInt8) : l.take (numS below l).length = numS below l := by
  unfold numS
  generalize hs : sgn below l = s
  have h1 : l.take s.length = s := by rw [← hs]; exact sgn_take below l
  rw [List.length_append, List.take_add, h1, take_takeWhile]
theorem numS_le (below : Bool) (l : List UInt8) : (numS below l).length ≤ l.length := by
  have h := congrArg List.length (numS_take below l)
  rw [List.length_take] at h; omega

theorem num_split {below : Bool} {e : UInt8} {l r : List UInt8} {v : Int} (h : num below e l = some (v, r)) :
    l = numS below l ++ e :: r ∧ ¬ badN (numS below l) ∧ Lib.atoiAll (numS below l) = .ok v := by
  unfold num at h
  split at h
  · cases h
  · rename_i c r' hd
    split at h
    · cases h
    · rename_i hb
      split at h
      · rename_i v' hv
        obtain ⟨rfl, rfl⟩ : v' = v ∧ r' = r := by simpa using h
        have hc : c = e := Decidable.not_not.1 fun hc => hb (.inr hc)
        have hn := fun hbad => hb (.inl hbad)
        refine ⟨?_, hn, hv⟩
        have := List.take_append_drop (numS below l).length l
        rw [numS_take, hd, hc] at this
        exact this.symm
      · cases h
theorem numS_cases (below : Bool) (l : List UInt8) : ∃ d, (∀ c ∈ d, dig c = true) ∧ (numS below l = d ∨ numS below l = 45 :: d ∧ below = true) := by
  refine ⟨(l.drop (sgn below l).length).takeWhile dig, fun c hc => mem_takeWhile hc, ?_⟩
  unfold numS
  by_cases h : below = true ∧ l.head? = some 45
  · right; rw [show sgn below l = [45] from if_pos h]; exact ⟨rfl, h.1⟩
  · left; rw [show sgn below l = [] from if_neg h]; rfl
theorem not45 {c : UInt8} (hc : dig c = true) : ¬ c.toNat = 45 ∧ ¬ (c.toNat = 43 ∨ c.toNat = 45) := by
  have := dig_iff.1 hc; omega
theorem atoi_pos {d : List UInt8} {v : Int} (hd : ∀ c ∈ d, dig c = true) (h : Lib.atoiAll d = .ok v) : d ≠ [] ∧ v = (val d 0 : Nat) := by
  cases d with
  | nil => cases h
  | cons c d =>
    refine ⟨by simp, ?_⟩
    have hc := not45 (hd c (List.mem_cons_self ..))
    unfold Lib.atoiAll at h
    simp only at h
    rw [if_neg hc.2] at h
    unfold Lib.parseMag at h
    rw [if_neg (by simp)] at h
    rcases hp : Lib.parseUint10 0 (c :: d) with u | _ | _
    · rw [hp] at h
      simp only at h
      split at h
      · cases h
      · split at h
        · cases h
        · rw [if_neg hc.1] at h
          injection h with h
          rw [← h, (pu_ok _ _ _ hp).1]
    · rw [hp] at h; cases h
    · rw [hp] at h; cases h
theorem atoi_neg {d : List UInt8} {v : Int} (h : Lib.atoiAll (45 :: d) = .ok v) : d ≠ [] ∧ v = - ((val d 0 : Nat) : Int) := by
  unfold Lib.atoiAll at h
  simp only at h
  rw [if_pos (.inr rfl)] at h
  unfold Lib.parseMag at h
  by_cases hd : d = []
  · rw [if_pos hd] at h; cases h
  · rw [if_neg hd] at h
    refine ⟨hd, ?_⟩
    rcases hp : Lib.parseUint10 0 d with u | _ | _
    · rw [hp] at h
      simp only at h
      split at h
      · cases h
      · split at h
        · cases h
        · rw [if_pos (show UInt8.toNat 45 = 45 from rfl)] at h
          injection h with h
          rw [← h, (pu_ok _ _ _ hp).1]
    · rw [hp] at h; cases h
    · rw [hp] at h; cases h
theorem itoa_nat (u : Nat) : Lib.itoa (u : Int) = Lib.decDigits u := by
  unfold Lib.itoa; rw [if_neg (by omega), Int.toNat_natCast]
theorem itoa_neg {u : Nat} (h : 1 ≤ u) : Lib.itoa (-(u : Int)) = 45 :: Lib.decDigits u := by
  unfold Lib.itoa; rw [if_pos (by omega)]; congr 2; omega
/-- What is read as a number is what the number is written as. -/
theorem num_canon {below : Bool} {e : UInt8} {l r : List UInt8} {v : Int} (h : num below e l = some (v, r)) : l = Lib.itoa v ++ e :: r := by
  obtain ⟨hl, hb, hv⟩ := num_split h
  have key : numS below l = Lib.itoa v := by
    obtain ⟨d, hd, hs | ⟨hs, _⟩⟩ := numS_cases below l
    · rw [hs] at hb hv ⊢
      obtain ⟨h0, rfl⟩ := atoi_pos hd hv
      rw [itoa_nat]
      refine (dec_val (d.length - 1) d (by have := List.length_pos_iff.2 h0; omega) hd ?_).symm
      by_cases h1 : d.length - 1 = 0
      · exact .inr h1
      · refine .inl fun hh => hb ?_
        exact .inr (.inr (.inr (.inl ⟨hh, by omega⟩)))
    · rw [hs] at hb hv ⊢
      obtain ⟨h0, rfl⟩ := atoi_neg hv
      have hh : d.head? ≠ some 48 := fun hh => by
        cases d with
        | nil => exact h0 rfl
        | cons c d =>
          obtain rfl : c = 48 := by simpa using hh
          cases d with
          | nil => exact hb (.inr (.inr (.inl rfl)))
          | cons x y => exact hb (.inr (.inr (.inr (.inr ⟨by simp, rfl⟩))))
      rw [itoa_neg (val_pos hd h0 hh), dec_val (d.length - 1) d (by have := List.length_pos_iff.2 h0; omega) hd (.inl hh)]
  rw [key] at hl
  exact hl
theorem num_nonneg {e : UInt8} {l r : List UInt8} {v : Int} (h : num false e l = some (v, r)) : 0 ≤ v := by
  obtain ⟨_, _, hv⟩ := num_split h
  obtain ⟨d, hd, hs | ⟨_, hs⟩⟩ := numS_cases false l
  · rw [hs] at hv
    rw [(atoi_pos hd hv).2]; omega
  · cases hs
theorem num_len {below : Bool} {e : UInt8} {l r : List UInt8} {v : Int} (h : num below e l = some (v, r)) : r.length < l.length := by
  obtain ⟨hl, _, _⟩ := num_split h
  have := congrArg List.length hl
  simp at this; omega

theorem atoi_itoa {v : Int} (h1 : -9223372036854775808 ≤ v) (h2 : v ≤ 9223372036854775807) : Lib.atoiAll (Lib.itoa v) = .ok v := by
  by_cases h : v < 0
  · obtain ⟨u, rfl⟩ : ∃ u : Nat, v = -(u : Int) := ⟨v.natAbs, by omega⟩
    rw [itoa_neg (by omega)]
    obtain ⟨f1, f2, _, f4⟩ := dec_facts u
    unfold Lib.atoiAll
    simp only
    rw [if_pos (.inr rfl)]
    unfold Lib.parseMag
    rw [if_neg f2, pu_mk _ _ f1 (by rw [f4]; omega), f4]
    simp only
    rw [if_neg (by intro h; exact h.1 rfl), if_neg (by omega), if_pos (show UInt8.toNat 45 = 45 from rfl)]
  · obtain ⟨u, rfl⟩ : ∃ u : Nat, v = (u : Int) := ⟨v.toNat, by omega⟩
    rw [itoa_nat]
    obtain ⟨f1, f2, _, f4⟩ := dec_facts u
    cases hd : Lib.decDigits u with
    | nil => exact absurd hd f2
    | cons c d =>
      have hc := not45 (f1 c (by rw [hd]; exact List.mem_cons_self ..))
      unfold Lib.atoiAll
      simp only
      rw [if_neg hc.2, ← hd]
      unfold Lib.parseMag
      rw [if_neg f2, pu_mk _ _ f1 (by rw [f4]; omega), f4]
      simp only
      rw [if_neg (by omega), if_neg (by intro h; exact hc.1 h.1), if_neg hc.1]
/-- What a number is written as is read as the number. -/
theorem num_itoa {below : Bool} {e : UInt8} {r : List UInt8} {v : Int} (h1 : -9223372036854775808 ≤ v) (h2 : v ≤ 9223372036854775807) (hs : below = true ∨ 0 ≤ v) (he : dig e = false) : num below e (Lib.itoa v ++ e :: r) = some (v, r) := by
  have key : numS below (Lib.itoa v ++ e :: r) = Lib.itoa v ∧ ¬ badN (Lib.itoa v) := by
    by_cases h : v < 0
    · obtain ⟨u, rfl⟩ : ∃ u : Nat, v = -(u : Int) := ⟨v.natAbs, by omega⟩
      rw [itoa_neg (by omega)]
      obtain ⟨f1, f2, f3, f4⟩ := dec_facts u
      obtain rfl : below = true := hs.resolve_right (by omega)
      constructor
      · unfold numS
        rw [show sgn true (45 :: Lib.decDigits u ++ e :: r) = [45] by simp [sgn]]
        simp only [List.length_cons, List.length_nil, Nat.zero_add, List.cons_append, List.drop_succ_cons, List.drop_zero, List.nil_append]
        rw [takeWhile_app f1 he]
      · rintro (h | h | h | ⟨h, _⟩ | ⟨h, h'⟩)
        · cases h
        · injection h with _ h; exact f2 h
        · injection h with _ h
          have := f3 (by rw [h]; rfl)
          omega
        · cases h
        · cases hd : Lib.decDigits u with
          | nil => exact f2 hd
          | cons x y =>
            rw [hd] at h' f3
            have hx : x = 48 := by simpa using h'
            have := f3 (by rw [hx]; rfl)
            omega
    · obtain ⟨u, rfl⟩ : ∃ u : Nat, v = (u : Int) := ⟨v.toNat, by omega⟩
      rw [itoa_nat]
      obtain ⟨f1, f2, f3, f4⟩ := dec_facts u
      have hne : (Lib.decDigits u).head? ≠ some 45 := fun hh => by
        cases hd : Lib.decDigits u with
        | nil => exact f2 hd
        | cons x y =>
          rw [hd] at hh f1
          have := dig_iff.1 (f1 x (List.mem_cons_self ..))
          obtain rfl : x = 45 := by simpa using hh
          exact absurd this (by decide)
      constructor
      · unfold numS
        rw [show sgn below (Lib.decDigits u ++ e :: r) = [] by
          unfold sgn; rw [if_neg]; rintro ⟨_, hh⟩
          cases hd : Lib.decDigits u with
          | nil => exact f2 hd
          | cons x y => rw [hd] at hh hne; exact hne (by simpa using hh)]
        simp only [List.length_nil, List.drop_zero, List.nil_append]
        rw [takeWhile_app f1 he]
      · rintro (h | h | h | ⟨h, h'⟩ | ⟨h, h'⟩)
        · exact f2 h
        · exact hne (by rw [h]; rfl)
        · exact hne (by rw [h]; rfl)
        · have h0 := f3 h
          subst h0
          rw [Lib.decDigits_one (by omega)] at h'
          simp at h'
        · refine hne ?_
          cases hd : Lib.decDigits u with
          | nil => exact absurd hd f2
          | cons x y => rw [hd] at h'; simp at h'; simp [h'.1]
  unfold num
  rw [key.1, List.drop_left]
  simp only
  rw [if_neg (by rintro (h | h); exact key.2 h; exact h rfl), atoi_itoa h1 h2]

/-! ### values -/
mutual
/-- The value at the beginning, so deep; what is left. -/
def pv : Nat → Nat → List UInt8 → Option (Top × List UInt8)
  | 0, _, _ => none
  | _ + 1, _, [] => none
  | f + 1, deep, c :: r =>
    if c = 40 then
      if 8 < deep then none else
      match pl f deep r with
      | some (x, r') => some (.list x, r')
      | none => none
    else if c = 105 then
      match num true 59 r with
      | some (v, r') => some (.leaf (.num v), r')
      | none => none
    else
      match num false 58 (c :: r) with
      | some (v, r') => if v.toNat ≤ r'.length then some (.leaf (.txt (r'.take v.toNat)), r'.drop v.toNat) else none
      | none => none
/-- A list's values up to its end. -/
def pl : Nat → Nat → List UInt8 → Option (List Leaf × List UInt8)
  | 0, _, _ => none
  | _ + 1, _, [] => none
  | f + 1, deep, c :: r =>
    if c = 41 then some ([], r) else
    match pv f (deep + 1) (c :: r) with
    | none => none
    | some (t, r') =>
      match pl f deep r' with
      | none => none
      | some (x, r'') => some (t.shut :: x, r'')
end
theorem p_len (f : Nat) : (∀ deep l t r, pv f deep l = some (t, r) → r.length < l.length) ∧ (∀ deep l x r, pl f deep l = some (x, r) → r.length < l.length) := by
  induction f with
  | zero => exact ⟨fun _ _ _ _ h => by simp [pv] at h, fun _ _ _ _ h => by simp [pl] at h⟩
  | succ f ih =>
    obtain ⟨ihv, ihl⟩ := ih
    refine ⟨fun deep l t r h => ?_, fun deep l x r h => ?_⟩
    · cases l with
      | nil => simp [pv] at h
      | cons c l =>
        rw [pv] at h
        split at h
        · split at h
          · cases h
          · split at h
            · rename_i x r' hp
              have := ihl _ _ _ _ hp
              obtain ⟨_, rfl⟩ : _ ∧ r' = r := by simpa using h
              simp; omega
            · cases h
        · split at h
          · split at h
            · rename_i v r' hp
              have := num_len hp
              obtain ⟨_, rfl⟩ : _ ∧ r' = r := by simpa using h
              simp; omega
            · cases h
          · split at h
            · rename_i v r' hp
              have := num_len hp
              split at h
              · obtain ⟨_, rfl⟩ : _ ∧ r'.drop v.toNat = r := by simpa using h
                simp at this ⊢; omega
              · cases h
            · cases h
    · cases l with
      | nil => simp [pl] at h
      | cons c l =>
        rw [pl] at h
        split at h
        · obtain ⟨_, rfl⟩ : _ ∧ l = r := by simpa using h
          simp
        · split at h
          · cases h
          · rename_i t r' hp
            have h1 := ihv _ _ _ _ hp
            split at h
            · cases h
            · rename_i x' r'' hp'
              have h2 := ihl _ _ _ _ hp'
              obtain ⟨_, rfl⟩ : _ ∧ r'' = r := by simpa using h
              omega

/-- A leaf's bytes. -/
def encL : Leaf → List UInt8
  | .num n => 105 :: Lib.itoa n ++ [59]
  | .txt b => Lib.itoa (b.length : Nat) ++ 58 :: b
  | .oth => []
def encs (l : List Leaf) : List UInt8 := (l.map encL).flatten
/-- The bytes of a list of leaves. -/
def encT (l : List Leaf) : List UInt8 := 40 :: encs l ++ [41]
theorem encs_cons (x : Leaf) (l : List Leaf) : encs (x :: l) = encL x ++ encs l := by simp [encs]
theorem encs_nil : encs [] = [] := rfl
theorem encs_snoc (x : Leaf) (l : List Leaf) : encs (l ++ [x]) = encs l ++ encL x := by simp [encs]

theorem pv_canon {f deep : Nat} {l r : List UInt8} {x : Leaf} (h : pv f deep l = some (.leaf x, r)) : l = encL x ++ r ∧ x ≠ .oth := by
  cases f with
  | zero => simp [pv] at h
  | succ f =>
    cases l with
    | nil => simp [pv] at h
    | cons c l =>
      rw [pv] at h
      split at h
      · split at h
        · cases h
        · split at h
          · simp at h
          · cases h
      · split at h
        · rename_i hc
          split at h
          · rename_i v r' hp
            obtain ⟨h1, rfl⟩ : Leaf.num v = x ∧ r' = r := by simpa using h
            subst h1
            refine ⟨?_, by intro h; cases h⟩
            rw [num_canon hp, hc]; simp [encL]
          · cases h
        · split at h
          · rename_i v r' hp
            split at h
            · rename_i hle
              obtain ⟨h1, h2⟩ : Leaf.txt (r'.take v.toNat) = x ∧ r'.drop v.toNat = r := by simpa using h
              subst h1
              subst h2
              refine ⟨?_, by intro h; cases h⟩
              rw [num_canon hp]
              have h0 := num_nonneg hp
              simp only [encL, List.length_take]
              rw [show ((min v.toNat r'.length : Nat) : Int) = v by omega]
              simp
            · cases h
          · cases h
theorem pl_canon : ∀ {f deep : Nat} {l r : List UInt8} {x : List Leaf}, pl f deep l = some (x, r) → Leaf.oth ∉ x → l = encs x ++ 41 :: r
  | 0, _, _, _, _, h, _ => by simp [pl] at h
  | f + 1, deep, [], _, _, h, _ => by simp [pl] at h
  | f + 1, deep, c :: l, r, x, h, hx => by
    rw [pl] at h
    split at h
    · rename_i hc
      obtain ⟨h1, rfl⟩ : [] = x ∧ l = r := by simpa using h
      subst h1
      rw [hc]; rfl
    · split at h
      · cases h
      · rename_i t r' hp
        split at h
        · cases h
        · rename_i x' r'' hp'
          obtain ⟨h1, rfl⟩ : t.shut :: x' = x ∧ r'' = r := by simpa using h
          subst h1
          have hn : Leaf.oth ≠ t.shut ∧ Leaf.oth ∉ x' := by simpa using hx
          cases t with
          | list y => exact absurd rfl hn.1
          | leaf y =>
            rw [(pv_canon hp).1, pl_canon hp' hn.2, encs_cons]
            simp [Top.shut]

/-- What can be written and read again. -/
def Leaf.fits : Leaf → Prop
  | .num n => -9223372036854775808 ≤ n ∧ n ≤ 9223372036854775807
  | .txt b => b.length ≤ 9223372036854775807
  | .oth => False
theorem itoa_head {u : Nat} : ∃ c r, Lib.itoa (u : Int) = c :: r ∧ dig c = true := by
  rw [itoa_nat]
  obtain ⟨f1, f2, _, _⟩ := dec_facts u
  cases hd : Lib.decDigits u with
  | nil => exact absurd hd f2
  | cons c r => exact ⟨c, r, rfl, f1 c (by rw [hd]; exact List.mem_cons_self ..)⟩
theorem pv_enc {f deep : Nat} {x : Leaf} (r : List UInt8) (hx : x.fits) (hf : 1 ≤ f) : ∃ c l, encL x ++ r = c :: l ∧ c ≠ 41 ∧ pv f deep (encL x ++ r) = some (.leaf x, r) := by
  obtain ⟨f, rfl⟩ : ∃ g, f = g + 1 := ⟨f - 1, by omega⟩
  cases x with
  | oth => exact hx.elim
  | num n =>
    refine ⟨105, Lib.itoa n ++ 59 :: r, by simp [encL], by decide, ?_⟩
    rw [show encL (.num n) ++ r = 105 :: (Lib.itoa n ++ 59 :: r) by simp [encL], pv, if_neg (by decide), if_pos rfl, num_itoa hx.1 hx.2 (.inl rfl) (by decide)]
  | txt b =>
    obtain ⟨c, l, hc, hd⟩ := itoa_head (u := b.length)
    have hd' := dig_iff.1 hd
    have e : encL (.txt b) ++ r = c :: (l ++ 58 :: (b ++ r)) := by simp [encL, hc]
    have e2 : c :: (l ++ 58 :: (b ++ r)) = Lib.itoa (b.length : Nat) ++ 58 :: (b ++ r) := by rw [hc]; simp
    have ne : ∀ k : Nat, k < 48 ∨ 57 < k → k < 256 → c ≠ UInt8.ofNat k := fun k hk hk2 h => by
      have := congrArg UInt8.toNat h
      rw [UInt8.toNat_ofNat', Nat.mod_eq_of_lt hk2] at this
      omega
    refine ⟨c, l ++ 58 :: (b ++ r), e, ne 41 (by omega) (by omega), ?_⟩
    rw [e, pv, if_neg (show ¬ c = 40 from ne 40 (by omega) (by omega)), if_neg (show ¬ c = 105 from ne 105 (by omega) (by omega)), e2, num_itoa (by omega) (by have : b.length ≤ 9223372036854775807 := hx; omega) (.inr (by omega)) (by decide)]
    simp only [Int.toNat_natCast]
    rw [if_pos (by simp), List.take_left, List.drop_left]
theorem pl_enc {deep : Nat} (r : List UInt8) : ∀ (x : List Leaf) (f : Nat), (∀ y ∈ x, y.fits) → x.length + 2 ≤ f → pl f deep (encs x ++ 41 :: r) = some (x, r)
  | [], f, _, hf => by
    obtain ⟨f, rfl⟩ : ∃ g, f = g + 1 := ⟨f - 1, by omega⟩
    show pl (f + 1) deep (41 :: r) = _
    rw [pl, if_pos rfl]
  | y :: x, f, hx, hf => by
    simp only [List.length_cons] at hf
    obtain ⟨f, rfl⟩ : ∃ g, f = g + 1 := ⟨f - 1, by omega⟩
    obtain ⟨c, l, h1, h2, h3⟩ := pv_enc (deep := deep + 1) (f := f) (encs x ++ 41 :: r) (hx y (List.mem_cons_self ..)) (by omega)
    rw [encs_cons, List.append_assoc, h1, pl, if_neg h2, ← h1, h3]
    simp only
    rw [pl_enc r x f (fun z hz => hx z (List.mem_cons_of_mem _ hz)) (by omega)]
    rfl

/-- The value that bytes say, all of them. -/
def dec (b : List UInt8) : Option Top :=
  match pv (2 * b.length + 1) 1 b with
  | some (t, []) => some t
  | _ => none
theorem dec_canon {b : List UInt8} {x : List Leaf} (h : dec b = some (.list x)) (hx : Leaf.oth ∉ x) : b = encT x := by
  unfold dec at h
  split at h
  · rename_i t hp
    injection h with h
    subst h
    cases b with
    | nil => simp [pv] at hp
    | cons c l =>
      rw [pv] at hp
      split at hp
      · rename_i hc
        split at hp
        · cases hp
        · split at hp
          · rename_i y r' hp'
            obtain ⟨rfl, rfl⟩ : y = x ∧ r' = [] := by simpa using hp
            have := pl_canon hp' hx
            rw [hc, this]; rfl
          · cases hp
      · split at hp
        · split at hp
          · simp at hp
          · cases hp
        · split at hp
          · split at hp
            · simp at hp
            · cases hp
          · cases hp
  · cases h
theorem encL_pos {x : Leaf} (hx : x.fits) : 1 ≤ (encL x).length := by
  cases x with
  | oth => exact hx.elim
  | num n => simp [encL]
  | txt b => simp [encL]; omega
theorem encs_length : ∀ {x : List Leaf}, (∀ y ∈ x, y.fits) → x.length ≤ (encs x).length
  | [], _ => Nat.le_refl _
  | y :: x, hx => by
    have h1 := encL_pos (hx y (List.mem_cons_self ..))
    have h2 := encs_length fun z hz => hx z (List.mem_cons_of_mem _ hz)
    rw [encs_cons]; simp; omega
theorem dec_enc {x : List Leaf} (hx : ∀ y ∈ x, y.fits) : dec (encT x) = some (.list x) := by
  have hl := encs_length hx
  unfold dec
  have e : encT x = 40 :: (encs x ++ [41]) := rfl
  rw [e, List.length_cons, List.length_append, List.length_singleton, pv, if_pos rfl, if_neg (by decide), pl_enc [] x _ hx (by omega)]
end Cr
namespace Cr
open Go

structure Cmd where
  word : List UInt8
  text : List UInt8
  name : List UInt8
  arch : List UInt8
  p0 : List UInt8
  p1 : List UInt8
  s0 : List UInt8
  s1 : List UInt8
  q0 : List UInt8
  q1 : List UInt8
  q2 : List UInt8
  rev : Int
  out : Int
  fuel : Int
def Cmd.blank (w : List UInt8) : Cmd := ⟨w, [], [], [], [], [], [], [], [], [], [], 0, 0, 0⟩

/-- The words, and which sort each is. -/
def sorts : List (List UInt8 × Nat) :=
  [([105, 110, 115, 116, 97, 108, 108], 0), ([114, 101, 102, 114, 101, 115, 104], 0), ([114, 101, 118, 101, 114, 116], 1), ([114, 101, 109, 111, 118, 101], 1), ([99, 111, 110, 110, 101, 99, 116], 2), ([100, 105, 115, 99, 111, 110, 110, 101, 99, 116], 2),
   ([105, 110, 102, 111], 3), ([99, 111, 110, 110, 115], 3), ([97, 117, 100, 105, 116], 4), ([108, 105, 115, 116], 5), ([118, 101, 114, 105, 102, 121], 5)]
def sort (w : List UInt8) : Option Nat := (sorts.find? fun p => p.1 == w).map (·.2)
theorem sort_lt {w : List UInt8} {k : Nat} (h : sort w = some k) : k ≤ 5 := by
  unfold sort at h
  cases hf : sorts.find? fun p => p.1 == w with
  | none => rw [hf] at h; cases h
  | some p =>
    rw [hf] at h
    have hm := List.mem_of_find?_eq_some hf
    obtain rfl : p.2 = k := by simpa using h
    simp only [sorts, List.mem_cons, List.not_mem_nil, or_false] at hm
    rcases hm with rfl | rfl | rfl | rfl | rfl | rfl | rfl | rfl | rfl | rfl | rfl <;> decide

/-- One of a command's parts: a text of its own (which cell), the archive's text, a number. -/
inductive Pt where
  | t (off : Nat)
  | b
  | n (off : Nat)
def parts : Nat → List Pt
  | 0 => [.t 1, .b, .n 13]
  | 1 => [.t 2, .n 13]
  | 2 => [.t 4, .t 5, .t 6, .t 7]
  | 3 => [.t 2]
  | 4 => [.t 8, .t 9, .t 10, .n 12]
  | _ => []
def partsW (w : List UInt8) : List Pt := match sort w with | some k => parts k | none => []
def Cmd.s (c : Cmd) : Nat → List UInt8
  | 1 => c.text | 2 => c.name | 4 => c.p0 | 5 => c.p1 | 6 => c.s0 | 7 => c.s1 | 8 => c.q0 | 9 => c.q1 | 10 => c.q2 | _ => []
def Cmd.n (c : Cmd) : Nat → Int
  | 12 => c.out | 13 => c.fuel | _ => 0
def Cmd.setS (c : Cmd) (v : List UInt8) : Nat → Cmd
  | 1 => { c with text := v } | 2 => { c with name := v } | 4 => { c with p0 := v } | 5 => { c with p1 := v } | 6 => { c with s0 := v } | 7 => { c with s1 := v }
  | 8 => { c with q0 := v } | 9 => { c with q1 := v } | 10 => { c with q2 := v } | _ => c
def Cmd.setN (c : Cmd) (v : Int) : Nat → Cmd
  | 12 => { c with out := v } | 13 => { c with fuel := v } | _ => c
def Pt.ok : Pt → Prop
  | .t o => o = 1 ∨ o = 2 ∨ o = 4 ∨ o = 5 ∨ o = 6 ∨ o = 7 ∨ o = 8 ∨ o = 9 ∨ o = 10
  | .b => True
  | .n o => o = 12 ∨ o = 13
theorem parts_ok {k : Nat} : ∀ p ∈ parts k, p.ok := by
  match k with
  | 0 | 1 | 2 | 3 | 4 => intro p hp; simp only [parts, List.mem_cons, List.not_mem_nil, or_false] at hp; rcases hp with rfl | rfl | rfl | rfl <;> simp [Pt.ok]
  | k + 5 => intro p hp; cases hp
/-- The command's cells. -/
abbrev Cmd.cells (c : Cmd) (ar : Value) : List Value :=
  [.string (str c.word), .string (str c.text), .string (str c.name), ar, .string (str c.p0), .string (str c.p1), .string (str c.s0), .string (str c.s1),
   .string (str c.q0), .string (str c.q1), .string (str c.q2), .int .i64 c.rev, .int .i64 c.out, .int .i64 c.fuel]
def Cmd.leaf (c : Cmd) : Pt → Leaf
  | .t o => .txt (c.s o)
  | .b => .txt c.arch
  | .n o => .num (c.n o)
def Cmd.leaves (c : Cmd) : List Leaf := .txt c.word :: (partsW c.word).map c.leaf
def Cmd.put (c : Cmd) : Pt → Leaf → Option Cmd
  | .t o, .txt v => some (c.setS v o)
  | .b, .txt v => some { c with arch := v }
  | .n o, .num v => some (c.setN v o)
  | _, _ => none
def Cmd.puts : Cmd → List Pt → List Leaf → Option Cmd
  | c, [], [] => some c
  | c, p :: ps, x :: xs => (c.put p x).bind fun d => d.puts ps xs
  | _, _, _ => none
/-- The command that leaves say. -/
def readC : List Leaf → Option Cmd
  | .txt w :: xs => match sort w with
    | some k => (Cmd.blank w).puts (parts k) xs
    | none => none
  | _ => none
def readT : Top → Option Cmd
  | .list l => readC l
  | .leaf _ => none

theorem puts_len : ∀ {ps : List Pt} {xs : List Leaf} {c d : Cmd}, c.puts ps xs = some d → xs.length = ps.length
  | [], [], _, _, _ => rfl
  | [], _ :: _, _, _, h => by simp [Cmd.puts] at h
  | _ :: _, [], _, _, h => by simp [Cmd.puts] at h
  | p :: ps, x :: xs, c, d, h => by
    simp only [Cmd.puts] at h
    cases hp : c.put p x with
    | none => rw [hp] at h; cases h
    | some e => rw [hp] at h; simp [puts_len h]

/-- What is right with a command: its parts alone are told. -/
def Cmd.own (c : Cmd) (k : Nat) : Cmd := match k with
  | 0 => { Cmd.blank c.word with text := c.text, arch := c.arch, fuel := c.fuel }
  | 1 => { Cmd.blank c.word with name := c.name, fuel := c.fuel }
  | 2 => { Cmd.blank c.word with p0 := c.p0, p1 := c.p1, s0 := c.s0, s1 := c.s1 }
  | 3 => { Cmd.blank c.word with name := c.name }
  | 4 => { Cmd.blank c.word with q0 := c.q0, q1 := c.q1, q2 := c.q2, out := c.out }
  | _ => Cmd.blank c.word
theorem readC_leaves {c : Cmd} {k : Nat} (h : sort c.word = some k) : readC c.leaves = some (c.own k) := by
  have hk := sort_lt h
  unfold Cmd.leaves readC partsW
  simp only [h]
  match k, hk with
  | 0, _ | 1, _ | 2, _ | 3, _ | 4, _ | 5, _ => rfl
instance : DecidableEq Cmd := fun a b => by
  obtain ⟨_, _, _, _, _, _, _, _, _, _, _, _, _, _⟩ := a
  obtain ⟨_, _, _, _, _, _, _, _, _, _, _, _, _, _⟩ := b
  rw [Cmd.mk.injEq]
  infer_instance
/-- The check: 1: no word of ours; 3: told more than its parts. -/
def chk (c : Cmd) : Nat := match sort c.word with
  | none => 1
  | some k => if c = c.own k then 0 else 3
theorem readC_spec {x : List Leaf} {c : Cmd} (h : readC x = some c) : c.leaves = x ∧ chk c = 0 ∧ sort c.word ≠ none := by
  unfold readC at h
  split at h
  · rename_i w xs
    split at h
    · rename_i k hk
      have h5 := sort_lt hk
      have hl := puts_len h
      have key : c.word = w ∧ c.leaves = .txt w :: (parts k).map c.leaf ∧ (parts k).map c.leaf = xs ∧ c = c.own k := by
        have aux : c.word = w → c.leaves = .txt w :: (parts k).map c.leaf := fun e => by unfold Cmd.leaves partsW; rw [e, hk]
        match k, h5 with
        | 0, _ =>
          obtain ⟨x0, x1, x2, rfl⟩ : ∃ x0 x1 x2, xs = [x0, x1, x2] := by
            match xs, hl with
            | [x0, x1, x2], _ => exact ⟨_, _, _, rfl⟩
          cases x0 <;> cases x1 <;> cases x2 <;> first | (exfalso; revert h; simp [Cmd.puts, Cmd.put, parts]; done) | skip
          simp only [Cmd.puts, Cmd.put, parts, Option.bind_some, Option.some.injEq] at h
          subst h
          exact ⟨rfl, aux rfl, rfl, rfl⟩
        | 1, _ =>
          obtain ⟨x0, x1, rfl⟩ : ∃ x0 x1, xs = [x0, x1] := by
            match xs, hl with
            | [x0, x1], _ => exact ⟨_, _, rfl⟩
          cases x0 <;> cases x1 <;> first | (exfalso; revert h; simp [Cmd.puts, Cmd.put, parts]; done) | skip
          simp only [Cmd.puts, Cmd.put, parts, Option.bind_some, Option.some.injEq] at h
          subst h
          exact ⟨rfl, aux rfl, rfl, rfl⟩
        | 2, _ =>
          obtain ⟨x0, x1, x2, x3, rfl⟩ : ∃ x0 x1 x2 x3, xs = [x0, x1, x2, x3] := by
            match xs, hl with
            | [x0, x1, x2, x3], _ => exact ⟨_, _, _, _, rfl⟩
          cases x0 <;> cases x1 <;> cases x2 <;> cases x3 <;> first | (exfalso; revert h; simp [Cmd.puts, Cmd.put, parts]; done) | skip
          simp only [Cmd.puts, Cmd.put, parts, Option.bind_some, Option.some.injEq] at h
          subst h
          exact ⟨rfl, aux rfl, rfl, rfl⟩
        | 3, _ =>
          obtain ⟨x0, rfl⟩ : ∃ x0, xs = [x0] := by
            match xs, hl with
            | [x0], _ => exact ⟨_, rfl⟩
          cases x0 <;> first | (exfalso; revert h; simp [Cmd.puts, Cmd.put, parts]; done) | skip
          simp only [Cmd.puts, Cmd.put, parts, Option.bind_some, Option.some.injEq] at h
          subst h
          exact ⟨rfl, aux rfl, rfl, rfl⟩
        | 4, _ =>
          obtain ⟨x0, x1, x2, x3, rfl⟩ : ∃ x0 x1 x2 x3, xs = [x0, x1, x2, x3] := by
            match xs, hl with
            | [x0, x1, x2, x3], _ => exact ⟨_, _, _, _, rfl⟩
          cases x0 <;> cases x1 <;> cases x2 <;> cases x3 <;> first | (exfalso; revert h; simp [Cmd.puts, Cmd.put, parts]; done) | skip
          simp only [Cmd.puts, Cmd.put, parts, Option.bind_some, Option.some.injEq] at h
          subst h
          exact ⟨rfl, aux rfl, rfl, rfl⟩
        | 5, _ =>
          obtain rfl : xs = [] := List.eq_nil_of_length_eq_zero hl
          simp only [Cmd.puts, parts, Option.some.injEq] at h
          subst h
          exact ⟨rfl, aux rfl, rfl, rfl⟩
      obtain ⟨h1, h2, h3, h4⟩ := key
      refine ⟨by rw [h2, h3], ?_, by rw [h1, hk]; simp⟩
      unfold chk
      rw [h1, hk]
      simp only
      rw [if_pos h4]
    · cases h
  · cases h
theorem readC_fits_ne {x : List Leaf} {c : Cmd} (h : readC x = some c) : Leaf.oth ∉ x := by
  obtain ⟨h1, _, _⟩ := readC_spec h
  rw [← h1]
  unfold Cmd.leaves
  rw [List.mem_cons, List.mem_map]
  rintro (h | ⟨p, _, h⟩)
  · cases h
  · cases p <;> cases h

/-! ### the document's words -/
def sortN (w : List UInt8) : Int := match sort w with | some k => (k : Int) | none => -1
/-- The document's check. -/
def refChk (c : Cmd) : Int :=
  let k := sortN c.word
  if k < 0 then 1
  else if (k ≠ 0 ∧ (¬ c.text = [] ∨ 0 < c.arch.length)) ∨ (k ≠ 1 ∧ k ≠ 3 ∧ ¬ c.name = []) ∨ (1 < k ∧ c.fuel ≠ 0) ∨ c.rev ≠ 0 then 3
  else if (k ≠ 2 ∧ (¬ (c.p0 = [] ∧ c.p1 = []) ∨ ¬ (c.s0 = [] ∧ c.s1 = []))) ∨ (k ≠ 4 ∧ (¬ (c.q0 = [] ∧ c.q1 = [] ∧ c.q2 = []) ∨ c.out ≠ 0)) then 3
  else 0
theorem two_ifs {A B C : Prop} [Decidable A] [Decidable B] [Decidable C] (h : C ↔ ¬ A ∧ ¬ B) : (if A then (3 : Int) else if B then 3 else 0) = ((if C then 0 else 3 : Nat) : Int) := by
  by_cases a : A
  · rw [if_pos a, if_neg (fun c => (h.1 c).1 a)]; rfl
  · by_cases b : B
    · rw [if_neg a, if_pos b, if_neg (fun c => (h.1 c).2 b)]; rfl
    · rw [if_neg a, if_neg b, if_pos (h.2 ⟨a, b⟩)]; rfl
theorem refChk_eq (c : Cmd) : refChk c = (chk c : Nat) := by
  unfold refChk chk sortN
  cases h : sort c.word with
  | none => simp
  | some k =>
    have h5 := sort_lt h
    obtain ⟨word, text, name, arch, p0, p1, s0, s1, q0, q1, q2, rev, out, fuel⟩ := c
    simp only at h ⊢
    rw [if_neg (by omega)]
    refine two_ifs ?_
    have e : 0 < arch.length ↔ ¬ arch = [] := by cases arch <;> simp
    rw [e]
    clear e h
    match k, h5 with
    | 0, _ | 1, _ | 2, _ | 3, _ | 4, _ | 5, _ =>
      simp only [Cmd.own, Cmd.blank, Cmd.mk.injEq]
      simp
      try grind
end Cr
namespace Cr
open Go

def z0 : Value := .slice none 0 0
def leafR : Leaf → List Value → Res
  | .num n, cs => fun h => cs = [.int .i64 0, .int .i64 n, z0, z0] ∧ emp h
  | .txt b, cs => fun h => ∃ a c, cs = [.int .i64 1, .int .i64 0, .slice a b.length c, z0] ∧ bytes a b h
  | .oth, cs => fun h => ∃ a n c, cs = [.int .i64 2, .int .i64 0, z0, .slice a n c] ∧ emp h
def leavesR : List Leaf → List (List Value) → Res
  | [], rows => fun h => rows = [] ∧ emp h
  | x :: l, rows => fun h => ∃ r rs, rows = r :: rs ∧ Sep [leafR x r, leavesR l rs] h
def listR (a : Option Addr) (x : List Leaf) : Res := fun h => ∃ rows, Sep [row a rows.flatten, leavesR x rows] h
def topR : Top → List Value → Res
  | .leaf x, cs => leafR x cs
  | .list x, cs => fun h => ∃ a c, cs = [.int .i64 2, .int .i64 0, z0, .slice a x.length c] ∧ listR a x h

/-! ### laying together, taking apart -/
theorem Sep.open_head {R : Res} {ps q : List Res} {h : Frag} (hR : ∀ g, R g → Sep ps g) (H : Sep (R :: q) h) : Sep (ps ++ q) h := by
  obtain ⟨h1, h2, a, b, c, d⟩ := H
  exact Sep.append_mk (hR _ a) b c d
theorem Sep.shut_head {R : Res} {ps q : List Res} {h : Frag} (hR : ∀ g, Sep ps g → R g) (H : Sep (ps ++ q) h) : Sep (R :: q) h := by
  obtain ⟨h1, h2, a, b, c, d⟩ := Sep.append H
  exact ⟨h1, h2, hR _ a, b, c, d⟩
theorem sep_nil {h : Frag} (H : ∀ k, h k = none) : Sep [] h := H
theorem leavesR_nil {g : Frag} : Sep [] g → leavesR [] [] g := fun h => ⟨rfl, h⟩
theorem leavesR_snoc (y : Leaf) (r : List Value) (q : List Res) : ∀ (l : List Leaf) (rs : List (List Value)) (h : Frag), Sep (leavesR l rs :: leafR y r :: q) h → Sep (leavesR (l ++ [y]) (rs ++ [r]) :: q) h
  | [], rs, h, H => by
    obtain ⟨h1, h2, ⟨hrs, he⟩, hb, hd, hu⟩ := H
    subst hrs
    have e : h = h2 := by funext k; rw [hu, he k]; simp
    subst e
    refine Sep.shut_head (ps := [leafR y r, leavesR [] []]) (fun g hg => ⟨r, [], rfl, hg⟩) ?_
    refine Sep.swap ?_
    exact Sep.shut_head (ps := []) (fun g hg => leavesR_nil hg) hb
  | x :: l, rs, h, H => by
    obtain ⟨h1, h2, ⟨r0, rs0, hrs, he⟩, hb, hd, hu⟩ := H
    subst hrs
    have H2 : Sep ([leafR x r0, leavesR l rs0] ++ (leafR y r :: q)) h := Sep.append_mk he hb hd hu
    refine Sep.shut_head (ps := [leafR x r0, leavesR (l ++ [y]) (rs0 ++ [r])]) (fun g hg => ⟨r0, rs0 ++ [r], rfl, hg⟩) ?_
    exact Sep.mono_tail (fun g hg => leavesR_snoc y r q l rs0 g hg) H2
theorem St.leaves_nil {W : World} {F : Nat → Prop} {q : List Res} {w : World} (hS : St W F q w) : St W F (leavesR [] [] :: q) w :=
  hS.imp fun _ h => Sep.shut_head (ps := []) (fun _ hg => leavesR_nil hg) h
theorem St.leaves_snoc {W : World} {F : Nat → Prop} {q : List Res} {w : World} {y : Leaf} {r : List Value} {l : List Leaf} {rs : List (List Value)} (hS : St W F (leavesR l rs :: leafR y r :: q) w) : St W F (leavesR (l ++ [y]) (rs ++ [r]) :: q) w :=
  hS.imp fun _ h => leavesR_snoc y r q l rs _ h
theorem St.list_mk {W : World} {F : Nat → Prop} {q : List Res} {w : World} {x : List Leaf} {a : Option Addr} {rows : List (List Value)} (hS : St W F (row a rows.flatten :: leavesR x rows :: q) w) : St W F (listR a x :: q) w :=
  hS.imp fun _ h => Sep.shut_head (ps := [row a rows.flatten, leavesR x rows]) (fun _ hg => ⟨rows, hg⟩) h
/-- A value's own cells, whatever it is. -/
theorem top_cells {t : Top} {cs : List Value} {h : Frag} (H : topR t cs h) : ∃ k n a la ca b lb cb, cs = [.int .i64 k, .int .i64 n, .slice a la ca, .slice b lb cb] := by
  cases t with
  | list x => obtain ⟨a, c, rfl, _⟩ := H; exact ⟨_, _, _, _, _, _, _, _, rfl⟩
  | leaf x =>
    cases x with
    | num n => obtain ⟨rfl, _⟩ := H; exact ⟨_, _, _, _, _, _, _, _, rfl⟩
    | txt b => obtain ⟨a, c, rfl, _⟩ := H; exact ⟨_, _, _, _, _, _, _, _, rfl⟩
    | oth => obtain ⟨a, n, c, rfl, _⟩ := H; exact ⟨_, _, _, _, _, _, _, _, rfl⟩
theorem St.top_cells {W : World} {F : Nat → Prop} {q : List Res} {w : World} {t : Top} {cs : List Value} (hS : St W F (topR t cs :: q) w) : ∃ k n a la ca b lb cb, cs = [.int .i64 k, .int .i64 n, .slice a la ca, .slice b lb cb] := by
  obtain ⟨_, ⟨h1, _, H, _⟩, _⟩ := hS
  exact Cr.top_cells H
theorem emp_none : emp (fun _ => none) := fun _ => rfl
/-- A list is let go; that it is one is kept. -/
theorem St.shut {W : World} {F : Nat → Prop} {q : List Res} {w : World} {t : Top} {cs : List Value} (hS : St W F (topR t cs :: q) w) : St W F (leafR t.shut cs :: q) w := by
  cases t with
  | leaf x => exact hS
  | list x =>
    have h0 := hS
    obtain ⟨_, ⟨h1, _, ⟨a, c, rfl, _⟩, _⟩, _⟩ := h0
    refine hS.drop.imp fun _ h => Sep.shut_head (ps := []) (fun g hg => ⟨a, x.length, c, rfl, hg⟩) h

/-! ### reading -/
def LeafRo (W : World) (F : Nat → Prop) : Leaf → List Value → Prop
  | .num n, cs => cs = [.int .i64 0, .int .i64 n, z0, z0]
  | .txt b, cs => ∃ a c, cs = [.int .i64 1, .int .i64 0, .slice a b.length c, z0] ∧ Ro W F (bytes a b)
  | .oth, cs => ∃ a n c, cs = [.int .i64 2, .int .i64 0, z0, .slice a n c]
theorem Ro.leaf {W : World} {F : Nat → Prop} {x : Leaf} {cs : List Value} (H : Ro W F (leafR x cs)) : LeafRo W F x cs := by
  obtain ⟨h, hl, ha⟩ := H
  cases x with
  | num n => exact hl.1
  | txt b => obtain ⟨a, c, h1, h2⟩ := hl; exact ⟨a, c, h1, h, h2, ha⟩
  | oth => obtain ⟨a, n, c, h1, _⟩ := hl; exact ⟨a, n, c, h1⟩
theorem LeafRo.len {W : World} {F : Nat → Prop} {x : Leaf} {cs : List Value} (H : LeafRo W F x cs) : cs.length = 4 := by
  cases x with
  | num n => obtain rfl := H; rfl
  | txt b => obtain ⟨a, c, rfl, _⟩ := H; rfl
  | oth => obtain ⟨a, n, c, rfl⟩ := H; rfl
theorem Ro.two {W : World} {F : Nat → Prop} {r s : Res} (H : Ro W F (Sep [r, s])) : Ro W F r ∧ Ro W F s := by
  obtain ⟨h, ⟨h1, h2, hr, ⟨h3, h4, hs, he, hd', hu'⟩, hd, hu⟩, ha⟩ := H
  have e1 : ∀ b o, h1 b = some o → h b = some o := fun b o e => by rw [hu, e]; rfl
  have e3 : ∀ b o, h3 b = some o → h b = some o := fun b o e => by
    have e2 : h2 b = some o := by rw [hu', e]; rfl
    rw [hu]; rcases hd b with h' | h'
    · simp [h', e2]
    · rw [e2] at h'; cases h'
  exact ⟨⟨h1, hr, fun b o e => ha b o (e1 b o e)⟩, ⟨h3, hs, fun b o e => ha b o (e3 b o e)⟩⟩
/-- Cells, four and four. -/
def Leaves (W : World) (F : Nat → Prop) (x : List Leaf) (rows : List (List Value)) : Prop :=
  rows.length = x.length ∧ ∀ (i : Nat) (y : Leaf), x[i]? = some y → ∃ cs : List Value, rows[i]? = some cs ∧ LeafRo W F y cs
theorem Ro.leaves {W : World} {F : Nat → Prop} : ∀ {x : List Leaf} {rows : List (List Value)}, Ro W F (leavesR x rows) → Leaves W F x rows
  | [], rows, H => by
    obtain ⟨h, ⟨rfl, _⟩, _⟩ := H
    exact ⟨rfl, fun i y hy => by cases hy⟩
  | y :: x, rows, H => by
    obtain ⟨h, ⟨r, rs, rfl, hs⟩, ha⟩ := H
    obtain ⟨h1, h2⟩ := Ro.two (W := W) (F := F) ⟨h, hs, ha⟩
    obtain ⟨h3, h4⟩ := Ro.leaves h2
    refine ⟨by simp [h3], fun i z hz => ?_⟩
    cases i with
    | zero =>
      obtain rfl : y = z := by simpa using hz
      exact ⟨r, rfl, h1.leaf⟩
    | succ i => exact h4 i z (by simpa using hz)
theorem Ro.list {W : World} {F : Nat → Prop} {a : Option Addr} {x : List Leaf} (H : Ro W F (listR a x)) : ∃ rows, Ro W F (row a rows.flatten) ∧ Leaves W F x rows := by
  obtain ⟨h, ⟨rows, hs⟩, ha⟩ := H
  obtain ⟨h1, h2⟩ := Ro.two (W := W) (F := F) ⟨h, hs, ha⟩
  exact ⟨rows, h1, h2.leaves⟩
theorem flatten4 : ∀ {rows : List (List Value)} {i : Nat} {cs : List Value}, (∀ r ∈ rows, r.length = 4) → rows[i]? = some cs → (rows.flatten.drop (i * 4)).take 4 = cs
  | [], _, _, _, h => by cases h
  | r :: rs, i, cs, hl, h => by
    have h4 := hl r (List.mem_cons_self ..)
    cases i with
    | zero =>
      obtain rfl : r = cs := by simpa using h
      simp [← h4]
    | succ i =>
      have ih := flatten4 (fun z hz => hl z (List.mem_cons_of_mem _ hz)) (show rs[i]? = some cs by simpa using h)
      rw [List.flatten_cons, List.drop_append, h4, show (i + 1) * 4 - 4 = i * 4 by omega, List.drop_of_length_le (by omega), List.nil_append]
      exact ih
theorem flatten4_len : ∀ {rows : List (List Value)}, (∀ r ∈ rows, r.length = 4) → rows.flatten.length = rows.length * 4
  | [], _ => rfl
  | r :: rs, hl => by
    have h4 := hl r (List.mem_cons_self ..)
    have := flatten4_len (fun z hz => hl z (List.mem_cons_of_mem _ hz)) (rows := rs)
    simp only [List.flatten_cons, List.length_append, List.length_cons]; omega
theorem Leaves.four {W : World} {F : Nat → Prop} {x : List Leaf} {rows : List (List Value)} (H : Leaves W F x rows) : ∀ r ∈ rows, r.length = 4 := fun r hr => by
  obtain ⟨i, hi, he⟩ := List.mem_iff_getElem.1 hr
  have hix : i < x.length := by have := H.1; omega
  obtain ⟨cs, h1, h2⟩ := H.2 i x[i] (List.getElem?_eq_getElem hix)
  have : rows[i]? = some r := by rw [List.getElem?_eq_getElem hi, he]
  rw [this] at h1
  obtain rfl := Option.some.inj h1
  exact h2.len
/-- One of a list's values: its four cells, where they lie. -/
theorem Leaves.at_ {W : World} {F : Nat → Prop} {x : List Leaf} {rows : List (List Value)} (H : Leaves W F x rows) {i : Nat} {y : Leaf} (hy : x[i]? = some y) : ∃ cs, (rows.flatten.drop (i * 4)).take 4 = cs ∧ LeafRo W F y cs := by
  obtain ⟨cs, h1, h2⟩ := H.2 i y hy
  exact ⟨cs, flatten4 H.four h1, h2⟩
theorem LeafRo.mono {W W' : World} {F F' : Nat → Prop} {x : Leaf} {cs : List Value} (H : LeafRo W F x cs) (hm : ∀ r, Ro W F r → Ro W' F' r) : LeafRo W' F' x cs := by
  cases x with
  | num n => exact H
  | txt b => obtain ⟨a, c, h1, h2⟩ := H; exact ⟨a, c, h1, hm _ h2⟩
  | oth => exact H
theorem Leaves.mono {W W' : World} {F F' : Nat → Prop} {x : List Leaf} {rows : List (List Value)} (H : Leaves W F x rows) (hm : ∀ r, Ro W F r → Ro W' F' r) : Leaves W' F' x rows :=
  ⟨H.1, fun i y hy => (H.2 i y hy).imp fun _ h => ⟨h.1, h.2.mono hm⟩⟩
end Cr
namespace Cr
open Go
section
variable {P : Program} {Q : Exit → Act → World → Prop} {N : Nat} {ds : Md} {σ : Env} {w : World} {x y : Code}
theorem wpIn_weaken {F : Fence} {n : Nat} {c : Code} {Q Q' : Exit → Act → World → Prop} {a : Act} (hq : ∀ e a w, Q e a w → Q' e a w) (h : c.wpIn F n P Q a w) : c.wpIn F n P Q' a w := by
  intro b k cs hro hb hr
  obtain ⟨e, a', w', hQ, harr⟩ := h b k cs hro hb hr
  exact ⟨e, a', w', hq _ _ _ hQ, harr⟩
/-- What holds between two parts of a sequence. -/
def Mid {α : Type} (S : α → Env) (R : α → World → Prop) (N : Nat) (ds : Md) : Act → World → Prop := fun a w => ∃ z, Fr (S z) N ds a ∧ R z w
theorem C_mid {α : Type} (S : α → Env) (R : α → World → Prop) (h1 : C P x (Exit.then (Mid S R N ds) Q) N ds σ w) (h2 : ∀ z w, R z w → C P y Q N ds (S z) w) : C P (.seq x y) Q N ds σ w := ⟨fun a ha =>
  wpIn_seq (wpIn_weaken (fun e a w hh => by
    cases e with
    | normal => obtain ⟨z, hF, hR⟩ := hh; exact (h2 z w hR).run a hF
    | exit id => exact hh
    | goto l => exact hh
    | ret => exact hh
    | panic ch => exact hh
    | outgrown => exact hh) (h1.run a ha))⟩
/-- The same behind the walk's own step into a sequence. -/
theorem C_join {α : Type} (S : α → Env) (R : α → World → Prop) (h1 : C P x (Exit.then (Mid S R N ds) Q) N ds σ w) (h2 : ∀ z w, R z w → C P y Q N ds (S z) w) : C P x (Exit.then (y.wpIn (Fc ds) 0 P Q) Q) N ds σ w := ⟨fun a ha =>
  wpIn_weaken (fun e a w hh => by
    cases e with
    | normal => obtain ⟨z, hF, hR⟩ := hh; exact (h2 z w hR).run a hF
    | exit id => exact hh
    | goto l => exact hh
    | ret => exact hh
    | panic ch => exact hh
    | outgrown => exact hh) (h1.run a ha)⟩
theorem inBlock_mono {Q1 Q2 : Exit → Act → World → Prop} {id : Nat} (hq : ∀ e a w, Q1 e a w → Q2 e a w) : ∀ e a w, Exit.inBlock id Q1 e a w → Exit.inBlock id Q2 e a w := fun e a w h => by
  cases e with
  | exit id' =>
    by_cases he : id' = id
    · simp only [Exit.inBlock, if_pos he] at h ⊢; exact hq _ _ _ h
    · simp only [Exit.inBlock, if_neg he] at h ⊢; exact hq _ _ _ h
  | _ => exact hq _ _ _ h
/-- The same where the walk stands inside a block. -/
theorem C_joinB {α : Type} {id : Nat} (S : α → Env) (R : α → World → Prop) (h1 : C P x (Exit.inBlock id (Exit.then (Mid S R N ds) Q)) N ds σ w) (h2 : ∀ z w, R z w → C P y Q N ds (S z) w) : C P x (Exit.inBlock id (Exit.then (y.wpIn (Fc ds) 0 P Q) Q)) N ds σ w := ⟨fun a ha =>
  wpIn_weaken (inBlock_mono fun e a w hh => by
    cases e with
    | normal => obtain ⟨z, hF, hR⟩ := hh; exact (h2 z w hR).run a hF
    | exit id => exact hh
    | goto l => exact hh
    | ret => exact hh
    | panic ch => exact hh
    | outgrown => exact hh) (h1.run a ha)⟩
theorem E_mid {α : Type} {S : α → Env} {R : α → World → Prop} (z : α) (hσ : subs σ (S z)) (hR : R z w) : E (Exit.then (Mid S R N ds) Q) .normal N ds σ w := ⟨fun _ ha => ⟨z, ha.sub hσ, hR⟩⟩
theorem Rd.cellF {b off o' i : Nat} {cs : List Value} {v : Value} (H : Rd w (row (some ⟨b, off, none⟩) cs)) (hi : o' = off + i) (h : cs[i]? = some v) : w.cell? ⟨b, o', none⟩ = some v := by
  subst hi; exact H.cells i v h
end
section
variable {P : Program} {o : Oper} {σ : Env} {w : World} {t e : TypeId}
/-- An array literal, all of its elements given. -/
theorem Yl_buildArr {z : Value} {n size N m : Nat} {xs : List (Nat × Operand)} {parts : List (Nat × Value)} {l : List Value} (ho : o.op = .build t xs.toArray) (hx : evps σ xs = some parts) [h : Und P t (.array n e)] [hs : Siz P e size] [hi : Inf P t z N m] (hn : parts.length = n) (hN : N = n * size)
    (hidx : parts.map (·.1) = List.range' 0 parts.length) [hl : CellsAll parts size l] : Yl P o σ w (.agg l.toArray) := ⟨fun N' ds a ha => by
  obtain ⟨i, hi', hz', hsz, _⟩ := info_parts hi.inf
  obtain ⟨ls, h1, h2, h3⟩ := hl.all
  have hzl : z.cells.size = parts.length * size := by rw [hn, ← hN]; exact hi.zs
  have hq := fill_row (size := size) parts ls 0 [] z.cells.toList h1 h2 hidx (by simp) (by simpa using hzl)
  simp only [List.nil_append, Array.toArray_toList, h3] at hq
  have hze : (zeroValue t).run P w = .ok z w := by simp [zeroValue, typeInfo, hi', hz']
  have e := ha.evalps hx
  have hb : (Instr.build t parts.toArray).run P w = .ok (.agg l.toArray) w := by
    unfold Instr.build
    rw [Sem.run_bind, hze]
    show (underlying t >>= _ : Sem _).run P w = _
    rw [Sem.run_bind, run_underlying h.und]
    show (Go.sizeOf _ >>= _ : Sem _).run P w = _
    rw [Sem.run_bind, run_sizeOf]
    simp [Result.andThen, hq]
  simp [execOp, ho, e, hb]⟩
end
/-- A cell at a place that is told by a sum. -/
theorem St.cellO (k : Nat) {W : World} {F : Nat → Prop} {rs : List Res} {w : World} {b off : Nat} {l : List Value} {T : TypeId} {v : Value} (hS : St W F rs w) (hk : off = k) [hh : Has rs b (.cells l.toArray T (0, 0))] [hn : Nth l k v] : w.cell? ⟨b, off, none⟩ = some v := by
  subst hk
  rw [cell_of_row w b off _ T (0, 0) hS.has]
  simpa using hn.nth
/-- A row of the run's own, by its base. -/
theorem St.ownRd {W : World} {F : Nat → Prop} {rs rest : List Res} {w : World} {a : Option Addr} {T e c : Nat} {cs : List Value} (hS : St W F rs w) [hh : HasOwn rs a T e c cs rest] : Rd w (row a cs) := ((hS.perm hh.has).rd (List.mem_cons_self ..)).own_row
/-! ### resources in another order -/
class Take1 (rs : List Res) (r : Res) (rest : outParam (List Res)) : Prop where
  perm : rs.Perm (r :: rest)
instance Take1.there (q r : Res) (rs rest : List Res) [h : Take1 rs r rest] : Take1 (q :: rs) r (q :: rest) := ⟨(List.Perm.cons q h.perm).trans (.swap ..)⟩
instance Take1.here (r : Res) (rs : List Res) : Take1 (r :: rs) r rs := ⟨.refl _⟩
class Takes (rs out : List Res) : Prop where
  took : ∀ {W F w}, St W F rs w → St W F out w
instance Takes.nil (rs : List Res) : Takes rs [] := ⟨fun h => h.drops⟩
instance Takes.cons (rs rest out : List Res) (r : Res) [h : Take1 rs r rest] [h2 : Takes rest out] : Takes rs (r :: out) := ⟨fun hS => (hS.perm h.perm).under h2.took⟩
theorem St.took {W : World} {F : Nat → Prop} {rs out : List Res} {w : World} (hS : St W F rs w) [h : Takes rs out] : St W F out w := h.took hS
end Cr
namespace Cr
open Go Go.Proofs
set_option maxRecDepth 100000
set_option maxHeartbeats 4000000
attribute [local irreducible] Calls

/-- A reader: its bytes, where it stands, what was wrong. -/
abbrev rdC (a : Option Addr) (n c : Nat) (i : Nat) (e : Int) : List Value := [.slice a n c, .int .i64 (i : Nat), .int .i64 e]
abbrev Rdr (p : Nat) (a : Option Addr) (n c : Nat) (i : Nat) (e : Int) : Res := pts p (.cells (rdC a n c i e).toArray 118 (0, 0))

theorem more_ (p : Nat) (a : Option Addr) (n c : Nat) (i : Nat) (e : Int) (W : World) (hc : Rd W (Rdr p a n c i e)) :
    Calls Tryd.prog 66 #[.pointer (some ⟨p, 0, none⟩)] W (Ret fun v w => v = .bool (decide (i < n)) ∧ St W noF [] w) := by
  have hS := St.start W
  replace hc := hc.ro
  refine calls_C Tryd.func66 rfl Tryd.ntmps66 rfl ?_
  repeat (first | (refine G_id ?_; first | refine G_nil ?_ | refine G_plain rfl rfl ?_) | (refine X_id ?_; first | refine X_yl (Yl_assign rfl rfl) rfl rfl ?_) | (refine C_id ?_; first | refine C_seq ?_ | refine C_region ?_) | (refine E_id ?_; first | refine E_code ?_))
  refine C_ord (.s 0 (.s 1 (.s 2 (.s 3 (.s 4 (.s 5 (.s 6 (.s 7 (.s 8 (.s 9 (.s 10 .nil))))))))))) mixed (by kernel_rfl) rfl ?_
  have hS := hS.drew
  repeat (first | (refine C_id ?_; first | refine C_ret ?_) | (refine E_id ?_; first | refine E_code ?_ | refine E_ret1 rfl (Rv_tmp rfl) (Ret.mk ?_)) | (refine GO_id ?_; first | refine GO_nil ?_ | refine GO_pure rfl rfl (fun _ => Yl_move rfl rfl) rfl rfl ?_ | refine GO_pure rfl rfl (fun _ => Yl_assign rfl rfl) rfl rfl ?_ | refine GO_pure rfl rfl (fun _ => Yl_nilCheck rfl rfl) rfl rfl ?_ | refine GO_pure rfl rfl (fun _ => Yl_fieldAddr0 rfl rfl rfl) rfl rfl ?_ | refine GO_pure rfl rfl (fun _ => Yl_len rfl rfl) rfl rfl ?_ | refine GO_pure rfl rfl (fun _ => Yl_lss rfl rfl rfl) rfl rfl ?_ | refine GO_read (fun w' => w'.cell? _ = some _) rfl rfl (cell_at (hc.rd hS).pts) (fun _ hc => Yl_load rfl rfl hc) rfl rfl ?_))
  refine ⟨?_, hS⟩
  congr 2
  exact propext (by omega)
theorem wrong_ (p : Nat) (a : Option Addr) (n c : Nat) (i : Nat) (e k : Int) (W : World) (F : Nat → Prop) (hS : St W F [Rdr p a n c i e] W) :
    Calls Tryd.prog 67 #[.pointer (some ⟨p, 0, none⟩), .int .i64 k] W (Ret fun v w => v = .tuple #[] ∧ St W F [Rdr p a n c i (if e = 0 then k else e)] w) := by
  by_cases h : e = 0
  · refine calls_C Tryd.func67 rfl Tryd.ntmps67 rfl ?_
    repeat (first | (refine G_id ?_; first | refine G_nil ?_ | refine G_plain rfl rfl ?_) | (refine X_id ?_; first | refine X_yl (Yl_move rfl rfl) rfl rfl ?_ | refine X_yl (Yl_nilCheck rfl rfl) rfl rfl ?_ | refine X_yl (Yl_fieldAddr0 rfl rfl rfl) rfl rfl ?_ | refine X_yl (Yl_eql_t rfl rfl rfl (by omega)) rfl rfl ?_ | refine X_yl (Yl_load rfl rfl hS.cell) rfl rfl ?_ | refine X_store rfl rfl rfl rfl hS (fun _ hS _ => ?_)) | (refine C_id ?_; first | refine C_seq ?_ | refine C_region ?_ | refine C_cond_t rfl ?_) | (refine E_id ?_; first | refine E_code ?_ | refine E_end0 rfl (Ret.mk ?_)))
    rw [if_pos h]
    exact ⟨rfl, hS⟩
  · refine calls_C Tryd.func67 rfl Tryd.ntmps67 rfl ?_
    repeat (first | (refine G_id ?_; first | refine G_nil ?_ | refine G_plain rfl rfl ?_) | (refine X_id ?_; first | refine X_yl (Yl_move rfl rfl) rfl rfl ?_ | refine X_yl (Yl_nilCheck rfl rfl) rfl rfl ?_ | refine X_yl (Yl_fieldAddr0 rfl rfl rfl) rfl rfl ?_ | refine X_yl (Yl_eql_f rfl rfl rfl (by omega)) rfl rfl ?_ | refine X_yl (Yl_load rfl rfl hS.cell) rfl rfl ?_) | (refine C_id ?_; first | refine C_seq ?_ | refine C_region ?_ | refine C_skip ?_ | refine C_cond_f rfl ?_) | (refine E_id ?_; first | refine E_code ?_ | refine E_end0 rfl (Ret.mk ?_)))
    rw [if_neg h]
    exact ⟨rfl, hS⟩
theorem is_eq {s : List UInt8} {i j : Nat} {k : UInt8} (h : i < s.length) (hj : j = i) : decide (((s.getD j 0).toNat : Int) = (k.toNat : Int)) = decide (s[i]? = some k) := by
  subst hj
  rw [List.getD_eq_getElem?_getD, List.getElem?_eq_getElem h, Option.getD_some]
  congr 1
  simp only [Option.some.injEq]
  exact propext ⟨fun h => UInt8.toNat_inj.1 (by omega), fun h => by rw [h]⟩
theorem is_ (p : Nat) (a : Option Addr) (s : List UInt8) (c : Nat) (i : Nat) (e : Int) (k : UInt8) (W : World) (hc : Rd W (Rdr p a s.length c i e)) (hb : Rd W (bytes a s)) :
    Calls Tryd.prog 68 #[.pointer (some ⟨p, 0, none⟩), .int .u8 (k.toNat : Int)] W (Ret fun v w => v = .bool (decide (s[i]? = some k)) ∧ St W noF [] w) := by
  have hS := St.start W
  have hm := more_ p a s.length c i e
  by_cases h : i < s.length
  · simp only [decide_eq_true h] at hm
    obtain ⟨ab, ao, rfl⟩ := hb.base (by intro e; have := bv_length s; rw [e] at this; simp at this; omega)
    replace hc := hc.ro
    replace hb := hb.ro
    refine calls_C Tryd.func68 rfl Tryd.ntmps68 rfl ?_
    repeat (first | (refine G_id ?_; first | refine G_nil ?_ | refine G_plain rfl rfl ?_) | (refine X_id ?_; first | refine X_yl (Yl_assign rfl rfl) rfl rfl ?_) | (refine C_id ?_; first | refine C_seq ?_ | refine C_region ?_) | (refine E_id ?_; first | refine E_code ?_))
    refine C_ord (.s 0 (.h 1 (.s 2 (.s 3 (.s 4 (.s 5 (.s 6 (.s 7 (.s 8 (.s 9 (.s 10 (.s 11 (.s 12 (.s 13 (.s 14 (.s 15 (.s 16 .nil))))))))))))))) .no)) mixed (by kernel_rfl) rfl ?_
    have hS := hS.drew
    repeat (first | (refine X_id ?_; first | (refine X_callq 66 rfl rfl rfl rfl rfl hS (hm _ (hc.rd hS)) ?_; rintro _ _ rfl hS)) | (refine C_id ?_; first | refine C_ret ?_) | (refine E_id ?_; first | refine E_code ?_ | refine E_ret1 rfl (Rv_tmp rfl) (Ret.mk ?_)) | (refine GO_id ?_; first | refine GO_nil ?_ | refine GO_pure rfl rfl (fun _ => Yl_move rfl rfl) rfl rfl ?_ | refine GO_pure rfl rfl (fun _ => Yl_assign rfl rfl) rfl rfl ?_ | refine GO_pure rfl rfl (fun _ => Yl_pick_t rfl rfl rfl) rfl rfl ?_ | refine GO_hard rfl rfl ?_ | refine GO_yes rfl rfl rfl rfl (fun _ => Yl_move rfl rfl) rfl rfl ?_ | refine GO_yes rfl rfl rfl rfl (fun _ => Yl_nilCheck rfl rfl) rfl rfl ?_ | refine GO_yes rfl rfl rfl rfl (fun _ => Yl_fieldAddr0 rfl rfl rfl) rfl rfl ?_ | refine GO_yes rfl rfl rfl rfl (fun _ => Yl_eql rfl rfl rfl) rfl rfl ?_ | refine GO_yes rfl rfl rfl rfl (fun _ => Yl_indexAddr rfl rfl rfl (by omega) (by omega) (by first | assumption | exact ⟨_, _, rfl⟩)) rfl rfl ?_ | refine GO_yes_read (fun w' => w'.cell? _ = some _) rfl rfl rfl rfl (cell_at (hc.rd hS).pts) (fun _ hc => Yl_load rfl rfl hc) rfl rfl ?_ | refine GO_yes_read (fun w' => w'.cell? _ = some _) rfl rfl rfl rfl ((hb.rd hS).cellB' (by omega)) (fun _ hc => Yl_load rfl rfl hc) rfl rfl ?_) | (refine Keep_id ?_; first | refine And.intro (by repeat (first | exact trivial | refine And.intro (.inl (by decide +kernel)) ?_ | refine And.intro (.inr (by first | assumption | exact hS.cell | exact cell_at (by assumption) | exact hS.cellI (by omega) | exact hS.cellIP (by omega) | exact hS.cellsN | exact ((hr.rd hS).cellX (by omega) hx) | exact ((hr2.rd hS).cellX (by omega) hx2) | exact hS.cellB (by omega) | exact hS.cellBA (by omega) | exact (hb.rd hS).cellB' (by omega) | exact (hb2.rd hS).cellB' (by omega) | exact (hg.rd hS).cellI (by omega) | exact (hg2.rd hS).cellI (by omega) | exact ((hr.rd hS).cellF (by first | omega | (dsimp only; omega)) hx) | exact ((hr2.rd hS).cellF (by first | omega | (dsimp only; omega)) hx2) | exact hS.cellO 0 (by omega) | exact hS.cellO 1 (by omega) | exact hS.cellIA (by omega) | exact (hg.rd hS).cellIA (by omega) | exact (hg2.rd hS).cellIA (by omega) | exact cell_at (hc.rd hS).pts | exact hb.rd hS)) ?_)) ?_))
    refine ⟨?_, hS⟩
    rw [is_eq h (by omega)]
  · simp only [decide_eq_false h] at hm
    replace hc := hc.ro
    refine calls_C Tryd.func68 rfl Tryd.ntmps68 rfl ?_
    repeat (first | (refine G_id ?_; first | refine G_nil ?_ | refine G_plain rfl rfl ?_) | (refine X_id ?_; first | refine X_yl (Yl_assign rfl rfl) rfl rfl ?_) | (refine C_id ?_; first | refine C_seq ?_ | refine C_region ?_) | (refine E_id ?_; first | refine E_code ?_))
    refine C_ord (.s 0 (.h 1 (.s 2 (.s 3 (.s 4 (.s 5 (.s 6 (.s 7 (.s 8 (.s 9 (.s 10 (.s 11 (.s 12 (.s 13 (.s 14 (.s 15 (.s 16 .nil))))))))))))))) .no)) mixed (by kernel_rfl) rfl ?_
    have hS := hS.drew
    repeat (first | (refine X_id ?_; first | (refine X_callq 66 rfl rfl rfl rfl rfl hS (hm _ (hc.rd hS)) ?_; rintro _ _ rfl hS)) | (refine C_id ?_; first | refine C_ret ?_) | (refine E_id ?_; first | refine E_code ?_ | refine E_ret1 rfl (Rv_tmp rfl) (Ret.mk ?_)) | (refine GO_id ?_; first | refine GO_nil ?_ | refine GO_pure rfl rfl (fun _ => Yl_move rfl rfl) rfl rfl ?_ | refine GO_pure rfl rfl (fun _ => Yl_assign rfl rfl) rfl rfl ?_ | refine GO_pure rfl rfl (fun _ => Yl_pick_f rfl rfl rfl) rfl rfl ?_ | refine GO_hard rfl rfl ?_ | refine GO_no rfl rfl rfl rfl rfl rfl rfl ?_) | (refine Keep_id ?_; first | refine And.intro (by repeat (first | exact trivial | refine And.intro (.inl (by decide +kernel)) ?_ | refine And.intro (.inr (by first | assumption | exact hS.cell | exact cell_at (by assumption) | exact hS.cellI (by omega) | exact hS.cellIP (by omega) | exact hS.cellsN | exact ((hr.rd hS).cellX (by omega) hx) | exact ((hr2.rd hS).cellX (by omega) hx2) | exact hS.cellB (by omega) | exact hS.cellBA (by omega) | exact (hb.rd hS).cellB' (by omega) | exact (hb2.rd hS).cellB' (by omega) | exact (hg.rd hS).cellI (by omega) | exact (hg2.rd hS).cellI (by omega) | exact ((hr.rd hS).cellF (by first | omega | (dsimp only; omega)) hx) | exact ((hr2.rd hS).cellF (by first | omega | (dsimp only; omega)) hx2) | exact hS.cellO 0 (by omega) | exact hS.cellO 1 (by omega) | exact hS.cellIA (by omega) | exact (hg.rd hS).cellIA (by omega) | exact (hg2.rd hS).cellIA (by omega) | exact cell_at (hc.rd hS).pts | exact hb.rd hS)) ?_)) ?_))
    refine ⟨?_, hS⟩
    rw [List.getElem?_eq_none (by omega)]
    simp
end Cr
namespace Cr
open Go Go.Proofs
set_option maxRecDepth 100000
set_option maxHeartbeats 4000000
attribute [local irreducible] Calls

theorem Rd.cellsX {w : World} {a : Option Addr} {cs seg : List Value} {i' i n : Nat} (H : Rd w (Cr.row a cs)) (hi : i' = i) (h : (cs.drop i).take n = seg) (hn : seg.length = n) : CellsN w (adr a i') n seg := by
  subst hi; subst h
  exact ⟨H.seg _ _, hn⟩
theorem text_ (s : List UInt8) (W : World) : Calls Tryd.prog 37 #[.string (str s)] W (Ret fun v w => ∃ b c, v = .agg (List.toArray [.int .i64 1, .int .i64 0, .slice b s.length c, z0]) ∧ St W noF [leafR (.txt s) [.int .i64 1, .int .i64 0, .slice b s.length c, z0]] w) := by
  have hS := St.start W
  refine calls_C Tryd.func37 rfl Tryd.ntmps37 rfl ?_
  repeat (first | (refine G_id ?_; first | refine G_nil ?_ | refine G_plain rfl rfl ?_) | (refine X_id ?_; first | refine X_yl (Yl_move rfl rfl) rfl rfl ?_ | refine X_yl (Yl_build rfl rfl rfl) rfl rfl ?_ | refine X_store rfl rfl rfl rfl hS (fun _ hS _ => ?_) | refine X_alloc rfl rfl rfl hS (fun _ _ hS _ => ?_) | refine X_strBytes rfl rfl rfl rfl hS (fun _ _ _ hS _ => ?_)) | (refine C_id ?_; first | refine C_seq ?_ | refine C_region ?_ | refine C_ret ?_) | (refine E_id ?_; first | refine E_code ?_ | refine E_ret1 rfl (by first | exact Rv_tmp rfl | exact Rv_cell rfl (run_load1 hS.cell) | exact Rv_cell rfl (run_loadN hS.cellsN)) (Ret.mk ?_)))
  refine ⟨_, _, rfl, ?_⟩
  have hS := hS.pick [0]
  exact hS.head fun _ h => ⟨_, _, rfl, h⟩
theorem int_ (n : Int) (W : World) : Calls Tryd.prog 38 #[.int .i64 n] W (Ret fun v w => v = .agg (List.toArray [.int .i64 0, .int .i64 n, z0, z0]) ∧ St W noF [leafR (.num n) [.int .i64 0, .int .i64 n, z0, z0]] w) := by
  have hS := St.start W
  refine calls_C Tryd.func38 rfl Tryd.ntmps38 rfl ?_
  repeat (first | (refine G_id ?_; first | refine G_nil ?_ | refine G_plain rfl rfl ?_) | (refine X_id ?_; first | refine X_yl (Yl_move rfl rfl) rfl rfl ?_ | refine X_yl (Yl_build rfl rfl rfl) rfl rfl ?_ | refine X_store rfl rfl rfl rfl hS (fun _ hS _ => ?_) | refine X_alloc rfl rfl rfl hS (fun _ _ hS _ => ?_)) | (refine C_id ?_; first | refine C_seq ?_ | refine C_region ?_ | refine C_ret ?_) | (refine E_id ?_; first | refine E_code ?_ | refine E_ret1 rfl (by first | exact Rv_tmp rfl | exact Rv_cell rfl (run_load1 hS.cell) | exact Rv_cell rfl (run_loadN hS.cellsN)) (Ret.mk ?_)))
  refine ⟨rfl, ?_⟩
  have hS : St W noF [] _ := hS.took
  exact hS.imp fun _ h => Sep.shut_head (ps := []) (fun _ hg => ⟨rfl, hg⟩) h
theorem bclone_nil (W : World) : Calls Tryd.prog 62 #[.slice none 0 0] W (Ret fun v w => v = .slice none 0 0 ∧ St W noF [] w) := by
  have hS := St.start W
  refine calls_C Tryd.func62 rfl Tryd.ntmps62 rfl ?_
  repeat (first | (refine G_id ?_; first | refine G_nil ?_ | refine G_plain rfl rfl ?_) | (refine X_id ?_; first | refine X_yl (Yl_move rfl rfl) rfl rfl ?_ | refine X_yl (Yl_assign rfl rfl) rfl rfl ?_ | refine X_yl (Yl_eqlNilSlice rfl rfl rfl) rfl rfl ?_) | (refine C_id ?_; first | refine C_seq ?_ | refine C_region ?_ | refine C_ret ?_ | refine C_cond_t rfl ?_) | (refine E_id ?_; first | refine E_code ?_ | refine E_then_ret ?_ | refine E_ret1 rfl (Rv_tmp rfl) (Ret.mk ?_)))
  exact ⟨rfl, hS⟩
theorem LeafRo.lit {W : World} {F : Nat → Prop} {y : Leaf} {cs : List Value} (H : LeafRo W F y cs) : ∃ k n a1 n1 c1 a2 n2 c2, cs = [.int .i64 k, .int .i64 n, .slice a1 n1 c1, .slice a2 n2 c2] := by
  cases y with
  | num n => exact ⟨_, _, _, _, _, _, _, _, H⟩
  | txt b => obtain ⟨a, c, rfl, _⟩ := H; exact ⟨_, _, _, _, _, _, _, _, rfl⟩
  | oth => obtain ⟨a, n, c, rfl⟩ := H; exact ⟨_, _, _, _, _, _, _, _, rfl⟩
theorem leaf_lit {y : Leaf} {cs : List Value} {h : Frag} (H : leafR y cs h) : ∃ k n a1 n1 c1 a2 n2 c2, cs = [.int .i64 k, .int .i64 n, .slice a1 n1 c1, .slice a2 n2 c2] := by
  cases y with
  | num n => exact ⟨_, _, _, _, _, _, _, _, H.1⟩
  | txt b => obtain ⟨a, c, rfl, _⟩ := H; exact ⟨_, _, _, _, _, _, _, _, rfl⟩
  | oth => obtain ⟨a, n, c, rfl, _⟩ := H; exact ⟨_, _, _, _, _, _, _, _, rfl⟩
theorem St.leaf_lit {W : World} {F : Nat → Prop} {q : List Res} {w : World} {y : Leaf} {cs : List Value} (hS : St W F (leafR y cs :: q) w) : ∃ k n a1 n1 c1 a2 n2 c2, cs = [.int .i64 k, .int .i64 n, .slice a1 n1 c1, .slice a2 n2 c2] := by
  obtain ⟨_, ⟨h1, _, H, _⟩, _⟩ := hS
  exact Cr.leaf_lit H
theorem copied_ (y : Leaf) (cs : List Value) (W : World) (F : Nat → Prop) (hy : LeafRo W F y cs) (hne : y ≠ .oth) (hf : ∀ b, y = .txt b → b.length ≤ 1073741824) :
    Calls Tryd.prog 50 #[.agg (List.toArray cs), .int .i64 8] W (Ret fun v w => ∃ cs', v = .agg (List.toArray cs') ∧ St W noF [leafR y cs'] w) := by
  have hS := St.start W
  cases y with
  | oth => exact absurd rfl hne
  | num n =>
    obtain rfl := hy
    refine calls_C Tryd.func50 rfl Tryd.ntmps50 rfl ?_
    repeat (first | (refine G_id ?_; first | refine G_nil ?_ | refine G_plain rfl rfl ?_) | (refine X_id ?_; first | refine X_yl (Yl_fieldAddr0 rfl rfl rfl) rfl rfl ?_ | refine X_yl (Yl_load rfl rfl hS.cell) rfl rfl ?_ | refine X_box rfl rfl rfl rfl hS (fun _ _ hS _ => ?_) | refine X_alloc rfl rfl rfl hS (fun _ _ hS _ => ?_)) | (refine C_id ?_; first | refine C_seq ?_ | refine C_region ?_) | (refine E_id ?_; first | refine E_code ?_))
    rename_i b2 _ _ _ b4 _ _
    refine X_callq 62 rfl rfl rfl rfl rfl hS (bclone_nil _) ?_
    rintro _ w rfl hS
    repeat (first | (refine G_id ?_; first | refine G_nil ?_ | refine G_plain rfl rfl ?_) | (refine X_id ?_; first | refine X_yl (Yl_move rfl rfl) rfl rfl ?_ | refine X_yl (Yl_assign rfl rfl) rfl rfl ?_ | refine X_yl (Yl_fieldAddr0 rfl rfl rfl) rfl rfl ?_ | refine X_yl (Yl_len rfl rfl) rfl rfl ?_ | refine X_yl (Yl_gtr_t rfl rfl rfl (by omega)) rfl rfl ?_ | refine X_yl (Yl_load rfl rfl hS.cell) rfl rfl ?_ | refine X_store rfl rfl rfl rfl hS (fun _ hS _ => ?_)) | (refine C_id ?_; first | refine C_seq ?_ | refine C_region ?_ | refine C_block ?_ | refine C_cond_t rfl ?_) | (refine E_id ?_; first | refine E_code ?_))
    refine C_loop (α := Unit) (fun _ => [(2, .pointer (some ⟨b2, 0, none⟩)), (4, .pointer (some ⟨b4, 0, none⟩)), (18, .int .i64 0), (19, .int .i64 0)]) (fun _ w => St W noF [pts b4 (.cells (List.toArray [.int .i64 0, .int .i64 0, .slice none 0 0, .slice none 0 0]) 61 (0, 0)), pts b2 (.cells (List.toArray [.int .i64 0, .int .i64 n, .slice none 0 0, .slice none 0 0]) 61 (0, 0))] w) (fun _ => 0) () ⟨rfl, rfl, rfl, rfl, trivial⟩ hS ?_
    clear hS
    rintro _ w hS
    repeat (first | (refine G_id ?_; first | refine G_nil ?_ | refine G_plain rfl rfl ?_) | (refine X_id ?_; first | refine X_yl (Yl_lss_f rfl rfl rfl (by omega)) rfl rfl ?_ | refine X_yl (Yl_loadN rfl rfl hS.cellsN) rfl rfl ?_ | refine X_store rfl rfl rfl rfl hS (fun _ hS _ => ?_)) | (refine C_id ?_; first | refine C_seq ?_ | refine C_region ?_ | refine C_ret ?_ | refine C_exit ?_ | refine C_cond_f rfl ?_) | (refine E_id ?_; first | refine E_code ?_ | refine E_then_exit ?_ | refine E_blk_same ?_ | refine E_ret1 rfl (by first | exact Rv_tmp rfl | exact Rv_cell rfl (run_load1 hS.cell) | exact Rv_cell rfl (run_loadN hS.cellsN)) (Ret.mk ?_)))
    refine ⟨_, rfl, ?_⟩
    have hS : St W noF [] _ := hS.took
    exact hS.imp fun _ h => Sep.shut_head (ps := []) (fun _ hg => ⟨rfl, hg⟩) h
  | txt b =>
    obtain ⟨a, c, rfl, hb⟩ := hy
    have hbl := hf b rfl
    replace hb : Ro W noF (bytes a b) := hb.start.ro
    refine calls_C Tryd.func50 rfl Tryd.ntmps50 rfl ?_
    repeat (first | (refine G_id ?_; first | refine G_nil ?_ | refine G_plain rfl rfl ?_) | (refine X_id ?_; first | refine X_yl (Yl_fieldAddr0 rfl rfl rfl) rfl rfl ?_ | refine X_yl (Yl_load rfl rfl hS.cell) rfl rfl ?_ | refine X_box rfl rfl rfl rfl hS (fun _ _ hS _ => ?_) | refine X_alloc rfl rfl rfl hS (fun _ _ hS _ => ?_)) | (refine C_id ?_; first | refine C_seq ?_ | refine C_region ?_) | (refine E_id ?_; first | refine E_code ?_))
    rename_i b2 _ _ _ b4 _ _
    refine X_callg _ rfl rfl rfl rfl rfl (bclone_ _ _ _ b _ (hb.rd hS) rfl hbl) ?_
    rintro _ w ⟨a', c', rfl, _, _, hS'⟩
    replace hS := hS.plus hS'
    clear hS'
    repeat (first | (refine G_id ?_; first | refine G_nil ?_ | refine G_plain rfl rfl ?_) | (refine X_id ?_; first | refine X_yl (Yl_move rfl rfl) rfl rfl ?_ | refine X_yl (Yl_assign rfl rfl) rfl rfl ?_ | refine X_yl (Yl_fieldAddr0 rfl rfl rfl) rfl rfl ?_ | refine X_yl (Yl_len rfl rfl) rfl rfl ?_ | refine X_yl (Yl_gtr_t rfl rfl rfl (by omega)) rfl rfl ?_ | refine X_yl (Yl_load rfl rfl hS.cell) rfl rfl ?_ | refine X_store rfl rfl rfl rfl hS (fun _ hS _ => ?_)) | (refine C_id ?_; first | refine C_seq ?_ | refine C_region ?_ | refine C_block ?_ | refine C_cond_t rfl ?_) | (refine E_id ?_; first | refine E_code ?_))
    refine C_loop (α := Unit) (fun _ => [(2, .pointer (some ⟨b2, 0, none⟩)), (4, .pointer (some ⟨b4, 0, none⟩)), (18, .int .i64 0), (19, .int .i64 0)]) (fun _ w => St W noF [own 5 1 a' c' (bv b), pts b4 (.cells (List.toArray [.int .i64 0, .int .i64 0, .slice none 0 0, .slice none 0 0]) 61 (0, 0)), pts b2 (.cells (List.toArray [.int .i64 1, .int .i64 0, .slice a' b.length c', .slice none 0 0]) 61 (0, 0))] w) (fun _ => 0) () ⟨rfl, rfl, rfl, rfl, trivial⟩ hS ?_
    clear hS
    rintro _ w hS
    repeat (first | (refine G_id ?_; first | refine G_nil ?_ | refine G_plain rfl rfl ?_) | (refine X_id ?_; first | refine X_yl (Yl_lss_f rfl rfl rfl (by omega)) rfl rfl ?_ | refine X_yl (Yl_loadN rfl rfl hS.cellsN) rfl rfl ?_ | refine X_store rfl rfl rfl rfl hS (fun _ hS _ => ?_)) | (refine C_id ?_; first | refine C_seq ?_ | refine C_region ?_ | refine C_ret ?_ | refine C_exit ?_ | refine C_cond_f rfl ?_) | (refine E_id ?_; first | refine E_code ?_ | refine E_then_exit ?_ | refine E_blk_same ?_ | refine E_ret1 rfl (by first | exact Rv_tmp rfl | exact Rv_cell rfl (run_load1 hS.cell) | exact Rv_cell rfl (run_loadN hS.cellsN)) (Ret.mk ?_)))
    refine ⟨_, rfl, ?_⟩
    have hS := hS.pick [0]
    exact hS.head fun _ h => ⟨_, _, rfl, h.row⟩
theorem of_ (a : Option Addr) (x : List Leaf) (c : Nat) (rows : List (List Value)) (W : World) (hr : Ro W noF (row a rows.flatten)) (hx : Leaves W noF x rows) (hne : Leaf.oth ∉ x) (hf : ∀ b, Leaf.txt b ∈ x → b.length ≤ 1073741824) (hxl : x.length ≤ 1024) :
    Calls Tryd.prog 36 #[.slice a x.length c] W (Ret fun v w => ∃ b q rows', v = .agg (List.toArray [.int .i64 2, .int .i64 0, z0, .slice b x.length q]) ∧ x.length ≤ q ∧ rows'.flatten.length = x.length * 4 ∧ St W noF [own 61 4 b q rows'.flatten, leavesR x rows'] w) := by
  have hS := St.start W
  refine calls_C Tryd.func36 rfl Tryd.ntmps36 rfl ?_
  repeat (first | (refine G_id ?_; first | refine G_nil ?_ | refine G_plain rfl rfl ?_) | (refine X_id ?_; first | refine X_yl (Yl_move rfl rfl) rfl rfl ?_ | refine X_yl (Yl_len rfl rfl) rfl rfl ?_ | refine X_yl (Yl_build rfl rfl rfl) rfl rfl ?_ | refine X_store rfl rfl rfl rfl hS (fun _ hS _ => ?_) | refine X_alloc rfl rfl rfl hS (fun _ _ hS _ => ?_)) | (refine C_id ?_; first | refine C_seq ?_ | refine C_region ?_ | refine C_block ?_) | (refine E_id ?_; first | refine E_code ?_))
  rename_i b2 _ _ _ b3 _ _ _ _ _
  refine C_loop (α := Nat × Option Addr × Nat) (fun z => [(2, .pointer (some ⟨b2, 0, none⟩)), (3, .pointer (some ⟨b3, 0, none⟩)), (7, .slice a x.length c), (8, .int .i64 (x.length : Nat)), (9, .int .i64 (z.1 : Nat))])
    (fun z w => z.1 ≤ x.length ∧ z.1 ≤ z.2.2 ∧ ∃ rows', rows'.flatten.length = z.1 * 4 ∧ St W noF [own 61 4 z.2.1 z.2.2 rows'.flatten, leavesR (x.take z.1) rows', pts b3 (.cells (List.toArray [.int .i64 2, .int .i64 0, .slice none 0 0, .slice z.2.1 z.1 z.2.2]) 61 (0, 0)), pts b2 (.cells (List.toArray [.int .i64 0, .int .i64 0, .slice none 0 0, .slice none 0 0]) 61 (0, 0))] w)
    (fun z => x.length - z.1) (0, none, 0) ⟨rfl, rfl, rfl, rfl, rfl, trivial⟩ ⟨Nat.zero_le _, Nat.le_refl _, [], rfl, (hS.leaves_nil).own_none _ _ _⟩ ?_
  clear hS
  rintro ⟨i, b, q⟩ w ⟨hi, hiq, rows', hrl, hS⟩
  simp only at hi hiq hrl hS
  by_cases hlt : i < x.length
  · have hy0 : x[i]? = some x[i] := List.getElem?_eq_getElem hlt
    obtain ⟨y, hyx⟩ : ∃ y, y = x[i] := ⟨_, rfl⟩
    rw [← hyx] at hy0
    have hymem : y ∈ x := List.mem_of_getElem? hy0
    obtain ⟨cs, hxs, hy⟩ := hx.at_ hy0
    obtain ⟨k1, k2, a1, n1, c1, a2, n2, c2, rfl⟩ := hy.lit
    obtain ⟨ab, ao, rfl⟩ := hr.start.base (by
      intro e
      rw [e] at hxs
      simp at hxs)
    repeat (first | (refine G_id ?_; first | refine G_nil ?_ | refine G_plain rfl rfl ?_) | (refine X_id ?_; first | refine X_yl (Yl_lss_t rfl rfl rfl (by omega)) rfl rfl ?_ | refine X_yl (Yl_indexAddr rfl rfl rfl (by omega) (by omega) (by first | assumption | exact ⟨_, _, rfl⟩)) rfl rfl ?_ | refine X_yl (Yl_loadN rfl rfl ((hr.rd hS).cellsX (by omega) hxs rfl)) rfl rfl ?_ | refine X_store rfl rfl rfl rfl hS (fun _ hS _ => ?_) | refine X_alloc rfl rfl rfl hS (fun _ _ hS _ => ?_)) | (refine C_id ?_; first | refine C_seq ?_ | refine C_region ?_ | refine C_block ?_ | refine C_skip ?_ | refine C_cond_t rfl ?_) | (refine E_id ?_; first | refine E_code ?_))
    refine C_ord (.s 0 (.s 1 (.s 2 (.h 3 (.h 4 (.h 5 (.s 6 (.h 7 .nil .no)) .no) .no) .no)))) mixed (by kernel_rfl) rfl ?_
    have hS := hS.drew
    repeat (first | (refine GO_id ?_; first | refine GO_pure rfl rfl (fun _ => Yl_fieldAddr0 rfl rfl rfl) rfl rfl ?_ | refine GO_read (fun w' => w'.cell? _ = some _) rfl rfl hS.cell (fun _ hc => Yl_load rfl rfl hc) rfl rfl ?_ | refine GO_read (fun w' => CellsN w' _ _ _) rfl rfl hS.cellsN (fun _ hc => Yl_loadN rfl rfl hc) rfl rfl ?_ | refine GO_hard rfl rfl ?_))
    refine X_callg _ rfl rfl rfl rfl rfl (copied_ y _ _ noF (hy.mono fun r h => (h.rd hS).ro) (fun e => hne (e ▸ hymem)) (fun b e => hf b (e ▸ hymem))) ?_
    rintro _ w ⟨cs', rfl, hS'⟩
    replace hS := hS.plus hS'
    clear hS'
    obtain ⟨l1, l2, d1, m1, e1, d2, m2, e2, rfl⟩ := hS.leaf_lit
    repeat (first | (refine X_id ?_; first | refine X_buildSlice rfl rfl rfl rfl rfl rfl rfl rfl hS (fun _ _ hS _ => ?_)) | (refine GO_id ?_; first | refine GO_hard rfl rfl ?_) | (refine Keep_id ?_; first | refine And.intro (by repeat (first | exact trivial | refine And.intro (.inl (by decide +kernel)) ?_ | refine And.intro (.inr (by first | assumption | exact hS.cell | exact cell_at (by assumption) | exact hS.cellI (by omega) | exact hS.cellIP (by omega) | exact hS.cellsN | exact ((hr.rd hS).cellX (by omega) hx) | exact ((hr2.rd hS).cellX (by omega) hx2) | exact hS.cellB (by omega) | exact hS.cellBA (by omega) | exact (hb.rd hS).cellB' (by omega) | exact (hb2.rd hS).cellB' (by omega) | exact (hg.rd hS).cellI (by omega) | exact (hg2.rd hS).cellI (by omega) | exact ((hr.rd hS).cellF (by first | omega | (dsimp only; omega)) hx) | exact ((hr2.rd hS).cellF (by first | omega | (dsimp only; omega)) hx2) | exact hS.cellO 0 (by omega) | exact hS.cellO 1 (by omega) | exact hS.cellIA (by omega) | exact (hg.rd hS).cellIA (by omega) | exact (hg2.rd hS).cellIA (by omega) | exact cell_at (hc.rd hS).pts | exact hb.rd hS)) ?_)) ?_))
    have hnw := (hS.rd (List.mem_cons_self ..)).own_row
    refine X_append rfl rfl rfl rfl rfl hS hrl hiq hnw rfl (by simp [Value.oneCell']) (by omega) (by simp only [maxLen]; omega) (fun b' q' w hS hq' _ => ?_)
    repeat (first | (refine G_id ?_; first | refine G_nil ?_ | refine G_plain rfl rfl ?_) | (refine X_id ?_; first | refine X_yl (Yl_move rfl rfl) rfl rfl ?_ | refine X_yl (Yl_add rfl rfl rfl (w64 (by omega) (by omega))) rfl rfl ?_ | refine X_store rfl rfl rfl rfl hS (fun _ hS _ => ?_)) | (refine C_id ?_; first | refine C_region ?_) | (refine E_id ?_; first | refine E_code ?_ | refine E_blk_n ?_) | (refine GO_id ?_; first | refine GO_nil ?_ | refine GO_pure rfl rfl (fun _ => Yl_fieldAddr0 rfl rfl rfl) rfl rfl ?_ | refine GO_hard rfl rfl ?_) | (refine Keep_id ?_; first | refine And.intro (by repeat (first | exact trivial | refine And.intro (.inl (by decide +kernel)) ?_ | refine And.intro (.inr (by first | assumption | exact hS.cell | exact cell_at (by assumption) | exact hS.cellI (by omega) | exact hS.cellIP (by omega) | exact hS.cellsN | exact ((hr.rd hS).cellX (by omega) hx) | exact ((hr2.rd hS).cellX (by omega) hx2) | exact hS.cellB (by omega) | exact hS.cellBA (by omega) | exact (hb.rd hS).cellB' (by omega) | exact (hb2.rd hS).cellB' (by omega) | exact (hg.rd hS).cellI (by omega) | exact (hg2.rd hS).cellI (by omega) | exact ((hr.rd hS).cellF (by first | omega | (dsimp only; omega)) hx) | exact ((hr2.rd hS).cellF (by first | omega | (dsimp only; omega)) hx2) | exact hS.cellO 0 (by omega) | exact hS.cellO 1 (by omega) | exact hS.cellIA (by omega) | exact (hg.rd hS).cellIA (by omega) | exact (hg2.rd hS).cellIA (by omega) | exact cell_at (hc.rd hS).pts | exact hb.rd hS)) ?_)) ?_))
    refine E_round (z := (i, b, q)) (i + 1, b', q') ⟨rfl, rfl, rfl, rfl, rfl, trivial⟩ ⟨hlt, hq', rows' ++ [[.int .i64 l1, .int .i64 l2, .slice d1 m1 e1, .slice d2 m2 e2]], by simp [hrl]; omega, ?_⟩ (by dsimp only; omega)
    rw [List.take_succ_eq_append_getElem hlt, show x[i] = y by rw [List.getElem?_eq_getElem hlt] at hy0; exact Option.some.inj hy0]
    have hS : St W noF [leavesR (x.take i) rows', leafR y [.int .i64 l1, .int .i64 l2, .slice d1 m1 e1, .slice d2 m2 e2], own 61 4 b' q' (rows'.flatten ++ [.int .i64 l1, .int .i64 l2, .slice d1 m1 e1, .slice d2 m2 e2]),
      pts b3 (.cells (List.toArray [.int .i64 2, .int .i64 0, .slice none 0 0, .slice b' (i + 1) q']) 61 (0, 0)), pts b2 (.cells (List.toArray [.int .i64 0, .int .i64 0, .slice none 0 0, .slice none 0 0]) 61 (0, 0))] _ := hS.took
    have hS := hS.leaves_snoc
    rw [List.flatten_append]
    simpa using hS.took
  · obtain rfl : i = x.length := by omega
    repeat (first | (refine G_id ?_; first | refine G_nil ?_ | refine G_plain rfl rfl ?_) | (refine X_id ?_; first | refine X_yl (Yl_lss_f rfl rfl rfl (by omega)) rfl rfl ?_ | refine X_yl (Yl_loadN rfl rfl hS.cellsN) rfl rfl ?_ | refine X_store rfl rfl rfl rfl hS (fun _ hS _ => ?_)) | (refine C_id ?_; first | refine C_seq ?_ | refine C_region ?_ | refine C_ret ?_ | refine C_exit ?_ | refine C_cond_f rfl ?_) | (refine E_id ?_; first | refine E_code ?_ | refine E_then_exit ?_ | refine E_blk_same ?_ | refine E_ret1 rfl (by first | exact Rv_tmp rfl | exact Rv_cell rfl (run_load1 hS.cell) | exact Rv_cell rfl (run_loadN hS.cellsN)) (Ret.mk ?_)))
    rw [List.take_length] at hS
    exact ⟨b, q, rows', rfl, hiq, hrl, hS.took⟩
end Cr
namespace Cr
open Go Go.Proofs
set_option maxRecDepth 100000
set_option maxHeartbeats 8000000
attribute [local irreducible] Calls

theorem ptext_ (ad : Addr) (W : World) : Calls Tryd.prog 56 #[.pointer (some ad)] W (Ret fun v w => v = .agg (List.toArray [.pointer (some ad), .pointer none, .bool true]) ∧ St W noF [] w) := by
  have hS := St.start W
  refine calls_C Tryd.func56 rfl Tryd.ntmps56 rfl ?_
  repeat (first | (refine G_id ?_; first | refine G_nil ?_ | refine G_plain rfl rfl ?_) | (refine X_id ?_; first | refine X_yl (Yl_move rfl rfl) rfl rfl ?_ | refine X_yl (Yl_build rfl rfl rfl) rfl rfl ?_ | refine X_store rfl rfl rfl rfl hS (fun _ hS _ => ?_) | refine X_alloc rfl rfl rfl hS (fun _ _ hS _ => ?_)) | (refine C_id ?_; first | refine C_seq ?_ | refine C_region ?_ | refine C_ret ?_) | (refine E_id ?_; first | refine E_code ?_ | refine E_ret1 rfl (by first | exact Rv_tmp rfl | exact Rv_cell rfl (run_load1 hS.cell) | exact Rv_cell rfl (run_loadN hS.cellsN)) (Ret.mk ?_)))
  exact ⟨rfl, hS.drops⟩
theorem pnumber_ (ad : Addr) (W : World) : Calls Tryd.prog 57 #[.pointer (some ad)] W (Ret fun v w => v = .agg (List.toArray [.pointer none, .pointer (some ad), .bool false]) ∧ St W noF [] w) := by
  have hS := St.start W
  refine calls_C Tryd.func57 rfl Tryd.ntmps57 rfl ?_
  repeat (first | (refine G_id ?_; first | refine G_nil ?_ | refine G_plain rfl rfl ?_) | (refine X_id ?_; first | refine X_yl (Yl_move rfl rfl) rfl rfl ?_ | refine X_yl (Yl_build rfl rfl rfl) rfl rfl ?_ | refine X_store rfl rfl rfl rfl hS (fun _ hS _ => ?_) | refine X_alloc rfl rfl rfl hS (fun _ _ hS _ => ?_)) | (refine C_id ?_; first | refine C_seq ?_ | refine C_region ?_ | refine C_ret ?_) | (refine E_id ?_; first | refine E_code ?_ | refine E_ret1 rfl (by first | exact Rv_tmp rfl | exact Rv_cell rfl (run_load1 hS.cell) | exact Rv_cell rfl (run_loadN hS.cellsN)) (Ret.mk ?_)))
  exact ⟨rfl, hS.drops⟩
/-- A part's cells. -/
def ptv (pc pb : Nat) : Pt → List Value
  | .t o => [.pointer (some ⟨pc, o, none⟩), .pointer none, .bool true]
  | .b => [.pointer (some ⟨pb, 0, none⟩), .pointer none, .bool true]
  | .n o => [.pointer none, .pointer (some ⟨pc, o, none⟩), .bool false]
def isWord (w : List UInt8) : Bool := (sort w).isSome
theorem parts_ (pc pb : Nat) (c : Cmd) (ar : Value) (W : World) (hc : Rd W (pts pc (.cells (c.cells ar).toArray 30 (0, 0)))) :
    Calls Tryd.prog 46 #[.pointer (some ⟨pc, 0, none⟩), .pointer (some ⟨pb, 0, none⟩)] W (Ret fun v w => ∃ a q, v = .tuple #[.slice a (partsW c.word).length q, .bool (isWord c.word)] ∧ (partsW c.word).length ≤ q ∧
      St W noF [own 93 3 a q ((partsW c.word).flatMap (ptv pc pb))] w) := by
  have hS := St.start W
  replace hc := hc.ro
  have fin : ∀ k, sort c.word = some k → partsW c.word = parts k ∧ isWord c.word = true := fun k h => by
    unfold partsW isWord; rw [h]; exact ⟨rfl, rfl⟩
  refine calls_C Tryd.func46 rfl Tryd.ntmps46 rfl ?_
  by_cases h1 : c.word = [105, 110, 115, 116, 97, 108, 108]
  · obtain ⟨e1, e2⟩ := fin 0 (by rw [h1]; rfl)
    rw [e1, e2]
    repeat (first | (refine G_id ?_; first | refine G_nil ?_ | refine G_plain rfl rfl ?_) | (refine X_id ?_; first | refine X_yl (Yl_move rfl rfl) rfl rfl ?_ | refine X_yl (Yl_assign rfl rfl) rfl rfl ?_ | refine X_yl (Yl_nilCheck rfl rfl) rfl rfl ?_ | refine X_yl (Yl_fieldAddr0 rfl rfl rfl) rfl rfl ?_ | refine X_yl (Yl_eqlStrT rfl rfl rfl (by assumption)) rfl rfl ?_ | refine X_yl (Yl_load rfl rfl (cell_at (hc.rd hS).pts)) rfl rfl ?_) | (refine C_id ?_; first | refine C_seq ?_ | refine C_region ?_ | refine C_block ?_ | refine C_skip ?_ | refine C_cond_t rfl ?_) | (refine E_id ?_; first | refine E_code ?_))
    refine C_ord (.s 0 (.s 1 (.s 2 (.s 4 (.s 6 (.s 7 (.s 8 (.h 3 (.h 5 (.h 9 (.h 10 (.s 11 (.s 12 .nil)) .no) .no) .no) .no)))))))) mixed (by kernel_rfl) rfl ?_
    have hS := hS.drew
    repeat (first | (refine X_id ?_; first | (refine X_callq 56 rfl rfl rfl rfl rfl hS (ptext_ _ _) ?_; rintro _ _ rfl hS) | (refine X_callq 57 rfl rfl rfl rfl rfl hS (pnumber_ _ _) ?_; rintro _ _ rfl hS) | refine X_buildSlice rfl rfl rfl rfl rfl rfl rfl rfl hS (fun _ _ hS _ => ?_)) | (refine C_id ?_; first | refine C_ret ?_) | (refine E_id ?_; first | refine E_code ?_ | refine E_then_ret ?_ | refine E_blk_ret ?_ | refine E_ret2 rfl (Rv_tmp rfl) (Rv_tmp rfl) (Ret.mk ?_)) | (refine GO_id ?_; first | refine GO_nil ?_ | refine GO_pure rfl rfl (fun _ => Yl_move rfl rfl) rfl rfl ?_ | refine GO_pure rfl rfl (fun _ => Yl_assign rfl rfl) rfl rfl ?_ | refine GO_pure rfl rfl (fun _ => Yl_nilCheck rfl rfl) rfl rfl ?_ | refine GO_pure rfl rfl (fun _ => Yl_fieldAddr0 rfl rfl rfl) rfl rfl ?_ | refine GO_hard rfl rfl ?_) | (refine Keep_id ?_; first | refine And.intro (by repeat (first | exact trivial | refine And.intro (.inl (by decide +kernel)) ?_ | refine And.intro (.inr (by first | assumption | exact hS.cell | exact cell_at (by assumption) | exact hS.cellI (by omega) | exact hS.cellIP (by omega) | exact hS.cellsN | exact ((hr.rd hS).cellX (by omega) hx) | exact ((hr2.rd hS).cellX (by omega) hx2) | exact hS.cellB (by omega) | exact hS.cellBA (by omega) | exact (hb.rd hS).cellB' (by omega) | exact (hb2.rd hS).cellB' (by omega) | exact (hg.rd hS).cellI (by omega) | exact (hg2.rd hS).cellI (by omega) | exact ((hr.rd hS).cellF (by first | omega | (dsimp only; omega)) hx) | exact ((hr2.rd hS).cellF (by first | omega | (dsimp only; omega)) hx2) | exact hS.cellO 0 (by omega) | exact hS.cellO 1 (by omega) | exact hS.cellIA (by omega) | exact (hg.rd hS).cellIA (by omega) | exact (hg2.rd hS).cellIA (by omega) | exact cell_at (hc.rd hS).pts | exact hb.rd hS)) ?_)) ?_))
    exact ⟨_, _, rfl, Nat.le_refl _, hS⟩
  · by_cases h2 : c.word = [114, 101, 102, 114, 101, 115, 104]
    · obtain ⟨e1, e2⟩ := fin 0 (by rw [h2]; rfl)
      rw [e1, e2]
      repeat (first | (refine G_id ?_; first | refine G_nil ?_ | refine G_plain rfl rfl ?_) | (refine X_id ?_; first | refine X_yl (Yl_move rfl rfl) rfl rfl ?_ | refine X_yl (Yl_assign rfl rfl) rfl rfl ?_ | refine X_yl (Yl_nilCheck rfl rfl) rfl rfl ?_ | refine X_yl (Yl_fieldAddr0 rfl rfl rfl) rfl rfl ?_ | refine X_yl (Yl_eqlStrT rfl rfl rfl (by assumption)) rfl rfl ?_ | refine X_yl (Yl_eqlStrF rfl rfl rfl (by assumption)) rfl rfl ?_ | refine X_yl (Yl_load rfl rfl (cell_at (hc.rd hS).pts)) rfl rfl ?_) | (refine C_id ?_; first | refine C_seq ?_ | refine C_region ?_ | refine C_block ?_ | refine C_cond_t rfl ?_ | refine C_cond_f rfl ?_) | (refine E_id ?_; first | refine E_code ?_))
      refine C_ord (.s 0 (.s 1 (.s 2 (.s 4 (.s 6 (.s 7 (.s 8 (.h 3 (.h 5 (.h 9 (.h 10 (.s 11 (.s 12 .nil)) .no) .no) .no) .no)))))))) mixed (by kernel_rfl) rfl ?_
      have hS := hS.drew
      repeat (first | (refine X_id ?_; first | (refine X_callq 56 rfl rfl rfl rfl rfl hS (ptext_ _ _) ?_; rintro _ _ rfl hS) | (refine X_callq 57 rfl rfl rfl rfl rfl hS (pnumber_ _ _) ?_; rintro _ _ rfl hS) | refine X_buildSlice rfl rfl rfl rfl rfl rfl rfl rfl hS (fun _ _ hS _ => ?_)) | (refine C_id ?_; first | refine C_ret ?_) | (refine E_id ?_; first | refine E_code ?_ | refine E_then_ret ?_ | refine E_blk_ret ?_ | refine E_ret2 rfl (Rv_tmp rfl) (Rv_tmp rfl) (Ret.mk ?_)) | (refine GO_id ?_; first | refine GO_nil ?_ | refine GO_pure rfl rfl (fun _ => Yl_move rfl rfl) rfl rfl ?_ | refine GO_pure rfl rfl (fun _ => Yl_assign rfl rfl) rfl rfl ?_ | refine GO_pure rfl rfl (fun _ => Yl_nilCheck rfl rfl) rfl rfl ?_ | refine GO_pure rfl rfl (fun _ => Yl_fieldAddr0 rfl rfl rfl) rfl rfl ?_ | refine GO_hard rfl rfl ?_) | (refine Keep_id ?_; first | refine And.intro (by repeat (first | exact trivial | refine And.intro (.inl (by decide +kernel)) ?_ | refine And.intro (.inr (by first | assumption | exact hS.cell | exact cell_at (by assumption) | exact hS.cellI (by omega) | exact hS.cellIP (by omega) | exact hS.cellsN | exact ((hr.rd hS).cellX (by omega) hx) | exact ((hr2.rd hS).cellX (by omega) hx2) | exact hS.cellB (by omega) | exact hS.cellBA (by omega) | exact (hb.rd hS).cellB' (by omega) | exact (hb2.rd hS).cellB' (by omega) | exact (hg.rd hS).cellI (by omega) | exact (hg2.rd hS).cellI (by omega) | exact ((hr.rd hS).cellF (by first | omega | (dsimp only; omega)) hx) | exact ((hr2.rd hS).cellF (by first | omega | (dsimp only; omega)) hx2) | exact hS.cellO 0 (by omega) | exact hS.cellO 1 (by omega) | exact hS.cellIA (by omega) | exact (hg.rd hS).cellIA (by omega) | exact (hg2.rd hS).cellIA (by omega) | exact cell_at (hc.rd hS).pts | exact hb.rd hS)) ?_)) ?_))
      exact ⟨_, _, rfl, Nat.le_refl _, hS⟩
    · by_cases h3 : c.word = [114, 101, 118, 101, 114, 116]
      · obtain ⟨e1, e2⟩ := fin 1 (by rw [h3]; rfl)
        rw [e1, e2]
        repeat (first | (refine G_id ?_; first | refine G_nil ?_ | refine G_plain rfl rfl ?_) | (refine X_id ?_; first | refine X_yl (Yl_move rfl rfl) rfl rfl ?_ | refine X_yl (Yl_assign rfl rfl) rfl rfl ?_ | refine X_yl (Yl_nilCheck rfl rfl) rfl rfl ?_ | refine X_yl (Yl_fieldAddr0 rfl rfl rfl) rfl rfl ?_ | refine X_yl (Yl_eqlStrT rfl rfl rfl (by assumption)) rfl rfl ?_ | refine X_yl (Yl_eqlStrF rfl rfl rfl (by assumption)) rfl rfl ?_ | refine X_yl (Yl_load rfl rfl (cell_at (hc.rd hS).pts)) rfl rfl ?_) | (refine C_id ?_; first | refine C_seq ?_ | refine C_region ?_ | refine C_block ?_ | refine C_skip ?_ | refine C_cond_t rfl ?_ | refine C_cond_f rfl ?_) | (refine E_id ?_; first | refine E_code ?_))
        refine C_ord (.s 0 (.s 1 (.s 2 (.s 4 (.s 5 (.s 6 (.h 3 (.h 7 (.h 8 (.s 9 (.s 10 .nil)) .no) .no) .no))))))) mixed (by kernel_rfl) rfl ?_
        have hS := hS.drew
        repeat (first | (refine X_id ?_; first | (refine X_callq 56 rfl rfl rfl rfl rfl hS (ptext_ _ _) ?_; rintro _ _ rfl hS) | (refine X_callq 57 rfl rfl rfl rfl rfl hS (pnumber_ _ _) ?_; rintro _ _ rfl hS) | refine X_buildSlice rfl rfl rfl rfl rfl rfl rfl rfl hS (fun _ _ hS _ => ?_)) | (refine C_id ?_; first | refine C_ret ?_) | (refine E_id ?_; first | refine E_code ?_ | refine E_then_ret ?_ | refine E_blk_ret ?_ | refine E_ret2 rfl (Rv_tmp rfl) (Rv_tmp rfl) (Ret.mk ?_)) | (refine GO_id ?_; first | refine GO_nil ?_ | refine GO_pure rfl rfl (fun _ => Yl_move rfl rfl) rfl rfl ?_ | refine GO_pure rfl rfl (fun _ => Yl_assign rfl rfl) rfl rfl ?_ | refine GO_pure rfl rfl (fun _ => Yl_nilCheck rfl rfl) rfl rfl ?_ | refine GO_pure rfl rfl (fun _ => Yl_fieldAddr0 rfl rfl rfl) rfl rfl ?_ | refine GO_hard rfl rfl ?_) | (refine Keep_id ?_; first | refine And.intro (by repeat (first | exact trivial | refine And.intro (.inl (by decide +kernel)) ?_ | refine And.intro (.inr (by first | assumption | exact hS.cell | exact cell_at (by assumption) | exact hS.cellI (by omega) | exact hS.cellIP (by omega) | exact hS.cellsN | exact ((hr.rd hS).cellX (by omega) hx) | exact ((hr2.rd hS).cellX (by omega) hx2) | exact hS.cellB (by omega) | exact hS.cellBA (by omega) | exact (hb.rd hS).cellB' (by omega) | exact (hb2.rd hS).cellB' (by omega) | exact (hg.rd hS).cellI (by omega) | exact (hg2.rd hS).cellI (by omega) | exact ((hr.rd hS).cellF (by first | omega | (dsimp only; omega)) hx) | exact ((hr2.rd hS).cellF (by first | omega | (dsimp only; omega)) hx2) | exact hS.cellO 0 (by omega) | exact hS.cellO 1 (by omega) | exact hS.cellIA (by omega) | exact (hg.rd hS).cellIA (by omega) | exact (hg2.rd hS).cellIA (by omega) | exact cell_at (hc.rd hS).pts | exact hb.rd hS)) ?_)) ?_))
        exact ⟨_, _, rfl, Nat.le_refl _, hS⟩
      · by_cases h4 : c.word = [114, 101, 109, 111, 118, 101]
        · obtain ⟨e1, e2⟩ := fin 1 (by rw [h4]; rfl)
          rw [e1, e2]
          repeat (first | (refine G_id ?_; first | refine G_nil ?_ | refine G_plain rfl rfl ?_) | (refine X_id ?_; first | refine X_yl (Yl_move rfl rfl) rfl rfl ?_ | refine X_yl (Yl_assign rfl rfl) rfl rfl ?_ | refine X_yl (Yl_nilCheck rfl rfl) rfl rfl ?_ | refine X_yl (Yl_fieldAddr0 rfl rfl rfl) rfl rfl ?_ | refine X_yl (Yl_eqlStrT rfl rfl rfl (by assumption)) rfl rfl ?_ | refine X_yl (Yl_eqlStrF rfl rfl rfl (by assumption)) rfl rfl ?_ | refine X_yl (Yl_load rfl rfl (cell_at (hc.rd hS).pts)) rfl rfl ?_) | (refine C_id ?_; first | refine C_seq ?_ | refine C_region ?_ | refine C_block ?_ | refine C_cond_t rfl ?_ | refine C_cond_f rfl ?_) | (refine E_id ?_; first | refine E_code ?_))
          refine C_ord (.s 0 (.s 1 (.s 2 (.s 4 (.s 5 (.s 6 (.h 3 (.h 7 (.h 8 (.s 9 (.s 10 .nil)) .no) .no) .no))))))) mixed (by kernel_rfl) rfl ?_
          have hS := hS.drew
          repeat (first | (refine X_id ?_; first | (refine X_callq 56 rfl rfl rfl rfl rfl hS (ptext_ _ _) ?_; rintro _ _ rfl hS) | (refine X_callq 57 rfl rfl rfl rfl rfl hS (pnumber_ _ _) ?_; rintro _ _ rfl hS) | refine X_buildSlice rfl rfl rfl rfl rfl rfl rfl rfl hS (fun _ _ hS _ => ?_)) | (refine C_id ?_; first | refine C_ret ?_) | (refine E_id ?_; first | refine E_code ?_ | refine E_then_ret ?_ | refine E_blk_ret ?_ | refine E_ret2 rfl (Rv_tmp rfl) (Rv_tmp rfl) (Ret.mk ?_)) | (refine GO_id ?_; first | refine GO_nil ?_ | refine GO_pure rfl rfl (fun _ => Yl_move rfl rfl) rfl rfl ?_ | refine GO_pure rfl rfl (fun _ => Yl_assign rfl rfl) rfl rfl ?_ | refine GO_pure rfl rfl (fun _ => Yl_nilCheck rfl rfl) rfl rfl ?_ | refine GO_pure rfl rfl (fun _ => Yl_fieldAddr0 rfl rfl rfl) rfl rfl ?_ | refine GO_hard rfl rfl ?_) | (refine Keep_id ?_; first | refine And.intro (by repeat (first | exact trivial | refine And.intro (.inl (by decide +kernel)) ?_ | refine And.intro (.inr (by first | assumption | exact hS.cell | exact cell_at (by assumption) | exact hS.cellI (by omega) | exact hS.cellIP (by omega) | exact hS.cellsN | exact ((hr.rd hS).cellX (by omega) hx) | exact ((hr2.rd hS).cellX (by omega) hx2) | exact hS.cellB (by omega) | exact hS.cellBA (by omega) | exact (hb.rd hS).cellB' (by omega) | exact (hb2.rd hS).cellB' (by omega) | exact (hg.rd hS).cellI (by omega) | exact (hg2.rd hS).cellI (by omega) | exact ((hr.rd hS).cellF (by first | omega | (dsimp only; omega)) hx) | exact ((hr2.rd hS).cellF (by first | omega | (dsimp only; omega)) hx2) | exact hS.cellO 0 (by omega) | exact hS.cellO 1 (by omega) | exact hS.cellIA (by omega) | exact (hg.rd hS).cellIA (by omega) | exact (hg2.rd hS).cellIA (by omega) | exact cell_at (hc.rd hS).pts | exact hb.rd hS)) ?_)) ?_))
          exact ⟨_, _, rfl, Nat.le_refl _, hS⟩
        · by_cases h5 : c.word = [99, 111, 110, 110, 101, 99, 116]
          · obtain ⟨e1, e2⟩ := fin 2 (by rw [h5]; rfl)
            rw [e1, e2]
            repeat (first | (refine G_id ?_; first | refine G_nil ?_ | refine G_plain rfl rfl ?_) | (refine X_id ?_; first | refine X_yl (Yl_move rfl rfl) rfl rfl ?_ | refine X_yl (Yl_assign rfl rfl) rfl rfl ?_ | refine X_yl (Yl_nilCheck rfl rfl) rfl rfl ?_ | refine X_yl (Yl_fieldAddr0 rfl rfl rfl) rfl rfl ?_ | refine X_yl (Yl_eqlStrT rfl rfl rfl (by assumption)) rfl rfl ?_ | refine X_yl (Yl_eqlStrF rfl rfl rfl (by assumption)) rfl rfl ?_ | refine X_yl (Yl_load rfl rfl (cell_at (hc.rd hS).pts)) rfl rfl ?_) | (refine C_id ?_; first | refine C_seq ?_ | refine C_region ?_ | refine C_block ?_ | refine C_skip ?_ | refine C_cond_t rfl ?_ | refine C_cond_f rfl ?_) | (refine E_id ?_; first | refine E_code ?_))
            refine C_ord (.s 0 (.s 1 (.s 2 (.s 3 (.s 5 (.s 6 (.s 7 (.s 8 (.s 10 (.s 11 (.s 12 (.s 13 (.s 15 (.s 16 (.s 17 (.s 18 (.h 4 (.h 9 (.h 14 (.h 19 (.h 20 (.s 21 (.s 22 .nil)) .no) .no) .no) .no) .no))))))))))))))))) mixed (by kernel_rfl) rfl ?_
            have hS := hS.drew
            repeat (first | (refine X_id ?_; first | (refine X_callq 56 rfl rfl rfl rfl rfl hS (ptext_ _ _) ?_; rintro _ _ rfl hS) | refine X_buildSlice rfl rfl rfl rfl rfl rfl rfl rfl hS (fun _ _ hS _ => ?_)) | (refine C_id ?_; first | refine C_ret ?_) | (refine E_id ?_; first | refine E_code ?_ | refine E_then_ret ?_ | refine E_blk_ret ?_ | refine E_ret2 rfl (Rv_tmp rfl) (Rv_tmp rfl) (Ret.mk ?_)) | (refine GO_id ?_; first | refine GO_nil ?_ | refine GO_pure rfl rfl (fun _ => Yl_move rfl rfl) rfl rfl ?_ | refine GO_pure rfl rfl (fun _ => Yl_assign rfl rfl) rfl rfl ?_ | refine GO_pure rfl rfl (fun _ => Yl_nilCheck rfl rfl) rfl rfl ?_ | refine GO_pure rfl rfl (fun _ => Yl_fieldAddr0 rfl rfl rfl) rfl rfl ?_ | refine GO_pure rfl rfl (fun _ => Yl_indexAddr_arr rfl rfl rfl (by omega) (by omega)) rfl rfl ?_ | refine GO_hard rfl rfl ?_) | (refine Keep_id ?_; first | refine And.intro (by repeat (first | exact trivial | refine And.intro (.inl (by decide +kernel)) ?_ | refine And.intro (.inr (by first | assumption | exact hS.cell | exact cell_at (by assumption) | exact hS.cellI (by omega) | exact hS.cellIP (by omega) | exact hS.cellsN | exact ((hr.rd hS).cellX (by omega) hx) | exact ((hr2.rd hS).cellX (by omega) hx2) | exact hS.cellB (by omega) | exact hS.cellBA (by omega) | exact (hb.rd hS).cellB' (by omega) | exact (hb2.rd hS).cellB' (by omega) | exact (hg.rd hS).cellI (by omega) | exact (hg2.rd hS).cellI (by omega) | exact ((hr.rd hS).cellF (by first | omega | (dsimp only; omega)) hx) | exact ((hr2.rd hS).cellF (by first | omega | (dsimp only; omega)) hx2) | exact hS.cellO 0 (by omega) | exact hS.cellO 1 (by omega) | exact hS.cellIA (by omega) | exact (hg.rd hS).cellIA (by omega) | exact (hg2.rd hS).cellIA (by omega) | exact cell_at (hc.rd hS).pts | exact hb.rd hS)) ?_)) ?_))
            exact ⟨_, _, rfl, Nat.le_refl _, hS⟩
          · by_cases h6 : c.word = [100, 105, 115, 99, 111, 110, 110, 101, 99, 116]
            · obtain ⟨e1, e2⟩ := fin 2 (by rw [h6]; rfl)
              rw [e1, e2]
              repeat (first | (refine G_id ?_; first | refine G_nil ?_ | refine G_plain rfl rfl ?_) | (refine X_id ?_; first | refine X_yl (Yl_move rfl rfl) rfl rfl ?_ | refine X_yl (Yl_assign rfl rfl) rfl rfl ?_ | refine X_yl (Yl_nilCheck rfl rfl) rfl rfl ?_ | refine X_yl (Yl_fieldAddr0 rfl rfl rfl) rfl rfl ?_ | refine X_yl (Yl_eqlStrT rfl rfl rfl (by assumption)) rfl rfl ?_ | refine X_yl (Yl_eqlStrF rfl rfl rfl (by assumption)) rfl rfl ?_ | refine X_yl (Yl_load rfl rfl (cell_at (hc.rd hS).pts)) rfl rfl ?_) | (refine C_id ?_; first | refine C_seq ?_ | refine C_region ?_ | refine C_block ?_ | refine C_cond_t rfl ?_ | refine C_cond_f rfl ?_) | (refine E_id ?_; first | refine E_code ?_))
              refine C_ord (.s 0 (.s 1 (.s 2 (.s 3 (.s 5 (.s 6 (.s 7 (.s 8 (.s 10 (.s 11 (.s 12 (.s 13 (.s 15 (.s 16 (.s 17 (.s 18 (.h 4 (.h 9 (.h 14 (.h 19 (.h 20 (.s 21 (.s 22 .nil)) .no) .no) .no) .no) .no))))))))))))))))) mixed (by kernel_rfl) rfl ?_
              have hS := hS.drew
              repeat (first | (refine X_id ?_; first | (refine X_callq 56 rfl rfl rfl rfl rfl hS (ptext_ _ _) ?_; rintro _ _ rfl hS) | refine X_buildSlice rfl rfl rfl rfl rfl rfl rfl rfl hS (fun _ _ hS _ => ?_)) | (refine C_id ?_; first | refine C_ret ?_) | (refine E_id ?_; first | refine E_code ?_ | refine E_then_ret ?_ | refine E_blk_ret ?_ | refine E_ret2 rfl (Rv_tmp rfl) (Rv_tmp rfl) (Ret.mk ?_)) | (refine GO_id ?_; first | refine GO_nil ?_ | refine GO_pure rfl rfl (fun _ => Yl_move rfl rfl) rfl rfl ?_ | refine GO_pure rfl rfl (fun _ => Yl_assign rfl rfl) rfl rfl ?_ | refine GO_pure rfl rfl (fun _ => Yl_nilCheck rfl rfl) rfl rfl ?_ | refine GO_pure rfl rfl (fun _ => Yl_fieldAddr0 rfl rfl rfl) rfl rfl ?_ | refine GO_pure rfl rfl (fun _ => Yl_indexAddr_arr rfl rfl rfl (by omega) (by omega)) rfl rfl ?_ | refine GO_hard rfl rfl ?_) | (refine Keep_id ?_; first | refine And.intro (by repeat (first | exact trivial | refine And.intro (.inl (by decide +kernel)) ?_ | refine And.intro (.inr (by first | assumption | exact hS.cell | exact cell_at (by assumption) | exact hS.cellI (by omega) | exact hS.cellIP (by omega) | exact hS.cellsN | exact ((hr.rd hS).cellX (by omega) hx) | exact ((hr2.rd hS).cellX (by omega) hx2) | exact hS.cellB (by omega) | exact hS.cellBA (by omega) | exact (hb.rd hS).cellB' (by omega) | exact (hb2.rd hS).cellB' (by omega) | exact (hg.rd hS).cellI (by omega) | exact (hg2.rd hS).cellI (by omega) | exact ((hr.rd hS).cellF (by first | omega | (dsimp only; omega)) hx) | exact ((hr2.rd hS).cellF (by first | omega | (dsimp only; omega)) hx2) | exact hS.cellO 0 (by omega) | exact hS.cellO 1 (by omega) | exact hS.cellIA (by omega) | exact (hg.rd hS).cellIA (by omega) | exact (hg2.rd hS).cellIA (by omega) | exact cell_at (hc.rd hS).pts | exact hb.rd hS)) ?_)) ?_))
              exact ⟨_, _, rfl, Nat.le_refl _, hS⟩
            · by_cases h7 : c.word = [105, 110, 102, 111]
              · obtain ⟨e1, e2⟩ := fin 3 (by rw [h7]; rfl)
                rw [e1, e2]
                repeat (first | (refine G_id ?_; first | refine G_nil ?_ | refine G_plain rfl rfl ?_) | (refine X_id ?_; first | (refine X_callq 56 rfl rfl rfl rfl rfl hS (ptext_ _ _) ?_; rintro _ _ rfl hS) | refine X_yl (Yl_move rfl rfl) rfl rfl ?_ | refine X_yl (Yl_assign rfl rfl) rfl rfl ?_ | refine X_yl (Yl_nilCheck rfl rfl) rfl rfl ?_ | refine X_yl (Yl_fieldAddr0 rfl rfl rfl) rfl rfl ?_ | refine X_buildSlice rfl rfl rfl rfl rfl rfl rfl rfl hS (fun _ _ hS _ => ?_) | refine X_yl (Yl_eqlStrT rfl rfl rfl (by assumption)) rfl rfl ?_ | refine X_yl (Yl_eqlStrF rfl rfl rfl (by assumption)) rfl rfl ?_ | refine X_yl (Yl_load rfl rfl (cell_at (hc.rd hS).pts)) rfl rfl ?_) | (refine C_id ?_; first | refine C_seq ?_ | refine C_region ?_ | refine C_block ?_ | refine C_ret ?_ | refine C_skip ?_ | refine C_cond_t rfl ?_ | refine C_cond_f rfl ?_) | (refine E_id ?_; first | refine E_code ?_ | refine E_then_ret ?_ | refine E_blk_ret ?_ | refine E_ret2 rfl (Rv_tmp rfl) (Rv_tmp rfl) (Ret.mk ?_)))
                exact ⟨_, _, rfl, Nat.le_refl _, hS⟩
              · by_cases h8 : c.word = [99, 111, 110, 110, 115]
                · obtain ⟨e1, e2⟩ := fin 3 (by rw [h8]; rfl)
                  rw [e1, e2]
                  repeat (first | (refine G_id ?_; first | refine G_nil ?_ | refine G_plain rfl rfl ?_) | (refine X_id ?_; first | (refine X_callq 56 rfl rfl rfl rfl rfl hS (ptext_ _ _) ?_; rintro _ _ rfl hS) | refine X_yl (Yl_move rfl rfl) rfl rfl ?_ | refine X_yl (Yl_assign rfl rfl) rfl rfl ?_ | refine X_yl (Yl_nilCheck rfl rfl) rfl rfl ?_ | refine X_yl (Yl_fieldAddr0 rfl rfl rfl) rfl rfl ?_ | refine X_buildSlice rfl rfl rfl rfl rfl rfl rfl rfl hS (fun _ _ hS _ => ?_) | refine X_yl (Yl_eqlStrT rfl rfl rfl (by assumption)) rfl rfl ?_ | refine X_yl (Yl_eqlStrF rfl rfl rfl (by assumption)) rfl rfl ?_ | refine X_yl (Yl_load rfl rfl (cell_at (hc.rd hS).pts)) rfl rfl ?_) | (refine C_id ?_; first | refine C_seq ?_ | refine C_region ?_ | refine C_block ?_ | refine C_ret ?_ | refine C_cond_t rfl ?_ | refine C_cond_f rfl ?_) | (refine E_id ?_; first | refine E_code ?_ | refine E_then_ret ?_ | refine E_blk_ret ?_ | refine E_ret2 rfl (Rv_tmp rfl) (Rv_tmp rfl) (Ret.mk ?_)))
                  exact ⟨_, _, rfl, Nat.le_refl _, hS⟩
                · by_cases h9 : c.word = [97, 117, 100, 105, 116]
                  · obtain ⟨e1, e2⟩ := fin 4 (by rw [h9]; rfl)
                    rw [e1, e2]
                    repeat (first | (refine G_id ?_; first | refine G_nil ?_ | refine G_plain rfl rfl ?_) | (refine X_id ?_; first | refine X_yl (Yl_move rfl rfl) rfl rfl ?_ | refine X_yl (Yl_assign rfl rfl) rfl rfl ?_ | refine X_yl (Yl_nilCheck rfl rfl) rfl rfl ?_ | refine X_yl (Yl_fieldAddr0 rfl rfl rfl) rfl rfl ?_ | refine X_yl (Yl_eqlStrT rfl rfl rfl (by assumption)) rfl rfl ?_ | refine X_yl (Yl_eqlStrF rfl rfl rfl (by assumption)) rfl rfl ?_ | refine X_yl (Yl_load rfl rfl (cell_at (hc.rd hS).pts)) rfl rfl ?_) | (refine C_id ?_; first | refine C_seq ?_ | refine C_region ?_ | refine C_block ?_ | refine C_cond_t rfl ?_ | refine C_cond_f rfl ?_) | (refine E_id ?_; first | refine E_code ?_))
                    refine C_ord (.s 0 (.s 1 (.s 2 (.s 3 (.s 5 (.s 6 (.s 7 (.s 8 (.s 10 (.s 11 (.s 12 (.s 13 (.s 15 (.s 16 (.s 17 (.s 18 (.h 4 (.h 9 (.h 14 (.h 19 (.h 20 (.s 21 (.s 22 .nil)) .no) .no) .no) .no) .no))))))))))))))))) mixed (by kernel_rfl) rfl ?_
                    have hS := hS.drew
                    repeat (first | (refine X_id ?_; first | (refine X_callq 56 rfl rfl rfl rfl rfl hS (ptext_ _ _) ?_; rintro _ _ rfl hS) | (refine X_callq 57 rfl rfl rfl rfl rfl hS (pnumber_ _ _) ?_; rintro _ _ rfl hS) | refine X_buildSlice rfl rfl rfl rfl rfl rfl rfl rfl hS (fun _ _ hS _ => ?_)) | (refine C_id ?_; first | refine C_ret ?_) | (refine E_id ?_; first | refine E_code ?_ | refine E_then_ret ?_ | refine E_blk_ret ?_ | refine E_ret2 rfl (Rv_tmp rfl) (Rv_tmp rfl) (Ret.mk ?_)) | (refine GO_id ?_; first | refine GO_nil ?_ | refine GO_pure rfl rfl (fun _ => Yl_move rfl rfl) rfl rfl ?_ | refine GO_pure rfl rfl (fun _ => Yl_assign rfl rfl) rfl rfl ?_ | refine GO_pure rfl rfl (fun _ => Yl_nilCheck rfl rfl) rfl rfl ?_ | refine GO_pure rfl rfl (fun _ => Yl_fieldAddr0 rfl rfl rfl) rfl rfl ?_ | refine GO_pure rfl rfl (fun _ => Yl_fieldAddr rfl rfl rfl) rfl rfl ?_ | refine GO_hard rfl rfl ?_) | (refine Keep_id ?_; first | refine And.intro (by repeat (first | exact trivial | refine And.intro (.inl (by decide +kernel)) ?_ | refine And.intro (.inr (by first | assumption | exact hS.cell | exact cell_at (by assumption) | exact hS.cellI (by omega) | exact hS.cellIP (by omega) | exact hS.cellsN | exact ((hr.rd hS).cellX (by omega) hx) | exact ((hr2.rd hS).cellX (by omega) hx2) | exact hS.cellB (by omega) | exact hS.cellBA (by omega) | exact (hb.rd hS).cellB' (by omega) | exact (hb2.rd hS).cellB' (by omega) | exact (hg.rd hS).cellI (by omega) | exact (hg2.rd hS).cellI (by omega) | exact ((hr.rd hS).cellF (by first | omega | (dsimp only; omega)) hx) | exact ((hr2.rd hS).cellF (by first | omega | (dsimp only; omega)) hx2) | exact hS.cellO 0 (by omega) | exact hS.cellO 1 (by omega) | exact hS.cellIA (by omega) | exact (hg.rd hS).cellIA (by omega) | exact (hg2.rd hS).cellIA (by omega) | exact cell_at (hc.rd hS).pts | exact hb.rd hS)) ?_)) ?_))
                    exact ⟨_, _, rfl, Nat.le_refl _, hS⟩
                  · by_cases h10 : c.word = [108, 105, 115, 116]
                    · obtain ⟨e1, e2⟩ := fin 5 (by rw [h10]; rfl)
                      rw [e1, e2]
                      repeat (first | (refine G_id ?_; first | refine G_nil ?_ | refine G_plain rfl rfl ?_) | (refine X_id ?_; first | refine X_yl (Yl_move rfl rfl) rfl rfl ?_ | refine X_yl (Yl_assign rfl rfl) rfl rfl ?_ | refine X_yl (Yl_nilCheck rfl rfl) rfl rfl ?_ | refine X_yl (Yl_fieldAddr0 rfl rfl rfl) rfl rfl ?_ | refine X_yl (Yl_eqlStrF rfl rfl rfl (by assumption)) rfl rfl ?_ | refine X_yl (Yl_load rfl rfl (cell_at (hc.rd hS).pts)) rfl rfl ?_) | (refine C_id ?_; first | refine C_seq ?_ | refine C_region ?_ | refine C_block ?_ | refine C_skip ?_ | refine C_cond_f rfl ?_) | (refine E_id ?_; first | refine E_code ?_ | refine E_blk_n ?_))
                      refine C_ord (.s 0 (.s 1 (.s 2 (.s 3 (.s 4 (.s 5 (.s 6 (.s 7 (.s 8 (.s 9 (.s 10 (.s 11 (.s 12 (.s 13 .nil)))))))))))))) mixed (by kernel_rfl) rfl ?_
                      have hS := hS.drew
                      repeat (first | (refine C_id ?_; first | refine C_ret ?_) | (refine E_id ?_; first | refine E_code ?_ | refine E_ret2 rfl (Rv_tmp rfl) (Rv_tmp rfl) (Ret.mk ?_)) | (refine GO_id ?_; first | refine GO_nil ?_ | refine GO_pure rfl rfl (fun _ => Yl_move rfl rfl) rfl rfl ?_ | refine GO_pure rfl rfl (fun _ => Yl_assign rfl rfl) rfl rfl ?_ | refine GO_pure rfl rfl (fun _ => Yl_nilCheck rfl rfl) rfl rfl ?_ | refine GO_pure rfl rfl (fun _ => Yl_fieldAddr0 rfl rfl rfl) rfl rfl ?_ | refine GO_pure rfl rfl (fun _ => Yl_pick_t rfl rfl rfl) rfl rfl ?_ | refine GO_no rfl rfl rfl rfl rfl rfl rfl ?_ | refine GO_pure rfl rfl (fun _ => Yl_eqlStrT rfl rfl rfl (by assumption)) rfl rfl ?_ | refine GO_read (fun w' => w'.cell? _ = some _) rfl rfl (cell_at (hc.rd hS).pts) (fun _ hc => Yl_load rfl rfl hc) rfl rfl ?_))
                      exact ⟨none, 0, rfl, Nat.le_refl _, hS.own_none _ _ _⟩
                    · by_cases h11 : c.word = [118, 101, 114, 105, 102, 121]
                      · obtain ⟨e1, e2⟩ := fin 5 (by rw [h11]; rfl)
                        rw [e1, e2]
                        repeat (first | (refine G_id ?_; first | refine G_nil ?_ | refine G_plain rfl rfl ?_) | (refine X_id ?_; first | refine X_yl (Yl_move rfl rfl) rfl rfl ?_ | refine X_yl (Yl_assign rfl rfl) rfl rfl ?_ | refine X_yl (Yl_nilCheck rfl rfl) rfl rfl ?_ | refine X_yl (Yl_fieldAddr0 rfl rfl rfl) rfl rfl ?_ | refine X_yl (Yl_eqlStrF rfl rfl rfl (by assumption)) rfl rfl ?_ | refine X_yl (Yl_load rfl rfl (cell_at (hc.rd hS).pts)) rfl rfl ?_) | (refine C_id ?_; first | refine C_seq ?_ | refine C_region ?_ | refine C_block ?_ | refine C_skip ?_ | refine C_cond_f rfl ?_) | (refine E_id ?_; first | refine E_code ?_ | refine E_blk_n ?_))
                        refine C_ord (.s 0 (.s 1 (.s 2 (.s 3 (.s 4 (.s 5 (.s 6 (.s 7 (.s 8 (.s 9 (.s 10 (.s 11 (.s 12 (.s 13 .nil)))))))))))))) mixed (by kernel_rfl) rfl ?_
                        have hS := hS.drew
                        repeat (first | (refine C_id ?_; first | refine C_ret ?_) | (refine E_id ?_; first | refine E_code ?_ | refine E_ret2 rfl (Rv_tmp rfl) (Rv_tmp rfl) (Ret.mk ?_)) | (refine GO_id ?_; first | refine GO_nil ?_ | refine GO_pure rfl rfl (fun _ => Yl_move rfl rfl) rfl rfl ?_ | refine GO_pure rfl rfl (fun _ => Yl_assign rfl rfl) rfl rfl ?_ | refine GO_pure rfl rfl (fun _ => Yl_nilCheck rfl rfl) rfl rfl ?_ | refine GO_pure rfl rfl (fun _ => Yl_fieldAddr0 rfl rfl rfl) rfl rfl ?_ | refine GO_pure rfl rfl (fun _ => Yl_pick_f rfl rfl rfl) rfl rfl ?_ | refine GO_yes rfl rfl rfl rfl (fun _ => Yl_move rfl rfl) rfl rfl ?_ | refine GO_yes rfl rfl rfl rfl (fun _ => Yl_nilCheck rfl rfl) rfl rfl ?_ | refine GO_yes rfl rfl rfl rfl (fun _ => Yl_fieldAddr0 rfl rfl rfl) rfl rfl ?_ | refine GO_pure rfl rfl (fun _ => Yl_eqlStrF rfl rfl rfl (by assumption)) rfl rfl ?_ | refine GO_yes rfl rfl rfl rfl (fun _ => Yl_eqlStrT rfl rfl rfl (by assumption)) rfl rfl ?_ | refine GO_read (fun w' => w'.cell? _ = some _) rfl rfl (cell_at (hc.rd hS).pts) (fun _ hc => Yl_load rfl rfl hc) rfl rfl ?_ | refine GO_yes_read (fun w' => w'.cell? _ = some _) rfl rfl rfl rfl (cell_at (hc.rd hS).pts) (fun _ hc => Yl_load rfl rfl hc) rfl rfl ?_))
                        exact ⟨none, 0, rfl, Nat.le_refl _, hS.own_none _ _ _⟩
                      · have e : sort c.word = none := by
                          unfold sort sorts
                          simp only [List.find?_cons, beq_eq_false_iff_ne.2 (Ne.symm h1), beq_eq_false_iff_ne.2 (Ne.symm h2), beq_eq_false_iff_ne.2 (Ne.symm h3), beq_eq_false_iff_ne.2 (Ne.symm h4), beq_eq_false_iff_ne.2 (Ne.symm h5), beq_eq_false_iff_ne.2 (Ne.symm h6), beq_eq_false_iff_ne.2 (Ne.symm h7), beq_eq_false_iff_ne.2 (Ne.symm h8), beq_eq_false_iff_ne.2 (Ne.symm h9), beq_eq_false_iff_ne.2 (Ne.symm h10), beq_eq_false_iff_ne.2 (Ne.symm h11), List.find?_nil]
                          rfl
                        have e1 : partsW c.word = [] := by unfold partsW; rw [e]
                        have e2 : isWord c.word = false := by unfold isWord; rw [e]; rfl
                        rw [e1, e2]
                        repeat (first | (refine G_id ?_; first | refine G_nil ?_ | refine G_plain rfl rfl ?_) | (refine X_id ?_; first | refine X_yl (Yl_move rfl rfl) rfl rfl ?_ | refine X_yl (Yl_assign rfl rfl) rfl rfl ?_ | refine X_yl (Yl_nilCheck rfl rfl) rfl rfl ?_ | refine X_yl (Yl_fieldAddr0 rfl rfl rfl) rfl rfl ?_ | refine X_yl (Yl_eqlStrF rfl rfl rfl (by assumption)) rfl rfl ?_ | refine X_yl (Yl_load rfl rfl (cell_at (hc.rd hS).pts)) rfl rfl ?_) | (refine C_id ?_; first | refine C_seq ?_ | refine C_region ?_ | refine C_block ?_ | refine C_skip ?_ | refine C_cond_f rfl ?_) | (refine E_id ?_; first | refine E_code ?_ | refine E_blk_n ?_))
                        refine C_ord (.s 0 (.s 1 (.s 2 (.s 3 (.s 4 (.s 5 (.s 6 (.s 7 (.s 8 (.s 9 (.s 10 (.s 11 (.s 12 (.s 13 .nil)))))))))))))) mixed (by kernel_rfl) rfl ?_
                        have hS := hS.drew
                        repeat (first | (refine C_id ?_; first | refine C_ret ?_) | (refine E_id ?_; first | refine E_code ?_ | refine E_ret2 rfl (Rv_tmp rfl) (Rv_tmp rfl) (Ret.mk ?_)) | (refine GO_id ?_; first | refine GO_nil ?_ | refine GO_pure rfl rfl (fun _ => Yl_move rfl rfl) rfl rfl ?_ | refine GO_pure rfl rfl (fun _ => Yl_assign rfl rfl) rfl rfl ?_ | refine GO_pure rfl rfl (fun _ => Yl_nilCheck rfl rfl) rfl rfl ?_ | refine GO_pure rfl rfl (fun _ => Yl_fieldAddr0 rfl rfl rfl) rfl rfl ?_ | refine GO_pure rfl rfl (fun _ => Yl_pick_f rfl rfl rfl) rfl rfl ?_ | refine GO_yes rfl rfl rfl rfl (fun _ => Yl_move rfl rfl) rfl rfl ?_ | refine GO_yes rfl rfl rfl rfl (fun _ => Yl_nilCheck rfl rfl) rfl rfl ?_ | refine GO_yes rfl rfl rfl rfl (fun _ => Yl_fieldAddr0 rfl rfl rfl) rfl rfl ?_ | refine GO_pure rfl rfl (fun _ => Yl_eqlStrF rfl rfl rfl (by assumption)) rfl rfl ?_ | refine GO_yes rfl rfl rfl rfl (fun _ => Yl_eqlStrF rfl rfl rfl (by assumption)) rfl rfl ?_ | refine GO_read (fun w' => w'.cell? _ = some _) rfl rfl (cell_at (hc.rd hS).pts) (fun _ hc => Yl_load rfl rfl hc) rfl rfl ?_ | refine GO_yes_read (fun w' => w'.cell? _ = some _) rfl rfl rfl rfl (cell_at (hc.rd hS).pts) (fun _ hc => Yl_load rfl rfl hc) rfl rfl ?_))
                        exact ⟨none, 0, rfl, Nat.le_refl _, hS.own_none _ _ _⟩
end Cr
