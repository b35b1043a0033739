/-
  Two more rules of the walk: a join behind a test (the rest is walked once), and an assertion in the middle.
  Names: what package path and the document call one; path.sign.
  Package codec in plain words: what bytes say (parse), how leaves are written (encL), and that the two fit.
  Audit records in plain words: what is wrong with one (rchk), its leaves, the record that a value says (readR).
  path.Name says nameOk.
  audit.named.
  Package codec's values as resources: leaves, lists of leaves; what can be read of them. No program is in sight.
  Package codec: a reader's small steps: more, is, wrong, take, digits.
  Package codec: a reader takes a byte; a reader takes digits.
  Package codec: a reader takes the digits that come.
  Package codec: a reader takes a number and the byte behind it.
-/
import Derived.Test.YtflbhldcnjmkkaaGreatDoorAnl2
import Derived.Test.YtflbhldcnjmkkaaGreatDoorAnl4
import Derived.Test.YtflbhldcnjmkkaaGreatDoorAnl3
import Derived.Lib.ItoaNum
import Derived.Lib.AtoiAll
namespace Cr
open Go
section
variable {P : Program} {Q : Exit → Act → World → Prop} {N : Nat} {ds : Md} {σ : Env} {w : World} {x y : Code}
theorem wpIn_weaken {F : Fence} {n : Nat} {c : Code} {Q Q' : Exit → Act → World → Prop} {a : Act} (hq : ∀ e a w, Q e a w → Q' e a w) (h : c.wpIn F n P Q a w) : c.wpIn F n P Q' a w := by
  intro b k cs hro hb hr
  obtain ⟨e, a', w', hQ, harr⟩ := h b k cs hro hb hr
  exact ⟨e, a', w', hq _ _ _ hQ, harr⟩
/-- What holds between two parts of a sequence. -/
def Mid {α : Type} (S : α → Env) (R : α → World → Prop) (N : Nat) (ds : Md) : Act → World → Prop := fun a w => ∃ z, Fr (S z) N ds a ∧ R z w
theorem C_mid {α : Type} (S : α → Env) (R : α → World → Prop) (h1 : C P x (Exit.then (Mid S R N ds) Q) N ds σ w) (h2 : ∀ z w, R z w → C P y Q N ds (S z) w) : C P (.seq x y) Q N ds σ w := ⟨fun a ha =>
  wpIn_seq (wpIn_weaken (fun e a w hh => by
    cases e with
    | normal => obtain ⟨z, hF, hR⟩ := hh; exact (h2 z w hR).run a hF
    | exit id => exact hh
    | goto l => exact hh
    | ret => exact hh
    | panic ch => exact hh
    | outgrown => exact hh) (h1.run a ha))⟩
/-- The same behind the walk's own step into a sequence. -/
theorem C_join {α : Type} (S : α → Env) (R : α → World → Prop) (h1 : C P x (Exit.then (Mid S R N ds) Q) N ds σ w) (h2 : ∀ z w, R z w → C P y Q N ds (S z) w) : C P x (Exit.then (y.wpIn (Fc ds) 0 P Q) Q) N ds σ w := ⟨fun a ha =>
  wpIn_weaken (fun e a w hh => by
    cases e with
    | normal => obtain ⟨z, hF, hR⟩ := hh; exact (h2 z w hR).run a hF
    | exit id => exact hh
    | goto l => exact hh
    | ret => exact hh
    | panic ch => exact hh
    | outgrown => exact hh) (h1.run a ha)⟩
theorem inBlock_mono {Q1 Q2 : Exit → Act → World → Prop} {id : Nat} (hq : ∀ e a w, Q1 e a w → Q2 e a w) : ∀ e a w, Exit.inBlock id Q1 e a w → Exit.inBlock id Q2 e a w := fun e a w h => by
  cases e with
  | exit id' =>
    by_cases he : id' = id
    · simp only [Exit.inBlock, if_pos he] at h ⊢; exact hq _ _ _ h
    · simp only [Exit.inBlock, if_neg he] at h ⊢; exact hq _ _ _ h
  | _ => exact hq _ _ _ h
/-- The same where the walk stands inside a block. -/
theorem C_joinB {α : Type} {id : Nat} (S : α → Env) (R : α → World → Prop) (h1 : C P x (Exit.inBlock id (Exit.then (Mid S R N ds) Q)) N ds σ w) (h2 : ∀ z w, R z w → C P y Q N ds (S z) w) : C P x (Exit.inBlock id (Exit.then (y.wpIn (Fc ds) 0 P Q) Q)) N ds σ w := ⟨fun a ha =>
  wpIn_weaken (inBlock_mono fun e a w hh => by
    cases e with
    | normal => obtain ⟨z, hF, hR⟩ := hh; exact (h2 z w hR).run a hF
    | exit id => exact hh
    | goto l => exact hh
    | ret => exact hh
    | panic ch => exact hh
    | outgrown => exact hh) (h1.run a ha)⟩
theorem E_mid {α : Type} {S : α → Env} {R : α → World → Prop} (z : α) (hσ : subs σ (S z)) (hR : R z w) : E (Exit.then (Mid S R N ds) Q) .normal N ds σ w := ⟨fun _ ha => ⟨z, ha.sub hσ, hR⟩⟩
theorem Rd.cellF {b off o' i : Nat} {cs : List Value} {v : Value} (H : Rd w (row (some ⟨b, off, none⟩) cs)) (hi : o' = off + i) (h : cs[i]? = some v) : w.cell? ⟨b, o', none⟩ = some v := by
  subst hi; exact H.cells i v h
end
section
variable {P : Program} {o : Oper} {σ : Env} {w : World} {t e : TypeId}
/-- An array literal, all of its elements given. -/
theorem Yl_buildArr {z : Value} {n size N m : Nat} {xs : List (Nat × Operand)} {parts : List (Nat × Value)} {l : List Value} (ho : o.op = .build t xs.toArray) (hx : evps σ xs = some parts) [h : Und P t (.array n e)] [hs : Siz P e size] [hi : Inf P t z N m] (hn : parts.length = n) (hN : N = n * size)
    (hidx : parts.map (·.1) = List.range' 0 parts.length) [hl : CellsAll parts size l] : Yl P o σ w (.agg l.toArray) := ⟨fun N' ds a ha => by
  obtain ⟨i, hi', hz', hsz, _⟩ := info_parts hi.inf
  obtain ⟨ls, h1, h2, h3⟩ := hl.all
  have hzl : z.cells.size = parts.length * size := by rw [hn, ← hN]; exact hi.zs
  have hq := fill_row (size := size) parts ls 0 [] z.cells.toList h1 h2 hidx (by simp) (by simpa using hzl)
  simp only [List.nil_append, Array.toArray_toList, h3] at hq
  have hze : (zeroValue t).run P w = .ok z w := by simp [zeroValue, typeInfo, hi', hz']
  have e := ha.evalps hx
  have hb : (Instr.build t parts.toArray).run P w = .ok (.agg l.toArray) w := by
    unfold Instr.build
    rw [Sem.run_bind, hze]
    show (underlying t >>= _ : Sem _).run P w = _
    rw [Sem.run_bind, run_underlying h.und]
    show (Go.sizeOf _ >>= _ : Sem _).run P w = _
    rw [Sem.run_bind, run_sizeOf]
    simp [Result.andThen, hq]
  simp [execOp, ho, e, hb]⟩
end
/-- A cell at a place that is told by a sum. -/
theorem St.cellO (k : Nat) {W : World} {F : Nat → Prop} {rs : List Res} {w : World} {b off : Nat} {l : List Value} {T : TypeId} {v : Value} (hS : St W F rs w) (hk : off = k) [hh : Has rs b (.cells l.toArray T (0, 0))] [hn : Nth l k v] : w.cell? ⟨b, off, none⟩ = some v := by
  subst hk
  rw [cell_of_row w b off _ T (0, 0) hS.has]
  simpa using hn.nth
/-- A row of the run's own, by its base. -/
theorem St.ownRd {W : World} {F : Nat → Prop} {rs rest : List Res} {w : World} {a : Option Addr} {T e c : Nat} {cs : List Value} (hS : St W F rs w) [hh : HasOwn rs a T e c cs rest] : Rd w (row a cs) := ((hS.perm hh.has).rd (List.mem_cons_self ..)).own_row
/-! ### resources in another order -/
class Take1 (rs : List Res) (r : Res) (rest : outParam (List Res)) : Prop where
  perm : rs.Perm (r :: rest)
instance Take1.there (q r : Res) (rs rest : List Res) [h : Take1 rs r rest] : Take1 (q :: rs) r (q :: rest) := ⟨(List.Perm.cons q h.perm).trans (.swap ..)⟩
instance Take1.here (r : Res) (rs : List Res) : Take1 (r :: rs) r rs := ⟨.refl _⟩
class Takes (rs out : List Res) : Prop where
  took : ∀ {W F w}, St W F rs w → St W F out w
instance Takes.nil (rs : List Res) : Takes rs [] := ⟨fun h => h.drops⟩
instance Takes.cons (rs rest out : List Res) (r : Res) [h : Take1 rs r rest] [h2 : Takes rest out] : Takes rs (r :: out) := ⟨fun hS => (hS.perm h.perm).under h2.took⟩
theorem St.took {W : World} {F : Nat → Prop} {rs out : List Res} {w : World} (hS : St W F rs w) [h : Takes rs out] : St W F out w := h.took hS
end Cr
namespace Cr
open Go Go.Proofs
set_option maxRecDepth 100000
set_option maxHeartbeats 2000000
attribute [local irreducible] Calls

/-- A sign of a name. -/
def okC (c : UInt8) : Prop := (97 ≤ c.toNat ∧ c.toNat ≤ 122) ∨ (48 ≤ c.toNat ∧ c.toNat ≤ 57) ∨ c.toNat = 46 ∨ c.toNat = 45 ∨ c.toNat = 95
instance (c : UInt8) : Decidable (okC c) := by unfold okC; infer_instance
def nameOk (s : List UInt8) : Prop := 1 ≤ s.length ∧ s.length ≤ 24 ∧ s ≠ [46] ∧ s ≠ [46, 46] ∧ ∀ c ∈ s, okC c
instance (s : List UInt8) : Decidable (nameOk s) := by unfold nameOk; infer_instance
theorem sign_ (c : UInt8) (W : World) : Calls Tryz.prog 177 #[.int .u8 (c.toNat : Int)] W (Ret fun v w => v = .bool (decide (okC c)) ∧ St W noF [] w) := by
  have hS := St.start W
  refine calls_C Tryz.func177 rfl Tryz.ntmps177 rfl ?_
  repeat' (first | (refine G_id ?_; first | refine G_nil ?_ | refine G_plain rfl rfl ?_ | refine G_yes rfl rfl rfl rfl ?_ | refine G_no rfl rfl rfl rfl rfl rfl ?_ | refine G_no_undef rfl rfl rfl rfl rfl ?_) | (refine X_id ?_; first | refine X_yl (Yl_move rfl rfl) rfl rfl ?_ | refine X_yl (Yl_assign rfl rfl) rfl rfl ?_ | refine X_yl (Yl_pick_t rfl rfl rfl) rfl rfl ?_ | refine X_yl (Yl_pick_f rfl rfl rfl) rfl rfl ?_ | refine X_yl (Yl_eql_f rfl rfl rfl (by omega)) rfl rfl ?_ | refine X_yl (Yl_leq_f rfl rfl rfl (by omega)) rfl rfl ?_ | refine X_yl (Yl_geq_t rfl rfl rfl (by omega)) rfl rfl ?_ | refine X_yl (Yl_eql rfl rfl rfl) rfl rfl ?_ | refine X_yl (Yl_leq rfl rfl rfl) rfl rfl ?_ | refine X_yl (Yl_geq rfl rfl rfl) rfl rfl ?_) | (refine C_id ?_; first | refine C_seq ?_ | refine C_region ?_ | refine C_ret ?_) | (refine E_id ?_; first | refine E_code ?_ | refine E_ret1 rfl (Rv_tmp rfl) (Ret.mk ?_)) | (refine G_split (d := 5) rfl ?_ ?_ <;> intro hd) | (refine G_split (d := 9) rfl ?_ ?_ <;> intro hd) | (refine G_split (d := 12) rfl ?_ ?_ <;> intro hd) | (refine G_split (d := 17) rfl ?_ ?_ <;> intro hd) | (refine G_split (d := 21) rfl ?_ ?_ <;> intro hd) | (refine G_split (d := 25) rfl ?_ ?_ <;> intro hd) | (refine C_cond_dec rfl ?_ ?_ <;> intro hd))
  all_goals
    refine ⟨?_, hS⟩
    congr 1
    unfold okC
    first | (symm; exact decide_eq_true (by omega)) | (symm; exact decide_eq_false (by omega)) | exact decide_eq_decide.2 (by omega)
end Cr
namespace Cr
open Go

/-- A value that is no list; or (oth) a list that nobody looks into. -/
inductive Leaf where
  | num (n : Int)
  | txt (b : List UInt8)
  | oth
inductive Top where
  | leaf (x : Leaf)
  | list (l : List Leaf)
def Top.shut : Top → Leaf
  | .leaf x => x
  | .list _ => .oth

def dig (c : UInt8) : Bool := decide (48 ≤ c.toNat) && decide (c.toNat ≤ 57)
theorem dig_iff {c : UInt8} : dig c = true ↔ 48 ≤ c.toNat ∧ c.toNat ≤ 57 := by simp [dig]
def sgn (below : Bool) (l : List UInt8) : List UInt8 := if below = true ∧ l.head? = some 45 then [45] else []
def numS (below : Bool) (l : List UInt8) : List UInt8 := sgn below l ++ (l.drop (sgn below l).length).takeWhile dig
def badN (s : List UInt8) : Prop := s = [] ∨ s = [45] ∨ s = [45, 48] ∨ (s.head? = some 48 ∧ 1 < s.length) ∨ (2 < s.length ∧ s.take 2 = [45, 48])
instance (s : List UInt8) : Decidable (badN s) := by unfold badN; infer_instance
def num (below : Bool) (e : UInt8) (l : List UInt8) : Option (Int × List UInt8) :=
  match l.drop (numS below l).length with
  | [] => none
  | c :: r => if badN (numS below l) ∨ c ≠ e then none else
    match Lib.atoiAll (numS below l) with
    | .ok v => some (v, r)
    | _ => none

/-! ### digits and numbers -/
def val (d : List UInt8) (acc : Nat) : Nat := d.foldl (fun a c => a * 10 + (c.toNat - 48)) acc
theorem val_nil (a : Nat) : val [] a = a := rfl
theorem val_cons (c : UInt8) (d : List UInt8) (a : Nat) : val (c :: d) a = val d (a * 10 + (c.toNat - 48)) := by simp [val]
theorem val_snoc (c : UInt8) (d : List UInt8) (a : Nat) : val (d ++ [c]) a = val d a * 10 + (c.toNat - 48) := by simp [val]
theorem val_ge : ∀ (d : List UInt8) (a : Nat), a ≤ val d a
  | [], a => Nat.le_refl _
  | c :: d, a => by rw [val_cons]; have := val_ge d (a * 10 + (c.toNat - 48)); omega
theorem pu_step (c : UInt8) (d : List UInt8) (a : Nat) : (Lib.parseUint10 a (c :: d) = Lib.parseUint10 (a * 10 + (c.toNat - 48)) d ∧ dig c = true) ∨ ∀ u, Lib.parseUint10 a (c :: d) ≠ .ok u := by
  by_cases h1 : 48 ≤ c.toNat ∧ c.toNat ≤ 57
  · by_cases h2 : 1844674407370955162 ≤ a
    · refine .inr fun u => ?_
      rw [Lib.parseUint10, if_pos h1, if_pos h2]; exact fun h => nomatch h
    · by_cases h3 : 18446744073709551616 ≤ a * 10 + (c.toNat - 48)
      · refine .inr fun u => ?_
        rw [Lib.parseUint10, if_pos h1, if_neg h2, if_pos h3]; exact fun h => nomatch h
      · refine .inl ⟨?_, dig_iff.2 h1⟩
        rw [Lib.parseUint10, if_pos h1, if_neg h2, if_neg h3]
  · refine .inr fun u => ?_
    rw [Lib.parseUint10, if_neg h1]; exact fun h => nomatch h
theorem pu_ok (d : List UInt8) : ∀ (a u : Nat), Lib.parseUint10 a d = .ok u → u = val d a ∧ ∀ c ∈ d, dig c = true := by
  induction d with
  | nil => intro a u h; rw [Lib.parseUint10] at h; injection h with h; exact ⟨h.symm, fun _ hc => by cases hc⟩
  | cons c d ih =>
    intro a u h
    rcases pu_step c d a with ⟨h1, h2⟩ | h1
    · rw [h1] at h
      obtain ⟨h3, h4⟩ := ih _ u h
      refine ⟨h3, fun x hx => ?_⟩
      rcases List.mem_cons.1 hx with rfl | hx
      · exact h2
      · exact h4 x hx
    · exact absurd h (h1 u)
theorem pu_mk : ∀ (d : List UInt8) (a : Nat), (∀ c ∈ d, dig c = true) → val d a ≤ 9223372036854775808 → Lib.parseUint10 a d = .ok (val d a)
  | [], a, _, _ => rfl
  | c :: d, a, hd, hv => by
    have hc := dig_iff.1 (hd c (List.mem_cons_self ..))
    rw [val_cons] at hv ⊢
    have := val_ge d (a * 10 + (c.toNat - 48))
    simp only [Lib.parseUint10]
    rw [if_pos hc, if_neg (by omega), if_neg (by omega)]
    exact pu_mk d _ (fun x hx => hd x (List.mem_cons_of_mem _ hx)) hv
theorem val_pos {d : List UInt8} (hd : ∀ c ∈ d, dig c = true) (h0 : d ≠ []) (h1 : d.head? ≠ some 48) : 1 ≤ val d 0 := by
  cases d with
  | nil => exact absurd rfl h0
  | cons c d =>
    rw [val_cons]
    have hc := dig_iff.1 (hd c (List.mem_cons_self ..))
    have := val_ge d (0 * 10 + (c.toNat - 48))
    have : c.toNat ≠ 48 := fun e => h1 (by rw [List.head?_cons, show c = 48 from UInt8.toNat_inj.1 e])
    omega
theorem ofNat_dig {c : UInt8} (hc : 48 ≤ c.toNat) : UInt8.ofNat (48 + (c.toNat - 48)) = c := by
  rw [show 48 + (c.toNat - 48) = c.toNat by omega]; exact UInt8.ofNat_toNat
theorem dec_val : ∀ (n : Nat) (d : List UInt8), d.length = n + 1 → (∀ c ∈ d, dig c = true) → (d.head? ≠ some 48 ∨ n = 0) → Lib.decDigits (val d 0) = d
  | 0, d, hl, hd, _ => by
    obtain ⟨c, rfl⟩ : ∃ c, d = [c] := List.length_eq_one_iff.1 hl
    have hc := dig_iff.1 (hd c (List.mem_cons_self ..))
    rw [val_cons, val_nil, Lib.decDigits, dif_pos (by omega), Nat.zero_mul, Nat.zero_add, ofNat_dig hc.1]
  | n + 1, d, hl, hd, hh => by
    obtain ⟨d', c, rfl⟩ : ∃ d' c, d = d' ++ [c] := (List.eq_nil_or_concat d).resolve_left (fun e => by rw [e] at hl; cases hl) |>.imp fun _ h => h.imp fun _ h => by simpa using h
    have hl' : d'.length = n + 1 := by simpa using hl
    have hn0 : d' ≠ [] := fun e => by rw [e] at hl'; cases hl'
    have hh' : d'.head? ≠ some 48 := by
      rcases hh with hh | hh
      · cases d' with
        | nil => exact absurd rfl hn0
        | cons x y => exact hh
      · cases hh
    have hd' : ∀ c ∈ d', dig c = true := fun x hx => hd x (List.mem_append_left _ hx)
    have hc := dig_iff.1 (hd c (List.mem_append_right _ (List.mem_cons_self ..)))
    have hp := val_pos hd' hn0 hh'
    have ih := dec_val n d' hl' hd' (.inl hh')
    rw [val_snoc, Lib.decDigits, dif_neg (by omega)]
    rw [show (val d' 0 * 10 + (c.toNat - 48)) / 10 = val d' 0 by omega, show (val d' 0 * 10 + (c.toNat - 48)) % 10 = c.toNat - 48 by omega, ih, ofNat_dig hc.1]
theorem toNat_ofNat_dig {k : Nat} (h : k < 10) : (UInt8.ofNat (48 + k)).toNat = 48 + k := by
  rw [UInt8.toNat_ofNat']; exact Nat.mod_eq_of_lt (by omega)
theorem dec_facts (u : Nat) : (∀ c ∈ Lib.decDigits u, dig c = true) ∧ Lib.decDigits u ≠ [] ∧ ((Lib.decDigits u).head? = some 48 → u = 0) ∧ val (Lib.decDigits u) 0 = u := by
  induction u using Nat.strongRecOn with
  | _ u ih =>
    rw [Lib.decDigits]
    by_cases h : u < 10
    · rw [dif_pos h]
      refine ⟨fun c hc => ?_, by simp, fun hh => ?_, ?_⟩
      · obtain rfl := List.mem_singleton.1 hc
        rw [dig_iff, toNat_ofNat_dig h]; omega
      · have h1 : UInt8.ofNat (48 + u) = 48 := by simpa using hh
        have := congrArg UInt8.toNat h1
        rw [toNat_ofNat_dig h] at this
        have h48 : (48 : UInt8).toNat = 48 := rfl
        omega
      · rw [val_cons, val_nil, toNat_ofNat_dig h]; omega
    · rw [dif_neg h]
      obtain ⟨h1, h2, h3, h4⟩ := ih (u / 10) (by omega)
      refine ⟨fun c hc => ?_, by simp, fun hh => ?_, ?_⟩
      · rcases List.mem_append.1 hc with hc | hc
        · exact h1 c hc
        · obtain rfl := List.mem_singleton.1 hc
          rw [dig_iff, toNat_ofNat_dig (by omega)]; omega
      · exfalso
        cases e : Lib.decDigits (u / 10) with
        | nil => exact h2 e
        | cons x y =>
          rw [e] at hh h3
          have := h3 (by simpa using hh)
          omega
      · rw [val_snoc, h4, toNat_ofNat_dig (by omega)]; omega

theorem takeWhile_app {p : UInt8 → Bool} {e : UInt8} {r : List UInt8} : ∀ {d : List UInt8}, (∀ c ∈ d, p c = true) → p e = false → (d ++ e :: r).takeWhile p = d
  | [], _, he => by simp [he]
  | c :: d, hd, he => by
    rw [List.cons_append, List.takeWhile_cons, if_pos (hd c (List.mem_cons_self ..)), takeWhile_app (fun x hx => hd x (List.mem_cons_of_mem _ hx)) he]
theorem mem_takeWhile {p : UInt8 → Bool} : ∀ {l : List UInt8} {c : UInt8}, c ∈ l.takeWhile p → p c = true
  | [], _, h => by cases h
  | x :: l, c, h => by
    rw [List.takeWhile_cons] at h
    split at h
    · rename_i hx
      rcases List.mem_cons.1 h with rfl | h
      · exact hx
      · exact mem_takeWhile h
    · cases h
theorem take_takeWhile {p : UInt8 → Bool} : ∀ (l : List UInt8), l.take (l.takeWhile p).length = l.takeWhile p
  | [] => rfl
  | x :: l => by
    rw [List.takeWhile_cons]
    split
    · simp [take_takeWhile l]
    · rfl
theorem sgn_take (below : Bool) (l : List UInt8) : l.take (sgn below l).length = sgn below l := by
  unfold sgn
  split
  · rename_i h
    cases l with
    | nil => simp at h
    | cons c l => have := h.2; simp at this; simp [this]
  · rfl
theorem numS_take (below : Bool) (l : List UInt8) : l.take (numS below l).length = numS below l := by
  unfold numS
  generalize hs : sgn below l = s
  have h1 : l.take s.length = s := by rw [← hs]; exact sgn_take below l
  rw [List.length_append, List.take_add, h1, take_takeWhile]
theorem numS_le (below : Bool) (l : List UInt8) : (numS below l).length ≤ l.length := by
  have h := congrArg List.length (numS_take below l)
  rw [List.length_take] at h; omega

theorem num_split {below : Bool} {e : UInt8} {l r : List UInt8} {v : Int} (h : num below e l = some (v, r)) :
    l = numS below l ++ e :: r ∧ ¬ badN (numS below l) ∧ Lib.atoiAll (numS below l) = .ok v := by
  unfold num at h
  split at h
  · cases h
  · rename_i c r' hd
    split at h
    · cases h
    · rename_i hb
      split at h
      · rename_i v' hv
        obtain ⟨rfl, rfl⟩ : v' = v ∧ r' = r := by simpa using h
        have hc : c = e := Decidable.not_not.1 fun hc => hb (.inr hc)
        have hn := fun hbad => hb (.inl hbad)
        refine ⟨?_, hn, hv⟩
        have := List.take_append_drop (numS below l).length l
        rw [numS_take, hd, hc] at this
        exact this.symm
      · cases h
theorem numS_cases (below : Bool) (l : List UInt8) : ∃ d, (∀ c ∈ d, dig c = true) ∧ (numS below l = d ∨ numS below l = 45 :: d ∧ below = true) := by
  refine ⟨(l.drop (sgn below l).length).takeWhile dig, fun c hc => mem_takeWhile hc, ?_⟩
  unfold numS
  by_cases h : below = true ∧ l.head? = some 45
  · right; rw [show sgn below l = [45] from if_pos h]; exact ⟨rfl, h.1⟩
  · left; rw [show sgn below l = [] from if_neg h]; rfl
theorem not45 {c : UInt8} (hc : dig c = true) : ¬ c.toNat = 45 ∧ ¬ (c.toNat = 43 ∨ c.toNat = 45) := by
  have := dig_iff.1 hc; omega
theorem atoi_pos {d : List UInt8} {v : Int} (hd : ∀ c ∈ d, dig c = true) (h : Lib.atoiAll d = .ok v) : d ≠ [] ∧ v = (val d 0 : Nat) := by
  cases d with
  | nil => cases h
  | cons c d =>
    refine ⟨by simp, ?_⟩
    have hc := not45 (hd c (List.mem_cons_self ..))
    unfold Lib.atoiAll at h
    simp only at h
    rw [if_neg hc.2] at h
    unfold Lib.parseMag at h
    rw [if_neg (by simp)] at h
    rcases hp : Lib.parseUint10 0 (c :: d) with u | _ | _
    · rw [hp] at h
      simp only at h
      split at h
      · cases h
      · split at h
        · cases h
        · rw [if_neg hc.1] at h
          injection h with h
          rw [← h, (pu_ok _ _ _ hp).1]
    · rw [hp] at h; cases h
    · rw [hp] at h; cases h
theorem atoi_neg {d : List UInt8} {v : Int} (h : Lib.atoiAll (45 :: d) = .ok v) : d ≠ [] ∧ v = - ((val d 0 : Nat) : Int) := by
  unfold Lib.atoiAll at h
  simp only at h
  rw [if_pos (.inr rfl)] at h
  unfold Lib.parseMag at h
  by_cases hd : d = []
  · rw [if_pos hd] at h; cases h
  · rw [if_neg hd] at h
    refine ⟨hd, ?_⟩
    rcases hp : Lib.parseUint10 0 d with u | _ | _
    · rw [hp] at h
      simp only at h
      split at h
      · cases h
      · split at h
        · cases h
        · rw [if_pos (show UInt8.toNat 45 = 45 from rfl)] at h
          injection h with h
          rw [← h, (pu_ok _ _ _ hp).1]
    · rw [hp] at h; cases h
    · rw [hp] at h; cases h
theorem itoa_nat (u : Nat) : Lib.itoa (u : Int) = Lib.decDigits u := by
  unfold Lib.itoa; rw [if_neg (by omega), Int.toNat_natCast]
theorem itoa_neg {u : Nat} (h : 1 ≤ u) : Lib.itoa (-(u : Int)) = 45 :: Lib.decDigits u := by
  unfold Lib.itoa; rw [if_pos (by omega)]; congr 2; omega
/-- What is read as a number is what the number is written as. -/
theorem num_canon {below : Bool} {e : UInt8} {l r : List UInt8} {v : Int} (h : num below e l = some (v, r)) : l = Lib.itoa v ++ e :: r := by
  obtain ⟨hl, hb, hv⟩ := num_split h
  have key : numS below l = Lib.itoa v := by
    obtain ⟨d, hd, hs | ⟨hs, _⟩⟩ := numS_cases below l
    · rw [hs] at hb hv ⊢
      obtain ⟨h0, rfl⟩ := atoi_pos hd hv
      rw [itoa_nat]
      refine (dec_val (d.length - 1) d (by have := List.length_pos_iff.2 h0; omega) hd ?_).symm
      by_cases h1 : d.length - 1 = 0
      · exact .inr h1
      · refine .inl fun hh => hb ?_
        exact .inr (.inr (.inr (.inl ⟨hh, by omega⟩)))
    · rw [hs] at hb hv ⊢
      obtain ⟨h0, rfl⟩ := atoi_neg hv
      have hh : d.head? ≠ some 48 := fun hh => by
        cases d with
        | nil => exact h0 rfl
        | cons c d =>
          obtain rfl : c = 48 := by simpa using hh
          cases d with
          | nil => exact hb (.inr (.inr (.inl rfl)))
          | cons x y => exact hb (.inr (.inr (.inr (.inr ⟨by simp, rfl⟩))))
      rw [itoa_neg (val_pos hd h0 hh), dec_val (d.length - 1) d (by have := List.length_pos_iff.2 h0; omega) hd (.inl hh)]
  rw [key] at hl
  exact hl
theorem num_nonneg {e : UInt8} {l r : List UInt8} {v : Int} (h : num false e l = some (v, r)) : 0 ≤ v := by
  obtain ⟨_, _, hv⟩ := num_split h
  obtain ⟨d, hd, hs | ⟨_, hs⟩⟩ := numS_cases false l
  · rw [hs] at hv
    rw [(atoi_pos hd hv).2]; omega
  · cases hs
theorem num_len {below : Bool} {e : UInt8} {l r : List UInt8} {v : Int} (h : num below e l = some (v, r)) : r.length < l.length := by
  obtain ⟨hl, _, _⟩ := num_split h
  have := congrArg List.length hl
  simp at this; omega

theorem atoi_itoa {v : Int} (h1 : -9223372036854775808 ≤ v) (h2 : v ≤ 9223372036854775807) : Lib.atoiAll (Lib.itoa v) = .ok v := by
  by_cases h : v < 0
  · obtain ⟨u, rfl⟩ : ∃ u : Nat, v = -(u : Int) := ⟨v.natAbs, by omega⟩
    rw [itoa_neg (by omega)]
    obtain ⟨f1, f2, _, f4⟩ := dec_facts u
    unfold Lib.atoiAll
    simp only
    rw [if_pos (.inr rfl)]
    unfold Lib.parseMag
    rw [if_neg f2, pu_mk _ _ f1 (by rw [f4]; omega), f4]
    simp only
    rw [if_neg (by intro h; exact h.1 rfl), if_neg (by omega), if_pos (show UInt8.toNat 45 = 45 from rfl)]
  · obtain ⟨u, rfl⟩ : ∃ u : Nat, v = (u : Int) := ⟨v.toNat, by omega⟩
    rw [itoa_nat]
    obtain ⟨f1, f2, _, f4⟩ := dec_facts u
    cases hd : Lib.decDigits u with
    | nil => exact absurd hd f2
    | cons c d =>
      have hc := not45 (f1 c (by rw [hd]; exact List.mem_cons_self ..))
      unfold Lib.atoiAll
      simp only
      rw [if_neg hc.2, ← hd]
      unfold Lib.parseMag
      rw [if_neg f2, pu_mk _ _ f1 (by rw [f4]; omega), f4]
      simp only
      rw [if_neg (by omega), if_neg (by intro h; exact hc.1 h.1), if_neg hc.1]
/-- What a number is written as is read as the number. -/
theorem num_itoa {below : Bool} {e : UInt8} {r : List UInt8} {v : Int} (h1 : -9223372036854775808 ≤ v) (h2 : v ≤ 9223372036854775807) (hs : below = true ∨ 0 ≤ v) (he : dig e = false) : num below e (Lib.itoa v ++ e :: r) = some (v, r) := by
  have key : numS below (Lib.itoa v ++ e :: r) = Lib.itoa v ∧ ¬ badN (Lib.itoa v) := by
    by_cases h : v < 0
    · obtain ⟨u, rfl⟩ : ∃ u : Nat, v = -(u : Int) := ⟨v.natAbs, by omega⟩
      rw [itoa_neg (by omega)]
      obtain ⟨f1, f2, f3, f4⟩ := dec_facts u
      obtain rfl : below = true := hs.resolve_right (by omega)
      constructor
      · unfold numS
        rw [show sgn true (45 :: Lib.decDigits u ++ e :: r) = [45] by simp [sgn]]
        simp only [List.length_cons, List.length_nil, Nat.zero_add, List.cons_append, List.drop_succ_cons, List.drop_zero, List.nil_append]
        rw [takeWhile_app f1 he]
      · rintro (h | h | h | ⟨h, _⟩ | ⟨h, h'⟩)
        · cases h
        · injection h with _ h; exact f2 h
        · injection h with _ h
          have := f3 (by rw [h]; rfl)
          omega
        · cases h
        · cases hd : Lib.decDigits u with
          | nil => exact f2 hd
          | cons x y =>
            rw [hd] at h' f3
            have hx : x = 48 := by simpa using h'
            have := f3 (by rw [hx]; rfl)
            omega
    · obtain ⟨u, rfl⟩ : ∃ u : Nat, v = (u : Int) := ⟨v.toNat, by omega⟩
      rw [itoa_nat]
      obtain ⟨f1, f2, f3, f4⟩ := dec_facts u
      have hne : (Lib.decDigits u).head? ≠ some 45 := fun hh => by
        cases hd : Lib.decDigits u with
        | nil => exact f2 hd
        | cons x y =>
          rw [hd] at hh f1
          have := dig_iff.1 (f1 x (List.mem_cons_self ..))
          obtain rfl : x = 45 := by simpa using hh
          exact absurd this (by decide)
      constructor
      · unfold numS
        rw [show sgn below (Lib.decDigits u ++ e :: r) = [] by
          unfold sgn; rw [if_neg]; rintro ⟨_, hh⟩
          cases hd : Lib.decDigits u with
          | nil => exact f2 hd
          | cons x y => rw [hd] at hh hne; exact hne (by simpa using hh)]
        simp only [List.length_nil, List.drop_zero, List.nil_append]
        rw [takeWhile_app f1 he]
      · rintro (h | h | h | ⟨h, h'⟩ | ⟨h, h'⟩)
        · exact f2 h
        · exact hne (by rw [h]; rfl)
        · exact hne (by rw [h]; rfl)
        · have h0 := f3 h
          subst h0
          rw [Lib.decDigits_one (by omega)] at h'
          simp at h'
        · refine hne ?_
          cases hd : Lib.decDigits u with
          | nil => exact absurd hd f2
          | cons x y => rw [hd] at h'; simp at h'; simp [h'.1]
  unfold num
  rw [key.1, List.drop_left]
  simp only
  rw [if_neg (by rintro (h | h); exact key.2 h; exact h rfl), atoi_itoa h1 h2]

/-! ### values -/
mutual
/-- The value at the beginning, so deep; what is left. -/
def pv : Nat → Nat → List UInt8 → Option (Top × List UInt8)
  | 0, _, _ => none
  | _ + 1, _, [] => none
  | f + 1, deep, c :: r =>
    if c = 40 then
      if 8 < deep then none else
      match pl f deep r with
      | some (x, r') => some (.list x, r')
      | none => none
    else if c = 105 then
      match num true 59 r with
      | some (v, r') => some (.leaf (.num v), r')
      | none => none
    else
      match num false 58 (c :: r) with
      | some (v, r') => if v.toNat ≤ r'.length then some (.leaf (.txt (r'.take v.toNat)), r'.drop v.toNat) else none
      | none => none
/-- A list's values up to its end. -/
def pl : Nat → Nat → List UInt8 → Option (List Leaf × List UInt8)
  | 0, _, _ => none
  | _ + 1, _, [] => none
  | f + 1, deep, c :: r =>
    if c = 41 then some ([], r) else
    match pv f (deep + 1) (c :: r) with
    | none => none
    | some (t, r') =>
      match pl f deep r' with
      | none => none
      | some (x, r'') => some (t.shut :: x, r'')
end
theorem p_len (f : Nat) : (∀ deep l t r, pv f deep l = some (t, r) → r.length < l.length) ∧ (∀ deep l x r, pl f deep l = some (x, r) → r.length < l.length) := by
  induction f with
  | zero => exact ⟨fun _ _ _ _ h => by simp [pv] at h, fun _ _ _ _ h => by simp [pl] at h⟩
  | succ f ih =>
    obtain ⟨ihv, ihl⟩ := ih
    refine ⟨fun deep l t r h => ?_, fun deep l x r h => ?_⟩
    · cases l with
      | nil => simp [pv] at h
      | cons c l =>
        rw [pv] at h
        split at h
        · split at h
          · cases h
          · split at h
            · rename_i x r' hp
              have := ihl _ _ _ _ hp
              obtain ⟨_, rfl⟩ : _ ∧ r' = r := by simpa using h
              simp; omega
            · cases h
        · split at h
          · split at h
            · rename_i v r' hp
              have := num_len hp
              obtain ⟨_, rfl⟩ : _ ∧ r' = r := by simpa using h
              simp; omega
            · cases h
          · split at h
            · rename_i v r' hp
              have := num_len hp
              split at h
              · obtain ⟨_, rfl⟩ : _ ∧ r'.drop v.toNat = r := by simpa using h
                simp at this ⊢; omega
              · cases h
            · cases h
    · cases l with
      | nil => simp [pl] at h
      | cons c l =>
        rw [pl] at h
        split at h
        · obtain ⟨_, rfl⟩ : _ ∧ l = r := by simpa using h
          simp
        · split at h
          · cases h
          · rename_i t r' hp
            have h1 := ihv _ _ _ _ hp
            split at h
            · cases h
            · rename_i x' r'' hp'
              have h2 := ihl _ _ _ _ hp'
              obtain ⟨_, rfl⟩ : _ ∧ r'' = r := by simpa using h
              omega

/-- A leaf's bytes. -/
def encL : Leaf → List UInt8
  | .num n => 105 :: Lib.itoa n ++ [59]
  | .txt b => Lib.itoa (b.length : Nat) ++ 58 :: b
  | .oth => []
def encs (l : List Leaf) : List UInt8 := (l.map encL).flatten
/-- The bytes of a list of leaves. -/
def encT (l : List Leaf) : List UInt8 := 40 :: encs l ++ [41]
theorem encs_cons (x : Leaf) (l : List Leaf) : encs (x :: l) = encL x ++ encs l := by simp [encs]
theorem encs_nil : encs [] = [] := rfl
theorem encs_snoc (x : Leaf) (l : List Leaf) : encs (l ++ [x]) = encs l ++ encL x := by simp [encs]

theorem pv_canon {f deep : Nat} {l r : List UInt8} {x : Leaf} (h : pv f deep l = some (.leaf x, r)) : l = encL x ++ r ∧ x ≠ .oth := by
  cases f with
  | zero => simp [pv] at h
  | succ f =>
    cases l with
    | nil => simp [pv] at h
    | cons c l =>
      rw [pv] at h
      split at h
      · split at h
        · cases h
        · split at h
          · simp at h
          · cases h
      · split at h
        · rename_i hc
          split at h
          · rename_i v r' hp
            obtain ⟨h1, rfl⟩ : Leaf.num v = x ∧ r' = r := by simpa using h
            subst h1
            refine ⟨?_, by intro h; cases h⟩
            rw [num_canon hp, hc]; simp [encL]
          · cases h
        · split at h
          · rename_i v r' hp
            split at h
            · rename_i hle
              obtain ⟨h1, h2⟩ : Leaf.txt (r'.take v.toNat) = x ∧ r'.drop v.toNat = r := by simpa using h
              subst h1
              subst h2
              refine ⟨?_, by intro h; cases h⟩
              rw [num_canon hp]
              have h0 := num_nonneg hp
              simp only [encL, List.length_take]
              rw [show ((min v.toNat r'.length : Nat) : Int) = v by omega]
              simp
            · cases h
          · cases h
theorem pl_canon : ∀ {f deep : Nat} {l r : List UInt8} {x : List Leaf}, pl f deep l = some (x, r) → Leaf.oth ∉ x → l = encs x ++ 41 :: r
  | 0, _, _, _, _, h, _ => by simp [pl] at h
  | f + 1, deep, [], _, _, h, _ => by simp [pl] at h
  | f + 1, deep, c :: l, r, x, h, hx => by
    rw [pl] at h
    split at h
    · rename_i hc
      obtain ⟨h1, rfl⟩ : [] = x ∧ l = r := by simpa using h
      subst h1
      rw [hc]; rfl
    · split at h
      · cases h
      · rename_i t r' hp
        split at h
        · cases h
        · rename_i x' r'' hp'
          obtain ⟨h1, rfl⟩ : t.shut :: x' = x ∧ r'' = r := by simpa using h
          subst h1
          have hn : Leaf.oth ≠ t.shut ∧ Leaf.oth ∉ x' := by simpa using hx
          cases t with
          | list y => exact absurd rfl hn.1
          | leaf y =>
            rw [(pv_canon hp).1, pl_canon hp' hn.2, encs_cons]
            simp [Top.shut]

/-- What can be written and read again. -/
def Leaf.fits : Leaf → Prop
  | .num n => -9223372036854775808 ≤ n ∧ n ≤ 9223372036854775807
  | .txt b => b.length ≤ 9223372036854775807
  | .oth => False
theorem itoa_head {u : Nat} : ∃ c r, Lib.itoa (u : Int) = c :: r ∧ dig c = true := by
  rw [itoa_nat]
  obtain ⟨f1, f2, _, _⟩ := dec_facts u
  cases hd : Lib.decDigits u with
  | nil => exact absurd hd f2
  | cons c r => exact ⟨c, r, rfl, f1 c (by rw [hd]; exact List.mem_cons_self ..)⟩
theorem pv_enc {f deep : Nat} {x : Leaf} (r : List UInt8) (hx : x.fits) (hf : 1 ≤ f) : ∃ c l, encL x ++ r = c :: l ∧ c ≠ 41 ∧ pv f deep (encL x ++ r) = some (.leaf x, r) := by
  obtain ⟨f, rfl⟩ : ∃ g, f = g + 1 := ⟨f - 1, by omega⟩
  cases x with
  | oth => exact hx.elim
  | num n =>
    refine ⟨105, Lib.itoa n ++ 59 :: r, by simp [encL], by decide, ?_⟩
    rw [show encL (.num n) ++ r = 105 :: (Lib.itoa n ++ 59 :: r) by simp [encL], pv, if_neg (by decide), if_pos rfl, num_itoa hx.1 hx.2 (.inl rfl) (by decide)]
  | txt b =>
    obtain ⟨c, l, hc, hd⟩ := itoa_head (u := b.length)
    have hd' := dig_iff.1 hd
    have e : encL (.txt b) ++ r = c :: (l ++ 58 :: (b ++ r)) := by simp [encL, hc]
    have e2 : c :: (l ++ 58 :: (b ++ r)) = Lib.itoa (b.length : Nat) ++ 58 :: (b ++ r) := by rw [hc]; simp
    have ne : ∀ k : Nat, k < 48 ∨ 57 < k → k < 256 → c ≠ UInt8.ofNat k := fun k hk hk2 h => by
      have := congrArg UInt8.toNat h
      rw [UInt8.toNat_ofNat', Nat.mod_eq_of_lt hk2] at this
      omega
    refine ⟨c, l ++ 58 :: (b ++ r), e, ne 41 (by omega) (by omega), ?_⟩
    rw [e, pv, if_neg (show ¬ c = 40 from ne 40 (by omega) (by omega)), if_neg (show ¬ c = 105 from ne 105 (by omega) (by omega)), e2, num_itoa (by omega) (by have : b.length ≤ 9223372036854775807 := hx; omega) (.inr (by omega)) (by decide)]
    simp only [Int.toNat_natCast]
    rw [if_pos (by simp), List.take_left, List.drop_left]
theorem pl_enc {deep : Nat} (r : List UInt8) : ∀ (x : List Leaf) (f : Nat), (∀ y ∈ x, y.fits) → x.length + 2 ≤ f → pl f deep (encs x ++ 41 :: r) = some (x, r)
  | [], f, _, hf => by
    obtain ⟨f, rfl⟩ : ∃ g, f = g + 1 := ⟨f - 1, by omega⟩
    show pl (f + 1) deep (41 :: r) = _
    rw [pl, if_pos rfl]
  | y :: x, f, hx, hf => by
    simp only [List.length_cons] at hf
    obtain ⟨f, rfl⟩ : ∃ g, f = g + 1 := ⟨f - 1, by omega⟩
    obtain ⟨c, l, h1, h2, h3⟩ := pv_enc (deep := deep + 1) (f := f) (encs x ++ 41 :: r) (hx y (List.mem_cons_self ..)) (by omega)
    rw [encs_cons, List.append_assoc, h1, pl, if_neg h2, ← h1, h3]
    simp only
    rw [pl_enc r x f (fun z hz => hx z (List.mem_cons_of_mem _ hz)) (by omega)]
    rfl

/-- The value that bytes say, all of them. -/
def dec (b : List UInt8) : Option Top :=
  match pv (2 * b.length + 1) 1 b with
  | some (t, []) => some t
  | _ => none
theorem dec_canon {b : List UInt8} {x : List Leaf} (h : dec b = some (.list x)) (hx : Leaf.oth ∉ x) : b = encT x := by
  unfold dec at h
  split at h
  · rename_i t hp
    injection h with h
    subst h
    cases b with
    | nil => simp [pv] at hp
    | cons c l =>
      rw [pv] at hp
      split at hp
      · rename_i hc
        split at hp
        · cases hp
        · split at hp
          · rename_i y r' hp'
            obtain ⟨rfl, rfl⟩ : y = x ∧ r' = [] := by simpa using hp
            have := pl_canon hp' hx
            rw [hc, this]; rfl
          · cases hp
      · split at hp
        · split at hp
          · simp at hp
          · cases hp
        · split at hp
          · split at hp
            · simp at hp
            · cases hp
          · cases hp
  · cases h
theorem encL_pos {x : Leaf} (hx : x.fits) : 1 ≤ (encL x).length := by
  cases x with
  | oth => exact hx.elim
  | num n => simp [encL]
  | txt b => simp [encL]; omega
theorem encs_length : ∀ {x : List Leaf}, (∀ y ∈ x, y.fits) → x.length ≤ (encs x).length
  | [], _ => Nat.le_refl _
  | y :: x, hx => by
    have h1 := encL_pos (hx y (List.mem_cons_self ..))
    have h2 := encs_length fun z hz => hx z (List.mem_cons_of_mem _ hz)
    rw [encs_cons]; simp; omega
theorem dec_enc {x : List Leaf} (hx : ∀ y ∈ x, y.fits) : dec (encT x) = some (.list x) := by
  have hl := encs_length hx
  unfold dec
  have e : encT x = 40 :: (encs x ++ [41]) := rfl
  rw [e, List.length_cons, List.length_append, List.length_singleton, pv, if_pos rfl, if_neg (by decide), pl_enc [] x _ hx (by omega)]
end Cr
namespace Cr
open Go
set_option maxRecDepth 100000

structure Rec where
  cmd : List UInt8
  pub : List UInt8
  pkg : List UInt8
  rev : Int
  out : Int
abbrev Rec.cells (r : Rec) : List Value := [.string (str r.cmd), .string (str r.pub), .string (str r.pkg), .int .i64 r.rev, .int .i64 r.out]
abbrev zRec : Rec := ⟨[], [], [], 0, 0⟩
def words6 : List (List UInt8) := [[105, 110, 115, 116, 97, 108, 108], [114, 101, 102, 114, 101, 115, 104], [114, 101, 118, 101, 114, 116], [114, 101, 109, 111, 118, 101], [99, 111, 110, 110, 101, 99, 116], [100, 105, 115, 99, 111, 110, 110, 101, 99, 116]]
def namedOk (s : List UInt8) : Prop := s = [] ∨ nameOk s
instance (s : List UInt8) : Decidable (namedOk s) := by unfold namedOk; infer_instance
/-- What is wrong with a record. -/
def rchk (r : Rec) : Nat := if r.cmd ∈ words6 then if namedOk r.pub ∧ namedOk r.pkg then if 0 ≤ r.rev ∧ r.rev ≤ 999999 ∧ 0 ≤ r.out ∧ r.out ≤ 19 then 0 else 2 else 10 else 1
def Rec.leaves (r : Rec) : List Leaf := [.txt r.cmd, .txt r.pub, .txt r.pkg, .num r.rev, .num r.out]
def readR : Top → Option Rec
  | .list [.txt c, .txt p, .txt k, .num n, .num o] => if rchk ⟨c, p, k, n, o⟩ = 0 then some ⟨c, p, k, n, o⟩ else none
  | _ => none
theorem readR_leaves {r : Rec} (h : rchk r = 0) : readR (.list r.leaves) = some r := if_pos h
theorem readR_some {t : Top} {r : Rec} (h : readR t = some r) : t = .list r.leaves ∧ rchk r = 0 := by
  unfold readR at h
  split at h
  · split at h
    · rename_i hc
      obtain rfl := Option.some.inj h
      exact ⟨rfl, hc⟩
    · cases h
  · cases h
theorem words6_len : ∀ w ∈ words6, w.length ≤ 10 := by decide
theorem named_len {s : List UInt8} (h : namedOk s) : s.length ≤ 24 := by
  rcases h with rfl | h
  · simp
  · exact h.2.1
theorem rchk_ok {r : Rec} (h : rchk r = 0) : r.cmd.length ≤ 10 ∧ r.pub.length ≤ 24 ∧ r.pkg.length ≤ 24 ∧ 0 ≤ r.rev ∧ r.rev ≤ 999999 ∧ 0 ≤ r.out ∧ r.out ≤ 19 := by
  unfold rchk at h
  split at h
  · rename_i h1
    split at h
    · rename_i h2
      split at h
      · rename_i h3
        exact ⟨words6_len _ h1, named_len h2.1, named_len h2.2, h3⟩
      · cases h
    · cases h
  · cases h
/-- A record whose texts are short and whose numbers are ints. -/
def Rec.fits (r : Rec) : Prop := r.cmd.length ≤ 1024 ∧ r.pub.length ≤ 1024 ∧ r.pkg.length ≤ 1024 ∧ (-9223372036854775808 ≤ r.rev ∧ r.rev ≤ 9223372036854775807) ∧ -9223372036854775808 ≤ r.out ∧ r.out ≤ 9223372036854775807
theorem rchk_fits {r : Rec} (h : rchk r = 0) : r.fits := by
  obtain ⟨h1, h2, h3, h4, h5, h6, h7⟩ := rchk_ok h
  refine ⟨by omega, by omega, by omega, ⟨by omega, by omega⟩, by omega, by omega⟩
theorem Rec.fits_leaves {r : Rec} (h : r.fits) : ∀ y ∈ r.leaves, y.fits := by
  obtain ⟨h1, h2, h3, h4, h5⟩ := h
  intro y hy
  simp only [Rec.leaves, List.mem_cons, List.not_mem_nil, or_false] at hy
  rcases hy with rfl | rfl | rfl | rfl | rfl
  · show _ ≤ _; omega
  · show _ ≤ _; omega
  · show _ ≤ _; omega
  · exact h4
  · exact h5
end Cr
namespace Cr
open Go Go.Proofs
set_option maxRecDepth 100000
set_option maxHeartbeats 2000000
attribute [local irreducible] Calls

theorem nameOk_no {s : List UInt8} (h : s.length < 1 ∨ 24 < s.length ∨ s = [46] ∨ s = [46, 46]) : decide (nameOk s) = false := by
  refine decide_eq_false fun q => ?_
  obtain ⟨q1, q2, q3, q4, _⟩ := q
  rcases h with h | h | h | h
  · omega
  · omega
  · exact q3 h
  · exact q4 h
theorem name_ (s : List UInt8) (W : World) : Calls Tryz.prog 126 #[.string (str s)] W (Ret fun v w => v = .bool (decide (nameOk s)) ∧ St W noF [] w) := by
  have hS := St.start W
  have hz := str_size s
  by_cases h1 : s.length < 1
  · rw [nameOk_no (.inl h1)]
    refine calls_C Tryz.func126 rfl Tryz.ntmps126 rfl ?_
    repeat (first | (refine G_id ?_; first | refine G_nil ?_ | refine G_plain rfl rfl ?_ | refine G_no rfl rfl rfl rfl rfl rfl ?_) | (refine X_id ?_; first | refine X_yl (Yl_move rfl rfl) rfl rfl ?_ | refine X_yl (Yl_assign rfl rfl) rfl rfl ?_ | refine X_yl (Yl_pick_t rfl rfl rfl) rfl rfl ?_ | refine X_yl (Yl_len_str rfl rfl) rfl rfl ?_ | refine X_yl (Yl_lss_t rfl rfl rfl (by omega)) rfl rfl ?_) | (refine C_id ?_; first | refine C_seq ?_ | refine C_scope rfl ?_ | refine C_region ?_ | refine C_ret ?_ | refine C_cond_t rfl ?_) | (refine E_id ?_; first | refine E_code ?_ | refine E_then_ret ?_ | refine E_noGoto (fun _ h => by cases h) ?_ | refine E_ret1 rfl (Rv_tmp rfl) (Ret.mk ?_)))
    exact ⟨rfl, hS⟩
  by_cases h2 : 24 < s.length
  · rw [nameOk_no (.inr (.inl h2))]
    refine calls_C Tryz.func126 rfl Tryz.ntmps126 rfl ?_
    repeat (first | (refine G_id ?_; first | refine G_nil ?_ | refine G_plain rfl rfl ?_ | refine G_yes rfl rfl rfl rfl ?_ | refine G_no rfl rfl rfl rfl rfl rfl ?_) | (refine X_id ?_; first | refine X_yl (Yl_move rfl rfl) rfl rfl ?_ | refine X_yl (Yl_assign rfl rfl) rfl rfl ?_ | refine X_yl (Yl_pick_t rfl rfl rfl) rfl rfl ?_ | refine X_yl (Yl_pick_f rfl rfl rfl) rfl rfl ?_ | refine X_yl (Yl_len_str rfl rfl) rfl rfl ?_ | refine X_yl (Yl_lss_f rfl rfl rfl (by omega)) rfl rfl ?_ | refine X_yl (Yl_gtr_t rfl rfl rfl (by omega)) rfl rfl ?_) | (refine C_id ?_; first | refine C_seq ?_ | refine C_scope rfl ?_ | refine C_region ?_ | refine C_ret ?_ | refine C_cond_t rfl ?_) | (refine E_id ?_; first | refine E_code ?_ | refine E_then_ret ?_ | refine E_noGoto (fun _ h => by cases h) ?_ | refine E_ret1 rfl (Rv_tmp rfl) (Ret.mk ?_)))
    exact ⟨rfl, hS⟩
  by_cases h3 : s = [46]
  · rw [nameOk_no (.inr (.inr (.inl h3)))]
    refine calls_C Tryz.func126 rfl Tryz.ntmps126 rfl ?_
    repeat (first | (refine G_id ?_; first | refine G_nil ?_ | refine G_plain rfl rfl ?_ | refine G_yes rfl rfl rfl rfl ?_ | refine G_no rfl rfl rfl rfl rfl rfl ?_) | (refine X_id ?_; first | refine X_yl (Yl_move rfl rfl) rfl rfl ?_ | refine X_yl (Yl_assign rfl rfl) rfl rfl ?_ | refine X_yl (Yl_pick_t rfl rfl rfl) rfl rfl ?_ | refine X_yl (Yl_pick_f rfl rfl rfl) rfl rfl ?_ | refine X_yl (Yl_len_str rfl rfl) rfl rfl ?_ | refine X_yl (Yl_lss_f rfl rfl rfl (by omega)) rfl rfl ?_ | refine X_yl (Yl_gtr_f rfl rfl rfl (by omega)) rfl rfl ?_ | refine X_yl (Yl_eqlStrT rfl rfl rfl (by assumption)) rfl rfl ?_) | (refine C_id ?_; first | refine C_seq ?_ | refine C_scope rfl ?_ | refine C_region ?_ | refine C_ret ?_ | refine C_cond_t rfl ?_) | (refine E_id ?_; first | refine E_code ?_ | refine E_then_ret ?_ | refine E_noGoto (fun _ h => by cases h) ?_ | refine E_ret1 rfl (Rv_tmp rfl) (Ret.mk ?_)))
    exact ⟨rfl, hS⟩
  by_cases h4 : s = [46, 46]
  · rw [nameOk_no (.inr (.inr (.inr h4)))]
    refine calls_C Tryz.func126 rfl Tryz.ntmps126 rfl ?_
    repeat (first | (refine G_id ?_; first | refine G_nil ?_ | refine G_plain rfl rfl ?_ | refine G_yes rfl rfl rfl rfl ?_) | (refine X_id ?_; first | refine X_yl (Yl_move rfl rfl) rfl rfl ?_ | refine X_yl (Yl_assign rfl rfl) rfl rfl ?_ | refine X_yl (Yl_pick_f rfl rfl rfl) rfl rfl ?_ | refine X_yl (Yl_len_str rfl rfl) rfl rfl ?_ | refine X_yl (Yl_lss_f rfl rfl rfl (by omega)) rfl rfl ?_ | refine X_yl (Yl_gtr_f rfl rfl rfl (by omega)) rfl rfl ?_ | refine X_yl (Yl_eqlStrT rfl rfl rfl (by assumption)) rfl rfl ?_ | refine X_yl (Yl_eqlStrF rfl rfl rfl (by assumption)) rfl rfl ?_) | (refine C_id ?_; first | refine C_seq ?_ | refine C_scope rfl ?_ | refine C_region ?_ | refine C_ret ?_ | refine C_cond_t rfl ?_) | (refine E_id ?_; first | refine E_code ?_ | refine E_then_ret ?_ | refine E_noGoto (fun _ h => by cases h) ?_ | refine E_ret1 rfl (Rv_tmp rfl) (Ret.mk ?_)))
    exact ⟨rfl, hS⟩
  refine calls_C Tryz.func126 rfl Tryz.ntmps126 rfl ?_
  repeat (first | (refine G_id ?_; first | refine G_nil ?_ | refine G_plain rfl rfl ?_ | refine G_yes rfl rfl rfl rfl ?_) | (refine X_id ?_; first | refine X_yl (Yl_move rfl rfl) rfl rfl ?_ | refine X_yl (Yl_assign rfl rfl) rfl rfl ?_ | refine X_yl (Yl_pick_f rfl rfl rfl) rfl rfl ?_ | refine X_yl (Yl_len_str rfl rfl) rfl rfl ?_ | refine X_yl (Yl_lss_f rfl rfl rfl (by omega)) rfl rfl ?_ | refine X_yl (Yl_gtr_f rfl rfl rfl (by omega)) rfl rfl ?_ | refine X_yl (Yl_eqlStrF rfl rfl rfl (by assumption)) rfl rfl ?_) | (refine C_id ?_; first | refine C_seq ?_ | refine C_label ?_ | refine C_scope rfl ?_ | refine C_region ?_ | refine C_block ?_ | refine C_skip ?_ | refine C_cond_f rfl ?_) | (refine E_id ?_; first | refine E_code ?_))
  refine C_joinB (α := Unit) (fun _ => []) (fun _ w => (∀ c ∈ s, okC c) ∧ St W noF [] w) ?_ ?_
  · refine C_loop (α := Nat) (fun i => [(0, .string (str s)), (21, .int .i64 (s.length : Nat)), (22, .int .i64 (i : Nat))]) (fun i w => i ≤ s.length ∧ (∀ c ∈ s.take i, okC c) ∧ St W noF [] w) (fun i => s.length - i) 0 ⟨rfl, rfl, rfl, trivial⟩ ⟨Nat.zero_le _, fun c hc => by simp at hc, hS⟩ ?_
    clear hS
    rintro i w ⟨hi, hok, hS⟩
    by_cases hlt : i < s.length
    · obtain ⟨x, hx0⟩ : ∃ x, s[i]? = some x := ⟨_, List.getElem?_eq_getElem hlt⟩
      have hx : s[((i : Nat) : Int).toNat]? = some x := hx0
      have hq := sign_ x
      by_cases hc : okC x
      · rw [decide_eq_true hc] at hq
        repeat (first | (refine G_id ?_; first | refine G_nil ?_ | refine G_plain rfl rfl ?_) | (refine X_id ?_; first | (refine X_callq 177 rfl rfl rfl rfl rfl hS (hq _) ?_; rintro _ _ rfl hS) | refine X_yl (Yl_move rfl rfl) rfl rfl ?_ | refine X_yl (Yl_assign rfl rfl) rfl rfl ?_ | refine X_yl (Yl_lss_t rfl rfl rfl (by omega)) rfl rfl ?_ | refine X_yl (Yl_add rfl rfl rfl (w64 (by omega) (by omega))) rfl rfl ?_ | refine X_yl (Yl_indexStr rfl rfl rfl (by omega) (by assumption)) rfl rfl ?_) | (refine C_id ?_; first | refine C_seq ?_ | refine C_region ?_ | refine C_block ?_ | refine C_skip ?_ | refine C_exit ?_ | refine C_cond_t rfl ?_) | (refine E_id ?_; first | refine E_code ?_ | refine E_then_exit ?_ | refine E_blk_same ?_))
        refine E_round (z := i) (i + 1) ⟨rfl, rfl, rfl, trivial⟩ ⟨hlt, fun c hc' => ?_, hS⟩ (by omega)
        rw [List.take_add_one, hx0] at hc'
        rcases List.mem_append.1 hc' with h | h
        · exact hok c h
        · obtain rfl : c = x := by simpa using h
          exact hc
      · rw [decide_eq_false hc] at hq
        repeat (first | (refine G_id ?_; first | refine G_nil ?_ | refine G_plain rfl rfl ?_) | (refine X_id ?_; first | (refine X_callq 177 rfl rfl rfl rfl rfl hS (hq _) ?_; rintro _ _ rfl hS) | refine X_yl (Yl_move rfl rfl) rfl rfl ?_ | refine X_yl (Yl_assign rfl rfl) rfl rfl ?_ | refine X_yl (Yl_lss_t rfl rfl rfl (by omega)) rfl rfl ?_ | refine X_yl (Yl_indexStr rfl rfl rfl (by omega) (by assumption)) rfl rfl ?_) | (refine C_id ?_; first | refine C_seq ?_ | refine C_region ?_ | refine C_block ?_ | refine C_ret ?_ | refine C_skip ?_ | refine C_cond_t rfl ?_ | refine C_cond_f rfl ?_) | (refine E_id ?_; first | refine E_code ?_ | refine E_then_ret ?_ | refine E_noGoto (fun _ h => by cases h) ?_ | refine E_blk_ret ?_ | refine E_ret1 rfl (Rv_tmp rfl) (Ret.mk ?_)))
        refine ⟨?_, hS⟩
        rw [decide_eq_false (fun q : nameOk s => hc (q.2.2.2.2 x (List.mem_of_getElem? hx0)))]
    · repeat (first | (refine G_id ?_; first | refine G_nil ?_ | refine G_plain rfl rfl ?_) | (refine X_id ?_; first | refine X_yl (Yl_lss_f rfl rfl rfl (by omega)) rfl rfl ?_) | (refine C_id ?_; first | refine C_seq ?_ | refine C_region ?_ | refine C_exit ?_ | refine C_cond_f rfl ?_) | (refine E_id ?_; first | refine E_code ?_ | refine E_then_exit ?_ | refine E_blk_same ?_))
      refine E_mid () trivial ⟨?_, hS⟩
      rwa [List.take_of_length_le (by omega)] at hok
  · clear hS
    rintro _ w ⟨hok, hS⟩
    repeat (first | (refine G_id ?_; first | refine G_nil ?_ | refine G_plain rfl rfl ?_) | (refine X_id ?_; first | refine X_yl (Yl_assign rfl rfl) rfl rfl ?_) | (refine C_id ?_; first | refine C_seq ?_ | refine C_region ?_ | refine C_ret ?_) | (refine E_id ?_; first | refine E_code ?_ | refine E_noGoto (fun _ h => by cases h) ?_ | refine E_ret1 rfl (Rv_tmp rfl) (Ret.mk ?_)))
    refine ⟨?_, hS⟩
    rw [decide_eq_true (show nameOk s from ⟨by omega, by omega, h3, h4, hok⟩)]
end Cr
namespace Cr
open Go Go.Proofs
set_option maxRecDepth 100000
set_option maxHeartbeats 2000000
attribute [local irreducible] Calls

theorem named_ (s : List UInt8) (W : World) : Calls Tryz.prog 208 #[.string (str s)] W (Ret fun v w => v = .bool (decide (namedOk s)) ∧ St W noF [] w) := by
  have hS := St.start W
  have hN := name_ s
  by_cases h : s = []
  · rw [decide_eq_true (show namedOk s from .inl h)]
    refine calls_C Tryz.func208 rfl Tryz.ntmps208 rfl ?_
    repeat (first | (refine G_id ?_; first | refine G_nil ?_ | refine G_plain rfl rfl ?_ | refine G_no rfl rfl rfl rfl rfl rfl ?_) | (refine X_id ?_; first | refine X_yl (Yl_move rfl rfl) rfl rfl ?_ | refine X_yl (Yl_assign rfl rfl) rfl rfl ?_ | refine X_yl (Yl_pick_t rfl rfl rfl) rfl rfl ?_ | refine X_yl (Yl_eqlStrT rfl rfl rfl (by assumption)) rfl rfl ?_) | (refine C_id ?_; first | refine C_seq ?_ | refine C_region ?_ | refine C_ret ?_) | (refine E_id ?_; first | refine E_code ?_ | refine E_ret1 rfl (Rv_tmp rfl) (Ret.mk ?_)))
    exact ⟨rfl, hS⟩
  · rw [show decide (namedOk s) = decide (nameOk s) from decide_eq_decide.2 ⟨fun q => q.resolve_left h, .inr⟩]
    refine calls_C Tryz.func208 rfl Tryz.ntmps208 rfl ?_
    repeat (first | (refine G_id ?_; first | refine G_nil ?_ | refine G_plain rfl rfl ?_ | refine G_yes rfl rfl rfl rfl ?_) | (refine X_id ?_; first | (refine X_callq 126 rfl rfl rfl rfl rfl hS (hN _) ?_; rintro _ _ rfl hS) | refine X_yl (Yl_move rfl rfl) rfl rfl ?_ | refine X_yl (Yl_assign rfl rfl) rfl rfl ?_ | refine X_yl (Yl_pick_f rfl rfl rfl) rfl rfl ?_ | refine X_yl (Yl_eqlStrF rfl rfl rfl (by assumption)) rfl rfl ?_) | (refine C_id ?_; first | refine C_seq ?_ | refine C_region ?_ | refine C_ret ?_) | (refine E_id ?_; first | refine E_code ?_ | refine E_ret1 rfl (Rv_tmp rfl) (Ret.mk ?_)))
    exact ⟨rfl, hS⟩
end Cr
namespace Cr
open Go

def z0 : Value := .slice none 0 0
def leafR : Leaf → List Value → Res
  | .num n, cs => fun h => cs = [.int .i64 0, .int .i64 n, z0, z0] ∧ emp h
  | .txt b, cs => fun h => ∃ a c, cs = [.int .i64 1, .int .i64 0, .slice a b.length c, z0] ∧ bytes a b h
  | .oth, cs => fun h => ∃ a n c, cs = [.int .i64 2, .int .i64 0, z0, .slice a n c] ∧ emp h
def leavesR : List Leaf → List (List Value) → Res
  | [], rows => fun h => rows = [] ∧ emp h
  | x :: l, rows => fun h => ∃ r rs, rows = r :: rs ∧ Sep [leafR x r, leavesR l rs] h
def listR (a : Option Addr) (x : List Leaf) : Res := fun h => ∃ rows, Sep [row a rows.flatten, leavesR x rows] h
def topR : Top → List Value → Res
  | .leaf x, cs => leafR x cs
  | .list x, cs => fun h => ∃ a c, cs = [.int .i64 2, .int .i64 0, z0, .slice a x.length c] ∧ listR a x h

/-! ### laying together, taking apart -/
theorem Sep.open_head {R : Res} {ps q : List Res} {h : Frag} (hR : ∀ g, R g → Sep ps g) (H : Sep (R :: q) h) : Sep (ps ++ q) h := by
  obtain ⟨h1, h2, a, b, c, d⟩ := H
  exact Sep.append_mk (hR _ a) b c d
theorem Sep.shut_head {R : Res} {ps q : List Res} {h : Frag} (hR : ∀ g, Sep ps g → R g) (H : Sep (ps ++ q) h) : Sep (R :: q) h := by
  obtain ⟨h1, h2, a, b, c, d⟩ := Sep.append H
  exact ⟨h1, h2, hR _ a, b, c, d⟩
theorem sep_nil {h : Frag} (H : ∀ k, h k = none) : Sep [] h := H
theorem leavesR_nil {g : Frag} : Sep [] g → leavesR [] [] g := fun h => ⟨rfl, h⟩
theorem leavesR_snoc (y : Leaf) (r : List Value) (q : List Res) : ∀ (l : List Leaf) (rs : List (List Value)) (h : Frag), Sep (leavesR l rs :: leafR y r :: q) h → Sep (leavesR (l ++ [y]) (rs ++ [r]) :: q) h
  | [], rs, h, H => by
    obtain ⟨h1, h2, ⟨hrs, he⟩, hb, hd, hu⟩ := H
    subst hrs
    have e : h = h2 := by funext k; rw [hu, he k]; simp
    subst e
    refine Sep.shut_head (ps := [leafR y r, leavesR [] []]) (fun g hg => ⟨r, [], rfl, hg⟩) ?_
    refine Sep.swap ?_
    exact Sep.shut_head (ps := []) (fun g hg => leavesR_nil hg) hb
  | x :: l, rs, h, H => by
    obtain ⟨h1, h2, ⟨r0, rs0, hrs, he⟩, hb, hd, hu⟩ := H
    subst hrs
    have H2 : Sep ([leafR x r0, leavesR l rs0] ++ (leafR y r :: q)) h := Sep.append_mk he hb hd hu
    refine Sep.shut_head (ps := [leafR x r0, leavesR (l ++ [y]) (rs0 ++ [r])]) (fun g hg => ⟨r0, rs0 ++ [r], rfl, hg⟩) ?_
    exact Sep.mono_tail (fun g hg => leavesR_snoc y r q l rs0 g hg) H2
theorem St.leaves_nil {W : World} {F : Nat → Prop} {q : List Res} {w : World} (hS : St W F q w) : St W F (leavesR [] [] :: q) w :=
  hS.imp fun _ h => Sep.shut_head (ps := []) (fun _ hg => leavesR_nil hg) h
theorem St.leaves_snoc {W : World} {F : Nat → Prop} {q : List Res} {w : World} {y : Leaf} {r : List Value} {l : List Leaf} {rs : List (List Value)} (hS : St W F (leavesR l rs :: leafR y r :: q) w) : St W F (leavesR (l ++ [y]) (rs ++ [r]) :: q) w :=
  hS.imp fun _ h => leavesR_snoc y r q l rs _ h
theorem St.list_mk {W : World} {F : Nat → Prop} {q : List Res} {w : World} {x : List Leaf} {a : Option Addr} {rows : List (List Value)} (hS : St W F (row a rows.flatten :: leavesR x rows :: q) w) : St W F (listR a x :: q) w :=
  hS.imp fun _ h => Sep.shut_head (ps := [row a rows.flatten, leavesR x rows]) (fun _ hg => ⟨rows, hg⟩) h
/-- A value's own cells, whatever it is. -/
theorem top_cells {t : Top} {cs : List Value} {h : Frag} (H : topR t cs h) : ∃ k n a la ca b lb cb, cs = [.int .i64 k, .int .i64 n, .slice a la ca, .slice b lb cb] := by
  cases t with
  | list x => obtain ⟨a, c, rfl, _⟩ := H; exact ⟨_, _, _, _, _, _, _, _, rfl⟩
  | leaf x =>
    cases x with
    | num n => obtain ⟨rfl, _⟩ := H; exact ⟨_, _, _, _, _, _, _, _, rfl⟩
    | txt b => obtain ⟨a, c, rfl, _⟩ := H; exact ⟨_, _, _, _, _, _, _, _, rfl⟩
    | oth => obtain ⟨a, n, c, rfl, _⟩ := H; exact ⟨_, _, _, _, _, _, _, _, rfl⟩
theorem St.top_cells {W : World} {F : Nat → Prop} {q : List Res} {w : World} {t : Top} {cs : List Value} (hS : St W F (topR t cs :: q) w) : ∃ k n a la ca b lb cb, cs = [.int .i64 k, .int .i64 n, .slice a la ca, .slice b lb cb] := by
  obtain ⟨_, ⟨h1, _, H, _⟩, _⟩ := hS
  exact Cr.top_cells H
theorem emp_none : emp (fun _ => none) := fun _ => rfl
/-- A list is let go; that it is one is kept. -/
theorem St.shut {W : World} {F : Nat → Prop} {q : List Res} {w : World} {t : Top} {cs : List Value} (hS : St W F (topR t cs :: q) w) : St W F (leafR t.shut cs :: q) w := by
  cases t with
  | leaf x => exact hS
  | list x =>
    have h0 := hS
    obtain ⟨_, ⟨h1, _, ⟨a, c, rfl, _⟩, _⟩, _⟩ := h0
    refine hS.drop.imp fun _ h => Sep.shut_head (ps := []) (fun g hg => ⟨a, x.length, c, rfl, hg⟩) h

/-! ### reading -/
def LeafRo (W : World) (F : Nat → Prop) : Leaf → List Value → Prop
  | .num n, cs => cs = [.int .i64 0, .int .i64 n, z0, z0]
  | .txt b, cs => ∃ a c, cs = [.int .i64 1, .int .i64 0, .slice a b.length c, z0] ∧ Ro W F (bytes a b)
  | .oth, cs => ∃ a n c, cs = [.int .i64 2, .int .i64 0, z0, .slice a n c]
theorem Ro.leaf {W : World} {F : Nat → Prop} {x : Leaf} {cs : List Value} (H : Ro W F (leafR x cs)) : LeafRo W F x cs := by
  obtain ⟨h, hl, ha⟩ := H
  cases x with
  | num n => exact hl.1
  | txt b => obtain ⟨a, c, h1, h2⟩ := hl; exact ⟨a, c, h1, h, h2, ha⟩
  | oth => obtain ⟨a, n, c, h1, _⟩ := hl; exact ⟨a, n, c, h1⟩
theorem LeafRo.len {W : World} {F : Nat → Prop} {x : Leaf} {cs : List Value} (H : LeafRo W F x cs) : cs.length = 4 := by
  cases x with
  | num n => obtain rfl := H; rfl
  | txt b => obtain ⟨a, c, rfl, _⟩ := H; rfl
  | oth => obtain ⟨a, n, c, rfl⟩ := H; rfl
theorem Ro.two {W : World} {F : Nat → Prop} {r s : Res} (H : Ro W F (Sep [r, s])) : Ro W F r ∧ Ro W F s := by
  obtain ⟨h, ⟨h1, h2, hr, ⟨h3, h4, hs, he, hd', hu'⟩, hd, hu⟩, ha⟩ := H
  have e1 : ∀ b o, h1 b = some o → h b = some o := fun b o e => by rw [hu, e]; rfl
  have e3 : ∀ b o, h3 b = some o → h b = some o := fun b o e => by
    have e2 : h2 b = some o := by rw [hu', e]; rfl
    rw [hu]; rcases hd b with h' | h'
    · simp [h', e2]
    · rw [e2] at h'; cases h'
  exact ⟨⟨h1, hr, fun b o e => ha b o (e1 b o e)⟩, ⟨h3, hs, fun b o e => ha b o (e3 b o e)⟩⟩
/-- Cells, four and four. -/
def Leaves (W : World) (F : Nat → Prop) (x : List Leaf) (rows : List (List Value)) : Prop :=
  rows.length = x.length ∧ ∀ (i : Nat) (y : Leaf), x[i]? = some y → ∃ cs : List Value, rows[i]? = some cs ∧ LeafRo W F y cs
theorem Ro.leaves {W : World} {F : Nat → Prop} : ∀ {x : List Leaf} {rows : List (List Value)}, Ro W F (leavesR x rows) → Leaves W F x rows
  | [], rows, H => by
    obtain ⟨h, ⟨rfl, _⟩, _⟩ := H
    exact ⟨rfl, fun i y hy => by cases hy⟩
  | y :: x, rows, H => by
    obtain ⟨h, ⟨r, rs, rfl, hs⟩, ha⟩ := H
    obtain ⟨h1, h2⟩ := Ro.two (W := W) (F := F) ⟨h, hs, ha⟩
    obtain ⟨h3, h4⟩ := Ro.leaves h2
    refine ⟨by simp [h3], fun i z hz => ?_⟩
    cases i with
    | zero =>
      obtain rfl : y = z := by simpa using hz
      exact ⟨r, rfl, h1.leaf⟩
    | succ i => exact h4 i z (by simpa using hz)
theorem Ro.list {W : World} {F : Nat → Prop} {a : Option Addr} {x : List Leaf} (H : Ro W F (listR a x)) : ∃ rows, Ro W F (row a rows.flatten) ∧ Leaves W F x rows := by
  obtain ⟨h, ⟨rows, hs⟩, ha⟩ := H
  obtain ⟨h1, h2⟩ := Ro.two (W := W) (F := F) ⟨h, hs, ha⟩
  exact ⟨rows, h1, h2.leaves⟩
theorem flatten4 : ∀ {rows : List (List Value)} {i : Nat} {cs : List Value}, (∀ r ∈ rows, r.length = 4) → rows[i]? = some cs → (rows.flatten.drop (i * 4)).take 4 = cs
  | [], _, _, _, h => by cases h
  | r :: rs, i, cs, hl, h => by
    have h4 := hl r (List.mem_cons_self ..)
    cases i with
    | zero =>
      obtain rfl : r = cs := by simpa using h
      simp [← h4]
    | succ i =>
      have ih := flatten4 (fun z hz => hl z (List.mem_cons_of_mem _ hz)) (show rs[i]? = some cs by simpa using h)
      rw [List.flatten_cons, List.drop_append, h4, show (i + 1) * 4 - 4 = i * 4 by omega, List.drop_of_length_le (by omega), List.nil_append]
      exact ih
theorem flatten4_len : ∀ {rows : List (List Value)}, (∀ r ∈ rows, r.length = 4) → rows.flatten.length = rows.length * 4
  | [], _ => rfl
  | r :: rs, hl => by
    have h4 := hl r (List.mem_cons_self ..)
    have := flatten4_len (fun z hz => hl z (List.mem_cons_of_mem _ hz)) (rows := rs)
    simp only [List.flatten_cons, List.length_append, List.length_cons]; omega
theorem Leaves.four {W : World} {F : Nat → Prop} {x : List Leaf} {rows : List (List Value)} (H : Leaves W F x rows) : ∀ r ∈ rows, r.length = 4 := fun r hr => by
  obtain ⟨i, hi, he⟩ := List.mem_iff_getElem.1 hr
  have hix : i < x.length := by have := H.1; omega
  obtain ⟨cs, h1, h2⟩ := H.2 i x[i] (List.getElem?_eq_getElem hix)
  have : rows[i]? = some r := by rw [List.getElem?_eq_getElem hi, he]
  rw [this] at h1
  obtain rfl := Option.some.inj h1
  exact h2.len
/-- One of a list's values: its four cells, where they lie. -/
theorem Leaves.at_ {W : World} {F : Nat → Prop} {x : List Leaf} {rows : List (List Value)} (H : Leaves W F x rows) {i : Nat} {y : Leaf} (hy : x[i]? = some y) : ∃ cs, (rows.flatten.drop (i * 4)).take 4 = cs ∧ LeafRo W F y cs := by
  obtain ⟨cs, h1, h2⟩ := H.2 i y hy
  exact ⟨cs, flatten4 H.four h1, h2⟩
theorem LeafRo.mono {W W' : World} {F F' : Nat → Prop} {x : Leaf} {cs : List Value} (H : LeafRo W F x cs) (hm : ∀ r, Ro W F r → Ro W' F' r) : LeafRo W' F' x cs := by
  cases x with
  | num n => exact H
  | txt b => obtain ⟨a, c, h1, h2⟩ := H; exact ⟨a, c, h1, hm _ h2⟩
  | oth => exact H
theorem Leaves.mono {W W' : World} {F F' : Nat → Prop} {x : List Leaf} {rows : List (List Value)} (H : Leaves W F x rows) (hm : ∀ r, Ro W F r → Ro W' F' r) : Leaves W' F' x rows :=
  ⟨H.1, fun i y hy => (H.2 i y hy).imp fun _ h => ⟨h.1, h.2.mono hm⟩⟩
end Cr
namespace Cr
open Go Go.Proofs
set_option maxRecDepth 100000
set_option maxHeartbeats 4000000
attribute [local irreducible] Calls

/-- A reader: its bytes, where it stands, what was wrong. -/
abbrev rdC (a : Option Addr) (n c : Nat) (i : Nat) (e : Int) : List Value := [.slice a n c, .int .i64 (i : Nat), .int .i64 e]
abbrev Rdr (p : Nat) (a : Option Addr) (n c : Nat) (i : Nat) (e : Int) : Res := pts p (.cells (rdC a n c i e).toArray 370 (0, 0))

theorem more_ (p : Nat) (a : Option Addr) (n c : Nat) (i : Nat) (e : Int) (W : World) (hc : Rd W (Rdr p a n c i e)) :
    Calls Tryz.prog 274 #[.pointer (some ⟨p, 0, none⟩)] W (Ret fun v w => v = .bool (decide (i < n)) ∧ St W noF [] w) := by
  have hS := St.start W
  replace hc := hc.ro
  refine calls_C Tryz.func274 rfl Tryz.ntmps274 rfl ?_
  repeat (first | (refine G_id ?_; first | refine G_nil ?_ | refine G_plain rfl rfl ?_) | (refine X_id ?_; first | refine X_yl (Yl_assign rfl rfl) rfl rfl ?_) | (refine C_id ?_; first | refine C_seq ?_ | refine C_region ?_) | (refine E_id ?_; first | refine E_code ?_))
  refine C_ord (.s 0 (.s 1 (.s 2 (.s 3 (.s 4 (.s 5 (.s 6 (.s 7 (.s 8 (.s 9 (.s 10 .nil))))))))))) mixed (by kernel_rfl) rfl ?_
  have hS := hS.drew
  repeat (first | (refine C_id ?_; first | refine C_ret ?_) | (refine E_id ?_; first | refine E_code ?_ | refine E_ret1 rfl (Rv_tmp rfl) (Ret.mk ?_)) | (refine GO_id ?_; first | refine GO_nil ?_ | refine GO_pure rfl rfl (fun _ => Yl_move rfl rfl) rfl rfl ?_ | refine GO_pure rfl rfl (fun _ => Yl_assign rfl rfl) rfl rfl ?_ | refine GO_pure rfl rfl (fun _ => Yl_nilCheck rfl rfl) rfl rfl ?_ | refine GO_pure rfl rfl (fun _ => Yl_fieldAddr0 rfl rfl rfl) rfl rfl ?_ | refine GO_pure rfl rfl (fun _ => Yl_len rfl rfl) rfl rfl ?_ | refine GO_pure rfl rfl (fun _ => Yl_lss rfl rfl rfl) rfl rfl ?_ | refine GO_read (fun w' => w'.cell? _ = some _) rfl rfl (cell_at (hc.rd hS).pts) (fun _ hc => Yl_load rfl rfl hc) rfl rfl ?_))
  refine ⟨?_, hS⟩
  congr 2
  exact propext (by omega)
theorem wrong_ (p : Nat) (a : Option Addr) (n c : Nat) (i : Nat) (e k : Int) (W : World) (F : Nat → Prop) (hS : St W F [Rdr p a n c i e] W) :
    Calls Tryz.prog 275 #[.pointer (some ⟨p, 0, none⟩), .int .i64 k] W (Ret fun v w => v = .tuple #[] ∧ St W F [Rdr p a n c i (if e = 0 then k else e)] w) := by
  by_cases h : e = 0
  · refine calls_C Tryz.func275 rfl Tryz.ntmps275 rfl ?_
    repeat (first | (refine G_id ?_; first | refine G_nil ?_ | refine G_plain rfl rfl ?_) | (refine X_id ?_; first | refine X_yl (Yl_move rfl rfl) rfl rfl ?_ | refine X_yl (Yl_nilCheck rfl rfl) rfl rfl ?_ | refine X_yl (Yl_fieldAddr0 rfl rfl rfl) rfl rfl ?_ | refine X_yl (Yl_eql_t rfl rfl rfl (by omega)) rfl rfl ?_ | refine X_yl (Yl_load rfl rfl hS.cell) rfl rfl ?_ | refine X_store rfl rfl rfl rfl hS (fun _ hS _ => ?_)) | (refine C_id ?_; first | refine C_seq ?_ | refine C_region ?_ | refine C_cond_t rfl ?_) | (refine E_id ?_; first | refine E_code ?_ | refine E_end0 rfl (Ret.mk ?_)))
    rw [if_pos h]
    exact ⟨rfl, hS⟩
  · refine calls_C Tryz.func275 rfl Tryz.ntmps275 rfl ?_
    repeat (first | (refine G_id ?_; first | refine G_nil ?_ | refine G_plain rfl rfl ?_) | (refine X_id ?_; first | refine X_yl (Yl_move rfl rfl) rfl rfl ?_ | refine X_yl (Yl_nilCheck rfl rfl) rfl rfl ?_ | refine X_yl (Yl_fieldAddr0 rfl rfl rfl) rfl rfl ?_ | refine X_yl (Yl_eql_f rfl rfl rfl (by omega)) rfl rfl ?_ | refine X_yl (Yl_load rfl rfl hS.cell) rfl rfl ?_) | (refine C_id ?_; first | refine C_seq ?_ | refine C_region ?_ | refine C_skip ?_ | refine C_cond_f rfl ?_) | (refine E_id ?_; first | refine E_code ?_ | refine E_end0 rfl (Ret.mk ?_)))
    rw [if_neg h]
    exact ⟨rfl, hS⟩
theorem is_eq {s : List UInt8} {i j : Nat} {k : UInt8} (h : i < s.length) (hj : j = i) : decide (((s.getD j 0).toNat : Int) = (k.toNat : Int)) = decide (s[i]? = some k) := by
  subst hj
  rw [List.getD_eq_getElem?_getD, List.getElem?_eq_getElem h, Option.getD_some]
  congr 1
  simp only [Option.some.injEq]
  exact propext ⟨fun h => UInt8.toNat_inj.1 (by omega), fun h => by rw [h]⟩
theorem is_ (p : Nat) (a : Option Addr) (s : List UInt8) (c : Nat) (i : Nat) (e : Int) (k : UInt8) (W : World) (hc : Rd W (Rdr p a s.length c i e)) (hb : Rd W (bytes a s)) :
    Calls Tryz.prog 276 #[.pointer (some ⟨p, 0, none⟩), .int .u8 (k.toNat : Int)] W (Ret fun v w => v = .bool (decide (s[i]? = some k)) ∧ St W noF [] w) := by
  have hS := St.start W
  have hm := more_ p a s.length c i e
  by_cases h : i < s.length
  · simp only [decide_eq_true h] at hm
    obtain ⟨ab, ao, rfl⟩ := hb.base (by intro e; have := bv_length s; rw [e] at this; simp at this; omega)
    replace hc := hc.ro
    replace hb := hb.ro
    refine calls_C Tryz.func276 rfl Tryz.ntmps276 rfl ?_
    repeat (first | (refine G_id ?_; first | refine G_nil ?_ | refine G_plain rfl rfl ?_) | (refine X_id ?_; first | refine X_yl (Yl_assign rfl rfl) rfl rfl ?_) | (refine C_id ?_; first | refine C_seq ?_ | refine C_region ?_) | (refine E_id ?_; first | refine E_code ?_))
    refine C_ord (.s 0 (.h 1 (.s 2 (.s 3 (.s 4 (.s 5 (.s 6 (.s 7 (.s 8 (.s 9 (.s 10 (.s 11 (.s 12 (.s 13 (.s 14 (.s 15 (.s 16 .nil))))))))))))))) .no)) mixed (by kernel_rfl) rfl ?_
    have hS := hS.drew
    repeat (first | (refine X_id ?_; first | (refine X_callq 274 rfl rfl rfl rfl rfl hS (hm _ (hc.rd hS)) ?_; rintro _ _ rfl hS)) | (refine C_id ?_; first | refine C_ret ?_) | (refine E_id ?_; first | refine E_code ?_ | refine E_ret1 rfl (Rv_tmp rfl) (Ret.mk ?_)) | (refine GO_id ?_; first | refine GO_nil ?_ | refine GO_pure rfl rfl (fun _ => Yl_move rfl rfl) rfl rfl ?_ | refine GO_pure rfl rfl (fun _ => Yl_assign rfl rfl) rfl rfl ?_ | refine GO_pure rfl rfl (fun _ => Yl_pick_t rfl rfl rfl) rfl rfl ?_ | refine GO_hard rfl rfl ?_ | refine GO_yes rfl rfl rfl rfl (fun _ => Yl_move rfl rfl) rfl rfl ?_ | refine GO_yes rfl rfl rfl rfl (fun _ => Yl_nilCheck rfl rfl) rfl rfl ?_ | refine GO_yes rfl rfl rfl rfl (fun _ => Yl_fieldAddr0 rfl rfl rfl) rfl rfl ?_ | refine GO_yes rfl rfl rfl rfl (fun _ => Yl_eql rfl rfl rfl) rfl rfl ?_ | refine GO_yes rfl rfl rfl rfl (fun _ => Yl_indexAddr rfl rfl rfl (by omega) (by omega) (by first | assumption | exact ⟨_, _, rfl⟩)) rfl rfl ?_ | refine GO_yes_read (fun w' => w'.cell? _ = some _) rfl rfl rfl rfl (cell_at (hc.rd hS).pts) (fun _ hc => Yl_load rfl rfl hc) rfl rfl ?_ | refine GO_yes_read (fun w' => w'.cell? _ = some _) rfl rfl rfl rfl ((hb.rd hS).cellB' (by omega)) (fun _ hc => Yl_load rfl rfl hc) rfl rfl ?_) | (refine Keep_id ?_; first | refine And.intro (by repeat (first | exact trivial | refine And.intro (.inl (by decide +kernel)) ?_ | refine And.intro (.inr (by first | assumption | exact hS.cell | exact cell_at (by assumption) | exact hS.cellI (by omega) | exact hS.cellIP (by omega) | exact hS.cellsN | exact ((hr.rd hS).cellX (by omega) hx) | exact ((hr2.rd hS).cellX (by omega) hx2) | exact hS.cellB (by omega) | exact hS.cellBA (by omega) | exact (hb.rd hS).cellB' (by omega) | exact (hb2.rd hS).cellB' (by omega) | exact (hg.rd hS).cellI (by omega) | exact (hg2.rd hS).cellI (by omega) | exact ((hr.rd hS).cellF (by first | omega | (dsimp only; omega)) hx) | exact ((hr2.rd hS).cellF (by first | omega | (dsimp only; omega)) hx2) | exact hS.cellO 0 (by omega) | exact hS.cellO 1 (by omega) | exact hS.cellIA (by omega) | exact (hg.rd hS).cellIA (by omega) | exact (hg2.rd hS).cellIA (by omega) | exact cell_at (hc.rd hS).pts | exact hb.rd hS | exact hS.cellO 4 (by omega) | exact hS.cellO 5 (by omega) | exact hS.cellO 6 (by omega) | exact hS.cellO 7 (by omega) | exact hS.cellO 8 (by omega) | exact hS.cellO 9 (by omega) | exact hS.cellO 10 (by omega) | exact hS.cellO 11 (by omega) | exact hS.cellO 12 (by omega) | exact hS.cellO 13 (by omega) | exact hS.cellO 2 (by omega) | exact hS.cellO 3 (by omega))) ?_)) ?_))
    refine ⟨?_, hS⟩
    rw [is_eq h (by omega)]
  · simp only [decide_eq_false h] at hm
    replace hc := hc.ro
    refine calls_C Tryz.func276 rfl Tryz.ntmps276 rfl ?_
    repeat (first | (refine G_id ?_; first | refine G_nil ?_ | refine G_plain rfl rfl ?_) | (refine X_id ?_; first | refine X_yl (Yl_assign rfl rfl) rfl rfl ?_) | (refine C_id ?_; first | refine C_seq ?_ | refine C_region ?_) | (refine E_id ?_; first | refine E_code ?_))
    refine C_ord (.s 0 (.h 1 (.s 2 (.s 3 (.s 4 (.s 5 (.s 6 (.s 7 (.s 8 (.s 9 (.s 10 (.s 11 (.s 12 (.s 13 (.s 14 (.s 15 (.s 16 .nil))))))))))))))) .no)) mixed (by kernel_rfl) rfl ?_
    have hS := hS.drew
    repeat (first | (refine X_id ?_; first | (refine X_callq 274 rfl rfl rfl rfl rfl hS (hm _ (hc.rd hS)) ?_; rintro _ _ rfl hS)) | (refine C_id ?_; first | refine C_ret ?_) | (refine E_id ?_; first | refine E_code ?_ | refine E_ret1 rfl (Rv_tmp rfl) (Ret.mk ?_)) | (refine GO_id ?_; first | refine GO_nil ?_ | refine GO_pure rfl rfl (fun _ => Yl_move rfl rfl) rfl rfl ?_ | refine GO_pure rfl rfl (fun _ => Yl_assign rfl rfl) rfl rfl ?_ | refine GO_pure rfl rfl (fun _ => Yl_pick_f rfl rfl rfl) rfl rfl ?_ | refine GO_hard rfl rfl ?_ | refine GO_no rfl rfl rfl rfl rfl rfl rfl ?_) | (refine Keep_id ?_; first | refine And.intro (by repeat (first | exact trivial | refine And.intro (.inl (by decide +kernel)) ?_ | refine And.intro (.inr (by first | assumption | exact hS.cell | exact cell_at (by assumption) | exact hS.cellI (by omega) | exact hS.cellIP (by omega) | exact hS.cellsN | exact ((hr.rd hS).cellX (by omega) hx) | exact ((hr2.rd hS).cellX (by omega) hx2) | exact hS.cellB (by omega) | exact hS.cellBA (by omega) | exact (hb.rd hS).cellB' (by omega) | exact (hb2.rd hS).cellB' (by omega) | exact (hg.rd hS).cellI (by omega) | exact (hg2.rd hS).cellI (by omega) | exact ((hr.rd hS).cellF (by first | omega | (dsimp only; omega)) hx) | exact ((hr2.rd hS).cellF (by first | omega | (dsimp only; omega)) hx2) | exact hS.cellO 0 (by omega) | exact hS.cellO 1 (by omega) | exact hS.cellIA (by omega) | exact (hg.rd hS).cellIA (by omega) | exact (hg2.rd hS).cellIA (by omega) | exact cell_at (hc.rd hS).pts | exact hb.rd hS | exact hS.cellO 4 (by omega) | exact hS.cellO 5 (by omega) | exact hS.cellO 6 (by omega) | exact hS.cellO 7 (by omega) | exact hS.cellO 8 (by omega) | exact hS.cellO 9 (by omega) | exact hS.cellO 10 (by omega) | exact hS.cellO 11 (by omega) | exact hS.cellO 12 (by omega) | exact hS.cellO 13 (by omega) | exact hS.cellO 2 (by omega) | exact hS.cellO 3 (by omega))) ?_)) ?_))
    refine ⟨?_, hS⟩
    rw [List.getElem?_eq_none (by omega)]
    simp
end Cr
namespace Cr
open Go Go.Proofs
set_option maxRecDepth 100000
set_option maxHeartbeats 4000000
attribute [local irreducible] Calls

/-- take: where the reader stands then, and what is wrong. -/
def takeP (s : List UInt8) (i : Nat) (e : Int) (k : UInt8) : Nat × Int :=
  if e ≠ 0 then (i, e) else if ¬ i < s.length then (i, 4) else if s[i]? = some k then (i + 1, 0) else (i, 3)
theorem take_ (p : Nat) (a : Option Addr) (s : List UInt8) (c : Nat) (i : Nat) (e : Int) (k : UInt8) (W : World) (F : Nat → Prop) (hS : St W F [Rdr p a s.length c i e] W) (hb : Ro W F (bytes a s)) (hl : s.length ≤ 1099511627776) :
    Calls Tryz.prog 278 #[.pointer (some ⟨p, 0, none⟩), .int .u8 (k.toNat : Int)] W (Ret fun v w => v = .tuple #[] ∧ St W F [Rdr p a s.length c (takeP s i e k).1 (takeP s i e k).2] w) := by
  by_cases he : e = 0
  · subst he
    by_cases h : i < s.length
    · have hm := more_ p a s.length c i 0
      simp only [decide_eq_true h] at hm
      have hq := is_ p a s c i 0 k
      by_cases hk : s[i]? = some k
      · simp only [decide_eq_true hk] at hq
        rw [show takeP s i 0 k = (i + 1, 0) by unfold takeP; rw [if_neg (by simp), if_neg (by simpa using h), if_pos hk]]
        refine calls_C Tryz.func278 rfl Tryz.ntmps278 rfl ?_
        repeat (first | (refine G_id ?_; first | refine G_nil ?_ | refine G_plain rfl rfl ?_) | (refine X_id ?_; first | (refine X_callq 274 rfl rfl rfl rfl rfl hS (hm _ (hS.rd (List.mem_cons_self ..))) ?_; rintro _ _ rfl hS) | (refine X_callq 276 rfl rfl rfl rfl rfl hS (hq _ (hS.rd (List.mem_cons_self ..)) (hb.rd hS)) ?_; rintro _ _ rfl hS) | refine X_yl (Yl_move rfl rfl) rfl rfl ?_ | refine X_yl (Yl_assign rfl rfl) rfl rfl ?_ | refine X_yl (Yl_nilCheck rfl rfl) rfl rfl ?_ | refine X_yl (Yl_fieldAddr0 rfl rfl rfl) rfl rfl ?_ | refine X_yl (Yl_not_t rfl rfl) rfl rfl ?_ | refine X_yl (Yl_neq_f rfl rfl rfl (by omega)) rfl rfl ?_ | refine X_yl (Yl_add rfl rfl rfl (w64 (by omega) (by omega))) rfl rfl ?_ | refine X_yl (Yl_load rfl rfl hS.cell) rfl rfl ?_ | refine X_store rfl rfl rfl rfl hS (fun _ hS _ => ?_)) | (refine C_id ?_; first | refine C_seq ?_ | refine C_region ?_ | refine C_block ?_ | refine C_cond_f rfl ?_) | (refine E_id ?_; first | refine E_code ?_ | refine E_blk_n ?_ | refine E_end0 rfl (Ret.mk ?_)))
        exact ⟨rfl, hS⟩
      · simp only [decide_eq_false hk] at hq
        rw [show takeP s i 0 k = (i, 3) by unfold takeP; rw [if_neg (by simp), if_neg (by simpa using h), if_neg hk]]
        refine calls_C Tryz.func278 rfl Tryz.ntmps278 rfl ?_
        repeat (first | (refine G_id ?_; first | refine G_nil ?_ | refine G_plain rfl rfl ?_) | (refine X_id ?_; first | (refine X_callq 274 rfl rfl rfl rfl rfl hS (hm _ (hS.rd (List.mem_cons_self ..))) ?_; rintro _ _ rfl hS) | (refine X_callq 276 rfl rfl rfl rfl rfl hS (hq _ (hS.rd (List.mem_cons_self ..)) (hb.rd hS)) ?_; rintro _ _ rfl hS) | refine X_yl (Yl_move rfl rfl) rfl rfl ?_ | refine X_yl (Yl_assign rfl rfl) rfl rfl ?_ | refine X_yl (Yl_nilCheck rfl rfl) rfl rfl ?_ | refine X_yl (Yl_fieldAddr0 rfl rfl rfl) rfl rfl ?_ | refine X_yl (Yl_not_t rfl rfl) rfl rfl ?_ | refine X_yl (Yl_not_f rfl rfl) rfl rfl ?_ | refine X_yl (Yl_neq_f rfl rfl rfl (by omega)) rfl rfl ?_ | refine X_yl (Yl_load rfl rfl hS.cell) rfl rfl ?_) | (refine C_id ?_; first | refine C_seq ?_ | refine C_region ?_ | refine C_block ?_ | refine C_cond_t rfl ?_ | refine C_cond_f rfl ?_) | (refine E_id ?_; first | refine E_code ?_))
        obtain ⟨_, hc, hr, hw, hbk⟩ := hS.call [true]
        refine X_callg _ rfl rfl rfl rfl rfl (wrong_ p a s.length c i 0 3 _ _ hc) ?_
        rintro _ w ⟨rfl, hS⟩
        replace hS := hbk hS
        clear hc hr hw hbk
        repeat (first | (refine G_id ?_; first | refine G_nil ?_) | (refine E_id ?_; first | refine E_blk_n ?_ | refine E_end0 rfl (Ret.mk ?_)))
        exact ⟨rfl, hS⟩
    · have hm := more_ p a s.length c i 0
      simp only [decide_eq_false h] at hm
      rw [show takeP s i 0 k = (i, 4) by unfold takeP; rw [if_neg (by simp), if_pos h]]
      refine calls_C Tryz.func278 rfl Tryz.ntmps278 rfl ?_
      repeat (first | (refine G_id ?_; first | refine G_nil ?_ | refine G_plain rfl rfl ?_) | (refine X_id ?_; first | (refine X_callq 274 rfl rfl rfl rfl rfl hS (hm _ (hS.rd (List.mem_cons_self ..))) ?_; rintro _ _ rfl hS) | refine X_yl (Yl_move rfl rfl) rfl rfl ?_ | refine X_yl (Yl_assign rfl rfl) rfl rfl ?_ | refine X_yl (Yl_nilCheck rfl rfl) rfl rfl ?_ | refine X_yl (Yl_fieldAddr0 rfl rfl rfl) rfl rfl ?_ | refine X_yl (Yl_not_f rfl rfl) rfl rfl ?_ | refine X_yl (Yl_neq_f rfl rfl rfl (by omega)) rfl rfl ?_ | refine X_yl (Yl_load rfl rfl hS.cell) rfl rfl ?_) | (refine C_id ?_; first | refine C_seq ?_ | refine C_region ?_ | refine C_block ?_ | refine C_cond_t rfl ?_ | refine C_cond_f rfl ?_) | (refine E_id ?_; first | refine E_code ?_))
      obtain ⟨_, hc, hr, hw, hbk⟩ := hS.call [true]
      refine X_callg _ rfl rfl rfl rfl rfl (wrong_ p a s.length c i 0 4 _ _ hc) ?_
      rintro _ w ⟨rfl, hS⟩
      replace hS := hbk hS
      clear hc hr hw hbk
      repeat (first | (refine G_id ?_; first | refine G_nil ?_) | (refine E_id ?_; first | refine E_blk_n ?_ | refine E_end0 rfl (Ret.mk ?_)))
      exact ⟨rfl, hS⟩
  · rw [show takeP s i e k = (i, e) by unfold takeP; rw [if_pos he]]
    refine calls_C Tryz.func278 rfl Tryz.ntmps278 rfl ?_
    repeat (first | (refine G_id ?_; first | refine G_nil ?_ | refine G_plain rfl rfl ?_) | (refine X_id ?_; first | refine X_yl (Yl_move rfl rfl) rfl rfl ?_ | refine X_yl (Yl_assign rfl rfl) rfl rfl ?_ | refine X_yl (Yl_nilCheck rfl rfl) rfl rfl ?_ | refine X_yl (Yl_fieldAddr0 rfl rfl rfl) rfl rfl ?_ | refine X_yl (Yl_neq_t rfl rfl rfl (by omega)) rfl rfl ?_ | refine X_yl (Yl_load rfl rfl hS.cell) rfl rfl ?_) | (refine C_id ?_; first | refine C_seq ?_ | refine C_region ?_ | refine C_block ?_ | refine C_skip ?_ | refine C_cond_t rfl ?_) | (refine E_id ?_; first | refine E_code ?_ | refine E_blk_n ?_ | refine E_end0 rfl (Ret.mk ?_)))
    exact ⟨rfl, hS⟩
theorem take_bad (p : Nat) (a : Option Addr) (n c : Nat) (i : Nat) (e : Int) (k : UInt8) (W : World) (F : Nat → Prop) (hS : St W F [Rdr p a n c i e] W) (he : e ≠ 0) :
    Calls Tryz.prog 278 #[.pointer (some ⟨p, 0, none⟩), .int .u8 (k.toNat : Int)] W (Ret fun v w => v = .tuple #[] ∧ St W F [Rdr p a n c i e] w) := by
  refine calls_C Tryz.func278 rfl Tryz.ntmps278 rfl ?_
  repeat (first | (refine G_id ?_; first | refine G_nil ?_ | refine G_plain rfl rfl ?_) | (refine X_id ?_; first | refine X_yl (Yl_move rfl rfl) rfl rfl ?_ | refine X_yl (Yl_assign rfl rfl) rfl rfl ?_ | refine X_yl (Yl_nilCheck rfl rfl) rfl rfl ?_ | refine X_yl (Yl_fieldAddr0 rfl rfl rfl) rfl rfl ?_ | refine X_yl (Yl_neq_t rfl rfl rfl (by omega)) rfl rfl ?_ | refine X_yl (Yl_load rfl rfl hS.cell) rfl rfl ?_) | (refine C_id ?_; first | refine C_seq ?_ | refine C_region ?_ | refine C_block ?_ | refine C_skip ?_ | refine C_cond_t rfl ?_) | (refine E_id ?_; first | refine E_code ?_ | refine E_blk_n ?_ | refine E_end0 rfl (Ret.mk ?_)))
  exact ⟨rfl, hS⟩
theorem takeWhile_stop {p : UInt8 → Bool} : ∀ {l : List UInt8} {j : Nat}, (∀ i c, i < j → l[i]? = some c → p c = true) → (∀ c, l[j]? = some c → p c = false) → j ≤ l.length → (l.takeWhile p).length = j
  | [], j, _, _, h => by simp at h; simp [h]
  | x :: l, 0, _, h2, _ => by rw [List.takeWhile_cons, if_neg (by rw [h2 x rfl]; simp)]; rfl
  | x :: l, j + 1, h1, h2, h => by
    rw [List.takeWhile_cons, if_pos (h1 0 x (by omega) rfl), List.length_cons, takeWhile_stop (j := j) (fun i c hi hc => h1 (i + 1) c (by omega) (by simpa using hc)) (fun c hc => h2 c (by simpa using hc)) (by simpa using h)]
/-- Behind the sign: j digits, and then none. -/
theorem numS_stop {s : List UInt8} {i : Nat} {below : Bool} {j : Nat} (h1 : ∀ k c, k < j → s[i + (sgn below (s.drop i)).length + k]? = some c → dig c = true) (h2 : ∀ c, s[i + (sgn below (s.drop i)).length + j]? = some c → dig c = false) (hj : i + (sgn below (s.drop i)).length + j ≤ s.length) :
    (numS below (s.drop i)).length = (sgn below (s.drop i)).length + j := by
  unfold numS
  generalize (sgn below (s.drop i)) = g at *
  rw [List.length_append, List.drop_drop, takeWhile_stop (j := j) (fun k c hk hc => h1 k c hk (by rw [List.getElem?_drop] at hc; exact hc)) (fun c hc => h2 c (by rw [List.getElem?_drop] at hc; exact hc)) (by simp; omega)]
theorem sgn_head {s : List UInt8} {i : Nat} {below : Bool} : sgn below (s.drop i) = if below = true ∧ s[i]? = some 45 then [45] else [] := by
  unfold sgn
  rw [List.head?_drop]
end Cr
namespace Cr
open Go Go.Proofs
set_option maxRecDepth 100000
set_option maxHeartbeats 4000000
attribute [local irreducible] Calls

theorem sub_take {s : List UInt8} {i n : Nat} {t : List UInt8} (h : (s.drop i).take n = t) : (s.drop i).take (i + n - i) = t := by
  rw [show i + n - i = n by omega]; exact h
theorem dig_t {x : UInt8} (h : dig x = true) : ¬ ((x.toNat : Int) < 48) ∧ ¬ ((57 : Int) < (x.toNat : Int)) := by
  have := dig_iff.1 h
  constructor <;> omega
theorem dig_f {x : UInt8} (h : ¬ dig x = true) : ((x.toNat : Int) < 48) ∨ (¬ ((x.toNat : Int) < 48) ∧ (57 : Int) < (x.toNat : Int)) := by
  have h2 : ¬ (48 ≤ x.toNat ∧ x.toNat ≤ 57) := fun q => h (dig_iff.2 q)
  rcases Nat.lt_or_ge x.toNat 48 with h3 | h3
  · exact .inl (by omega)
  · exact .inr ⟨by omega, by omega⟩
theorem St.conv {W : World} {F : Nat → Prop} {rs rs' : List Res} {w : World} (h : St W F rs w) (e : rs = rs') : St W F rs' w := e ▸ h
theorem digits_ (p : Nat) (a : Option Addr) (s : List UInt8) (c : Nat) (hsc : s.length ≤ c) (i : Nat) (e : Int) (below : Bool) (W : World) (F : Nat → Prop) (hS : St W F [Rdr p a s.length c i e] W) (hb : Ro W F (bytes a s)) (hl : s.length ≤ 1099511627776) (hi : i ≤ s.length) :
    Calls Tryz.prog 307 #[.pointer (some ⟨p, 0, none⟩), .bool below] W (Ret fun v w => v = .string (str (numS below (s.drop i))) ∧ St W F [Rdr p a s.length c (i + (numS below (s.drop i)).length) e] w) := by
  have hq := is_ p a s c i e 45
  have hm := more_ p a s.length c
  obtain ⟨g, hg⟩ : ∃ g, (sgn below (s.drop i)).length = g := ⟨_, rfl⟩
  have hgi : i + g ≤ s.length := by
    rw [← hg, sgn_head]
    split
    · rename_i h
      have := (List.getElem?_eq_some_iff.1 h.2).1
      simp; omega
    · simpa using hi
  have h3 : (below = true ∧ s[i]? = some 45 ∧ g = 1) ∨ (below = true ∧ ¬ s[i]? = some 45 ∧ g = 0) ∨ (below = false ∧ g = 0) := by
    rw [sgn_head] at hg
    cases below
    · exact .inr (.inr ⟨rfl, by rw [← hg]; simp⟩)
    · by_cases hk : s[i]? = some 45
      · exact .inl ⟨rfl, hk, by rw [← hg, if_pos ⟨rfl, hk⟩]; rfl⟩
      · exact .inr (.inl ⟨rfl, hk, by rw [← hg, if_neg (fun h => hk h.2)]; rfl⟩)
  have hstop := fun j => numS_stop (s := s) (i := i) (below := below) (j := j)
  rw [hg] at hstop
  have htk := numS_take below (s.drop i)
  generalize numS below (s.drop i) = T at hstop htk ⊢
  clear hg
  refine calls_C Tryz.func307 rfl Tryz.ntmps307 rfl ?_
  rcases h3 with ⟨rfl, hk, hg⟩ | ⟨rfl, hk, hg⟩ | ⟨rfl, hg⟩
  case' inl =>
    simp only [decide_eq_true hk] at hq
    repeat (first | (refine G_id ?_; first | refine G_nil ?_ | refine G_plain rfl rfl ?_ | refine G_yes rfl rfl rfl rfl ?_) | (refine X_id ?_; first | (refine X_callq 276 rfl rfl rfl rfl rfl hS (hq _ (hS.rd (List.mem_cons_self ..)) (hb.rd hS)) ?_; rintro _ _ rfl hS) | refine X_yl (Yl_move rfl rfl) rfl rfl ?_ | refine X_yl (Yl_assign rfl rfl) rfl rfl ?_ | refine X_yl (Yl_nilCheck rfl rfl) rfl rfl ?_ | refine X_yl (Yl_fieldAddr0 rfl rfl rfl) rfl rfl ?_ | refine X_yl (Yl_pick_t rfl rfl rfl) rfl rfl ?_ | refine X_yl (Yl_add rfl rfl rfl (w64 (by omega) (by omega))) rfl rfl ?_ | refine X_yl (Yl_load rfl rfl hS.cell) rfl rfl ?_ | refine X_store rfl rfl rfl rfl hS (fun _ hS _ => ?_)) | (refine C_id ?_; first | refine C_seq ?_ | refine C_label ?_ | refine C_scope rfl ?_ | refine C_region ?_ | refine C_block ?_ | refine C_cond_t rfl ?_) | (refine E_id ?_; first | refine E_code ?_))
    have hS := hS.conv (rs' := [Rdr p a s.length c (i + g) e]) (by rw [hg]; rfl)
  case' inr.inl =>
    simp only [decide_eq_false hk] at hq
    repeat (first | (refine G_id ?_; first | refine G_nil ?_ | refine G_plain rfl rfl ?_ | refine G_yes rfl rfl rfl rfl ?_) | (refine X_id ?_; first | (refine X_callq 276 rfl rfl rfl rfl rfl hS (hq _ (hS.rd (List.mem_cons_self ..)) (hb.rd hS)) ?_; rintro _ _ rfl hS) | refine X_yl (Yl_move rfl rfl) rfl rfl ?_ | refine X_yl (Yl_assign rfl rfl) rfl rfl ?_ | refine X_yl (Yl_nilCheck rfl rfl) rfl rfl ?_ | refine X_yl (Yl_fieldAddr0 rfl rfl rfl) rfl rfl ?_ | refine X_yl (Yl_pick_t rfl rfl rfl) rfl rfl ?_ | refine X_yl (Yl_load rfl rfl hS.cell) rfl rfl ?_) | (refine C_id ?_; first | refine C_seq ?_ | refine C_label ?_ | refine C_scope rfl ?_ | refine C_region ?_ | refine C_block ?_ | refine C_skip ?_ | refine C_cond_f rfl ?_) | (refine E_id ?_; first | refine E_code ?_))
    have hS := hS.conv (rs' := [Rdr p a s.length c (i + g) e]) (by rw [hg]; rfl)
  case' inr.inr =>
    repeat (first | (refine G_id ?_; first | refine G_nil ?_ | refine G_plain rfl rfl ?_ | refine G_no rfl rfl rfl rfl rfl rfl ?_) | (refine X_id ?_; first | refine X_yl (Yl_move rfl rfl) rfl rfl ?_ | refine X_yl (Yl_assign rfl rfl) rfl rfl ?_ | refine X_yl (Yl_nilCheck rfl rfl) rfl rfl ?_ | refine X_yl (Yl_fieldAddr0 rfl rfl rfl) rfl rfl ?_ | refine X_yl (Yl_pick_f rfl rfl rfl) rfl rfl ?_ | refine X_yl (Yl_load rfl rfl hS.cell) rfl rfl ?_) | (refine C_id ?_; first | refine C_seq ?_ | refine C_label ?_ | refine C_scope rfl ?_ | refine C_region ?_ | refine C_block ?_ | refine C_skip ?_ | refine C_cond_f rfl ?_) | (refine E_id ?_; first | refine E_code ?_))
    have hS := hS.conv (rs' := [Rdr p a s.length c (i + g) e]) (by rw [hg]; rfl)
  all_goals
    clear hq hg
    refine C_joinB (α := Unit) (fun _ => [(0, .pointer (some ⟨p, 0, none⟩)), (5, .int .i64 (i : Nat))]) (fun _ w => i + T.length ≤ s.length ∧ St W F [Rdr p a s.length c (i + T.length) e] w) ?_ ?_
    · refine C_loop (α := Nat) (fun _ => [(0, .pointer (some ⟨p, 0, none⟩)), (5, .int .i64 (i : Nat))])
        (fun j w => i + g + j ≤ s.length ∧ (∀ k c, k < j → s[i + g + k]? = some c → dig c = true) ∧ St W F [Rdr p a s.length c (i + g + j) e] w) (fun j => s.length - j) 0 ⟨rfl, rfl, trivial⟩ ⟨hgi, fun k c hk => by omega, hS⟩ ?_
      clear hS
      rintro j w ⟨hj, hd, hS⟩
      by_cases hlt : i + g + j < s.length
      · obtain ⟨ab, ao, rfl⟩ := hb.start.base (by intro e; have := bv_length s; rw [e] at this; simp at this; omega)
        have hm := hm (i + g + j) e
        simp only [decide_eq_true hlt] at hm
        obtain ⟨x, hx⟩ : ∃ x, s[i + g + j]? = some x := ⟨_, List.getElem?_eq_getElem hlt⟩
        have hx2 : s.getD ((((i + g + j : Nat) : Int)).toNat * 1) 0 = x := by
          rw [List.getD_eq_getElem?_getD, show ((((i + g + j : Nat) : Int)).toNat * 1) = i + g + j by omega, hx]; rfl
        by_cases hdx : dig x = true
        · obtain ⟨d1, d2⟩ := dig_t hdx
          rw [← hx2] at d1 d2
          repeat (first | (refine G_id ?_; first | refine G_nil ?_ | refine G_plain rfl rfl ?_) | (refine X_id ?_; first | (refine X_callq 274 rfl rfl rfl rfl rfl hS (hm _ (hS.rd (List.mem_cons_self ..))) ?_; rintro _ _ rfl hS) | refine X_yl (Yl_move rfl rfl) rfl rfl ?_ | refine X_yl (Yl_nilCheck rfl rfl) rfl rfl ?_ | refine X_yl (Yl_fieldAddr0 rfl rfl rfl) rfl rfl ?_) | (refine C_id ?_; first | refine C_seq ?_ | refine C_region ?_ | refine C_block ?_ | refine C_skip ?_ | refine C_cond_t rfl ?_) | (refine E_id ?_; first | refine E_code ?_))
          refine C_ord (.s 0 (.s 1 (.s 2 (.s 3 (.s 4 (.s 5 (.s 6 (.s 7 (.s 8 (.s 9 (.s 10 (.s 11 (.s 12 .nil))))))))))))) mixed (by kernel_rfl) rfl ?_
          have hS := hS.drew
          repeat (first | (refine G_id ?_; first | refine G_nil ?_ | refine G_plain rfl rfl ?_ | refine G_yes rfl rfl rfl rfl ?_) | (refine X_id ?_; first | refine X_yl (Yl_move rfl rfl) rfl rfl ?_ | refine X_yl (Yl_assign rfl rfl) rfl rfl ?_ | refine X_yl (Yl_nilCheck rfl rfl) rfl rfl ?_ | refine X_yl (Yl_fieldAddr0 rfl rfl rfl) rfl rfl ?_ | refine X_yl (Yl_pick_f rfl rfl rfl) rfl rfl ?_ | refine X_yl (Yl_lss_f rfl rfl rfl (by omega)) rfl rfl ?_ | refine X_yl (Yl_gtr_f rfl rfl rfl (by omega)) rfl rfl ?_ | refine X_yl (Yl_add rfl rfl rfl (w64 (by omega) (by omega))) rfl rfl ?_ | refine X_yl (Yl_load rfl rfl hS.cell) rfl rfl ?_ | refine X_store rfl rfl rfl rfl hS (fun _ hS _ => ?_)) | (refine C_id ?_; first | refine C_seq ?_ | refine C_region ?_ | refine C_block ?_ | refine C_skip ?_ | refine C_cond_f rfl ?_) | (refine E_id ?_; first | refine E_code ?_ | refine E_blk_n ?_) | (refine GO_id ?_; first | refine GO_nil ?_ | refine GO_pure rfl rfl (fun _ => Yl_move rfl rfl) rfl rfl ?_ | refine GO_pure rfl rfl (fun _ => Yl_assign rfl rfl) rfl rfl ?_ | refine GO_pure rfl rfl (fun _ => Yl_nilCheck rfl rfl) rfl rfl ?_ | refine GO_pure rfl rfl (fun _ => Yl_fieldAddr0 rfl rfl rfl) rfl rfl ?_ | refine GO_pure rfl rfl (fun _ => Yl_indexAddr rfl rfl rfl (by omega) (by omega) (by first | assumption | exact ⟨_, _, rfl⟩)) rfl rfl ?_ | refine GO_read (fun w' => w'.cell? _ = some _) rfl rfl hS.cell (fun _ hc => Yl_load rfl rfl hc) rfl rfl ?_ | refine GO_read (fun w' => w'.cell? _ = some _) rfl rfl ((hb.rd hS).cellB' (by omega)) (fun _ hc => Yl_load rfl rfl hc) rfl rfl ?_))
          refine E_round (j + 1) ⟨rfl, rfl, trivial⟩ ⟨by omega, fun k c hk hc => ?_, hS⟩ (by omega)
          rcases Nat.lt_or_ge k j with h | h
          · exact hd k c h hc
          · obtain rfl : k = j := by omega
            rw [hx] at hc
            rw [← Option.some.inj hc]; exact hdx
        · have hT := hstop j hd (fun c hc => by
            rw [hx] at hc
            rw [← Option.some.inj hc]; simpa using hdx) hj
          rcases dig_f hdx with d1 | ⟨d1, d2⟩
          · rw [← hx2] at d1
            repeat (first | (refine G_id ?_; first | refine G_nil ?_ | refine G_plain rfl rfl ?_) | (refine X_id ?_; first | (refine X_callq 274 rfl rfl rfl rfl rfl hS (hm _ (hS.rd (List.mem_cons_self ..))) ?_; rintro _ _ rfl hS) | refine X_yl (Yl_move rfl rfl) rfl rfl ?_ | refine X_yl (Yl_nilCheck rfl rfl) rfl rfl ?_ | refine X_yl (Yl_fieldAddr0 rfl rfl rfl) rfl rfl ?_) | (refine C_id ?_; first | refine C_seq ?_ | refine C_region ?_ | refine C_block ?_ | refine C_skip ?_ | refine C_cond_t rfl ?_) | (refine E_id ?_; first | refine E_code ?_))
            refine C_ord (.s 0 (.s 1 (.s 2 (.s 3 (.s 4 (.s 5 (.s 6 (.s 7 (.s 8 (.s 9 (.s 10 (.s 11 (.s 12 .nil))))))))))))) mixed (by kernel_rfl) rfl ?_
            have hS := hS.drew
            repeat (first | (refine G_id ?_; first | refine G_nil ?_ | refine G_plain rfl rfl ?_ | refine G_no rfl rfl rfl rfl rfl rfl ?_) | (refine X_id ?_; first | refine X_yl (Yl_move rfl rfl) rfl rfl ?_ | refine X_yl (Yl_assign rfl rfl) rfl rfl ?_ | refine X_yl (Yl_pick_t rfl rfl rfl) rfl rfl ?_ | refine X_yl (Yl_lss_t rfl rfl rfl (by omega)) rfl rfl ?_) | (refine C_id ?_; first | refine C_seq ?_ | refine C_region ?_ | refine C_block ?_ | refine C_exit ?_ | refine C_cond_t rfl ?_) | (refine E_id ?_; first | refine E_code ?_ | refine E_then_exit ?_ | refine E_blk_same ?_ | refine E_blk_ne rfl ?_) | (refine GO_id ?_; first | refine GO_nil ?_ | refine GO_pure rfl rfl (fun _ => Yl_move rfl rfl) rfl rfl ?_ | refine GO_pure rfl rfl (fun _ => Yl_assign rfl rfl) rfl rfl ?_ | refine GO_pure rfl rfl (fun _ => Yl_nilCheck rfl rfl) rfl rfl ?_ | refine GO_pure rfl rfl (fun _ => Yl_fieldAddr0 rfl rfl rfl) rfl rfl ?_ | refine GO_pure rfl rfl (fun _ => Yl_indexAddr rfl rfl rfl (by omega) (by omega) (by first | assumption | exact ⟨_, _, rfl⟩)) rfl rfl ?_ | refine GO_read (fun w' => w'.cell? _ = some _) rfl rfl hS.cell (fun _ hc => Yl_load rfl rfl hc) rfl rfl ?_ | refine GO_read (fun w' => w'.cell? _ = some _) rfl rfl ((hb.rd hS).cellB' (by omega)) (fun _ hc => Yl_load rfl rfl hc) rfl rfl ?_))
            exact E_mid () ⟨rfl, rfl, trivial⟩ ⟨by omega, hS.conv (by rw [hT, Nat.add_assoc])⟩
          · rw [← hx2] at d1 d2
            repeat (first | (refine G_id ?_; first | refine G_nil ?_ | refine G_plain rfl rfl ?_) | (refine X_id ?_; first | (refine X_callq 274 rfl rfl rfl rfl rfl hS (hm _ (hS.rd (List.mem_cons_self ..))) ?_; rintro _ _ rfl hS) | refine X_yl (Yl_move rfl rfl) rfl rfl ?_ | refine X_yl (Yl_nilCheck rfl rfl) rfl rfl ?_ | refine X_yl (Yl_fieldAddr0 rfl rfl rfl) rfl rfl ?_) | (refine C_id ?_; first | refine C_seq ?_ | refine C_region ?_ | refine C_block ?_ | refine C_skip ?_ | refine C_cond_t rfl ?_) | (refine E_id ?_; first | refine E_code ?_))
            refine C_ord (.s 0 (.s 1 (.s 2 (.s 3 (.s 4 (.s 5 (.s 6 (.s 7 (.s 8 (.s 9 (.s 10 (.s 11 (.s 12 .nil))))))))))))) mixed (by kernel_rfl) rfl ?_
            have hS := hS.drew
            repeat (first | (refine G_id ?_; first | refine G_nil ?_ | refine G_plain rfl rfl ?_ | refine G_yes rfl rfl rfl rfl ?_) | (refine X_id ?_; first | refine X_yl (Yl_move rfl rfl) rfl rfl ?_ | refine X_yl (Yl_assign rfl rfl) rfl rfl ?_ | refine X_yl (Yl_pick_f rfl rfl rfl) rfl rfl ?_ | refine X_yl (Yl_lss_f rfl rfl rfl (by omega)) rfl rfl ?_ | refine X_yl (Yl_gtr_t rfl rfl rfl (by omega)) rfl rfl ?_) | (refine C_id ?_; first | refine C_seq ?_ | refine C_region ?_ | refine C_block ?_ | refine C_exit ?_ | refine C_cond_t rfl ?_) | (refine E_id ?_; first | refine E_code ?_ | refine E_then_exit ?_ | refine E_blk_same ?_ | refine E_blk_ne rfl ?_) | (refine GO_id ?_; first | refine GO_nil ?_ | refine GO_pure rfl rfl (fun _ => Yl_move rfl rfl) rfl rfl ?_ | refine GO_pure rfl rfl (fun _ => Yl_assign rfl rfl) rfl rfl ?_ | refine GO_pure rfl rfl (fun _ => Yl_nilCheck rfl rfl) rfl rfl ?_ | refine GO_pure rfl rfl (fun _ => Yl_fieldAddr0 rfl rfl rfl) rfl rfl ?_ | refine GO_pure rfl rfl (fun _ => Yl_indexAddr rfl rfl rfl (by omega) (by omega) (by first | assumption | exact ⟨_, _, rfl⟩)) rfl rfl ?_ | refine GO_read (fun w' => w'.cell? _ = some _) rfl rfl hS.cell (fun _ hc => Yl_load rfl rfl hc) rfl rfl ?_ | refine GO_read (fun w' => w'.cell? _ = some _) rfl rfl ((hb.rd hS).cellB' (by omega)) (fun _ hc => Yl_load rfl rfl hc) rfl rfl ?_))
            exact E_mid () ⟨rfl, rfl, trivial⟩ ⟨by omega, hS.conv (by rw [hT, Nat.add_assoc])⟩
      · have hm := hm (i + g + j) e
        simp only [decide_eq_false hlt] at hm
        have hT := hstop j hd (fun c hc => by rw [List.getElem?_eq_none (by omega)] at hc; cases hc) hj
        repeat (first | (refine G_id ?_; first | refine G_nil ?_ | refine G_plain rfl rfl ?_) | (refine X_id ?_; first | (refine X_callq 274 rfl rfl rfl rfl rfl hS (hm _ (hS.rd (List.mem_cons_self ..))) ?_; rintro _ _ rfl hS) | refine X_yl (Yl_move rfl rfl) rfl rfl ?_ | refine X_yl (Yl_nilCheck rfl rfl) rfl rfl ?_ | refine X_yl (Yl_fieldAddr0 rfl rfl rfl) rfl rfl ?_) | (refine C_id ?_; first | refine C_seq ?_ | refine C_region ?_ | refine C_exit ?_ | refine C_cond_f rfl ?_) | (refine E_id ?_; first | refine E_code ?_ | refine E_then_exit ?_ | refine E_blk_same ?_))
        exact E_mid () ⟨rfl, rfl, trivial⟩ ⟨by omega, hS.conv (by rw [hT, Nat.add_assoc])⟩
    · clear hS
      rintro _ w ⟨hT, hS⟩
      repeat (first | (refine C_id ?_; first | refine C_seq ?_))
      have hsb := hb.subBytes (l := i) (h := i + T.length) (c := c) (by omega) (by omega)
      rw [sub_take htk] at hsb
      refine C_ord (.s 0 (.s 1 (.s 2 (.s 3 (.s 4 (.s 5 (.s 6 (.s 7 (.s 8 (.s 9 (.s 10 (.s 11 (.s 12 (.s 13 .nil)))))))))))))) mixed (by kernel_rfl) rfl ?_
      have hS := hS.drew
      repeat (first | (refine GO_id ?_; first | refine GO_pure rfl rfl (fun _ => Yl_move rfl rfl) rfl rfl ?_ | refine GO_pure rfl rfl (fun _ => Yl_nilCheck rfl rfl) rfl rfl ?_ | refine GO_pure rfl rfl (fun _ => Yl_fieldAddr0 rfl rfl rfl) rfl rfl ?_ | refine GO_read (fun w' => w'.cell? _ = some _) rfl rfl hS.cell (fun _ hc => Yl_load rfl rfl hc) rfl rfl ?_))
      refine GO_pure rfl rfl (fun _ => Yl_slice (l := i) (h := i + T.length) rfl rfl rfl rfl (.inr ⟨_, _, rfl, by omega, by omega, by omega⟩) (.inr ⟨_, _, rfl, by omega, by omega, by omega⟩)) rfl rfl ?_
      refine GO_read (fun w' => Rd w' (bytes (sub a i 1 c) T)) rfl rfl (hsb.rd hS) (fun _ h => Yl_bytesStr rfl rfl h (by omega)) rfl rfl ?_
      repeat (first | (refine C_id ?_; first | refine C_ret ?_) | (refine E_id ?_; first | refine E_code ?_ | refine E_noGoto (fun _ h => by cases h) ?_ | refine E_ret1 rfl (Rv_tmp rfl) (Ret.mk ?_)) | (refine GO_id ?_; first | refine GO_nil ?_ | refine GO_pure rfl rfl (fun _ => Yl_assign rfl rfl) rfl rfl ?_))
      exact ⟨rfl, hS⟩
end Cr
namespace Cr
open Go Go.Proofs
set_option maxRecDepth 100000
set_option maxHeartbeats 4000000
attribute [local irreducible] Calls

/-- What number tells: the number, and where the reader stands; or that something is wrong. -/
def NumRes (p : Nat) (a : Option Addr) (s : List UInt8) (c : Nat) (W : World) (F : Nat → Prop) (r : Option (Int × List UInt8)) (v : Value) (w : World) : Prop :=
  match r with
  | some (n, t) => v = .int .i64 n ∧ ∃ i, i ≤ s.length ∧ s.drop i = t ∧ St W F [Rdr p a s.length c i 0] w
  | none => v = .int .i64 0 ∧ ∃ i e, i ≤ s.length ∧ e ≠ 0 ∧ St W F [Rdr p a s.length c i e] w
instance : Und Tryz.prog 401 (.interface #[("Error", 404)]) := ⟨Tryz.underlying401⟩
theorem Lg.at_ {W : World} {F : Nat → Prop} {rs : List Res} {w : World} (H : Lg W F) (hS : St W F rs w) : Lg w noF := by
  obtain ⟨h1, tp, p, h2⟩ := H
  exact ⟨(h1.rd hS).ro, tp, p, (h2.rd hS).ro⟩
theorem pu_ne (d : List UInt8) : ∀ a, (∀ c ∈ d, dig c = true) → (∃ u, Lib.parseUint10 a d = .ok u) ∨ Lib.parseUint10 a d = .range := by
  induction d with
  | nil => intro a _; exact .inl ⟨a, by rw [Lib.parseUint10]⟩
  | cons c d ih =>
    intro a hd
    rw [Lib.parseUint10, if_pos (dig_iff.1 (hd c (List.mem_cons_self ..)))]
    split
    · exact .inr rfl
    · split
      · exact .inr rfl
      · exact ih _ fun x hx => hd x (List.mem_cons_of_mem _ hx)
theorem mag_ne {d : List UInt8} (h0 : d ≠ []) (hd : ∀ c ∈ d, dig c = true) : (∃ u, Lib.parseMag d = .ok u) ∨ Lib.parseMag d = .range := by
  unfold Lib.parseMag
  rw [if_neg h0]
  exact pu_ne d 0 hd
theorem badN_digit {below : Bool} {l : List UInt8} (h : ¬ badN (numS below l)) : (∃ v, Lib.atoiAll (numS below l) = .ok v) ∨ Lib.atoiAll (numS below l) = .range := by
  have key : ∀ (neg : Prop) [Decidable neg] (u : Nat), (∃ v, (if ¬ neg ∧ 9223372036854775808 ≤ u then Lib.NumEnd.range else if neg ∧ 9223372036854775808 < u then .range else .ok (if neg then -(u : Int) else u)) = .ok v) ∨
      (if ¬ neg ∧ 9223372036854775808 ≤ u then Lib.NumEnd.range else if neg ∧ 9223372036854775808 < u then .range else .ok (if neg then -(u : Int) else u)) = .range := fun neg _ u => by
    split
    · exact .inr rfl
    · split
      · exact .inr rfl
      · exact .inl ⟨_, rfl⟩
  obtain ⟨d, hd, hs | ⟨hs, _⟩⟩ := numS_cases below l
  · rw [hs] at h ⊢
    cases d with
    | nil => exact absurd (.inl rfl) h
    | cons c d =>
      have hc := not45 (hd c (List.mem_cons_self ..))
      unfold Lib.atoiAll
      simp only
      rw [if_neg hc.2]
      rcases mag_ne (by simp) hd with ⟨u, hu⟩ | hu
      · rw [hu]; exact key _ u
      · rw [hu]; exact .inr rfl
  · rw [hs] at h ⊢
    unfold Lib.atoiAll
    simp only
    rw [if_pos (.inr rfl)]
    rcases mag_ne (fun hn => h (.inr (.inl (by rw [hn])))) hd with ⟨u, hu⟩ | hu
    · rw [hu]; exact key _ u
    · rw [hu]; exact .inr rfl
theorem number_ (p : Nat) (a : Option Addr) (s : List UInt8) (c : Nat) (hsc : s.length ≤ c) (i : Nat) (below : Bool) (k : UInt8) (W : World) (F : Nat → Prop) (hS : St W F [Rdr p a s.length c i 0] W) (hb : Ro W F (bytes a s)) (hl : s.length ≤ 1099511627776) (hi : i ≤ s.length) (hG : Lg W F) :
    Calls Tryz.prog 279 #[.pointer (some ⟨p, 0, none⟩), .bool below, .int .u8 (k.toNat : Int)] W (Ret fun v w => NumRes p a s c W F (num below k (s.drop i)) v w) := by
  have hdg := digits_ p a s c hsc i 0 below
  have hT := numS_take below (s.drop i)
  have hTl := numS_le below (s.drop i)
  have hsy := badN_digit (below := below) (l := s.drop i)
  unfold num
  generalize numS below (s.drop i) = T at hdg hT hTl hsy ⊢
  rw [List.length_drop] at hTl
  have hz := str_size T
  have hTl' : i + T.length ≤ s.length := by omega
  rw [List.drop_drop]
  refine calls_C Tryz.func279 rfl Tryz.ntmps279 rfl ?_
  repeat (first | (refine G_id ?_; first | refine G_nil ?_ | refine G_plain rfl rfl ?_) | (refine X_id ?_; first | refine X_yl (Yl_move rfl rfl) rfl rfl ?_ | refine X_yl (Yl_assign rfl rfl) rfl rfl ?_) | (refine C_id ?_; first | refine C_seq ?_ | refine C_region ?_) | (refine E_id ?_; first | refine E_code ?_))
  obtain ⟨_, hc, hr, hw, hbk⟩ := hS.call [true]
  refine X_callg _ rfl rfl rfl rfl rfl (hdg _ _ hc (hw _ hb) hl hi) ?_
  rintro _ w ⟨rfl, hS⟩
  replace hS := hbk hS
  clear hc hr hw hbk
  repeat (first | (refine G_id ?_; first | refine G_nil ?_ | refine G_plain rfl rfl ?_) | (refine X_id ?_; first | refine X_yl (Yl_move rfl rfl) rfl rfl ?_ | refine X_yl (Yl_assign rfl rfl) rfl rfl ?_ | refine X_yl (Yl_nilCheck rfl rfl) rfl rfl ?_ | refine X_yl (Yl_fieldAddr0 rfl rfl rfl) rfl rfl ?_) | (refine C_id ?_; first | refine C_seq ?_ | refine C_region ?_) | (refine E_id ?_; first | refine E_code ?_))
  have hm := more_ p a s.length c (i + T.length) 0
  by_cases hlt : i + T.length < s.length
  · simp only [decide_eq_true hlt] at hm
    refine X_callq 274 rfl rfl rfl rfl rfl hS (hm _ (hS.rd (List.mem_cons_self ..))) ?_
    rintro _ w rfl hS
    have hdr := List.drop_eq_getElem_cons hlt
    generalize hx0 : s[i + T.length] = x at hdr
    have hx : s[i + T.length]? = some x := by rw [List.getElem?_eq_getElem hlt, hx0]
    rw [hdr]
    simp only
    have hq := is_ p a s c (i + T.length) 0 k
    refine G_plain rfl rfl ?_
    refine X_yl (Yl_not_t rfl rfl) rfl rfl ?_
    refine G_nil ?_
    refine E_code ?_
    refine C_cond_f rfl ?_
    refine C_skip ?_
    refine E_code ?_
    refine C_seq ?_
    refine C_seq ?_
    refine C_join (α := Bool) (fun b => [(0, .pointer (some ⟨p, 0, none⟩)), (2, .int .u8 (k.toNat : Int)), (7, .string (str T)), (57, .bool b)]) (fun b w => (b = true ↔ badN T ∨ x ≠ k) ∧ St W F [Rdr p a s.length c (i + T.length) 0] w) ?_ ?_
    · by_cases h1 : T = []
      · repeat (first | (refine G_id ?_; first | refine G_nil ?_ | refine G_plain rfl rfl ?_ | refine G_no rfl rfl rfl rfl rfl rfl ?_ | refine G_no_undef rfl rfl rfl rfl rfl ?_) | (refine X_id ?_; first | refine X_yl (Yl_move rfl rfl) rfl rfl ?_ | refine X_yl (Yl_pick_t rfl rfl rfl) rfl rfl ?_ | refine X_yl (Yl_eqlStrT rfl rfl rfl (by assumption)) rfl rfl ?_) | (refine C_id ?_; first | refine C_region ?_))
        exact E_mid true ⟨rfl, rfl, rfl, rfl, trivial⟩ ⟨⟨fun _ => .inl (.inl h1), fun _ => rfl⟩, hS⟩
      · by_cases h2 : T = [45]
        · repeat (first | (refine G_id ?_; first | refine G_nil ?_ | refine G_plain rfl rfl ?_ | refine G_yes rfl rfl rfl rfl ?_ | refine G_no rfl rfl rfl rfl rfl rfl ?_ | refine G_no_undef rfl rfl rfl rfl rfl ?_) | (refine X_id ?_; first | refine X_yl (Yl_move rfl rfl) rfl rfl ?_ | refine X_yl (Yl_pick_t rfl rfl rfl) rfl rfl ?_ | refine X_yl (Yl_pick_f rfl rfl rfl) rfl rfl ?_ | refine X_yl (Yl_eqlStrT rfl rfl rfl (by assumption)) rfl rfl ?_ | refine X_yl (Yl_eqlStrF rfl rfl rfl (by assumption)) rfl rfl ?_) | (refine C_id ?_; first | refine C_region ?_))
          exact E_mid true ⟨rfl, rfl, rfl, rfl, trivial⟩ ⟨⟨fun _ => .inl (.inr (.inl h2)), fun _ => rfl⟩, hS⟩
        · by_cases h3 : T = [45, 48]
          · repeat (first | (refine G_id ?_; first | refine G_nil ?_ | refine G_plain rfl rfl ?_ | refine G_yes rfl rfl rfl rfl ?_ | refine G_no rfl rfl rfl rfl rfl rfl ?_ | refine G_no_undef rfl rfl rfl rfl rfl ?_) | (refine X_id ?_; first | refine X_yl (Yl_move rfl rfl) rfl rfl ?_ | refine X_yl (Yl_pick_t rfl rfl rfl) rfl rfl ?_ | refine X_yl (Yl_pick_f rfl rfl rfl) rfl rfl ?_ | refine X_yl (Yl_eqlStrT rfl rfl rfl (by assumption)) rfl rfl ?_ | refine X_yl (Yl_eqlStrF rfl rfl rfl (by assumption)) rfl rfl ?_) | (refine C_id ?_; first | refine C_region ?_))
            exact E_mid true ⟨rfl, rfl, rfl, rfl, trivial⟩ ⟨⟨fun _ => .inl (.inr (.inr (.inl h3))), fun _ => rfl⟩, hS⟩
          · obtain ⟨t, r, ht⟩ : ∃ t r, T = t :: r := by
              cases T with
              | nil => exact absurd rfl h1
              | cons t r => exact ⟨t, r, rfl⟩
            have ht0 : T[(0 : Int).toNat]? = some t := by rw [ht]; rfl
            have hth : T.head? = some t := by rw [ht]; rfl
            by_cases h4 : (t.toNat : Int) = 48 ∧ 1 < T.length
            · obtain ⟨h4, h5⟩ := h4
              repeat (first | (refine G_id ?_; first | refine G_nil ?_ | refine G_plain rfl rfl ?_ | refine G_yes rfl rfl rfl rfl ?_ | refine G_no rfl rfl rfl rfl rfl rfl ?_ | refine G_no_undef rfl rfl rfl rfl rfl ?_) | (refine X_id ?_; first | refine X_yl (Yl_move rfl rfl) rfl rfl ?_ | refine X_yl (Yl_pick_t rfl rfl rfl) rfl rfl ?_ | refine X_yl (Yl_pick_f rfl rfl rfl) rfl rfl ?_ | refine X_yl (Yl_len_str rfl rfl) rfl rfl ?_ | refine X_yl (Yl_eql_t rfl rfl rfl (by omega)) rfl rfl ?_ | refine X_yl (Yl_gtr_t rfl rfl rfl (by omega)) rfl rfl ?_ | refine X_yl (Yl_eqlStrF rfl rfl rfl (by assumption)) rfl rfl ?_ | refine X_yl (Yl_indexStr rfl rfl rfl (by omega) (by assumption)) rfl rfl ?_) | (refine C_id ?_; first | refine C_region ?_))
              refine E_mid true ⟨rfl, rfl, rfl, rfl, trivial⟩ ⟨⟨fun _ => .inl (.inr (.inr (.inr (.inl ⟨?_, h5⟩)))), fun _ => rfl⟩, hS⟩
              rw [hth, show t = 48 from UInt8.toNat_inj.1 (by have : (48 : UInt8).toNat = 48 := rfl; omega)]
            · by_cases h6 : 2 < T.length ∧ List.take (2 - 0) (List.drop 0 T) = [45, 48]
              · obtain ⟨h6, h7⟩ := h6
                have h4' : ¬ (t.toNat : Int) = 48 := fun h => h4 ⟨h, by omega⟩
                repeat (first | (refine G_id ?_; first | refine G_nil ?_ | refine G_plain rfl rfl ?_ | refine G_yes rfl rfl rfl rfl ?_ | refine G_no rfl rfl rfl rfl rfl rfl ?_) | (refine X_id ?_; first | refine X_yl (Yl_move rfl rfl) rfl rfl ?_ | refine X_yl (Yl_pick_t rfl rfl rfl) rfl rfl ?_ | refine X_yl (Yl_pick_f rfl rfl rfl) rfl rfl ?_ | refine X_yl (Yl_len_str rfl rfl) rfl rfl ?_ | refine X_yl (Yl_eql_f rfl rfl rfl (by omega)) rfl rfl ?_ | refine X_yl (Yl_gtr_t rfl rfl rfl (by omega)) rfl rfl ?_ | refine X_yl (Yl_eqlStrT rfl rfl rfl (by assumption)) rfl rfl ?_ | refine X_yl (Yl_eqlStrF rfl rfl rfl (by assumption)) rfl rfl ?_ | refine X_yl (Yl_indexStr rfl rfl rfl (by omega) (by assumption)) rfl rfl ?_ | refine X_yl (Yl_sliceStr rfl rfl rfl rfl (.inr ⟨_, _, rfl, by omega, rfl, by omega⟩) (.inl ⟨rfl, rfl⟩)) rfl rfl ?_) | (refine C_id ?_; first | refine C_region ?_))
                exact E_mid true ⟨rfl, rfl, rfl, rfl, trivial⟩ ⟨⟨fun _ => .inl (.inr (.inr (.inr (.inr ⟨h6, by simpa using h7⟩)))), fun _ => rfl⟩, hS⟩
              · have hgood : ¬ badN T := by
                  rintro (h | h | h | ⟨h, h'⟩ | ⟨h, h'⟩)
                  · exact h1 h
                  · exact h2 h
                  · exact h3 h
                  · rw [hth] at h
                    exact h4 ⟨by rw [Option.some.inj h]; rfl, h'⟩
                  · exact h6 ⟨h, by simpa using h'⟩
                have hcase : (¬ (t.toNat : Int) = 48 ∧ 2 < T.length ∧ ¬ List.take (2 - 0) (List.drop 0 T) = [45, 48]) ∨ (¬ (t.toNat : Int) = 48 ∧ ¬ 2 < T.length) ∨ ((t.toNat : Int) = 48 ∧ ¬ 1 < T.length) := by
                  by_cases q : (t.toNat : Int) = 48
                  · exact .inr (.inr ⟨q, fun h => h4 ⟨q, h⟩⟩)
                  · by_cases q2 : 2 < T.length
                    · exact .inl ⟨q, q2, fun h => h6 ⟨q2, h⟩⟩
                    · exact .inr (.inl ⟨q, q2⟩)
                have hlen : 1 ≤ T.length := by rw [ht]; simp
                clear ht hth
                by_cases hxk : s[i + T.length]? = some k
                · have hxe : x = k := by rw [hx] at hxk; exact Option.some.inj hxk
                  simp only [decide_eq_true hxk] at hq
                  rcases hcase with ⟨q1, q2, q3⟩ | ⟨q1, q2⟩ | ⟨q1, q2⟩
                  all_goals
                    repeat (first | (refine G_id ?_; first | refine G_nil ?_ | refine G_plain rfl rfl ?_ | refine G_yes rfl rfl rfl rfl ?_ | refine G_no rfl rfl rfl rfl rfl rfl ?_) | (refine X_id ?_; first | (refine X_callq 276 rfl rfl rfl rfl rfl hS (hq _ (hS.rd (List.mem_cons_self ..)) (hb.rd hS)) ?_; rintro _ _ rfl hS) | refine X_yl (Yl_move rfl rfl) rfl rfl ?_ | refine X_yl (Yl_nilCheck rfl rfl) rfl rfl ?_ | refine X_yl (Yl_fieldAddr0 rfl rfl rfl) rfl rfl ?_ | refine X_yl (Yl_pick_t rfl rfl rfl) rfl rfl ?_ | refine X_yl (Yl_pick_f rfl rfl rfl) rfl rfl ?_ | refine X_yl (Yl_not_t rfl rfl) rfl rfl ?_ | refine X_yl (Yl_len_str rfl rfl) rfl rfl ?_ | refine X_yl (Yl_eql_t rfl rfl rfl (by omega)) rfl rfl ?_ | refine X_yl (Yl_eql_f rfl rfl rfl (by omega)) rfl rfl ?_ | refine X_yl (Yl_gtr_t rfl rfl rfl (by omega)) rfl rfl ?_ | refine X_yl (Yl_gtr_f rfl rfl rfl (by omega)) rfl rfl ?_ | refine X_yl (Yl_eqlStrF rfl rfl rfl (by assumption)) rfl rfl ?_ | refine X_yl (Yl_indexStr rfl rfl rfl (by omega) (by assumption)) rfl rfl ?_ | refine X_yl (Yl_sliceStr rfl rfl rfl rfl (.inr ⟨_, _, rfl, by omega, rfl, by omega⟩) (.inl ⟨rfl, rfl⟩)) rfl rfl ?_) | (refine C_id ?_; first | refine C_region ?_))
                    exact E_mid false ⟨rfl, rfl, rfl, rfl, trivial⟩ ⟨⟨fun h => (Bool.noConfusion h), fun h => (h.elim hgood (fun q => q hxe)).elim⟩, hS⟩
                · have hxe : x ≠ k := fun h => hxk (by rw [hx, h])
                  simp only [decide_eq_false hxk] at hq
                  rcases hcase with ⟨q1, q2, q3⟩ | ⟨q1, q2⟩ | ⟨q1, q2⟩
                  all_goals
                    repeat (first | (refine G_id ?_; first | refine G_nil ?_ | refine G_plain rfl rfl ?_ | refine G_yes rfl rfl rfl rfl ?_ | refine G_no rfl rfl rfl rfl rfl rfl ?_) | (refine X_id ?_; first | (refine X_callq 276 rfl rfl rfl rfl rfl hS (hq _ (hS.rd (List.mem_cons_self ..)) (hb.rd hS)) ?_; rintro _ _ rfl hS) | refine X_yl (Yl_move rfl rfl) rfl rfl ?_ | refine X_yl (Yl_nilCheck rfl rfl) rfl rfl ?_ | refine X_yl (Yl_fieldAddr0 rfl rfl rfl) rfl rfl ?_ | refine X_yl (Yl_pick_t rfl rfl rfl) rfl rfl ?_ | refine X_yl (Yl_pick_f rfl rfl rfl) rfl rfl ?_ | refine X_yl (Yl_not_f rfl rfl) rfl rfl ?_ | refine X_yl (Yl_len_str rfl rfl) rfl rfl ?_ | refine X_yl (Yl_eql_t rfl rfl rfl (by omega)) rfl rfl ?_ | refine X_yl (Yl_eql_f rfl rfl rfl (by omega)) rfl rfl ?_ | refine X_yl (Yl_gtr_t rfl rfl rfl (by omega)) rfl rfl ?_ | refine X_yl (Yl_gtr_f rfl rfl rfl (by omega)) rfl rfl ?_ | refine X_yl (Yl_eqlStrF rfl rfl rfl (by assumption)) rfl rfl ?_ | refine X_yl (Yl_indexStr rfl rfl rfl (by omega) (by assumption)) rfl rfl ?_ | refine X_yl (Yl_sliceStr rfl rfl rfl rfl (.inr ⟨_, _, rfl, by omega, rfl, by omega⟩) (.inl ⟨rfl, rfl⟩)) rfl rfl ?_) | (refine C_id ?_; first | refine C_region ?_))
                    exact E_mid true ⟨rfl, rfl, rfl, rfl, trivial⟩ ⟨⟨fun _ => .inr hxe, fun _ => rfl⟩, hS⟩
    · clear hS
      rintro bad w ⟨hbad, hS⟩
      cases bad with
      | true =>
        rw [if_pos (hbad.1 rfl)]
        repeat (first | (refine G_id ?_; first | refine G_plain rfl rfl ?_) | (refine X_id ?_; first | refine X_yl (Yl_move rfl rfl) rfl rfl ?_) | (refine C_id ?_; first | refine C_seq ?_ | refine C_region ?_ | refine C_cond_t rfl ?_))
        obtain ⟨_, hc, hr, hw, hbk⟩ := hS.call [true]
        refine X_callg _ rfl rfl rfl rfl rfl (wrong_ p a s.length c (i + T.length) 0 3 _ _ hc) ?_
        rintro _ w ⟨rfl, hS⟩
        replace hS := hbk hS
        clear hc hr hw hbk
        repeat (first | (refine G_id ?_; first | refine G_nil ?_ | refine G_plain rfl rfl ?_) | (refine X_id ?_; first | refine X_yl (Yl_assign rfl rfl) rfl rfl ?_) | (refine C_id ?_; first | refine C_seq ?_ | refine C_region ?_ | refine C_ret ?_) | (refine E_id ?_; first | refine E_code ?_ | refine E_then_ret ?_ | refine E_ret1 rfl (Rv_tmp rfl) (Ret.mk ?_)))
        exact ⟨rfl, _, 3, hTl', by decide, hS⟩
      | false =>
        have hgood : ¬ (badN T ∨ x ≠ k) := fun h => by have := hbad.2 h; cases this
        rw [if_neg hgood]
        have hxk : x = k := Decidable.not_not.1 fun h => hgood (.inr h)
        have hsyn := hsy (fun h => hgood (.inl h))
        repeat (first | (refine G_id ?_; first | refine G_plain rfl rfl ?_) | (refine X_id ?_; first | refine X_yl (Yl_move rfl rfl) rfl rfl ?_) | (refine C_id ?_; first | refine C_seq ?_ | refine C_region ?_ | refine C_skip ?_ | refine C_cond_f rfl ?_) | (refine E_id ?_; first | refine E_code ?_))
        refine X_callq 308 rfl rfl rfl rfl rfl hS (atoi_ T _ _ (hG.at_ hS) (by omega) hsyn) ?_
        rintro _ w ⟨n, er, rfl, hres⟩ hS
        rcases hres with ⟨hn, rfl⟩ | ⟨hn, t, pp, rfl⟩
        · rw [hn]
          repeat (first | (refine G_id ?_; first | refine G_nil ?_ | refine G_plain rfl rfl ?_) | (refine X_id ?_; first | refine X_yl (Yl_move rfl rfl) rfl rfl ?_ | refine X_yl (Yl_assign rfl rfl) rfl rfl ?_ | refine X_yl (Yl_extract rfl rfl) rfl rfl ?_ | refine X_yl (Yl_neqIfNil rfl rfl) rfl rfl ?_) | (refine C_id ?_; first | refine C_seq ?_ | refine C_region ?_ | refine C_skip ?_ | refine C_cond_f rfl ?_) | (refine E_id ?_; first | refine E_code ?_))
          obtain ⟨_, hc, hr, hw, hbk⟩ := hS.call [true]
          refine X_callg _ rfl rfl rfl rfl rfl (take_ p a s c (i + T.length) 0 k _ _ hc (hw _ hb) hl) ?_
          rintro _ w ⟨rfl, hS⟩
          replace hS := hbk hS
          clear hc hr hw hbk
          repeat (first | (refine G_id ?_; first | refine G_nil ?_ | refine G_plain rfl rfl ?_) | (refine X_id ?_; first | refine X_yl (Yl_move rfl rfl) rfl rfl ?_ | refine X_yl (Yl_assign rfl rfl) rfl rfl ?_) | (refine C_id ?_; first | refine C_seq ?_ | refine C_region ?_ | refine C_ret ?_) | (refine E_id ?_; first | refine E_code ?_ | refine E_ret1 rfl (Rv_tmp rfl) (Ret.mk ?_)))
          rw [show takeP s (i + T.length) 0 k = (i + T.length + 1, 0) by unfold takeP; rw [if_neg (by simp), if_neg (by simpa using hlt), if_pos (by rw [hx, hxk])]] at hS
          exact ⟨rfl, _, by omega, rfl, hS⟩
        · rw [hn]
          repeat (first | (refine G_id ?_; first | refine G_nil ?_ | refine G_plain rfl rfl ?_) | (refine X_id ?_; first | refine X_yl (Yl_move rfl rfl) rfl rfl ?_ | refine X_yl (Yl_assign rfl rfl) rfl rfl ?_ | refine X_yl (Yl_extract rfl rfl) rfl rfl ?_ | refine X_yl (Yl_neqIfSome rfl rfl rfl) rfl rfl ?_) | (refine C_id ?_; first | refine C_seq ?_ | refine C_region ?_ | refine C_cond_t rfl ?_) | (refine E_id ?_; first | refine E_code ?_))
          obtain ⟨_, hc, hr, hw, hbk⟩ := hS.call [true]
          refine X_callg _ rfl rfl rfl rfl rfl (wrong_ p a s.length c (i + T.length) 0 2 _ _ hc) ?_
          rintro _ w ⟨rfl, hS⟩
          replace hS := hbk hS
          clear hc hr hw hbk
          repeat (first | (refine G_id ?_; first | refine G_nil ?_ | refine G_plain rfl rfl ?_) | (refine X_id ?_; first | refine X_yl (Yl_assign rfl rfl) rfl rfl ?_) | (refine C_id ?_; first | refine C_seq ?_ | refine C_region ?_ | refine C_ret ?_) | (refine E_id ?_; first | refine E_code ?_ | refine E_then_ret ?_ | refine E_ret1 rfl (Rv_tmp rfl) (Ret.mk ?_)))
          exact ⟨rfl, _, 2, hTl', by decide, hS⟩
  · simp only [decide_eq_false hlt] at hm
    rw [List.drop_of_length_le (by omega)]
    repeat (first | (refine G_id ?_; first | refine G_nil ?_ | refine G_plain rfl rfl ?_) | (refine X_id ?_; first | (refine X_callq 274 rfl rfl rfl rfl rfl hS (hm _ (hS.rd (List.mem_cons_self ..))) ?_; rintro _ _ rfl hS) | refine X_yl (Yl_move rfl rfl) rfl rfl ?_ | refine X_yl (Yl_not_f rfl rfl) rfl rfl ?_) | (refine C_id ?_; first | refine C_seq ?_ | refine C_region ?_ | refine C_cond_t rfl ?_) | (refine E_id ?_; first | refine E_code ?_))
    obtain ⟨_, hc, hr, hw, hbk⟩ := hS.call [true]
    refine X_callg _ rfl rfl rfl rfl rfl (wrong_ p a s.length c (i + T.length) 0 4 _ _ hc) ?_
    rintro _ w ⟨rfl, hS⟩
    replace hS := hbk hS
    clear hc hr hw hbk
    repeat (first | (refine G_id ?_; first | refine G_nil ?_ | refine G_plain rfl rfl ?_) | (refine X_id ?_; first | refine X_yl (Yl_assign rfl rfl) rfl rfl ?_) | (refine C_id ?_; first | refine C_seq ?_ | refine C_region ?_ | refine C_ret ?_) | (refine E_id ?_; first | refine E_code ?_ | refine E_then_ret ?_ | refine E_ret1 rfl (Rv_tmp rfl) (Ret.mk ?_)))
    exact ⟨rfl, _, 4, hTl', by decide, hS⟩
end Cr
