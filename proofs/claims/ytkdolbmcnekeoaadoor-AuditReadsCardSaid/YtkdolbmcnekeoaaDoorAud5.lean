/-
  Package codec: a reader takes a number and the byte behind it.
  Package codec: a reader reads a list, given that it reads values.
  Package codec: a reader reads a value: the parse in plain words (pv) is what it does.
  Package codec: Next and Decode: what bytes say (dec).
  Arrays of strings, structs of strings and numbers, errors that may be nil: compared. Over any program.
  audit.Check: what is wrong with a record (rchk); strings.Fields and slices.Contains off the shelf.
  The wrap of layer 27's laws: what their rows list, a world for a witness.
-/
import Derived.Test.YtkdolbmcnekeoaaDoorAud4
import Derived.Test.YtkdolbmcnekeoaaDoorAud2
import Derived.Laws.StructEq
import Derived.Test.YtkdolbmcnekeoaaDoorAud3
import Derived.Deep.DeepWitnessRowRef
namespace Cr
open Go Go.Proofs
set_option maxRecDepth 100000
set_option maxHeartbeats 4000000
attribute [local irreducible] Calls

/-- What number tells: the number, and where the reader stands; or that something is wrong. -/
def NumRes (p : Nat) (a : Option Addr) (s : List UInt8) (c : Nat) (W : World) (F : Nat → Prop) (r : Option (Int × List UInt8)) (v : Value) (w : World) : Prop :=
  match r with
  | some (n, t) => v = .int .i64 n ∧ ∃ i, i ≤ s.length ∧ s.drop i = t ∧ St W F [Rdr p a s.length c i 0] w
  | none => v = .int .i64 0 ∧ ∃ i e, i ≤ s.length ∧ e ≠ 0 ∧ St W F [Rdr p a s.length c i e] w
instance : Und Tryd.prog 146 (.interface #[("Error", 184)]) := ⟨Tryd.underlying146⟩
theorem Lg.at_ {W : World} {F : Nat → Prop} {rs : List Res} {w : World} (H : Lg W F) (hS : St W F rs w) : Lg w noF := by
  obtain ⟨h1, tp, p, h2⟩ := H
  exact ⟨(h1.rd hS).ro, tp, p, (h2.rd hS).ro⟩
theorem pu_ne (d : List UInt8) : ∀ a, (∀ c ∈ d, dig c = true) → (∃ u, Lib.parseUint10 a d = .ok u) ∨ Lib.parseUint10 a d = .range := by
  induction d with
  | nil => intro a _; exact .inl ⟨a, by rw [Lib.parseUint10]⟩
  | cons c d ih =>
    intro a hd
    rw [Lib.parseUint10, if_pos (dig_iff.1 (hd c (List.mem_cons_self ..)))]
    split
    · exact .inr rfl
    · split
      · exact .inr rfl
      · exact ih _ fun x hx => hd x (List.mem_cons_of_mem _ hx)
theorem mag_ne {d : List UInt8} (h0 : d ≠ []) (hd : ∀ c ∈ d, dig c = true) : (∃ u, Lib.parseMag d = .ok u) ∨ Lib.parseMag d = .range := by
  unfold Lib.parseMag
  rw [if_neg h0]
  exact pu_ne d 0 hd
theorem badN_digit {below : Bool} {l : List UInt8} (h : ¬ badN (numS below l)) : (∃ v, Lib.atoiAll (numS below l) = .ok v) ∨ Lib.atoiAll (numS below l) = .range := by
  have key : ∀ (neg : Prop) [Decidable neg] (u : Nat), (∃ v, (if ¬ neg ∧ 9223372036854775808 ≤ u then Lib.NumEnd.range else if neg ∧ 9223372036854775808 < u then .range else .ok (if neg then -(u : Int) else u)) = .ok v) ∨
      (if ¬ neg ∧ 9223372036854775808 ≤ u then Lib.NumEnd.range else if neg ∧ 9223372036854775808 < u then .range else .ok (if neg then -(u : Int) else u)) = .range := fun neg _ u => by
    split
    · exact .inr rfl
    · split
      · exact .inr rfl
      · exact .inl ⟨_, rfl⟩
  obtain ⟨d, hd, hs | ⟨hs, _⟩⟩ := numS_cases below l
  · rw [hs] at h ⊢
    cases d with
    | nil => exact absurd (.inl rfl) h
    | cons c d =>
      have hc := not45 (hd c (List.mem_cons_self ..))
      unfold Lib.atoiAll
      simp only
      rw [if_neg hc.2]
      rcases mag_ne (by simp) hd with ⟨u, hu⟩ | hu
      · rw [hu]; exact key _ u
      · rw [hu]; exact .inr rfl
  · rw [hs] at h ⊢
    unfold Lib.atoiAll
    simp only
    rw [if_pos (.inr rfl)]
    rcases mag_ne (fun hn => h (.inr (.inl (by rw [hn])))) hd with ⟨u, hu⟩ | hu
    · rw [hu]; exact key _ u
    · rw [hu]; exact .inr rfl
theorem number_ (p : Nat) (a : Option Addr) (s : List UInt8) (c : Nat) (hsc : s.length ≤ c) (i : Nat) (below : Bool) (k : UInt8) (W : World) (F : Nat → Prop) (hS : St W F [Rdr p a s.length c i 0] W) (hb : Ro W F (bytes a s)) (hl : s.length ≤ 1099511627776) (hi : i ≤ s.length) (hG : Lg W F) :
    Calls Tryd.prog 71 #[.pointer (some ⟨p, 0, none⟩), .bool below, .int .u8 (k.toNat : Int)] W (Ret fun v w => NumRes p a s c W F (num below k (s.drop i)) v w) := by
  have hdg := digits_ p a s c hsc i 0 below
  have hT := numS_take below (s.drop i)
  have hTl := numS_le below (s.drop i)
  have hsy := badN_digit (below := below) (l := s.drop i)
  unfold num
  generalize numS below (s.drop i) = T at hdg hT hTl hsy ⊢
  rw [List.length_drop] at hTl
  have hz := str_size T
  have hTl' : i + T.length ≤ s.length := by omega
  rw [List.drop_drop]
  refine calls_C Tryd.func71 rfl Tryd.ntmps71 rfl ?_
  repeat (first | (refine G_id ?_; first | refine G_nil ?_ | refine G_plain rfl rfl ?_) | (refine X_id ?_; first | refine X_yl (Yl_move rfl rfl) rfl rfl ?_ | refine X_yl (Yl_assign rfl rfl) rfl rfl ?_) | (refine C_id ?_; first | refine C_seq ?_ | refine C_region ?_) | (refine E_id ?_; first | refine E_code ?_))
  obtain ⟨_, hc, hr, hw, hbk⟩ := hS.call [true]
  refine X_callg _ rfl rfl rfl rfl rfl (hdg _ _ hc (hw _ hb) hl hi) ?_
  rintro _ w ⟨rfl, hS⟩
  replace hS := hbk hS
  clear hc hr hw hbk
  repeat (first | (refine G_id ?_; first | refine G_nil ?_ | refine G_plain rfl rfl ?_) | (refine X_id ?_; first | refine X_yl (Yl_move rfl rfl) rfl rfl ?_ | refine X_yl (Yl_assign rfl rfl) rfl rfl ?_ | refine X_yl (Yl_nilCheck rfl rfl) rfl rfl ?_ | refine X_yl (Yl_fieldAddr0 rfl rfl rfl) rfl rfl ?_) | (refine C_id ?_; first | refine C_seq ?_ | refine C_region ?_) | (refine E_id ?_; first | refine E_code ?_))
  have hm := more_ p a s.length c (i + T.length) 0
  by_cases hlt : i + T.length < s.length
  · simp only [decide_eq_true hlt] at hm
    refine X_callq 66 rfl rfl rfl rfl rfl hS (hm _ (hS.rd (List.mem_cons_self ..))) ?_
    rintro _ w rfl hS
    have hdr := List.drop_eq_getElem_cons hlt
    generalize hx0 : s[i + T.length] = x at hdr
    have hx : s[i + T.length]? = some x := by rw [List.getElem?_eq_getElem hlt, hx0]
    rw [hdr]
    simp only
    have hq := is_ p a s c (i + T.length) 0 k
    refine G_plain rfl rfl ?_
    refine X_yl (Yl_not_t rfl rfl) rfl rfl ?_
    refine G_nil ?_
    refine E_code ?_
    refine C_cond_f rfl ?_
    refine C_skip ?_
    refine E_code ?_
    refine C_seq ?_
    refine C_seq ?_
    refine C_join (α := Bool) (fun b => [(0, .pointer (some ⟨p, 0, none⟩)), (2, .int .u8 (k.toNat : Int)), (7, .string (str T)), (57, .bool b)]) (fun b w => (b = true ↔ badN T ∨ x ≠ k) ∧ St W F [Rdr p a s.length c (i + T.length) 0] w) ?_ ?_
    · by_cases h1 : T = []
      · repeat (first | (refine G_id ?_; first | refine G_nil ?_ | refine G_plain rfl rfl ?_ | refine G_no rfl rfl rfl rfl rfl rfl ?_ | refine G_no_undef rfl rfl rfl rfl rfl ?_) | (refine X_id ?_; first | refine X_yl (Yl_move rfl rfl) rfl rfl ?_ | refine X_yl (Yl_pick_t rfl rfl rfl) rfl rfl ?_ | refine X_yl (Yl_eqlStrT rfl rfl rfl (by assumption)) rfl rfl ?_) | (refine C_id ?_; first | refine C_region ?_))
        exact E_mid true ⟨rfl, rfl, rfl, rfl, trivial⟩ ⟨⟨fun _ => .inl (.inl h1), fun _ => rfl⟩, hS⟩
      · by_cases h2 : T = [45]
        · repeat (first | (refine G_id ?_; first | refine G_nil ?_ | refine G_plain rfl rfl ?_ | refine G_yes rfl rfl rfl rfl ?_ | refine G_no rfl rfl rfl rfl rfl rfl ?_ | refine G_no_undef rfl rfl rfl rfl rfl ?_) | (refine X_id ?_; first | refine X_yl (Yl_move rfl rfl) rfl rfl ?_ | refine X_yl (Yl_pick_t rfl rfl rfl) rfl rfl ?_ | refine X_yl (Yl_pick_f rfl rfl rfl) rfl rfl ?_ | refine X_yl (Yl_eqlStrT rfl rfl rfl (by assumption)) rfl rfl ?_ | refine X_yl (Yl_eqlStrF rfl rfl rfl (by assumption)) rfl rfl ?_) | (refine C_id ?_; first | refine C_region ?_))
          exact E_mid true ⟨rfl, rfl, rfl, rfl, trivial⟩ ⟨⟨fun _ => .inl (.inr (.inl h2)), fun _ => rfl⟩, hS⟩
        · by_cases h3 : T = [45, 48]
          · repeat (first | (refine G_id ?_; first | refine G_nil ?_ | refine G_plain rfl rfl ?_ | refine G_yes rfl rfl rfl rfl ?_ | refine G_no rfl rfl rfl rfl rfl rfl ?_ | refine G_no_undef rfl rfl rfl rfl rfl ?_) | (refine X_id ?_; first | refine X_yl (Yl_move rfl rfl) rfl rfl ?_ | refine X_yl (Yl_pick_t rfl rfl rfl) rfl rfl ?_ | refine X_yl (Yl_pick_f rfl rfl rfl) rfl rfl ?_ | refine X_yl (Yl_eqlStrT rfl rfl rfl (by assumption)) rfl rfl ?_ | refine X_yl (Yl_eqlStrF rfl rfl rfl (by assumption)) rfl rfl ?_) | (refine C_id ?_; first | refine C_region ?_))
            exact E_mid true ⟨rfl, rfl, rfl, rfl, trivial⟩ ⟨⟨fun _ => .inl (.inr (.inr (.inl h3))), fun _ => rfl⟩, hS⟩
          · obtain ⟨t, r, ht⟩ : ∃ t r, T = t :: r := by
              cases T with
              | nil => exact absurd rfl h1
              | cons t r => exact ⟨t, r, rfl⟩
            have ht0 : T[(0 : Int).toNat]? = some t := by rw [ht]; rfl
            have hth : T.head? = some t := by rw [ht]; rfl
            by_cases h4 : (t.toNat : Int) = 48 ∧ 1 < T.length
            · obtain ⟨h4, h5⟩ := h4
              repeat (first | (refine G_id ?_; first | refine G_nil ?_ | refine G_plain rfl rfl ?_ | refine G_yes rfl rfl rfl rfl ?_ | refine G_no rfl rfl rfl rfl rfl rfl ?_ | refine G_no_undef rfl rfl rfl rfl rfl ?_) | (refine X_id ?_; first | refine X_yl (Yl_move rfl rfl) rfl rfl ?_ | refine X_yl (Yl_pick_t rfl rfl rfl) rfl rfl ?_ | refine X_yl (Yl_pick_f rfl rfl rfl) rfl rfl ?_ | refine X_yl (Yl_len_str rfl rfl) rfl rfl ?_ | refine X_yl (Yl_eql_t rfl rfl rfl (by omega)) rfl rfl ?_ | refine X_yl (Yl_gtr_t rfl rfl rfl (by omega)) rfl rfl ?_ | refine X_yl (Yl_eqlStrF rfl rfl rfl (by assumption)) rfl rfl ?_ | refine X_yl (Yl_indexStr rfl rfl rfl (by omega) (by assumption)) rfl rfl ?_) | (refine C_id ?_; first | refine C_region ?_))
              refine E_mid true ⟨rfl, rfl, rfl, rfl, trivial⟩ ⟨⟨fun _ => .inl (.inr (.inr (.inr (.inl ⟨?_, h5⟩)))), fun _ => rfl⟩, hS⟩
              rw [hth, show t = 48 from UInt8.toNat_inj.1 (by have : (48 : UInt8).toNat = 48 := rfl; omega)]
            · by_cases h6 : 2 < T.length ∧ List.take (2 - 0) (List.drop 0 T) = [45, 48]
              · obtain ⟨h6, h7⟩ := h6
                have h4' : ¬ (t.toNat : Int) = 48 := fun h => h4 ⟨h, by omega⟩
                repeat (first | (refine G_id ?_; first | refine G_nil ?_ | refine G_plain rfl rfl ?_ | refine G_yes rfl rfl rfl rfl ?_ | refine G_no rfl rfl rfl rfl rfl rfl ?_) | (refine X_id ?_; first | refine X_yl (Yl_move rfl rfl) rfl rfl ?_ | refine X_yl (Yl_pick_t rfl rfl rfl) rfl rfl ?_ | refine X_yl (Yl_pick_f rfl rfl rfl) rfl rfl ?_ | refine X_yl (Yl_len_str rfl rfl) rfl rfl ?_ | refine X_yl (Yl_eql_f rfl rfl rfl (by omega)) rfl rfl ?_ | refine X_yl (Yl_gtr_t rfl rfl rfl (by omega)) rfl rfl ?_ | refine X_yl (Yl_eqlStrT rfl rfl rfl (by assumption)) rfl rfl ?_ | refine X_yl (Yl_eqlStrF rfl rfl rfl (by assumption)) rfl rfl ?_ | refine X_yl (Yl_indexStr rfl rfl rfl (by omega) (by assumption)) rfl rfl ?_ | refine X_yl (Yl_sliceStr rfl rfl rfl rfl (.inr ⟨_, _, rfl, by omega, rfl, by omega⟩) (.inl ⟨rfl, rfl⟩)) rfl rfl ?_) | (refine C_id ?_; first | refine C_region ?_))
                exact E_mid true ⟨rfl, rfl, rfl, rfl, trivial⟩ ⟨⟨fun _ => .inl (.inr (.inr (.inr (.inr ⟨h6, by simpa using h7⟩)))), fun _ => rfl⟩, hS⟩
              · have hgood : ¬ badN T := by
                  rintro (h | h | h | ⟨h, h'⟩ | ⟨h, h'⟩)
                  · exact h1 h
                  · exact h2 h
                  · exact h3 h
                  · rw [hth] at h
                    exact h4 ⟨by rw [Option.some.inj h]; rfl, h'⟩
                  · exact h6 ⟨h, by simpa using h'⟩
                have hcase : (¬ (t.toNat : Int) = 48 ∧ 2 < T.length ∧ ¬ List.take (2 - 0) (List.drop 0 T) = [45, 48]) ∨ (¬ (t.toNat : Int) = 48 ∧ ¬ 2 < T.length) ∨ ((t.toNat : Int) = 48 ∧ ¬ 1 < T.length) := by
                  by_cases q : (t.toNat : Int) = 48
                  · exact .inr (.inr ⟨q, fun h => h4 ⟨q, h⟩⟩)
                  · by_cases q2 : 2 < T.length
                    · exact .inl ⟨q, q2, fun h => h6 ⟨q2, h⟩⟩
                    · exact .inr (.inl ⟨q, q2⟩)
                have hlen : 1 ≤ T.length := by rw [ht]; simp
                clear ht hth
                by_cases hxk : s[i + T.length]? = some k
                · have hxe : x = k := by rw [hx] at hxk; exact Option.some.inj hxk
                  simp only [decide_eq_true hxk] at hq
                  rcases hcase with ⟨q1, q2, q3⟩ | ⟨q1, q2⟩ | ⟨q1, q2⟩
                  all_goals
                    repeat (first | (refine G_id ?_; first | refine G_nil ?_ | refine G_plain rfl rfl ?_ | refine G_yes rfl rfl rfl rfl ?_ | refine G_no rfl rfl rfl rfl rfl rfl ?_) | (refine X_id ?_; first | (refine X_callq 68 rfl rfl rfl rfl rfl hS (hq _ (hS.rd (List.mem_cons_self ..)) (hb.rd hS)) ?_; rintro _ _ rfl hS) | refine X_yl (Yl_move rfl rfl) rfl rfl ?_ | refine X_yl (Yl_nilCheck rfl rfl) rfl rfl ?_ | refine X_yl (Yl_fieldAddr0 rfl rfl rfl) rfl rfl ?_ | refine X_yl (Yl_pick_t rfl rfl rfl) rfl rfl ?_ | refine X_yl (Yl_pick_f rfl rfl rfl) rfl rfl ?_ | refine X_yl (Yl_not_t rfl rfl) rfl rfl ?_ | refine X_yl (Yl_len_str rfl rfl) rfl rfl ?_ | refine X_yl (Yl_eql_t rfl rfl rfl (by omega)) rfl rfl ?_ | refine X_yl (Yl_eql_f rfl rfl rfl (by omega)) rfl rfl ?_ | refine X_yl (Yl_gtr_t rfl rfl rfl (by omega)) rfl rfl ?_ | refine X_yl (Yl_gtr_f rfl rfl rfl (by omega)) rfl rfl ?_ | refine X_yl (Yl_eqlStrF rfl rfl rfl (by assumption)) rfl rfl ?_ | refine X_yl (Yl_indexStr rfl rfl rfl (by omega) (by assumption)) rfl rfl ?_ | refine X_yl (Yl_sliceStr rfl rfl rfl rfl (.inr ⟨_, _, rfl, by omega, rfl, by omega⟩) (.inl ⟨rfl, rfl⟩)) rfl rfl ?_) | (refine C_id ?_; first | refine C_region ?_))
                    exact E_mid false ⟨rfl, rfl, rfl, rfl, trivial⟩ ⟨⟨fun h => (Bool.noConfusion h), fun h => (h.elim hgood (fun q => q hxe)).elim⟩, hS⟩
                · have hxe : x ≠ k := fun h => hxk (by rw [hx, h])
                  simp only [decide_eq_false hxk] at hq
                  rcases hcase with ⟨q1, q2, q3⟩ | ⟨q1, q2⟩ | ⟨q1, q2⟩
                  all_goals
                    repeat (first | (refine G_id ?_; first | refine G_nil ?_ | refine G_plain rfl rfl ?_ | refine G_yes rfl rfl rfl rfl ?_ | refine G_no rfl rfl rfl rfl rfl rfl ?_) | (refine X_id ?_; first | (refine X_callq 68 rfl rfl rfl rfl rfl hS (hq _ (hS.rd (List.mem_cons_self ..)) (hb.rd hS)) ?_; rintro _ _ rfl hS) | refine X_yl (Yl_move rfl rfl) rfl rfl ?_ | refine X_yl (Yl_nilCheck rfl rfl) rfl rfl ?_ | refine X_yl (Yl_fieldAddr0 rfl rfl rfl) rfl rfl ?_ | refine X_yl (Yl_pick_t rfl rfl rfl) rfl rfl ?_ | refine X_yl (Yl_pick_f rfl rfl rfl) rfl rfl ?_ | refine X_yl (Yl_not_f rfl rfl) rfl rfl ?_ | refine X_yl (Yl_len_str rfl rfl) rfl rfl ?_ | refine X_yl (Yl_eql_t rfl rfl rfl (by omega)) rfl rfl ?_ | refine X_yl (Yl_eql_f rfl rfl rfl (by omega)) rfl rfl ?_ | refine X_yl (Yl_gtr_t rfl rfl rfl (by omega)) rfl rfl ?_ | refine X_yl (Yl_gtr_f rfl rfl rfl (by omega)) rfl rfl ?_ | refine X_yl (Yl_eqlStrF rfl rfl rfl (by assumption)) rfl rfl ?_ | refine X_yl (Yl_indexStr rfl rfl rfl (by omega) (by assumption)) rfl rfl ?_ | refine X_yl (Yl_sliceStr rfl rfl rfl rfl (.inr ⟨_, _, rfl, by omega, rfl, by omega⟩) (.inl ⟨rfl, rfl⟩)) rfl rfl ?_) | (refine C_id ?_; first | refine C_region ?_))
                    exact E_mid true ⟨rfl, rfl, rfl, rfl, trivial⟩ ⟨⟨fun _ => .inr hxe, fun _ => rfl⟩, hS⟩
    · clear hS
      rintro bad w ⟨hbad, hS⟩
      cases bad with
      | true =>
        rw [if_pos (hbad.1 rfl)]
        repeat (first | (refine G_id ?_; first | refine G_plain rfl rfl ?_) | (refine X_id ?_; first | refine X_yl (Yl_move rfl rfl) rfl rfl ?_) | (refine C_id ?_; first | refine C_seq ?_ | refine C_region ?_ | refine C_cond_t rfl ?_))
        obtain ⟨_, hc, hr, hw, hbk⟩ := hS.call [true]
        refine X_callg _ rfl rfl rfl rfl rfl (wrong_ p a s.length c (i + T.length) 0 3 _ _ hc) ?_
        rintro _ w ⟨rfl, hS⟩
        replace hS := hbk hS
        clear hc hr hw hbk
        repeat (first | (refine G_id ?_; first | refine G_nil ?_ | refine G_plain rfl rfl ?_) | (refine X_id ?_; first | refine X_yl (Yl_assign rfl rfl) rfl rfl ?_) | (refine C_id ?_; first | refine C_seq ?_ | refine C_region ?_ | refine C_ret ?_) | (refine E_id ?_; first | refine E_code ?_ | refine E_then_ret ?_ | refine E_ret1 rfl (Rv_tmp rfl) (Ret.mk ?_)))
        exact ⟨rfl, _, 3, hTl', by decide, hS⟩
      | false =>
        have hgood : ¬ (badN T ∨ x ≠ k) := fun h => by have := hbad.2 h; cases this
        rw [if_neg hgood]
        have hxk : x = k := Decidable.not_not.1 fun h => hgood (.inr h)
        have hsyn := hsy (fun h => hgood (.inl h))
        repeat (first | (refine G_id ?_; first | refine G_plain rfl rfl ?_) | (refine X_id ?_; first | refine X_yl (Yl_move rfl rfl) rfl rfl ?_) | (refine C_id ?_; first | refine C_seq ?_ | refine C_region ?_ | refine C_skip ?_ | refine C_cond_f rfl ?_) | (refine E_id ?_; first | refine E_code ?_))
        refine X_callq 76 rfl rfl rfl rfl rfl hS (atoi_ T _ _ (hG.at_ hS) (by omega) hsyn) ?_
        rintro _ w ⟨n, er, rfl, hres⟩ hS
        rcases hres with ⟨hn, rfl⟩ | ⟨hn, t, pp, rfl⟩
        · rw [hn]
          repeat (first | (refine G_id ?_; first | refine G_nil ?_ | refine G_plain rfl rfl ?_) | (refine X_id ?_; first | refine X_yl (Yl_move rfl rfl) rfl rfl ?_ | refine X_yl (Yl_assign rfl rfl) rfl rfl ?_ | refine X_yl (Yl_extract rfl rfl) rfl rfl ?_ | refine X_yl (Yl_neqIfNil rfl rfl) rfl rfl ?_) | (refine C_id ?_; first | refine C_seq ?_ | refine C_region ?_ | refine C_skip ?_ | refine C_cond_f rfl ?_) | (refine E_id ?_; first | refine E_code ?_))
          obtain ⟨_, hc, hr, hw, hbk⟩ := hS.call [true]
          refine X_callg _ rfl rfl rfl rfl rfl (take_ p a s c (i + T.length) 0 k _ _ hc (hw _ hb) hl) ?_
          rintro _ w ⟨rfl, hS⟩
          replace hS := hbk hS
          clear hc hr hw hbk
          repeat (first | (refine G_id ?_; first | refine G_nil ?_ | refine G_plain rfl rfl ?_) | (refine X_id ?_; first | refine X_yl (Yl_move rfl rfl) rfl rfl ?_ | refine X_yl (Yl_assign rfl rfl) rfl rfl ?_) | (refine C_id ?_; first | refine C_seq ?_ | refine C_region ?_ | refine C_ret ?_) | (refine E_id ?_; first | refine E_code ?_ | refine E_ret1 rfl (Rv_tmp rfl) (Ret.mk ?_)))
          rw [show takeP s (i + T.length) 0 k = (i + T.length + 1, 0) by unfold takeP; rw [if_neg (by simp), if_neg (by simpa using hlt), if_pos (by rw [hx, hxk])]] at hS
          exact ⟨rfl, _, by omega, rfl, hS⟩
        · rw [hn]
          repeat (first | (refine G_id ?_; first | refine G_nil ?_ | refine G_plain rfl rfl ?_) | (refine X_id ?_; first | refine X_yl (Yl_move rfl rfl) rfl rfl ?_ | refine X_yl (Yl_assign rfl rfl) rfl rfl ?_ | refine X_yl (Yl_extract rfl rfl) rfl rfl ?_ | refine X_yl (Yl_neqIfSome rfl rfl rfl) rfl rfl ?_) | (refine C_id ?_; first | refine C_seq ?_ | refine C_region ?_ | refine C_cond_t rfl ?_) | (refine E_id ?_; first | refine E_code ?_))
          obtain ⟨_, hc, hr, hw, hbk⟩ := hS.call [true]
          refine X_callg _ rfl rfl rfl rfl rfl (wrong_ p a s.length c (i + T.length) 0 2 _ _ hc) ?_
          rintro _ w ⟨rfl, hS⟩
          replace hS := hbk hS
          clear hc hr hw hbk
          repeat (first | (refine G_id ?_; first | refine G_nil ?_ | refine G_plain rfl rfl ?_) | (refine X_id ?_; first | refine X_yl (Yl_assign rfl rfl) rfl rfl ?_) | (refine C_id ?_; first | refine C_seq ?_ | refine C_region ?_ | refine C_ret ?_) | (refine E_id ?_; first | refine E_code ?_ | refine E_then_ret ?_ | refine E_ret1 rfl (Rv_tmp rfl) (Ret.mk ?_)))
          exact ⟨rfl, _, 2, hTl', by decide, hS⟩
  · simp only [decide_eq_false hlt] at hm
    rw [List.drop_of_length_le (by omega)]
    repeat (first | (refine G_id ?_; first | refine G_nil ?_ | refine G_plain rfl rfl ?_) | (refine X_id ?_; first | (refine X_callq 66 rfl rfl rfl rfl rfl hS (hm _ (hS.rd (List.mem_cons_self ..))) ?_; rintro _ _ rfl hS) | refine X_yl (Yl_move rfl rfl) rfl rfl ?_ | refine X_yl (Yl_not_f rfl rfl) rfl rfl ?_) | (refine C_id ?_; first | refine C_seq ?_ | refine C_region ?_ | refine C_cond_t rfl ?_) | (refine E_id ?_; first | refine E_code ?_))
    obtain ⟨_, hc, hr, hw, hbk⟩ := hS.call [true]
    refine X_callg _ rfl rfl rfl rfl rfl (wrong_ p a s.length c (i + T.length) 0 4 _ _ hc) ?_
    rintro _ w ⟨rfl, hS⟩
    replace hS := hbk hS
    clear hc hr hw hbk
    repeat (first | (refine G_id ?_; first | refine G_nil ?_ | refine G_plain rfl rfl ?_) | (refine X_id ?_; first | refine X_yl (Yl_assign rfl rfl) rfl rfl ?_) | (refine C_id ?_; first | refine C_seq ?_ | refine C_region ?_ | refine C_ret ?_) | (refine E_id ?_; first | refine E_code ?_ | refine E_then_ret ?_ | refine E_ret1 rfl (Rv_tmp rfl) (Ret.mk ?_)))
    exact ⟨rfl, _, 4, hTl', by decide, hS⟩
end Cr
namespace Cr
open Go Go.Proofs
set_option maxRecDepth 100000
set_option maxHeartbeats 4000000
attribute [local irreducible] Calls

theorem row_pts {b : Nat} {l : List Value} {T : TypeId} : ∀ h, pts b (.cells l.toArray T (0, 0)) h → row (some ⟨b, 0, none⟩) l h := fun _ hg => .inr ⟨b, 0, l.toArray, T, (0, 0), rfl, hg, fun j v hv => by simpa using hv⟩
/-- What value tells. -/
def VRes (p : Nat) (a : Option Addr) (s : List UInt8) (c : Nat) (W : World) (F : Nat → Prop) (r : Option (Top × List UInt8)) (v : Value) (w : World) : Prop :=
  match r with
  | some (t, l) => ∃ cs, v = .agg (List.toArray cs) ∧ ∃ i, i ≤ s.length ∧ s.drop i = l ∧ St W F [topR t cs, Rdr p a s.length c i 0] w
  | none => ∃ k n a1 n1 c1 a2 n2 c2, v = .agg (List.toArray [.int .i64 k, .int .i64 n, .slice a1 n1 c1, .slice a2 n2 c2]) ∧ ∃ i e, i ≤ s.length ∧ e ≠ 0 ∧ St W F [Rdr p a s.length c i e] w
/-- What list tells. -/
def LRes (p : Nat) (a : Option Addr) (s : List UInt8) (c : Nat) (W : World) (F : Nat → Prop) (r : Option (List Leaf × List UInt8)) (v : Value) (w : World) : Prop :=
  match r with
  | some (x, l) => ∃ b q, v = .slice b x.length q ∧ ∃ i, i ≤ s.length ∧ s.drop i = l ∧ St W F [listR b x, Rdr p a s.length c i 0] w
  | none => ∃ b m q, v = .slice b m q ∧ ∃ i e, i ≤ s.length ∧ e ≠ 0 ∧ St W F [Rdr p a s.length c i e] w
def ValueOk (p : Nat) (a : Option Addr) (s : List UInt8) (c : Nat) (f : Nat) : Prop :=
  ∀ (i deep : Nat) (W : World) (F : Nat → Prop), i ≤ s.length → deep ≤ 9 → 2 * (s.length - i) + 1 ≤ f → Lg W F → Ro W F (bytes a s) → St W F [Rdr p a s.length c i 0] W →
    Calls Tryd.prog 61 #[.pointer (some ⟨p, 0, none⟩), .int .i64 (deep : Nat)] W (Ret fun v w => VRes p a s c W F (pv f deep (s.drop i)) v w)
def ListOk (p : Nat) (a : Option Addr) (s : List UInt8) (c : Nat) (f : Nat) : Prop :=
  ∀ (i deep : Nat) (W : World) (F : Nat → Prop), s[i]? = some 40 → deep ≤ 9 → 2 * (s.length - (i + 1)) + 2 ≤ f → Lg W F → Ro W F (bytes a s) → St W F [Rdr p a s.length c i 0] W →
    Calls Tryd.prog 69 #[.pointer (some ⟨p, 0, none⟩), .int .i64 (deep : Nat)] W (Ret fun v w => LRes p a s c W F (if 8 < deep then none else pl f deep (s.drop (i + 1))) v w)

theorem pv_nil (f deep : Nat) : pv f deep [] = none := by cases f <;> simp [pv]
theorem pl_step (f deep : Nat) (l : List UInt8) (h : l.head? ≠ some 41) : pl (f + 1) deep l = match pv f (deep + 1) l with
    | none => none
    | some (t, r') => match pl f deep r' with
      | none => none
      | some (x, r'') => some (t.shut :: x, r'') := by
  cases l with
  | nil => rw [pv_nil]; simp [pl]
  | cons c l =>
    rw [pl, if_neg (fun e => h (by rw [e]; rfl))]
    cases pv f (deep + 1) (c :: l) with
    | none => rfl
    | some q =>
      obtain ⟨t, r'⟩ := q
      simp only
      cases pl f deep r' with
      | none => rfl
      | some q => rfl
/-- Where a list's loop stands: z: what is left to do, and the slice. -/
def LInv (top p : Nat) (a : Option Addr) (s : List UInt8) (c : Nat) (deep : Nat) (res : Option (List Leaf × List UInt8)) (W : World) (F : Nat → Prop) (z : Nat × Option Addr × Nat × Nat) (w : World) : Prop :=
  (∃ f i x rows, z.1 = f + 1 ∧ deep ≤ 8 ∧ f ≤ top ∧ z.2.2.1 = x.length ∧ x.length ≤ z.2.2.2 ∧ i ≤ s.length ∧ x.length ≤ i ∧ 2 * (s.length - i) + 2 ≤ f ∧ res = (pl f deep (s.drop i)).map (fun q => (x ++ q.1, q.2)) ∧ rows.flatten.length = x.length * 4 ∧
    St W F [own 61 4 z.2.1 z.2.2.2 rows.flatten, leavesR x rows, Rdr p a s.length c i 0] w) ∨
  (res = none ∧ ∃ i e, i ≤ s.length ∧ e ≠ 0 ∧ St W F [Rdr p a s.length c i e] w)
def LFin (p : Nat) (a : Option Addr) (s : List UInt8) (c : Nat) (res : Option (List Leaf × List UInt8)) (W : World) (F : Nat → Prop) (z : Option Addr × Nat × Nat) (w : World) : Prop :=
  (∃ i x rows, z.2.1 = x.length ∧ s[i]? = some 41 ∧ res = some (x, s.drop (i + 1)) ∧
    St W F [own 61 4 z.1 z.2.2 rows.flatten, leavesR x rows, Rdr p a s.length c i 0] w) ∨
  (res = none ∧ ∃ i e, i ≤ s.length ∧ e ≠ 0 ∧ St W F [Rdr p a s.length c i e] w)
theorem list_of (p : Nat) (a : Option Addr) (s : List UInt8) (c : Nat) (hl : s.length ≤ 1099511627776) (f : Nat) (hv : ∀ g, g < f → ValueOk p a s c g) : ListOk p a s c f := by
  intro i deep W F hi hd hf hG hb hS
  have hil := (List.getElem?_eq_some_iff.1 hi).1
  obtain ⟨res, hres⟩ : ∃ res, res = (if 8 < deep then none else pl f deep (s.drop (i + 1))) := ⟨_, rfl⟩
  rw [← hres]
  refine calls_C Tryd.func69 rfl Tryd.ntmps69 rfl ?_
  repeat (first | (refine G_id ?_; first | refine G_nil ?_ | refine G_plain rfl rfl ?_) | (refine X_id ?_; first | refine X_yl (Yl_move rfl rfl) rfl rfl ?_ | refine X_yl (Yl_assign rfl rfl) rfl rfl ?_) | (refine C_id ?_; first | refine C_seq ?_ | refine C_region ?_) | (refine E_id ?_; first | refine E_code ?_))
  obtain ⟨_, hc, hr, hw, hbk⟩ := hS.call [true]
  refine X_callg _ rfl rfl rfl rfl rfl (take_ p a s c i 0 40 _ _ hc (hw _ hb) hl) ?_
  rintro _ w ⟨rfl, hS⟩
  replace hS := hbk hS
  clear hc hr hw hbk
  rw [show takeP s i 0 40 = (i + 1, 0) by unfold takeP; rw [if_neg (by simp), if_neg (by simpa using hil), if_pos hi]] at hS
  simp only at hS
  by_cases h8 : 8 < deep
  case' pos =>
    rw [if_pos h8] at hres
    repeat (first | (refine G_id ?_; first | refine G_nil ?_ | refine G_plain rfl rfl ?_) | (refine X_id ?_; first | refine X_yl (Yl_move rfl rfl) rfl rfl ?_ | refine X_yl (Yl_gtr_t rfl rfl rfl (by omega)) rfl rfl ?_) | (refine C_id ?_; first | refine C_seq ?_ | refine C_region ?_ | refine C_cond_t rfl ?_) | (refine E_id ?_; first | refine E_code ?_))
    obtain ⟨_, hc, hr, hw, hbk⟩ := hS.call [true]
    refine X_callg _ rfl rfl rfl rfl rfl (wrong_ p a s.length c (i + 1) 0 18 _ _ hc) ?_
    rintro _ w ⟨rfl, hS⟩
    replace hS := hbk hS
    clear hc hr hw hbk
    repeat (first | (refine G_id ?_; first | refine G_nil ?_ | refine G_plain rfl rfl ?_) | (refine X_id ?_; first | refine X_yl (Yl_assign rfl rfl) rfl rfl ?_) | (refine C_id ?_; first | refine C_seq ?_ | refine C_region ?_ | refine C_block ?_) | (refine E_id ?_; first | refine E_code ?_))
    have hI : ∃ z0, LInv f p a s c deep res W F (z0, none, 0, 0) _ := ⟨0, .inr ⟨hres, _, 18, hil, by decide, hS⟩⟩
  case' neg =>
    rw [if_neg h8] at hres
    repeat (first | (refine G_id ?_; first | refine G_nil ?_ | refine G_plain rfl rfl ?_) | (refine X_id ?_; first | refine X_yl (Yl_move rfl rfl) rfl rfl ?_ | refine X_yl (Yl_assign rfl rfl) rfl rfl ?_ | refine X_yl (Yl_gtr_f rfl rfl rfl (by omega)) rfl rfl ?_) | (refine C_id ?_; first | refine C_seq ?_ | refine C_region ?_ | refine C_block ?_ | refine C_skip ?_ | refine C_cond_f rfl ?_) | (refine E_id ?_; first | refine E_code ?_))
    have hI : ∃ z0, LInv f p a s c deep res W F (z0, none, 0, 0) _ := ⟨f + 1, .inl ⟨f, i + 1, [], [], rfl, by omega, Nat.le_refl _, rfl, Nat.le_refl _, hil, Nat.zero_le _, hf, by rw [hres]; cases pl f deep (s.drop (i + 1)) <;> simp, rfl, (hS.leaves_nil).own_none _ _ _⟩⟩
  all_goals
    obtain ⟨z0, hI⟩ := hI
    clear hS hres
    refine C_joinB (α := Option Addr × Nat × Nat) (fun z => [(0, .pointer (some ⟨p, 0, none⟩)), (5, .slice z.1 z.2.1 z.2.2)]) (LFin p a s c res W F) ?_ ?_
    · refine C_loop (α := Nat × Option Addr × Nat × Nat) (fun z => [(0, .pointer (some ⟨p, 0, none⟩)), (1, .int .i64 (deep : Nat)), (5, .slice z.2.1 z.2.2.1 z.2.2.2)]) (LInv f p a s c deep res W F) (fun z => z.1) (z0, none, 0, 0) ⟨rfl, rfl, rfl, trivial⟩ hI ?_
      clear hI
      rintro ⟨m, b, n, q⟩ w (⟨g, j, x, rows, hm, hd8, hgf, hn, hnq, hj, hxj, hg, hr, hrl, hS⟩ | ⟨hr, j, e, hj, he, hS⟩)
      · simp only at hm hn hnq hS
        subst hm hn
        have hq41 := is_ p a s c j 0 41
        obtain ⟨g', rfl⟩ : ∃ g', g = g' + 1 := ⟨g - 1, by omega⟩
        by_cases h41 : s[j]? = some 41
        · simp only [decide_eq_true h41] at hq41
          repeat (first | (refine G_id ?_; first | refine G_nil ?_ | refine G_plain rfl rfl ?_ | refine G_yes rfl rfl rfl rfl ?_) | (refine X_id ?_; first | (refine X_callq 68 rfl rfl rfl rfl rfl hS (hq41 _ (hS.rd (List.mem_cons_of_mem _ (List.mem_cons_of_mem _ (List.mem_cons_self ..)))) (hb.rd hS)) ?_; rintro _ _ rfl hS) | refine X_yl (Yl_move rfl rfl) rfl rfl ?_ | refine X_yl (Yl_nilCheck rfl rfl) rfl rfl ?_ | refine X_yl (Yl_fieldAddr0 rfl rfl rfl) rfl rfl ?_ | refine X_yl (Yl_pick_t rfl rfl rfl) rfl rfl ?_ | refine X_yl (Yl_not_t rfl rfl) rfl rfl ?_ | refine X_yl (Yl_eql_t rfl rfl rfl (by omega)) rfl rfl ?_ | refine X_yl (Yl_load rfl rfl hS.cell) rfl rfl ?_) | (refine C_id ?_; first | refine C_seq ?_ | refine C_region ?_ | refine C_exit ?_ | refine C_cond_f rfl ?_) | (refine E_id ?_; first | refine E_code ?_ | refine E_then_exit ?_ | refine E_blk_same ?_))
          refine E_mid (b, x.length, q) ⟨rfl, rfl, trivial⟩ (.inl ⟨j, x, rows, rfl, h41, ?_, hS⟩)
          obtain ⟨hjl, hje⟩ := List.getElem?_eq_some_iff.1 h41
          rw [hr, List.drop_eq_getElem_cons hjl, hje, pl, if_pos rfl]
          simp
        · simp only [decide_eq_false h41] at hq41
          rw [pl_step g' deep _ (by rw [List.head?_drop]; exact h41)] at hr
          repeat (first | (refine G_id ?_; first | refine G_nil ?_ | refine G_plain rfl rfl ?_ | refine G_yes rfl rfl rfl rfl ?_) | (refine X_id ?_; first | (refine X_callq 68 rfl rfl rfl rfl rfl hS (hq41 _ (hS.rd (List.mem_cons_of_mem _ (List.mem_cons_of_mem _ (List.mem_cons_self ..)))) (hb.rd hS)) ?_; rintro _ _ rfl hS) | refine X_yl (Yl_move rfl rfl) rfl rfl ?_ | refine X_yl (Yl_nilCheck rfl rfl) rfl rfl ?_ | refine X_yl (Yl_fieldAddr0 rfl rfl rfl) rfl rfl ?_ | refine X_yl (Yl_pick_t rfl rfl rfl) rfl rfl ?_ | refine X_yl (Yl_not_f rfl rfl) rfl rfl ?_ | refine X_yl (Yl_eql_t rfl rfl rfl (by omega)) rfl rfl ?_ | refine X_yl (Yl_add rfl rfl rfl (w64 (by omega) (by omega))) rfl rfl ?_ | refine X_yl (Yl_load rfl rfl hS.cell) rfl rfl ?_) | (refine C_id ?_; first | refine C_seq ?_ | refine C_region ?_ | refine C_block ?_ | refine C_skip ?_ | refine C_cond_t rfl ?_) | (refine E_id ?_; first | refine E_code ?_))
          obtain ⟨_, hc, _, hw, hbk⟩ := hS.call [false, false, true]
          refine X_callg _ rfl rfl rfl rfl rfl (hv g' (by omega) j (deep + 1) _ _ hj (by omega) (by omega) (hG.mono hw) (hw _ hb) hc) ?_
          rintro v w hV
          cases hp : pv g' (deep + 1) (s.drop j) with
          | none =>
            rw [hp] at hV hr
            obtain ⟨k1, k2, a1, n1, c1, a2, n2, c2, rfl, j', e', hj', he', hS⟩ := hV
            replace hS := hbk hS
            clear hbk hw hc
            simp only at hr
            repeat (first | (refine G_id ?_; first | refine G_plain rfl rfl ?_) | (refine X_id ?_; first | refine X_buildSlice rfl rfl rfl rfl rfl rfl rfl rfl hS (fun _ _ hS _ => ?_)))
            have hnw := (hS.rd (List.mem_cons_self ..)).own_row
            refine X_append rfl rfl rfl rfl rfl hS hrl hnq hnw rfl (by simp [Value.oneCell']) (by dsimp only; omega) (by simp only [maxLen]; omega) (fun b' q' w hS hq' _ => ?_)
            repeat (first | (refine G_id ?_; first | refine G_nil ?_ | refine G_plain rfl rfl ?_) | (refine X_id ?_; first | refine X_yl (Yl_assign rfl rfl) rfl rfl ?_) | (refine E_id ?_; first | refine E_blk_n ?_))
            exact E_round (z := (g' + 1 + 1, b, x.length, q)) (0, b', x.length + 1, q') ⟨rfl, rfl, rfl, trivial⟩ (.inr ⟨by rw [hr]; rfl, j', e', hj', he', hS.took⟩) (by simp)
          | some u =>
            obtain ⟨t, l⟩ := u
            rw [hp] at hV hr
            obtain ⟨cs, rfl, j', hj', hdl, hS⟩ := hV
            replace hS := hbk hS
            clear hbk hw hc
            obtain ⟨k1, k2, a1, n1, c1, a2, n2, c2, rfl⟩ := hS.top_cells
            replace hS := hS.shut
            have hlen := (p_len g').1 _ _ _ _ hp
            rw [← hdl] at hlen hr
            simp only [List.length_drop] at hlen
            simp only at hr
            repeat (first | (refine G_id ?_; first | refine G_plain rfl rfl ?_) | (refine X_id ?_; first | refine X_buildSlice rfl rfl rfl rfl rfl rfl rfl rfl hS (fun _ _ hS _ => ?_)))
            have hnw := (hS.rd (List.mem_cons_self ..)).own_row
            refine X_append rfl rfl rfl rfl rfl hS hrl hnq hnw rfl (by simp [Value.oneCell']) (by dsimp only; omega) (by simp only [maxLen]; omega) (fun b' q' w hS hq' _ => ?_)
            repeat (first | (refine G_id ?_; first | refine G_nil ?_ | refine G_plain rfl rfl ?_) | (refine X_id ?_; first | refine X_yl (Yl_assign rfl rfl) rfl rfl ?_) | (refine E_id ?_; first | refine E_blk_n ?_))
            have hS : St W F [leavesR x rows, leafR t.shut [.int .i64 k1, .int .i64 k2, .slice a1 n1 c1, .slice a2 n2 c2], own 61 4 b' q' (rows.flatten ++ [.int .i64 k1, .int .i64 k2, .slice a1 n1 c1, .slice a2 n2 c2]), Rdr p a s.length c j' 0] w := hS.took
            replace hS := hS.leaves_snoc
            refine E_round (z := (g' + 1 + 1, b, x.length, q)) (g' + 1, b', x.length + 1, q') ⟨rfl, rfl, rfl, trivial⟩ (.inl ⟨g', j', x ++ [t.shut], rows ++ [[.int .i64 k1, .int .i64 k2, .slice a1 n1 c1, .slice a2 n2 c2]], rfl, hd8, by omega, by simp, by simpa using hq', hj', by simp; omega, by omega, ?_, by simp [hrl]; omega, ?_⟩) (by simp)
            · rw [hr]
              cases pl g' deep (s.drop j') with
              | none => rfl
              | some q => simp
            · rw [List.flatten_append]
              simpa using hS.took
      · repeat (first | (refine G_id ?_; first | refine G_nil ?_ | refine G_plain rfl rfl ?_ | refine G_no rfl rfl rfl rfl rfl rfl ?_) | (refine X_id ?_; first | refine X_yl (Yl_move rfl rfl) rfl rfl ?_ | refine X_yl (Yl_nilCheck rfl rfl) rfl rfl ?_ | refine X_yl (Yl_fieldAddr0 rfl rfl rfl) rfl rfl ?_ | refine X_yl (Yl_pick_f rfl rfl rfl) rfl rfl ?_ | refine X_yl (Yl_eql_f rfl rfl rfl (by omega)) rfl rfl ?_ | refine X_yl (Yl_load rfl rfl hS.cell) rfl rfl ?_) | (refine C_id ?_; first | refine C_seq ?_ | refine C_region ?_ | refine C_exit ?_ | refine C_cond_f rfl ?_) | (refine E_id ?_; first | refine E_code ?_ | refine E_then_exit ?_ | refine E_blk_same ?_))
        exact E_mid (b, n, q) ⟨rfl, rfl, trivial⟩ (.inr ⟨hr, j, e, hj, he, hS⟩)
    · clear hI
      rintro ⟨b, n, q⟩ w (⟨j, x, rows, hn, h41, hr, hS⟩ | ⟨hr, j, e, hj, he, hS⟩)
      · simp only at hn hS
        subst hn
        have hjl := (List.getElem?_eq_some_iff.1 h41).1
        repeat (first | (refine G_id ?_; first | refine G_plain rfl rfl ?_) | (refine X_id ?_; first | refine X_yl (Yl_move rfl rfl) rfl rfl ?_) | (refine C_id ?_; first | refine C_seq ?_ | refine C_region ?_))
        obtain ⟨_, hc, hr, hw, hbk⟩ := hS.call [false, false, true]
        refine X_callg _ rfl rfl rfl rfl rfl (take_ p a s c j 0 41 _ _ hc (hw _ hb) hl) ?_
        rintro _ w ⟨rfl, hS⟩
        replace hS := hbk hS
        clear hc hr hw hbk
        rw [show takeP s j 0 41 = (j + 1, 0) by unfold takeP; rw [if_neg (by simp), if_neg (by simpa using hjl), if_pos h41]] at hS
        simp only at hS
        repeat (first | (refine G_id ?_; first | refine G_nil ?_ | refine G_plain rfl rfl ?_) | (refine X_id ?_; first | refine X_yl (Yl_move rfl rfl) rfl rfl ?_ | refine X_yl (Yl_assign rfl rfl) rfl rfl ?_) | (refine C_id ?_; first | refine C_seq ?_ | refine C_region ?_ | refine C_ret ?_) | (refine E_id ?_; first | refine E_code ?_ | refine E_ret1 rfl (Rv_tmp rfl) (Ret.mk ?_)))
        rw [hr]
        refine ⟨b, q, rfl, j + 1, hjl, rfl, ?_⟩
        have hS : St W F [own 61 4 b q rows.flatten, leavesR x rows, Rdr p a s.length c (j + 1) 0] _ := hS.took
        exact (hS.head fun _ h => h.row).list_mk
      · repeat (first | (refine G_id ?_; first | refine G_plain rfl rfl ?_) | (refine X_id ?_; first | refine X_yl (Yl_move rfl rfl) rfl rfl ?_) | (refine C_id ?_; first | refine C_seq ?_ | refine C_region ?_))
        obtain ⟨_, hc, hr, hw, hbk⟩ := hS.call [true]
        refine X_callg _ rfl rfl rfl rfl rfl (take_bad p a s.length c j e 41 _ _ hc he) ?_
        rintro _ w ⟨rfl, hS⟩
        replace hS := hbk hS
        clear hc hr hw hbk
        repeat (first | (refine G_id ?_; first | refine G_nil ?_ | refine G_plain rfl rfl ?_) | (refine X_id ?_; first | refine X_yl (Yl_move rfl rfl) rfl rfl ?_ | refine X_yl (Yl_assign rfl rfl) rfl rfl ?_) | (refine C_id ?_; first | refine C_seq ?_ | refine C_region ?_ | refine C_ret ?_) | (refine E_id ?_; first | refine E_code ?_ | refine E_ret1 rfl (Rv_tmp rfl) (Ret.mk ?_)))
        rw [hr]
        exact ⟨b, n, q, rfl, j, e, hj, he, hS⟩
end Cr
namespace Cr
open Go Go.Proofs
set_option maxRecDepth 100000
set_option maxHeartbeats 4000000
attribute [local irreducible] Calls

theorem St.top_list {W : World} {F : Nat → Prop} {q : List Res} {w : World} {x : List Leaf} {b : Option Addr} {k : Nat} (hS : St W F (listR b x :: q) w) : St W F (topR (.list x) [.int .i64 2, .int .i64 0, z0, .slice b x.length k] :: q) w :=
  hS.head fun _ h => ⟨b, k, rfl, h⟩
theorem St.top_num {W : World} {F : Nat → Prop} {q : List Res} {w : World} (n : Int) (hS : St W F q w) : St W F (topR (.leaf (.num n)) [.int .i64 0, .int .i64 n, z0, z0] :: q) w :=
  hS.imp fun _ h => Sep.shut_head (ps := []) (fun _ hg => ⟨rfl, hg⟩) h
theorem St.top_txt {W : World} {F : Nat → Prop} {q : List Res} {w : World} {b : Option Addr} {t : List UInt8} {n k : Nat} (hn : n = t.length) (hS : St W F (own 5 1 b k (bv t) :: q) w) : St W F (topR (.leaf (.txt t)) [.int .i64 1, .int .i64 0, .slice b n k, z0] :: q) w :=
  hS.head fun _ h => ⟨b, k, by rw [hn], h.row⟩
theorem pv_list (f deep : Nat) (r : List UInt8) : pv (f + 1) deep (40 :: r) = (if 8 < deep then none else pl f deep r).map fun q => (.list q.1, q.2) := by
  rw [pv, if_pos rfl]
  split
  · rfl
  · cases pl f deep r <;> rfl
theorem pv_num (f deep : Nat) (r : List UInt8) : pv (f + 1) deep (105 :: r) = (num true 59 r).map fun q => (.leaf (.num q.1), q.2) := by
  rw [pv, if_neg (by decide), if_pos rfl]
  cases num true 59 r <;> rfl
theorem pv_txt (f deep : Nat) (c : UInt8) (r : List UInt8) (h1 : ¬ c = 40) (h2 : ¬ c = 105) : pv (f + 1) deep (c :: r) =
    (num false 58 (c :: r)).bind fun q => if q.1.toNat ≤ q.2.length then some (.leaf (.txt (q.2.take q.1.toNat)), q.2.drop q.1.toNat) else none := by
  rw [pv, if_neg h1, if_neg h2]
  cases num false 58 (c :: r) <;> rfl
theorem wrong0_ (p : Nat) (a : Option Addr) (n c : Nat) (i : Nat) (k : Int) (W : World) (F : Nat → Prop) (hS : St W F [Rdr p a n c i 0] W) :
    Calls Tryd.prog 67 #[.pointer (some ⟨p, 0, none⟩), .int .i64 k] W (Ret fun v w => v = .tuple #[] ∧ St W F [Rdr p a n c i k] w) := wrong_ p a n c i 0 k W F hS
theorem value_of (p : Nat) (a : Option Addr) (s : List UInt8) (c : Nat) (hsc : s.length ≤ c) (hl : s.length ≤ 1073741824) (f : Nat) (hL : ListOk p a s c f) : ValueOk p a s c (f + 1) := by
  intro i deep W F hi hd hf hG hb hS
  have hm := more_ p a s.length c i 0
  have q40 := is_ p a s c i 0 40
  have q105 := is_ p a s c i 0 105
  refine calls_C Tryd.func61 rfl Tryd.ntmps61 rfl ?_
  by_cases hlt : i < s.length
  · simp only [decide_eq_true hlt] at hm
    have hdr := List.drop_eq_getElem_cons hlt
    generalize hx0 : s[i] = x at hdr
    have hx : s[i]? = some x := by rw [List.getElem?_eq_getElem hlt, hx0]
    rw [hdr]
    by_cases h40 : x = 40
    · subst h40
      simp only [decide_eq_true hx] at q40
      have hLi := hL i deep
      rw [pv_list]
      generalize (if 8 < deep then none else pl f deep (s.drop (i + 1))) = res at hLi ⊢
      repeat (first | (refine G_id ?_; first | refine G_nil ?_ | refine G_plain rfl rfl ?_) | (refine X_id ?_; first | (refine X_callq 66 rfl rfl rfl rfl rfl hS (hm _ (hS.rd (List.mem_cons_of_mem _ (List.mem_cons_self ..)))) ?_; rintro _ _ rfl hS) | (refine X_callq 68 rfl rfl rfl rfl rfl hS (q40 _ (hS.rd (List.mem_cons_of_mem _ (List.mem_cons_self ..))) (hb.rd hS)) ?_; rintro _ _ rfl hS) | refine X_yl (Yl_move rfl rfl) rfl rfl ?_ | refine X_yl (Yl_assign rfl rfl) rfl rfl ?_ | refine X_yl (Yl_nilCheck rfl rfl) rfl rfl ?_ | refine X_yl (Yl_fieldAddr0 rfl rfl rfl) rfl rfl ?_ | refine X_yl (Yl_not_t rfl rfl) rfl rfl ?_ | refine X_alloc rfl rfl rfl hS (fun _ _ hS _ => ?_)) | (refine C_id ?_; first | refine C_seq ?_ | refine C_region ?_ | refine C_block ?_ | refine C_cond_t rfl ?_ | refine C_cond_f rfl ?_) | (refine E_id ?_; first | refine E_code ?_))
      obtain ⟨_, hc, _, hw, hbk⟩ := hS.call [false, true]
      refine X_callg _ rfl rfl rfl rfl rfl (hLi _ _ hx hd (by omega) (hG.mono hw) (hw _ hb) hc) ?_
      rintro v w hV
      cases res with
      | none =>
        obtain ⟨b, m, q, rfl, j, e, hj, he, hS⟩ := hV
        replace hS := hbk hS
        clear hbk hw hc
        repeat (first | (refine G_id ?_; first | refine G_nil ?_ | refine G_plain rfl rfl ?_) | (refine X_id ?_; first | refine X_yl (Yl_build rfl rfl rfl) rfl rfl ?_ | refine X_store rfl rfl rfl rfl hS (fun _ hS _ => ?_)) | (refine C_id ?_; first | refine C_ret ?_) | (refine E_id ?_; first | refine E_code ?_ | refine E_then_ret ?_ | refine E_blk_ret ?_ | refine E_ret1 rfl (by first | exact Rv_tmp rfl | exact Rv_cell rfl (run_load1 hS.cell) | exact Rv_cell rfl (run_loadN hS.cellsN)) (Ret.mk ?_)))
        exact ⟨_, _, _, _, _, _, _, _, rfl, j, e, hj, he, hS.took⟩
      | some u =>
        obtain ⟨x, t⟩ := u
        obtain ⟨b, q, rfl, j, hj, hdj, hS⟩ := hV
        replace hS := hbk hS
        clear hbk hw hc
        repeat (first | (refine G_id ?_; first | refine G_nil ?_ | refine G_plain rfl rfl ?_) | (refine X_id ?_; first | refine X_yl (Yl_build rfl rfl rfl) rfl rfl ?_ | refine X_store rfl rfl rfl rfl hS (fun _ hS _ => ?_)) | (refine C_id ?_; first | refine C_ret ?_) | (refine E_id ?_; first | refine E_code ?_ | refine E_then_ret ?_ | refine E_blk_ret ?_ | refine E_ret1 rfl (by first | exact Rv_tmp rfl | exact Rv_cell rfl (run_load1 hS.cell) | exact Rv_cell rfl (run_loadN hS.cellsN)) (Ret.mk ?_)))
        refine ⟨_, rfl, j, hj, hdj, ?_⟩
        have hS : St W F [listR b x, Rdr p a s.length c j 0] _ := hS.took
        exact hS.top_list
    · have h40' : ¬ s[i]? = some 40 := fun h => h40 (by rw [hx] at h; exact Option.some.inj h)
      simp only [decide_eq_false h40'] at q40
      by_cases h105 : x = 105
      · subst h105
        simp only [decide_eq_true hx] at q105
        rw [pv_num]
        have hN := number_ p a s c hsc (i + 1) true 59
        generalize num true 59 (s.drop (i + 1)) = res at hN ⊢
        repeat (first | (refine G_id ?_; first | refine G_nil ?_ | refine G_plain rfl rfl ?_) | (refine X_id ?_; first | (refine X_callq 66 rfl rfl rfl rfl rfl hS (hm _ (hS.rd (List.mem_cons_of_mem _ (List.mem_cons_self ..)))) ?_; rintro _ _ rfl hS) | (refine X_callq 68 rfl rfl rfl rfl rfl hS (q40 _ (hS.rd (List.mem_cons_of_mem _ (List.mem_cons_self ..))) (hb.rd hS)) ?_; rintro _ _ rfl hS) | (refine X_callq 68 rfl rfl rfl rfl rfl hS (q105 _ (hS.rd (List.mem_cons_of_mem _ (List.mem_cons_self ..))) (hb.rd hS)) ?_; rintro _ _ rfl hS) | refine X_yl (Yl_move rfl rfl) rfl rfl ?_ | refine X_yl (Yl_assign rfl rfl) rfl rfl ?_ | refine X_yl (Yl_nilCheck rfl rfl) rfl rfl ?_ | refine X_yl (Yl_fieldAddr0 rfl rfl rfl) rfl rfl ?_ | refine X_yl (Yl_not_t rfl rfl) rfl rfl ?_ | refine X_alloc rfl rfl rfl hS (fun _ _ hS _ => ?_)) | (refine C_id ?_; first | refine C_seq ?_ | refine C_region ?_ | refine C_block ?_ | refine C_cond_t rfl ?_ | refine C_cond_f rfl ?_) | (refine E_id ?_; first | refine E_code ?_))
        obtain ⟨_, hc, hr, hw, hbk⟩ := hS.call [false, true]
        refine X_callg _ rfl rfl rfl rfl rfl (take_ p a s c i 0 105 _ _ hc (hw _ hb) (by omega)) ?_
        rintro _ w ⟨rfl, hS⟩
        replace hS := hbk hS
        clear hc hr hw hbk
        rw [show takeP s i 0 105 = (i + 1, 0) by unfold takeP; rw [if_neg (by simp), if_neg (by simpa using hlt), if_pos hx]] at hS
        simp only at hS
        repeat (first | (refine G_id ?_; first | refine G_nil ?_ | refine G_plain rfl rfl ?_) | (refine X_id ?_; first | refine X_yl (Yl_move rfl rfl) rfl rfl ?_) | (refine C_id ?_; first | refine C_seq ?_ | refine C_region ?_) | (refine E_id ?_; first | refine E_code ?_))
        obtain ⟨_, hc, _, hw, hbk⟩ := hS.call [true, false]
        refine X_callg _ rfl rfl rfl rfl rfl (hN _ _ hc (hw _ hb) (by omega) (by omega) (hG.mono hw)) ?_
        rintro v w hV
        cases res with
        | none =>
          obtain ⟨rfl, j, e, hj, he, hS⟩ := hV
          replace hS := hbk hS
          clear hbk hw hc
          repeat (first | (refine G_id ?_; first | refine G_nil ?_ | refine G_plain rfl rfl ?_) | (refine X_id ?_; first | refine X_yl (Yl_build rfl rfl rfl) rfl rfl ?_ | refine X_store rfl rfl rfl rfl hS (fun _ hS _ => ?_)) | (refine C_id ?_; first | refine C_ret ?_) | (refine E_id ?_; first | refine E_code ?_ | refine E_then_ret ?_ | refine E_blk_ret ?_ | refine E_ret1 rfl (by first | exact Rv_tmp rfl | exact Rv_cell rfl (run_load1 hS.cell) | exact Rv_cell rfl (run_loadN hS.cellsN)) (Ret.mk ?_)))
          exact ⟨_, _, _, _, _, _, _, _, rfl, j, e, hj, he, hS.took⟩
        | some u =>
          obtain ⟨n, t⟩ := u
          obtain ⟨rfl, j, hj, hdj, hS⟩ := hV
          replace hS := hbk hS
          clear hbk hw hc
          repeat (first | (refine G_id ?_; first | refine G_nil ?_ | refine G_plain rfl rfl ?_) | (refine X_id ?_; first | refine X_yl (Yl_build rfl rfl rfl) rfl rfl ?_ | refine X_store rfl rfl rfl rfl hS (fun _ hS _ => ?_)) | (refine C_id ?_; first | refine C_ret ?_) | (refine E_id ?_; first | refine E_code ?_ | refine E_then_ret ?_ | refine E_blk_ret ?_ | refine E_ret1 rfl (by first | exact Rv_tmp rfl | exact Rv_cell rfl (run_load1 hS.cell) | exact Rv_cell rfl (run_loadN hS.cellsN)) (Ret.mk ?_)))
          refine ⟨_, rfl, j, hj, hdj, ?_⟩
          have hS : St W F [Rdr p a s.length c j 0] _ := hS.took
          exact hS.top_num n
      · have h105' : ¬ s[i]? = some 105 := fun h => h105 (by rw [hx] at h; exact Option.some.inj h)
        simp only [decide_eq_false h105'] at q105
        rw [pv_txt _ _ _ _ h40 h105, ← hdr]
        have hN := number_ p a s c hsc i false 58
        have hnn : ∀ n t, num false 58 (s.drop i) = some (n, t) → 0 ≤ n := fun n t h => num_nonneg h
        generalize num false 58 (s.drop i) = res at hN hnn ⊢
        repeat (first | (refine G_id ?_; first | refine G_nil ?_ | refine G_plain rfl rfl ?_) | (refine X_id ?_; first | (refine X_callq 66 rfl rfl rfl rfl rfl hS (hm _ (hS.rd (List.mem_cons_of_mem _ (List.mem_cons_self ..)))) ?_; rintro _ _ rfl hS) | (refine X_callq 68 rfl rfl rfl rfl rfl hS (q40 _ (hS.rd (List.mem_cons_of_mem _ (List.mem_cons_self ..))) (hb.rd hS)) ?_; rintro _ _ rfl hS) | (refine X_callq 68 rfl rfl rfl rfl rfl hS (q105 _ (hS.rd (List.mem_cons_of_mem _ (List.mem_cons_self ..))) (hb.rd hS)) ?_; rintro _ _ rfl hS) | refine X_yl (Yl_move rfl rfl) rfl rfl ?_ | refine X_yl (Yl_assign rfl rfl) rfl rfl ?_ | refine X_yl (Yl_nilCheck rfl rfl) rfl rfl ?_ | refine X_yl (Yl_fieldAddr0 rfl rfl rfl) rfl rfl ?_ | refine X_yl (Yl_not_t rfl rfl) rfl rfl ?_ | refine X_alloc rfl rfl rfl hS (fun _ _ hS _ => ?_)) | (refine C_id ?_; first | refine C_seq ?_ | refine C_region ?_ | refine C_block ?_ | refine C_cond_f rfl ?_) | (refine E_id ?_; first | refine E_code ?_))
        obtain ⟨_, hc, _, hw, hbk⟩ := hS.call [false, true]
        refine X_callg _ rfl rfl rfl rfl rfl (hN _ _ hc (hw _ hb) (by omega) (by omega) (hG.mono hw)) ?_
        rintro v w hV
        cases res with
        | none =>
          obtain ⟨rfl, j, e, hj, he, hS⟩ := hV
          replace hS := hbk hS
          clear hbk hw hc
          repeat (first | (refine G_id ?_; first | refine G_nil ?_ | refine G_plain rfl rfl ?_) | (refine X_id ?_; first | refine X_yl (Yl_assign rfl rfl) rfl rfl ?_) | (refine C_id ?_; first | refine C_seq ?_) | (refine E_id ?_; first | refine E_code ?_))
          refine C_ord (.s 0 (.s 1 (.s 2 (.s 3 (.s 4 (.s 5 (.s 6 (.s 7 (.s 8 (.s 9 (.s 10 (.s 11 (.s 12 (.s 13 (.s 14 (.s 15 (.s 16 (.s 17 (.s 18 (.s 19 (.s 20 .nil))))))))))))))))))))) mixed (by kernel_rfl) rfl ?_
          have hS := hS.drew
          repeat (first | (refine G_id ?_; first | refine G_nil ?_ | refine G_plain rfl rfl ?_) | (refine X_id ?_; first | refine X_yl (Yl_move rfl rfl) rfl rfl ?_ | refine X_yl (Yl_nilCheck rfl rfl) rfl rfl ?_ | refine X_yl (Yl_fieldAddr0 rfl rfl rfl) rfl rfl ?_ | refine X_yl (Yl_eql_f rfl rfl rfl (by omega)) rfl rfl ?_ | refine X_yl (Yl_build rfl rfl rfl) rfl rfl ?_ | refine X_yl (Yl_load rfl rfl hS.cell) rfl rfl ?_ | refine X_store rfl rfl rfl rfl hS (fun _ hS _ => ?_)) | (refine C_id ?_; first | refine C_seq ?_ | refine C_region ?_ | refine C_ret ?_ | refine C_skip ?_ | refine C_cond_f rfl ?_) | (refine E_id ?_; first | refine E_code ?_ | refine E_blk_n ?_ | refine E_ret1 rfl (by first | exact Rv_tmp rfl | exact Rv_cell rfl (run_load1 hS.cell) | exact Rv_cell rfl (run_loadN hS.cellsN)) (Ret.mk ?_)) | (refine GO_id ?_; first | refine GO_nil ?_ | refine GO_pure rfl rfl (fun _ => Yl_move rfl rfl) rfl rfl ?_ | refine GO_pure rfl rfl (fun _ => Yl_nilCheck rfl rfl) rfl rfl ?_ | refine GO_pure rfl rfl (fun _ => Yl_fieldAddr0 rfl rfl rfl) rfl rfl ?_ | refine GO_pure rfl rfl (fun _ => Yl_pick_f rfl rfl rfl) rfl rfl ?_ | refine GO_pure rfl rfl (fun _ => Yl_eql_f rfl rfl rfl (by omega)) rfl rfl ?_ | refine GO_read (fun w' => w'.cell? _ = some _) rfl rfl hS.cell (fun _ hc => Yl_load rfl rfl hc) rfl rfl ?_ | refine GO_no rfl rfl rfl rfl rfl rfl rfl ?_))
          exact ⟨_, _, _, _, _, _, _, _, rfl, j, e, hj, he, hS.took⟩
        | some u =>
          obtain ⟨n, t⟩ := u
          obtain ⟨rfl, j, hj, hdj, hS⟩ := hV
          replace hS := hbk hS
          clear hbk hw hc
          obtain ⟨m, rfl⟩ : ∃ m : Nat, n = m := ⟨n.toNat, by have := hnn n t rfl; omega⟩
          have htl : t.length = s.length - j := by rw [← hdj, List.length_drop]
          simp only [Option.bind_some, Int.toNat_natCast]
          by_cases hmt : m ≤ t.length
          · rw [if_pos hmt]
            repeat (first | (refine G_id ?_; first | refine G_nil ?_ | refine G_plain rfl rfl ?_) | (refine X_id ?_; first | refine X_yl (Yl_assign rfl rfl) rfl rfl ?_) | (refine C_id ?_; first | refine C_seq ?_) | (refine E_id ?_; first | refine E_code ?_))
            refine C_ord (.s 0 (.s 1 (.s 2 (.s 3 (.s 4 (.s 5 (.s 6 (.s 7 (.s 8 (.s 9 (.s 10 (.s 11 (.s 12 (.s 13 (.s 14 (.s 15 (.s 16 (.s 17 (.s 18 (.s 19 (.s 20 .nil))))))))))))))))))))) mixed (by kernel_rfl) rfl ?_
            have hS := hS.drew
            repeat (first | (refine G_id ?_; first | refine G_nil ?_ | refine G_plain rfl rfl ?_) | (refine X_id ?_; first | refine X_yl (Yl_move rfl rfl) rfl rfl ?_ | refine X_yl (Yl_nilCheck rfl rfl) rfl rfl ?_ | refine X_yl (Yl_fieldAddr0 rfl rfl rfl) rfl rfl ?_ | refine X_yl (Yl_eql_t rfl rfl rfl (by omega)) rfl rfl ?_ | refine X_yl (Yl_add rfl rfl rfl (w64 (by omega) (by omega))) rfl rfl ?_ | refine X_yl (Yl_load rfl rfl hS.cell) rfl rfl ?_ | refine X_store rfl rfl rfl rfl hS (fun _ hS _ => ?_)) | (refine C_id ?_; first | refine C_seq ?_ | refine C_region ?_ | refine C_skip ?_ | refine C_cond_t rfl ?_ | refine C_cond_f rfl ?_) | (refine E_id ?_; first | refine E_code ?_) | (refine GO_id ?_; first | refine GO_nil ?_ | refine GO_pure rfl rfl (fun _ => Yl_move rfl rfl) rfl rfl ?_ | refine GO_pure rfl rfl (fun _ => Yl_nilCheck rfl rfl) rfl rfl ?_ | refine GO_pure rfl rfl (fun _ => Yl_fieldAddr0 rfl rfl rfl) rfl rfl ?_ | refine GO_pure rfl rfl (fun _ => Yl_pick_t rfl rfl rfl) rfl rfl ?_ | refine GO_pure rfl rfl (fun _ => Yl_eql_t rfl rfl rfl (by omega)) rfl rfl ?_ | refine GO_read (fun w' => w'.cell? _ = some _) rfl rfl hS.cell (fun _ hc => Yl_load rfl rfl hc) rfl rfl ?_ | refine GO_yes rfl rfl rfl rfl (fun _ => Yl_move rfl rfl) rfl rfl ?_ | refine GO_yes rfl rfl rfl rfl (fun _ => Yl_nilCheck rfl rfl) rfl rfl ?_ | refine GO_yes rfl rfl rfl rfl (fun _ => Yl_fieldAddr0 rfl rfl rfl) rfl rfl ?_ | refine GO_yes rfl rfl rfl rfl (fun _ => Yl_len rfl rfl) rfl rfl ?_ | refine GO_yes rfl rfl rfl rfl (fun _ => Yl_gtr_f rfl rfl rfl (by omega)) rfl rfl ?_ | refine GO_yes rfl rfl rfl rfl (fun _ => Yl_sub rfl rfl rfl (w64 (by omega) (by omega))) rfl rfl ?_ | refine GO_yes_read (fun w' => w'.cell? _ = some _) rfl rfl rfl rfl hS.cell (fun _ hc => Yl_load rfl rfl hc) rfl rfl ?_))
            have hS := hS.conv (rs' := [Rdr p a s.length c (j + m) 0, pts _ (.cells (List.toArray _) _ _)]) rfl
            refine C_ord (.s 0 (.s 1 (.s 2 (.s 3 (.s 4 (.s 5 (.s 6 (.s 7 (.s 8 (.s 9 (.s 10 (.s 11 (.s 12 (.s 13 (.s 14 (.s 15 (.s 16 (.s 17 (.h 18 (.s 19 (.h 20 .nil .no)) .no))))))))))))))))))) mixed (by kernel_rfl) rfl ?_
            have hS := hS.drew
            repeat (first | (refine GO_id ?_; first | refine GO_pure rfl rfl (fun _ => Yl_move rfl rfl) rfl rfl ?_ | refine GO_pure rfl rfl (fun _ => Yl_nilCheck rfl rfl) rfl rfl ?_ | refine GO_pure rfl rfl (fun _ => Yl_fieldAddr0 rfl rfl rfl) rfl rfl ?_ | refine GO_pure rfl rfl (fun _ => Yl_sub rfl rfl rfl (w64 (by omega) (by omega))) rfl rfl ?_ | refine GO_read (fun w' => w'.cell? _ = some _) rfl rfl hS.cell (fun _ hc => Yl_load rfl rfl hc) rfl rfl ?_))
            have hsb : Ro W F (bytes (Cr.sub a j 1 c) (t.take m)) := by
              have := hb.subBytes (l := j) (h := j + m) (c := c) (by omega) (by omega)
              rwa [show j + m - j = m by omega, hdj] at this
            refine GO_pure rfl rfl (fun _ => Yl_slice (l := j) (h := j + m) rfl rfl rfl rfl (.inr ⟨_, _, rfl, by omega, by omega, by omega⟩) (.inr ⟨_, _, rfl, by omega, by omega, by omega⟩)) rfl rfl ?_
            repeat (first | (refine GO_id ?_; first | refine GO_hard rfl rfl ?_))
            refine X_callg _ rfl rfl rfl rfl rfl (bclone_ _ _ _ (t.take m) _ (hsb.rd hS) (by simp; omega) (by omega)) ?_
            rintro _ w ⟨a', c', rfl, _, _, hS'⟩
            replace hS := hS.plus hS'
            clear hS'
            repeat (first | (refine X_id ?_; first | refine X_store rfl rfl rfl rfl hS (fun _ hS _ => ?_)) | (refine C_id ?_; first | refine C_ret ?_) | (refine E_id ?_; first | refine E_code ?_ | refine E_then_ret ?_ | refine E_blk_ret ?_ | refine E_ret1 rfl (by first | exact Rv_tmp rfl | exact Rv_cell rfl (run_load1 hS.cell) | exact Rv_cell rfl (run_loadN hS.cellsN)) (Ret.mk ?_)) | (refine GO_id ?_; first | refine GO_nil ?_ | refine GO_pure rfl rfl (fun _ => Yl_build rfl rfl rfl) rfl rfl ?_ | refine GO_hard rfl rfl ?_) | (refine Keep_id ?_; first | refine And.intro (by repeat (first | exact trivial | refine And.intro (.inl (by decide +kernel)) ?_ | refine And.intro (.inr (by first | assumption | exact hS.cell | exact cell_at (by assumption) | exact hS.cellI (by omega) | exact hS.cellIP (by omega) | exact hS.cellsN | exact ((hr.rd hS).cellX (by omega) hx) | exact ((hr2.rd hS).cellX (by omega) hx2) | exact hS.cellB (by omega) | exact hS.cellBA (by omega) | exact (hb.rd hS).cellB' (by omega) | exact (hb2.rd hS).cellB' (by omega) | exact (hg.rd hS).cellI (by omega) | exact (hg2.rd hS).cellI (by omega) | exact ((hr.rd hS).cellF (by first | omega | (dsimp only; omega)) hx) | exact ((hr2.rd hS).cellF (by first | omega | (dsimp only; omega)) hx2) | exact hS.cellO 0 (by omega) | exact hS.cellO 1 (by omega) | exact hS.cellIA (by omega) | exact (hg.rd hS).cellIA (by omega) | exact (hg2.rd hS).cellIA (by omega) | exact cell_at (hc.rd hS).pts | exact hb.rd hS | exact hS.cellO 4 (by omega) | exact hS.cellO 5 (by omega) | exact hS.cellO 6 (by omega) | exact hS.cellO 7 (by omega) | exact hS.cellO 8 (by omega) | exact hS.cellO 9 (by omega) | exact hS.cellO 10 (by omega) | exact hS.cellO 11 (by omega) | exact hS.cellO 12 (by omega) | exact hS.cellO 13 (by omega))) ?_)) ?_))
            refine ⟨_, rfl, j + m, by omega, by rw [← hdj, List.drop_drop], ?_⟩
            have hS : St W F [own 5 1 a' c' (bv (t.take m)), Rdr p a s.length c (j + m) 0] _ := hS.took
            exact hS.top_txt (by simp; omega)
          · rw [if_neg hmt]
            repeat (first | (refine G_id ?_; first | refine G_nil ?_ | refine G_plain rfl rfl ?_) | (refine X_id ?_; first | refine X_yl (Yl_assign rfl rfl) rfl rfl ?_) | (refine C_id ?_; first | refine C_seq ?_) | (refine E_id ?_; first | refine E_code ?_))
            refine C_ord (.s 0 (.s 1 (.s 2 (.s 3 (.s 4 (.s 5 (.s 6 (.s 7 (.s 8 (.s 9 (.s 10 (.s 11 (.s 12 (.s 13 (.s 14 (.s 15 (.s 16 (.s 17 (.s 18 (.s 19 (.s 20 .nil))))))))))))))))))))) mixed (by kernel_rfl) rfl ?_
            have hS := hS.drew
            repeat (first | (refine G_id ?_; first | refine G_plain rfl rfl ?_) | (refine X_id ?_; first | refine X_yl (Yl_move rfl rfl) rfl rfl ?_) | (refine C_id ?_; first | refine C_region ?_ | refine C_cond_t rfl ?_) | (refine E_id ?_; first | refine E_code ?_) | (refine GO_id ?_; first | refine GO_nil ?_ | refine GO_pure rfl rfl (fun _ => Yl_move rfl rfl) rfl rfl ?_ | refine GO_pure rfl rfl (fun _ => Yl_nilCheck rfl rfl) rfl rfl ?_ | refine GO_pure rfl rfl (fun _ => Yl_fieldAddr0 rfl rfl rfl) rfl rfl ?_ | refine GO_pure rfl rfl (fun _ => Yl_pick_t rfl rfl rfl) rfl rfl ?_ | refine GO_pure rfl rfl (fun _ => Yl_eql_t rfl rfl rfl (by omega)) rfl rfl ?_ | refine GO_read (fun w' => w'.cell? _ = some _) rfl rfl hS.cell (fun _ hc => Yl_load rfl rfl hc) rfl rfl ?_ | refine GO_yes rfl rfl rfl rfl (fun _ => Yl_move rfl rfl) rfl rfl ?_ | refine GO_yes rfl rfl rfl rfl (fun _ => Yl_nilCheck rfl rfl) rfl rfl ?_ | refine GO_yes rfl rfl rfl rfl (fun _ => Yl_fieldAddr0 rfl rfl rfl) rfl rfl ?_ | refine GO_yes rfl rfl rfl rfl (fun _ => Yl_len rfl rfl) rfl rfl ?_ | refine GO_yes rfl rfl rfl rfl (fun _ => Yl_gtr_t rfl rfl rfl (by omega)) rfl rfl ?_ | refine GO_yes rfl rfl rfl rfl (fun _ => Yl_sub rfl rfl rfl (w64 (by omega) (by omega))) rfl rfl ?_ | refine GO_yes_read (fun w' => w'.cell? _ = some _) rfl rfl rfl rfl hS.cell (fun _ hc => Yl_load rfl rfl hc) rfl rfl ?_))
            obtain ⟨_, hc, hr, hw, hbk⟩ := hS.call [true, false]
            refine X_callg _ rfl rfl rfl rfl rfl (wrong0_ p a s.length c j 4 _ _ hc) ?_
            rintro _ w ⟨rfl, hS⟩
            replace hS := hbk hS
            clear hc hr hw hbk
            repeat (first | (refine G_id ?_; first | refine G_nil ?_ | refine G_plain rfl rfl ?_) | (refine X_id ?_; first | refine X_yl (Yl_move rfl rfl) rfl rfl ?_ | refine X_yl (Yl_nilCheck rfl rfl) rfl rfl ?_ | refine X_yl (Yl_fieldAddr0 rfl rfl rfl) rfl rfl ?_ | refine X_yl (Yl_eql_f rfl rfl rfl (by omega)) rfl rfl ?_ | refine X_yl (Yl_build rfl rfl rfl) rfl rfl ?_ | refine X_yl (Yl_load rfl rfl hS.cell) rfl rfl ?_ | refine X_store rfl rfl rfl rfl hS (fun _ hS _ => ?_)) | (refine C_id ?_; first | refine C_seq ?_ | refine C_region ?_ | refine C_ret ?_ | refine C_skip ?_ | refine C_cond_f rfl ?_) | (refine E_id ?_; first | refine E_code ?_ | refine E_blk_n ?_ | refine E_ret1 rfl (by first | exact Rv_tmp rfl | exact Rv_cell rfl (run_load1 hS.cell) | exact Rv_cell rfl (run_loadN hS.cellsN)) (Ret.mk ?_)))
            exact ⟨_, _, _, _, _, _, _, _, rfl, j, 4, hj, by decide, hS.took⟩
  · simp only [decide_eq_false hlt] at hm
    rw [List.drop_of_length_le (by omega)]
    repeat (first | (refine G_id ?_; first | refine G_nil ?_ | refine G_plain rfl rfl ?_) | (refine X_id ?_; first | (refine X_callq 66 rfl rfl rfl rfl rfl hS (hm _ (hS.rd (List.mem_cons_of_mem _ (List.mem_cons_self ..)))) ?_; rintro _ _ rfl hS) | refine X_yl (Yl_move rfl rfl) rfl rfl ?_ | refine X_yl (Yl_assign rfl rfl) rfl rfl ?_ | refine X_yl (Yl_nilCheck rfl rfl) rfl rfl ?_ | refine X_yl (Yl_fieldAddr0 rfl rfl rfl) rfl rfl ?_ | refine X_yl (Yl_not_f rfl rfl) rfl rfl ?_ | refine X_alloc rfl rfl rfl hS (fun _ _ hS _ => ?_)) | (refine C_id ?_; first | refine C_seq ?_ | refine C_region ?_ | refine C_block ?_ | refine C_cond_t rfl ?_) | (refine E_id ?_; first | refine E_code ?_))
    obtain ⟨_, hc, hr, hw, hbk⟩ := hS.call [false, true]
    refine X_callg _ rfl rfl rfl rfl rfl (wrong0_ p a s.length c i 4 _ _ hc) ?_
    rintro _ w ⟨rfl, hS⟩
    replace hS := hbk hS
    clear hc hr hw hbk
    repeat (first | (refine G_id ?_; first | refine G_nil ?_ | refine G_plain rfl rfl ?_) | (refine X_id ?_; first | refine X_yl (Yl_build rfl rfl rfl) rfl rfl ?_ | refine X_store rfl rfl rfl rfl hS (fun _ hS _ => ?_)) | (refine C_id ?_; first | refine C_seq ?_ | refine C_region ?_ | refine C_ret ?_) | (refine E_id ?_; first | refine E_code ?_ | refine E_blk_n ?_ | refine E_ret1 rfl (by first | exact Rv_tmp rfl | exact Rv_cell rfl (run_load1 hS.cell) | exact Rv_cell rfl (run_loadN hS.cellsN)) (Ret.mk ?_)))
    rw [pv_nil]
    exact ⟨_, _, _, _, _, _, _, _, rfl, i, 4, hi, by decide, hS.took⟩
end Cr
namespace Cr
open Go Go.Proofs
set_option maxRecDepth 100000
set_option maxHeartbeats 4000000
attribute [local irreducible] Calls

theorem value_ (p : Nat) (a : Option Addr) (s : List UInt8) (c : Nat) (hsc : s.length ≤ c) (hl : s.length ≤ 1073741824) (f : Nat) : ValueOk p a s c f := by
  induction f using Nat.strongRecOn with
  | _ f ih =>
    cases f with
    | zero => intro i deep W F hi hd hf; omega
    | succ f => exact value_of p a s c hsc hl f (list_of p a s c (by omega) f fun g hg => ih g (by omega))
abbrev zV : List Value := [.int .i64 0, .int .i64 0, .slice none 0 0, .slice none 0 0]
/-- What Next tells. -/
def NRes (W : World) (r : Option (Top × List UInt8)) (v : Value) (w : World) : Prop :=
  match r with
  | some (t, l) => ∃ cs b q, v = .tuple #[.agg (List.toArray cs), .slice b l.length q, .int .i64 0] ∧ St W noF [topR t cs] w
  | none => ∃ e, v = .tuple #[.agg (List.toArray zV), .slice none 0 0, .int .i64 e] ∧ e ≠ 0 ∧ St W noF [] w
theorem next_ (a : Option Addr) (s : List UInt8) (c : Nat) (hsc : s.length ≤ c) (hl : s.length ≤ 131072) (W : World) (hG : Lg W noF) (hb : Ro W noF (bytes a s)) :
    Calls Tryd.prog 49 #[.slice a s.length c] W (Ret fun v w => NRes W (pv (2 * s.length + 1) 1 s) v w) := by
  have hS := St.start W
  refine calls_C Tryd.func49 rfl Tryd.ntmps49 rfl ?_
  repeat (first | (refine G_id ?_; first | refine G_nil ?_ | refine G_plain rfl rfl ?_) | (refine X_id ?_; first | refine X_yl (Yl_move rfl rfl) rfl rfl ?_ | refine X_yl (Yl_assign rfl rfl) rfl rfl ?_ | refine X_yl (Yl_len rfl rfl) rfl rfl ?_ | refine X_yl (Yl_gtr_f rfl rfl rfl (by omega)) rfl rfl ?_ | refine X_yl (Yl_build rfl rfl rfl) rfl rfl ?_ | refine X_box rfl rfl rfl rfl hS (fun _ _ hS _ => ?_) | refine X_alloc rfl rfl rfl hS (fun _ _ hS _ => ?_)) | (refine C_id ?_; first | refine C_seq ?_ | refine C_region ?_ | refine C_skip ?_ | refine C_cond_f rfl ?_) | (refine E_id ?_; first | refine E_code ?_))
  rename_i r _ _
  have hv := value_ r a s c hsc (by omega) (2 * s.length + 1) 0 1
  rw [List.drop_zero] at hv
  generalize pv (2 * s.length + 1) 1 s = res at hv ⊢
  obtain ⟨_, hc, _, hw, hbk⟩ := hS.call [true, false]
  refine X_callg _ rfl rfl rfl rfl rfl (hv _ _ (Nat.zero_le _) (by omega) (by omega) (hG.mono hw) (hw _ hb) hc) ?_
  rintro v w hV
  cases res with
  | none =>
    obtain ⟨k, n, a1, n1, c1, a2, n2, c2, rfl, j, e, hj, he, hS⟩ := hV
    replace hS := hbk hS
    clear hbk hw hc
    repeat (first | (refine G_id ?_; first | refine G_nil ?_ | refine G_plain rfl rfl ?_) | (refine X_id ?_; first | refine X_yl (Yl_move rfl rfl) rfl rfl ?_ | refine X_yl (Yl_nilCheck rfl rfl) rfl rfl ?_ | refine X_yl (Yl_fieldAddr0 rfl rfl rfl) rfl rfl ?_ | refine X_yl (Yl_neq_t rfl rfl rfl (by omega)) rfl rfl ?_ | refine X_yl (Yl_load rfl rfl hS.cell) rfl rfl ?_ | refine X_store rfl rfl rfl rfl hS (fun _ hS _ => ?_) | refine X_alloc rfl rfl rfl hS (fun _ _ hS _ => ?_)) | (refine C_id ?_; first | refine C_seq ?_ | refine C_region ?_ | refine C_cond_t rfl ?_) | (refine E_id ?_; first | refine E_code ?_))
    refine C_ord (.s 0 (.s 1 (.s 2 (.s 3 (.s 4 (.h 5 (.s 6 (.s 7 .nil)) .no)))))) mixed (by kernel_rfl) rfl ?_
    have hS := hS.drew
    repeat (first | (refine X_id ?_; first | refine X_store rfl rfl rfl rfl hS (fun _ hS _ => ?_)) | (refine C_id ?_; first | refine C_ret ?_) | (refine E_id ?_; first | refine E_code ?_ | refine E_then_ret ?_ | refine E_ret3 rfl (by first | exact Rv_tmp rfl | exact Rv_cell rfl (run_load1 hS.cell) | exact Rv_cell rfl (run_loadN hS.cellsN)) (by first | exact Rv_tmp rfl | exact Rv_cell rfl (run_load1 hS.cell) | exact Rv_cell rfl (run_loadN hS.cellsN)) (by first | exact Rv_tmp rfl | exact Rv_cell rfl (run_load1 hS.cell) | exact Rv_cell rfl (run_loadN hS.cellsN)) (Ret.mk ?_)) | (refine GO_id ?_; first | refine GO_nil ?_ | refine GO_pure rfl rfl (fun _ => Yl_move rfl rfl) rfl rfl ?_ | refine GO_pure rfl rfl (fun _ => Yl_assign rfl rfl) rfl rfl ?_ | refine GO_pure rfl rfl (fun _ => Yl_nilCheck rfl rfl) rfl rfl ?_ | refine GO_pure rfl rfl (fun _ => Yl_fieldAddr0 rfl rfl rfl) rfl rfl ?_ | refine GO_pure rfl rfl (fun _ => Yl_build rfl rfl rfl) rfl rfl ?_ | refine GO_read (fun w' => w'.cell? _ = some _) rfl rfl hS.cell (fun _ hc => Yl_load rfl rfl hc) rfl rfl ?_ | refine GO_hard rfl rfl ?_) | (refine Keep_id ?_; first | refine And.intro (by repeat (first | exact trivial | refine And.intro (.inl (by decide +kernel)) ?_ | refine And.intro (.inr (by first | assumption | exact hS.cell | exact cell_at (by assumption) | exact hS.cellI (by omega) | exact hS.cellIP (by omega) | exact hS.cellsN | exact ((hr.rd hS).cellX (by omega) hx) | exact ((hr2.rd hS).cellX (by omega) hx2) | exact hS.cellB (by omega) | exact hS.cellBA (by omega) | exact (hb.rd hS).cellB' (by omega) | exact (hb2.rd hS).cellB' (by omega) | exact (hg.rd hS).cellI (by omega) | exact (hg2.rd hS).cellI (by omega) | exact ((hr.rd hS).cellF (by first | omega | (dsimp only; omega)) hx) | exact ((hr2.rd hS).cellF (by first | omega | (dsimp only; omega)) hx2) | exact hS.cellO 0 (by omega) | exact hS.cellO 1 (by omega) | exact hS.cellIA (by omega) | exact (hg.rd hS).cellIA (by omega) | exact (hg2.rd hS).cellIA (by omega) | exact cell_at (hc.rd hS).pts | exact hb.rd hS | exact hS.cellO 4 (by omega) | exact hS.cellO 5 (by omega) | exact hS.cellO 6 (by omega) | exact hS.cellO 7 (by omega) | exact hS.cellO 8 (by omega) | exact hS.cellO 9 (by omega) | exact hS.cellO 10 (by omega) | exact hS.cellO 11 (by omega) | exact hS.cellO 12 (by omega) | exact hS.cellO 13 (by omega))) ?_)) ?_))
    exact ⟨e, rfl, he, hS.took⟩
  | some u =>
    obtain ⟨t, l⟩ := u
    obtain ⟨cs, rfl, j, hj, hdj, hS⟩ := hV
    replace hS := hbk hS
    clear hbk hw hc
    obtain ⟨k, n, a1, n1, c1, a2, n2, c2, rfl⟩ := hS.top_cells
    have hsb : Ro W noF (bytes (Cr.sub a j 1 c) l) := by
      have := hb.subBytes (l := j) (h := s.length) (c := c) (by omega) (by omega)
      rwa [hdj, List.take_of_length_le (by rw [← hdj]; simp)] at this
    have hll : l.length = s.length - j := by rw [← hdj, List.length_drop]
    repeat (first | (refine G_id ?_; first | refine G_nil ?_ | refine G_plain rfl rfl ?_) | (refine X_id ?_; first | refine X_yl (Yl_move rfl rfl) rfl rfl ?_ | refine X_yl (Yl_nilCheck rfl rfl) rfl rfl ?_ | refine X_yl (Yl_fieldAddr0 rfl rfl rfl) rfl rfl ?_ | refine X_yl (Yl_neq_f rfl rfl rfl (by omega)) rfl rfl ?_ | refine X_yl (Yl_load rfl rfl hS.cell) rfl rfl ?_ | refine X_store rfl rfl rfl rfl hS (fun _ hS _ => ?_) | refine X_alloc rfl rfl rfl hS (fun _ _ hS _ => ?_)) | (refine C_id ?_; first | refine C_seq ?_ | refine C_region ?_ | refine C_skip ?_ | refine C_cond_f rfl ?_) | (refine E_id ?_; first | refine E_code ?_))
    refine C_ord (.s 0 (.s 1 (.s 2 (.s 3 (.s 4 (.s 5 (.s 6 (.s 7 (.h 8 (.h 9 (.s 10 (.s 11 .nil)) .no) .no))))))))) mixed (by kernel_rfl) rfl ?_
    have hS := hS.drew
    repeat (first | (refine GO_id ?_; first | refine GO_pure rfl rfl (fun _ => Yl_move rfl rfl) rfl rfl ?_ | refine GO_pure rfl rfl (fun _ => Yl_nilCheck rfl rfl) rfl rfl ?_ | refine GO_pure rfl rfl (fun _ => Yl_fieldAddr0 rfl rfl rfl) rfl rfl ?_ | refine GO_read (fun w' => w'.cell? _ = some _) rfl rfl hS.cell (fun _ hc => Yl_load rfl rfl hc) rfl rfl ?_ | refine GO_read (fun w' => CellsN w' _ _ _) rfl rfl hS.cellsN (fun _ hc => Yl_loadN rfl rfl hc) rfl rfl ?_))
    refine GO_pure rfl rfl (fun _ => Yl_slice (l := j) (h := s.length) rfl rfl rfl rfl (.inl ⟨rfl, rfl⟩) (.inr ⟨_, _, rfl, by omega, by omega, by omega⟩)) rfl rfl ?_
    repeat (first | (refine GO_id ?_; first | refine GO_hard rfl rfl ?_))
    refine X_callg _ rfl rfl rfl rfl rfl (bclone_ _ _ _ l _ (hsb.rd hS) hll (by omega)) ?_
    rintro _ w ⟨a', c', rfl, _, _, hS'⟩
    replace hS := hS.plus hS'
    clear hS'
    rw [← hll]
    repeat (first | (refine X_id ?_; first | refine X_store rfl rfl rfl rfl hS (fun _ hS _ => ?_)) | (refine C_id ?_; first | refine C_ret ?_) | (refine E_id ?_; first | refine E_code ?_ | refine E_ret3 rfl (by first | exact Rv_tmp rfl | exact Rv_cell rfl (run_load1 hS.cell) | exact Rv_cell rfl (run_loadN hS.cellsN)) (by first | exact Rv_tmp rfl | exact Rv_cell rfl (run_load1 hS.cell) | exact Rv_cell rfl (run_loadN hS.cellsN)) (by first | exact Rv_tmp rfl | exact Rv_cell rfl (run_load1 hS.cell) | exact Rv_cell rfl (run_loadN hS.cellsN)) (Ret.mk ?_)) | (refine GO_id ?_; first | refine GO_nil ?_ | refine GO_pure rfl rfl (fun _ => Yl_assign rfl rfl) rfl rfl ?_ | refine GO_hard rfl rfl ?_) | (refine Keep_id ?_; first | refine And.intro (by repeat (first | exact trivial | refine And.intro (.inl (by decide +kernel)) ?_ | refine And.intro (.inr (by first | assumption | exact hS.cell | exact cell_at (by assumption) | exact hS.cellI (by omega) | exact hS.cellIP (by omega) | exact hS.cellsN | exact ((hr.rd hS).cellX (by omega) hx) | exact ((hr2.rd hS).cellX (by omega) hx2) | exact hS.cellB (by omega) | exact hS.cellBA (by omega) | exact (hb.rd hS).cellB' (by omega) | exact (hb2.rd hS).cellB' (by omega) | exact (hg.rd hS).cellI (by omega) | exact (hg2.rd hS).cellI (by omega) | exact ((hr.rd hS).cellF (by first | omega | (dsimp only; omega)) hx) | exact ((hr2.rd hS).cellF (by first | omega | (dsimp only; omega)) hx2) | exact hS.cellO 0 (by omega) | exact hS.cellO 1 (by omega) | exact hS.cellIA (by omega) | exact (hg.rd hS).cellIA (by omega) | exact (hg2.rd hS).cellIA (by omega) | exact cell_at (hc.rd hS).pts | exact hb.rd hS | exact hS.cellO 4 (by omega) | exact hS.cellO 5 (by omega) | exact hS.cellO 6 (by omega) | exact hS.cellO 7 (by omega) | exact hS.cellO 8 (by omega) | exact hS.cellO 9 (by omega) | exact hS.cellO 10 (by omega) | exact hS.cellO 11 (by omega) | exact hS.cellO 12 (by omega) | exact hS.cellO 13 (by omega))) ?_)) ?_))
    exact ⟨_, a', c', rfl, hS.took⟩
/-- What Decode tells. -/
def DRes (W : World) (r : Option Top) (v : Value) (w : World) : Prop :=
  match r with
  | some t => ∃ cs, v = .tuple #[.agg (List.toArray cs), .int .i64 0] ∧ St W noF [topR t cs] w
  | none => ∃ e, v = .tuple #[.agg (List.toArray zV), .int .i64 e] ∧ e ≠ 0 ∧ St W noF [] w
theorem decode_ (a : Option Addr) (s : List UInt8) (c : Nat) (hsc : s.length ≤ c) (hl : s.length ≤ 131072) (W : World) (hG : Lg W noF) (hb : Ro W noF (bytes a s)) :
    Calls Tryd.prog 32 #[.slice a s.length c] W (Ret fun v w => DRes W (dec s) v w) := by
  have hS := St.start W
  have hN := next_ a s c hsc hl
  unfold dec
  generalize pv (2 * s.length + 1) 1 s = res at hN ⊢
  refine calls_C Tryd.func32 rfl Tryd.ntmps32 rfl ?_
  repeat (first | (refine G_id ?_; first | refine G_nil ?_ | refine G_plain rfl rfl ?_) | (refine X_id ?_; first | refine X_yl (Yl_move rfl rfl) rfl rfl ?_ | refine X_yl (Yl_assign rfl rfl) rfl rfl ?_ | refine X_alloc rfl rfl rfl hS (fun _ _ hS _ => ?_)) | (refine C_id ?_; first | refine C_seq ?_ | refine C_region ?_) | (refine E_id ?_; first | refine E_code ?_))
  obtain ⟨_, hc, _, hw, hbk⟩ := hS.call [false]
  refine X_callg _ rfl rfl rfl rfl rfl (hN _ ((hG.mono hw).at_ hc) ((hw _ hb).rd hc).ro) ?_
  rintro v w hV
  cases res with
  | none =>
    obtain ⟨e, rfl, he, hS'⟩ := hV
    replace hS := hS.plus hS'
    clear hbk hw hc
    repeat (first | (refine G_id ?_; first | refine G_nil ?_ | refine G_plain rfl rfl ?_) | (refine X_id ?_; first | refine X_yl (Yl_move rfl rfl) rfl rfl ?_ | refine X_yl (Yl_assign rfl rfl) rfl rfl ?_ | refine X_yl (Yl_extract rfl rfl) rfl rfl ?_ | refine X_yl (Yl_neq_t rfl rfl rfl (by omega)) rfl rfl ?_ | refine X_yl (Yl_build rfl rfl rfl) rfl rfl ?_ | refine X_store rfl rfl rfl rfl hS (fun _ hS _ => ?_) | refine X_alloc rfl rfl rfl hS (fun _ _ hS _ => ?_)) | (refine C_id ?_; first | refine C_seq ?_ | refine C_region ?_ | refine C_block ?_ | refine C_ret ?_ | refine C_cond_t rfl ?_) | (refine E_id ?_; first | refine E_code ?_ | refine E_then_ret ?_ | refine E_blk_ret ?_ | refine E_ret2 rfl (by first | exact Rv_tmp rfl | exact Rv_cell rfl (run_load1 hS.cell) | exact Rv_cell rfl (run_loadN hS.cellsN)) (by first | exact Rv_tmp rfl | exact Rv_cell rfl (run_load1 hS.cell) | exact Rv_cell rfl (run_loadN hS.cellsN)) (Ret.mk ?_)))
    exact ⟨e, rfl, he, hS.took⟩
  | some u =>
    obtain ⟨t, l⟩ := u
    obtain ⟨cs, b, q, rfl, hS'⟩ := hV
    replace hS := hS.plus hS'
    clear hbk hw hc
    obtain ⟨k, n, a1, n1, c1, a2, n2, c2, rfl⟩ := hS.top_cells
    cases l with
    | nil =>
      simp only [List.length_nil]
      repeat (first | (refine G_id ?_; first | refine G_nil ?_ | refine G_plain rfl rfl ?_) | (refine X_id ?_; first | refine X_yl (Yl_move rfl rfl) rfl rfl ?_ | refine X_yl (Yl_assign rfl rfl) rfl rfl ?_ | refine X_yl (Yl_extract rfl rfl) rfl rfl ?_ | refine X_yl (Yl_len rfl rfl) rfl rfl ?_ | refine X_yl (Yl_neq_f rfl rfl rfl (by omega)) rfl rfl ?_ | refine X_yl (Yl_gtr_f rfl rfl rfl (by omega)) rfl rfl ?_ | refine X_yl (Yl_loadN rfl rfl hS.cellsN) rfl rfl ?_ | refine X_store rfl rfl rfl rfl hS (fun _ hS _ => ?_) | refine X_alloc rfl rfl rfl hS (fun _ _ hS _ => ?_)) | (refine C_id ?_; first | refine C_seq ?_ | refine C_region ?_ | refine C_block ?_ | refine C_ret ?_ | refine C_skip ?_ | refine C_cond_f rfl ?_) | (refine E_id ?_; first | refine E_code ?_ | refine E_blk_n ?_ | refine E_ret2 rfl (by first | exact Rv_tmp rfl | exact Rv_cell rfl (run_load1 hS.cell) | exact Rv_cell rfl (run_loadN hS.cellsN)) (by first | exact Rv_tmp rfl | exact Rv_cell rfl (run_load1 hS.cell) | exact Rv_cell rfl (run_loadN hS.cellsN)) (Ret.mk ?_)))
      exact ⟨_, rfl, hS.took⟩
    | cons x l =>
      simp only [List.length_cons]
      repeat (first | (refine G_id ?_; first | refine G_nil ?_ | refine G_plain rfl rfl ?_) | (refine X_id ?_; first | refine X_yl (Yl_move rfl rfl) rfl rfl ?_ | refine X_yl (Yl_assign rfl rfl) rfl rfl ?_ | refine X_yl (Yl_extract rfl rfl) rfl rfl ?_ | refine X_yl (Yl_len rfl rfl) rfl rfl ?_ | refine X_yl (Yl_neq_f rfl rfl rfl (by omega)) rfl rfl ?_ | refine X_yl (Yl_gtr_t rfl rfl rfl (by omega)) rfl rfl ?_ | refine X_yl (Yl_build rfl rfl rfl) rfl rfl ?_ | refine X_store rfl rfl rfl rfl hS (fun _ hS _ => ?_) | refine X_alloc rfl rfl rfl hS (fun _ _ hS _ => ?_)) | (refine C_id ?_; first | refine C_seq ?_ | refine C_region ?_ | refine C_block ?_ | refine C_ret ?_ | refine C_cond_t rfl ?_ | refine C_cond_f rfl ?_) | (refine E_id ?_; first | refine E_code ?_ | refine E_then_ret ?_ | refine E_blk_ret ?_ | refine E_ret2 rfl (by first | exact Rv_tmp rfl | exact Rv_cell rfl (run_load1 hS.cell) | exact Rv_cell rfl (run_loadN hS.cellsN)) (by first | exact Rv_tmp rfl | exact Rv_cell rfl (run_load1 hS.cell) | exact Rv_cell rfl (run_loadN hS.cellsN)) (Ret.mk ?_)))
      exact ⟨3, rfl, by decide, hS.took⟩
end Cr
namespace Cr
open Go
set_option maxRecDepth 10000
section
variable {P : Program} {w : World} {t e : TypeId}
theorem run_strEq {d : Nat} (a b : List UInt8) [he : Und P e .string] : (Op.equalIn (d + 1) e (.string (str a)) (.string (str b))).run P w = .ok (decide (a = b)) w := by
  rw [run_equalIn_string w d e (str a) (str b) he.und, str_toList, str_toList]
  congr 1
  by_cases h : a = b <;> simp [h]
/-- Arrays, element by element. -/
theorem run_equalIn_arrG {α : Type} [DecidableEq α] (enc : α → Value) (d n : Nat) [h : Und P t (.array n e)] [hs : Siz P e 1] [h1 : One P e]
    (heq : ∀ (a b : α) (w : World), (Op.equalIn (d + 1) e (enc a) (enc b)).run P w = .ok (decide (a = b)) w) (a b : List α) (ha : a.length = n) (hb : b.length = n) :
    (Op.equalIn (d + 2) t (.agg (a.map enc).toArray) (.agg (b.map enc).toArray)).run P w = .ok (decide (a = b)) w := by
  unfold Op.equalIn
  simp only [Sem.run_bind, run_underlying h.und, Result.andThen_ok, run_sizeOf (n := 1), Nat.mul_one]
  simp only [Std.Legacy.Range.forIn_eq_forIn_range']
  have hp : ∀ (l : List α) (i : Nat) (hi : i < l.length), (part e (l.map enc).toArray i).run P w = .ok (enc l[i]) w := fun l i hi => by
    simp [part, h1.one, hi]
  have key : ∀ m s, s + m = n → (forIn (List.range' s m) (none, ()) (fun i (__s : Option Bool × Unit) => do
      let __do_lift ← part e (a.map enc).toArray i
      let __do_lift_1 ← part e (b.map enc).toArray i
      let __do_lift ← Op.equalIn (d + 1) e __do_lift __do_lift_1
      if (!__do_lift) = true then pure (ForInStep.done (some false, ())) else pure (ForInStep.yield (none, ()))) : Sem (Option Bool × Unit)).run P w = .ok (if a.drop s = b.drop s then none else some false, ()) w := by
    intro m
    induction m with
    | zero =>
      intro s hs
      rw [List.drop_of_length_le (by omega), List.drop_of_length_le (by omega)]
      simp
    | succ m ih =>
      intro s hs
      have hsa : s < a.length := by omega
      have hsb : s < b.length := by omega
      rw [List.range'_succ, List.forIn_cons]
      simp only [Sem.run_bind, hp a s hsa, hp b s hsb, Result.andThen_ok, heq]
      rw [List.drop_eq_getElem_cons hsa, List.drop_eq_getElem_cons hsb]
      by_cases hc : a[s] = b[s]
      · rw [decide_eq_true hc]
        simp only [Bool.not_true, Bool.false_eq_true, if_false, Sem.run_pure, Result.andThen_ok]
        rw [ih (s + 1) (by omega), hc]
        simp only [List.cons.injEq, true_and]
      · rw [decide_eq_false hc]
        simp only [Bool.not_false, if_true, Sem.run_pure, Result.andThen_ok]
        rw [if_neg (fun h => hc (List.cons.inj h).1)]
  have hz : [:n].size = n := by simp [Std.Legacy.Range.size]
  rw [hz, key n 0 (by omega)]
  by_cases hab : a = b <;> simp [hab]
end
section
variable {P : Program} {o : Oper} {σ : Env} {w : World} {x y : Operand} {t ty e : TypeId}
/-- Comparing values of this type asks no interface. -/
class NoGd (P : Program) (t : TypeId) : Prop where
  no : P.eqGuardType P.depth t = false
def sv (s : List UInt8) : Value := .string (str s)
theorem Yl_neqStrs {n : Nat} (a b : List (List UInt8)) {u v : Array Value} (ho : o.op = .binOp .neq t x y ty) (hx : ev σ x = some (.agg u)) (hy : ev σ y = some (.agg v)) (hu : u = (a.map sv).toArray) (hv : v = (b.map sv).toArray) [h : Und P t (.array n e)] [he : Und P e .string] [hs : Siz P e 1] [h1 : One P e] [hg : NoGd P t] (ha : a.length = n) (hb : b.length = n) :
    Yl P o σ w (.bool (decide (¬ a = b))) := ⟨fun N ds f hf => by
  subst hu hv
  have h2 := run_eqGuard_agg (P := P) (w := w) .neq t x y (a.map sv).toArray (b.map sv).toArray hg.no
  have h3 := run_neq_struct (P := P) (w := w) t (a.map sv).toArray (b.map sv).toArray
  have h4 := run_equalIn_arrG (P := P) (w := w) (t := t) (e := e) sv 9998 n (fun p q w => run_strEq p q) a b ha hb
  have e1 : (!(decide (a = b))) = decide (¬ a = b) := by by_cases q : a = b <;> simp [q]
  simp only [execOp, ho, hf.eval hx, hf.eval hy, Sem.run_bind, h2, h3, h4, Result.andThen_ok, e1]
  rfl⟩
theorem Yl_eqlStrs {n : Nat} (a b : List (List UInt8)) {u v : Array Value} (ho : o.op = .binOp .eql t x y ty) (hx : ev σ x = some (.agg u)) (hy : ev σ y = some (.agg v)) (hu : u = (a.map sv).toArray) (hv : v = (b.map sv).toArray) [h : Und P t (.array n e)] [he : Und P e .string] [hs : Siz P e 1] [h1 : One P e] [hg : NoGd P t] (ha : a.length = n) (hb : b.length = n) :
    Yl P o σ w (.bool (decide (a = b))) := ⟨fun N ds f hf => by
  subst hu hv
  have h2 := run_eqGuard_agg (P := P) (w := w) .eql t x y (a.map sv).toArray (b.map sv).toArray hg.no
  have h3 := run_eql_struct (P := P) (w := w) t (a.map sv).toArray (b.map sv).toArray
  have h4 := run_equalIn_arrG (P := P) (w := w) (t := t) (e := e) sv 9998 n (fun p q w => run_strEq p q) a b ha hb
  simp only [execOp, ho, hf.eval hx, hf.eval hy, Sem.run_bind, h2, h3, h4, Result.andThen_ok]
  rfl⟩
/-- Structs of strings and numbers. -/
inductive SF where
  | s (l : List UInt8)
  | n (k : Int)
def SF.v : SF → Value
  | .s l => .string (str l)
  | .n k => .int .i64 k
/-- A field, and what it holds on both sides. -/
def SFok (P : Program) (xs ys : Array Value) (f : Field) : SF × SF → Prop
  | (.s a, .s b) => P.underlying f.type = some .string ∧ xs[f.offset]? = some (.string (str a)) ∧ ys[f.offset]? = some (.string (str b)) ∧ (f.name == "_") = false
  | (.n a, .n b) => P.underlying f.type = some (.int .i64) ∧ xs[f.offset]? = some (.int .i64 a) ∧ ys[f.offset]? = some (.int .i64 b) ∧ (f.name == "_") = false
  | _ => False
def SFeq : List (SF × SF) → Prop
  | [] => True
  | (.s a, .s b) :: r => a = b ∧ SFeq r
  | (.n a, .n b) :: r => a = b ∧ SFeq r
  | _ :: _ => False
instance : (l : List (SF × SF)) → Decidable (SFeq l)
  | [] => .isTrue trivial
  | (.s a, .s b) :: r => @instDecidableAnd (a = b) (SFeq r) _ (instDecidableSFeq r)
  | (.n a, .n b) :: r => @instDecidableAnd (a = b) (SFeq r) _ (instDecidableSFeq r)
  | (.s _, .n _) :: _ => .isFalse id
  | (.n _, .s _) :: _ => .isFalse id
end
end Cr
namespace Cr
open Go Go.Proofs
set_option maxRecDepth 100000
set_option maxHeartbeats 2000000
attribute [local irreducible] Calls

/-- What strings.Fields reads. -/
def Sp (W : World) (F : Nat → Prop) : Prop := Ro W F (glob 0 (Lib.asciiSpaceTab.map fun z => Value.int .u8 z))
theorem Sp.at_ {W w : World} {F : Nat → Prop} {rs : List Res} (H : Sp W F) (hS : St W F rs w) : Sp w noF := (Ro.rd H hS).ro
def wordsT : List UInt8 := [105, 110, 115, 116, 97, 108, 108, 32, 114, 101, 102, 114, 101, 115, 104, 32, 114, 101, 118, 101, 114, 116, 32, 114, 101, 109, 111, 118, 101, 32, 99, 111, 110, 110, 101, 99, 116, 32, 100, 105, 115, 99, 111, 110, 110, 101, 99, 116]
theorem wordsT_ascii : ∀ b ∈ wordsT, b.toNat < 128 := by decide
theorem wordsT_fields : Lib.fields wordsT = words6 := by decide
theorem fields_ (W : World) (hT : Sp W noF) : Calls Tryd.prog 41 #[.string (str wordsT)] W (Ret fun v w => ∃ b, v = .slice (some ⟨b, 0, none⟩) 6 6 ∧ St W noF [row (some ⟨b, 0, none⟩) (words6.map sv)] w) := by
  have h := Tryd.strings_Fields_laid (str wordsT) W (by decide) (fun j b hb => wordsT_ascii b (List.mem_of_getElem? (by simpa [str] using hb))) (glob_var (by kernel_rfl) hT.start)
  have e : Lib.fields (str wordsT).data.toList = words6 := by rw [show (str wordsT).data.toList = wordsT by simp [str], wordsT_fields]
  rw [e] at h
  refine h.mono ?_
  rintro e w ⟨rfl, rfl⟩
  refine ⟨_, rfl, _, rfl, ?_⟩
  exact ((St.start W).alloc _).head row_pts
theorem contains_ (b : Nat) (x : List UInt8) (W : World) (hr : Rd W (row (some ⟨b, 0, none⟩) (words6.map sv))) : Calls Tryd.prog 40 #[.slice (some ⟨b, 0, none⟩) 6 6, .string (str x)] W (Ret fun v w => v = .bool (decide (x ∈ words6)) ∧ W = w) := by
  have h := Tryd.slices_Contains_string b 0 6 6 (words6.map str) (str x) W (by decide) (by decide) (fun j hj => ?_)
  · refine h.mono ?_
    rintro e w ⟨rfl, rfl⟩
    refine ⟨_, rfl, ?_, rfl⟩
    congr 1
    have : (Lib.containsS ((words6.map str).take 6) (str x) = true) ↔ x ∈ words6 := by
      rw [Lib.containsS_iff, List.take_of_length_le (by decide)]
      constructor
      · intro h
        obtain ⟨y, hy, he⟩ := List.mem_map.1 h
        have := congrArg (fun z : ByteArray => z.data.toList) he
        obtain rfl : y = x := by simpa [str] using this
        exact hy
      · exact fun h => List.mem_map.2 ⟨x, h, rfl⟩
    by_cases hx : x ∈ words6
    · rw [decide_eq_true hx]; exact this.2 hx
    · rw [decide_eq_false hx]
      cases hc : Lib.containsS ((words6.map str).take 6) (str x) with
      | false => rfl
      | true => exact absurd (this.1 hc) hx
  · have hj6 : j < 6 := hj
    have h1 : (words6.map sv)[j]? = some (sv (words6.getD j [])) := by
      rw [List.getElem?_map, List.getElem?_eq_getElem (show j < words6.length from hj6), List.getD_eq_getElem?_getD, List.getElem?_eq_getElem (show j < words6.length from hj6)]; rfl
    have h2 : (words6.map str).getD j ByteArray.empty = str (words6.getD j []) := by
      rw [List.getD_eq_getElem?_getD, List.getElem?_map, List.getD_eq_getElem?_getD, List.getElem?_eq_getElem (show j < words6.length from hj6)]; rfl
    rw [h2]
    exact hr.cells j _ h1
theorem check_ (r : Rec) (W : World) (hT : Sp W noF) : Calls Tryd.prog 21 #[.agg r.cells.toArray] W (Ret fun v w => v = .int .i64 (rchk r : Nat) ∧ St W noF [] w) := by
  have hS := St.start W
  have hC := fun b => contains_ b r.cmd
  have hN1 := named_ r.pub
  have hN2 := named_ r.pkg
  have hF := fun W h => fields_ W h
  by_cases h1 : r.cmd ∈ words6
  case neg =>
    simp only [decide_eq_false h1] at hC
    rw [show rchk r = 1 from if_neg h1]
    refine calls_C Tryd.func21 rfl Tryd.ntmps21 rfl ?_
    repeat (first | (refine G_id ?_; first | refine G_nil ?_ | refine G_plain rfl rfl ?_) | (refine X_id ?_; first | refine X_yl (Yl_assign rfl rfl) rfl rfl ?_ | refine X_box rfl rfl rfl rfl hS (fun _ _ hS _ => ?_)) | (refine C_id ?_; first | refine C_seq ?_ | refine C_region ?_ | refine C_block ?_) | (refine E_id ?_; first | refine E_code ?_))
    refine C_ord (.s 1 (.s 2 (.h 0 (.h 3 (.s 4 (.s 5 .nil)) .no) .no))) mixed (by kernel_rfl) rfl ?_
    have hS := hS.drew
    repeat (first | (refine GO_id ?_; first | refine GO_pure rfl rfl (fun _ => Yl_fieldAddr0 rfl rfl rfl) rfl rfl ?_ | refine GO_read (fun w' => w'.cell? _ = some _) rfl rfl hS.cell (fun _ hc => Yl_load rfl rfl hc) rfl rfl ?_ | refine GO_hard rfl rfl ?_))
    refine X_callg _ rfl rfl rfl rfl rfl (hF _ (hT.at_ hS)) ?_
    rintro _ w ⟨b, rfl, hS'⟩
    replace hS := hS.plus hS'
    clear hS'
    repeat (first | (refine GO_id ?_; first | refine GO_hard rfl rfl ?_) | (refine Keep_id ?_; first | refine And.intro (by repeat (first | exact trivial | refine And.intro (.inl (by decide +kernel)) ?_ | refine And.intro (.inr (by first | assumption | exact hS.cell | exact cell_at (by assumption) | exact hS.cellI (by omega) | exact hS.cellIP (by omega) | exact hS.cellsN | exact ((hr.rd hS).cellX (by omega) hx) | exact ((hr2.rd hS).cellX (by omega) hx2) | exact hS.cellB (by omega) | exact hS.cellBA (by omega) | exact (hb.rd hS).cellB' (by omega) | exact (hb2.rd hS).cellB' (by omega) | exact (hg.rd hS).cellI (by omega) | exact (hg2.rd hS).cellI (by omega) | exact ((hr.rd hS).cellF (by first | omega | (dsimp only; omega)) hx) | exact ((hr2.rd hS).cellF (by first | omega | (dsimp only; omega)) hx2) | exact hS.cellO 0 (by omega) | exact hS.cellO 1 (by omega) | exact hS.cellIA (by omega) | exact (hg.rd hS).cellIA (by omega) | exact (hg2.rd hS).cellIA (by omega) | exact cell_at (hc.rd hS).pts | exact hb.rd hS | exact hS.cellO 4 (by omega) | exact hS.cellO 5 (by omega) | exact hS.cellO 6 (by omega) | exact hS.cellO 7 (by omega) | exact hS.cellO 8 (by omega) | exact hS.cellO 9 (by omega) | exact hS.cellO 10 (by omega) | exact hS.cellO 11 (by omega) | exact hS.cellO 12 (by omega) | exact hS.cellO 13 (by omega))) ?_)) ?_))
    refine X_callg 40 rfl rfl rfl rfl rfl (hC b _ (hS.rd (by simp))) ?_
    rintro _ _ ⟨rfl, rfl⟩
    repeat (first | (refine G_id ?_; first | refine G_nil ?_ | refine G_plain rfl rfl ?_) | (refine X_id ?_; first | refine X_yl (Yl_assign rfl rfl) rfl rfl ?_) | (refine C_id ?_; first | refine C_seq ?_ | refine C_region ?_ | refine C_ret ?_ | refine C_cond_t rfl ?_) | (refine E_id ?_; first | refine E_code ?_ | refine E_then_ret ?_ | refine E_blk_ret ?_ | refine E_ret1 rfl (Rv_tmp rfl) (Ret.mk ?_)) | (refine GO_id ?_; first | refine GO_nil ?_ | refine GO_pure rfl rfl (fun _ => Yl_assign rfl rfl) rfl rfl ?_ | refine GO_pure rfl rfl (fun _ => Yl_not_f rfl rfl) rfl rfl ?_) | (refine Keep_id ?_; first | refine And.intro (by repeat (first | exact trivial | refine And.intro (.inl (by decide +kernel)) ?_ | refine And.intro (.inr (by first | assumption | exact hS.cell | exact cell_at (by assumption) | exact hS.cellI (by omega) | exact hS.cellIP (by omega) | exact hS.cellsN | exact ((hr.rd hS).cellX (by omega) hx) | exact ((hr2.rd hS).cellX (by omega) hx2) | exact hS.cellB (by omega) | exact hS.cellBA (by omega) | exact (hb.rd hS).cellB' (by omega) | exact (hb2.rd hS).cellB' (by omega) | exact (hg.rd hS).cellI (by omega) | exact (hg2.rd hS).cellI (by omega) | exact ((hr.rd hS).cellF (by first | omega | (dsimp only; omega)) hx) | exact ((hr2.rd hS).cellF (by first | omega | (dsimp only; omega)) hx2) | exact hS.cellO 0 (by omega) | exact hS.cellO 1 (by omega) | exact hS.cellIA (by omega) | exact (hg.rd hS).cellIA (by omega) | exact (hg2.rd hS).cellIA (by omega) | exact cell_at (hc.rd hS).pts | exact hb.rd hS | exact hS.cellO 4 (by omega) | exact hS.cellO 5 (by omega) | exact hS.cellO 6 (by omega) | exact hS.cellO 7 (by omega) | exact hS.cellO 8 (by omega) | exact hS.cellO 9 (by omega) | exact hS.cellO 10 (by omega) | exact hS.cellO 11 (by omega) | exact hS.cellO 12 (by omega) | exact hS.cellO 13 (by omega))) ?_)) ?_))
    exact ⟨rfl, hS.drops⟩
  case pos =>
    simp only [decide_eq_true h1] at hC
    refine calls_C Tryd.func21 rfl Tryd.ntmps21 rfl ?_
    repeat (first | (refine G_id ?_; first | refine G_nil ?_ | refine G_plain rfl rfl ?_) | (refine X_id ?_; first | refine X_yl (Yl_assign rfl rfl) rfl rfl ?_ | refine X_box rfl rfl rfl rfl hS (fun _ _ hS _ => ?_)) | (refine C_id ?_; first | refine C_seq ?_ | refine C_region ?_ | refine C_block ?_) | (refine E_id ?_; first | refine E_code ?_))
    refine C_ord (.s 1 (.s 2 (.h 0 (.h 3 (.s 4 (.s 5 .nil)) .no) .no))) mixed (by kernel_rfl) rfl ?_
    have hS := hS.drew
    repeat (first | (refine GO_id ?_; first | refine GO_pure rfl rfl (fun _ => Yl_fieldAddr0 rfl rfl rfl) rfl rfl ?_ | refine GO_read (fun w' => w'.cell? _ = some _) rfl rfl hS.cell (fun _ hc => Yl_load rfl rfl hc) rfl rfl ?_ | refine GO_hard rfl rfl ?_))
    refine X_callg _ rfl rfl rfl rfl rfl (hF _ (hT.at_ hS)) ?_
    rintro _ w ⟨b, rfl, hS'⟩
    replace hS := hS.plus hS'
    clear hS'
    repeat (first | (refine GO_id ?_; first | refine GO_hard rfl rfl ?_) | (refine Keep_id ?_; first | refine And.intro (by repeat (first | exact trivial | refine And.intro (.inl (by decide +kernel)) ?_ | refine And.intro (.inr (by first | assumption | exact hS.cell | exact cell_at (by assumption) | exact hS.cellI (by omega) | exact hS.cellIP (by omega) | exact hS.cellsN | exact ((hr.rd hS).cellX (by omega) hx) | exact ((hr2.rd hS).cellX (by omega) hx2) | exact hS.cellB (by omega) | exact hS.cellBA (by omega) | exact (hb.rd hS).cellB' (by omega) | exact (hb2.rd hS).cellB' (by omega) | exact (hg.rd hS).cellI (by omega) | exact (hg2.rd hS).cellI (by omega) | exact ((hr.rd hS).cellF (by first | omega | (dsimp only; omega)) hx) | exact ((hr2.rd hS).cellF (by first | omega | (dsimp only; omega)) hx2) | exact hS.cellO 0 (by omega) | exact hS.cellO 1 (by omega) | exact hS.cellIA (by omega) | exact (hg.rd hS).cellIA (by omega) | exact (hg2.rd hS).cellIA (by omega) | exact cell_at (hc.rd hS).pts | exact hb.rd hS | exact hS.cellO 4 (by omega) | exact hS.cellO 5 (by omega) | exact hS.cellO 6 (by omega) | exact hS.cellO 7 (by omega) | exact hS.cellO 8 (by omega) | exact hS.cellO 9 (by omega) | exact hS.cellO 10 (by omega) | exact hS.cellO 11 (by omega) | exact hS.cellO 12 (by omega) | exact hS.cellO 13 (by omega))) ?_)) ?_))
    refine X_callg 40 rfl rfl rfl rfl rfl (hC b _ (hS.rd (by simp))) ?_
    rintro _ _ ⟨rfl, rfl⟩
    by_cases p1 : namedOk r.pub
    · rw [decide_eq_true p1] at hN1
      by_cases p2 : namedOk r.pkg
      · rw [decide_eq_true p2] at hN2
        have e : rchk r = if 0 ≤ r.rev ∧ r.rev ≤ 999999 ∧ 0 ≤ r.out ∧ r.out ≤ 19 then 0 else 2 := by unfold rchk; rw [if_pos h1, if_pos ⟨p1, p2⟩]
        repeat' (first | (refine X_callq 42 rfl rfl rfl rfl rfl hS (hN1 _) ?_; rintro _ _ rfl hS) | (refine X_callq 42 rfl rfl rfl rfl rfl hS (hN2 _) ?_; rintro _ _ rfl hS) | (refine G_id ?_; first | refine G_nil ?_ | refine G_plain rfl rfl ?_ | refine G_yes rfl rfl rfl rfl ?_ | refine G_no rfl rfl rfl rfl rfl rfl ?_) | (refine X_id ?_; first | refine X_yl (Yl_move rfl rfl) rfl rfl ?_ | refine X_yl (Yl_assign rfl rfl) rfl rfl ?_ | refine X_yl (Yl_fieldAddr0 rfl rfl rfl) rfl rfl ?_ | refine X_yl (Yl_pick_t rfl rfl rfl) rfl rfl ?_ | refine X_yl (Yl_pick_f rfl rfl rfl) rfl rfl ?_ | refine X_yl (Yl_not_t rfl rfl) rfl rfl ?_ | refine X_yl (Yl_lss rfl rfl rfl) rfl rfl ?_ | refine X_yl (Yl_gtr rfl rfl rfl) rfl rfl ?_ | refine X_yl (Yl_load rfl rfl hS.cell) rfl rfl ?_) | (refine C_id ?_; first | refine C_seq ?_ | refine C_region ?_ | refine C_ret ?_ | refine C_skip ?_ | refine C_cond_t rfl ?_ | refine C_cond_f rfl ?_) | (refine E_id ?_; first | refine E_code ?_ | refine E_then_ret ?_ | refine E_blk_n ?_ | refine E_blk_ret ?_ | refine E_ret1 rfl (Rv_tmp rfl) (Ret.mk ?_)) | (refine GO_id ?_; first | refine GO_nil ?_ | refine GO_pure rfl rfl (fun _ => Yl_assign rfl rfl) rfl rfl ?_ | refine GO_pure rfl rfl (fun _ => Yl_not_t rfl rfl) rfl rfl ?_) | (refine Keep_id ?_; first | refine And.intro (by repeat (first | exact trivial | refine And.intro (.inl (by decide +kernel)) ?_ | refine And.intro (.inr (by first | assumption | exact hS.cell | exact cell_at (by assumption) | exact hS.cellI (by omega) | exact hS.cellIP (by omega) | exact hS.cellsN | exact ((hr.rd hS).cellX (by omega) hx) | exact ((hr2.rd hS).cellX (by omega) hx2) | exact hS.cellB (by omega) | exact hS.cellBA (by omega) | exact (hb.rd hS).cellB' (by omega) | exact (hb2.rd hS).cellB' (by omega) | exact (hg.rd hS).cellI (by omega) | exact (hg2.rd hS).cellI (by omega) | exact ((hr.rd hS).cellF (by first | omega | (dsimp only; omega)) hx) | exact ((hr2.rd hS).cellF (by first | omega | (dsimp only; omega)) hx2) | exact hS.cellO 0 (by omega) | exact hS.cellO 1 (by omega) | exact hS.cellIA (by omega) | exact (hg.rd hS).cellIA (by omega) | exact (hg2.rd hS).cellIA (by omega) | exact cell_at (hc.rd hS).pts | exact hb.rd hS | exact hS.cellO 4 (by omega) | exact hS.cellO 5 (by omega) | exact hS.cellO 6 (by omega) | exact hS.cellO 7 (by omega) | exact hS.cellO 8 (by omega) | exact hS.cellO 9 (by omega) | exact hS.cellO 10 (by omega) | exact hS.cellO 11 (by omega) | exact hS.cellO 12 (by omega) | exact hS.cellO 13 (by omega))) ?_)) ?_) | (refine G_split (d := 24) rfl ?_ ?_ <;> intro hd) | (refine G_split (d := 29) rfl ?_ ?_ <;> intro hd) | (refine G_split (d := 34) rfl ?_ ?_ <;> intro hd) | (refine C_cond_dec rfl ?_ ?_ <;> intro hd))
        all_goals
          refine ⟨?_, hS.drops⟩
          rw [e]
          first | (rw [if_pos (by omega)]; rfl) | (rw [if_neg (by omega)]; rfl)
      · rw [decide_eq_false p2] at hN2
        rw [show rchk r = 10 by unfold rchk; rw [if_pos h1, if_neg (fun q => p2 q.2)]]
        repeat (first | (refine G_id ?_; first | refine G_nil ?_ | refine G_plain rfl rfl ?_ | refine G_yes rfl rfl rfl rfl ?_) | (refine X_id ?_; first | (refine X_callq 42 rfl rfl rfl rfl rfl hS (hN1 _) ?_; rintro _ _ rfl hS) | (refine X_callq 42 rfl rfl rfl rfl rfl hS (hN2 _) ?_; rintro _ _ rfl hS) | refine X_yl (Yl_move rfl rfl) rfl rfl ?_ | refine X_yl (Yl_assign rfl rfl) rfl rfl ?_ | refine X_yl (Yl_fieldAddr0 rfl rfl rfl) rfl rfl ?_ | refine X_yl (Yl_pick_f rfl rfl rfl) rfl rfl ?_ | refine X_yl (Yl_not_t rfl rfl) rfl rfl ?_ | refine X_yl (Yl_not_f rfl rfl) rfl rfl ?_ | refine X_yl (Yl_load rfl rfl hS.cell) rfl rfl ?_) | (refine C_id ?_; first | refine C_seq ?_ | refine C_region ?_ | refine C_ret ?_ | refine C_cond_t rfl ?_ | refine C_cond_f rfl ?_) | (refine E_id ?_; first | refine E_code ?_ | refine E_then_ret ?_ | refine E_blk_ret ?_ | refine E_ret1 rfl (Rv_tmp rfl) (Ret.mk ?_)) | (refine GO_id ?_; first | refine GO_nil ?_ | refine GO_pure rfl rfl (fun _ => Yl_assign rfl rfl) rfl rfl ?_ | refine GO_pure rfl rfl (fun _ => Yl_not_t rfl rfl) rfl rfl ?_) | (refine Keep_id ?_; first | refine And.intro (by repeat (first | exact trivial | refine And.intro (.inl (by decide +kernel)) ?_ | refine And.intro (.inr (by first | assumption | exact hS.cell | exact cell_at (by assumption) | exact hS.cellI (by omega) | exact hS.cellIP (by omega) | exact hS.cellsN | exact ((hr.rd hS).cellX (by omega) hx) | exact ((hr2.rd hS).cellX (by omega) hx2) | exact hS.cellB (by omega) | exact hS.cellBA (by omega) | exact (hb.rd hS).cellB' (by omega) | exact (hb2.rd hS).cellB' (by omega) | exact (hg.rd hS).cellI (by omega) | exact (hg2.rd hS).cellI (by omega) | exact ((hr.rd hS).cellF (by first | omega | (dsimp only; omega)) hx) | exact ((hr2.rd hS).cellF (by first | omega | (dsimp only; omega)) hx2) | exact hS.cellO 0 (by omega) | exact hS.cellO 1 (by omega) | exact hS.cellIA (by omega) | exact (hg.rd hS).cellIA (by omega) | exact (hg2.rd hS).cellIA (by omega) | exact cell_at (hc.rd hS).pts | exact hb.rd hS | exact hS.cellO 4 (by omega) | exact hS.cellO 5 (by omega) | exact hS.cellO 6 (by omega) | exact hS.cellO 7 (by omega) | exact hS.cellO 8 (by omega) | exact hS.cellO 9 (by omega) | exact hS.cellO 10 (by omega) | exact hS.cellO 11 (by omega) | exact hS.cellO 12 (by omega) | exact hS.cellO 13 (by omega))) ?_)) ?_))
        exact ⟨rfl, hS.drops⟩
    · rw [decide_eq_false p1] at hN1
      rw [show rchk r = 10 by unfold rchk; rw [if_pos h1, if_neg (fun q => p1 q.1)]]
      repeat (first | (refine G_id ?_; first | refine G_nil ?_ | refine G_plain rfl rfl ?_ | refine G_no rfl rfl rfl rfl rfl rfl ?_) | (refine X_id ?_; first | (refine X_callq 42 rfl rfl rfl rfl rfl hS (hN1 _) ?_; rintro _ _ rfl hS) | refine X_yl (Yl_move rfl rfl) rfl rfl ?_ | refine X_yl (Yl_assign rfl rfl) rfl rfl ?_ | refine X_yl (Yl_fieldAddr0 rfl rfl rfl) rfl rfl ?_ | refine X_yl (Yl_pick_t rfl rfl rfl) rfl rfl ?_ | refine X_yl (Yl_not_f rfl rfl) rfl rfl ?_ | refine X_yl (Yl_load rfl rfl hS.cell) rfl rfl ?_) | (refine C_id ?_; first | refine C_seq ?_ | refine C_region ?_ | refine C_ret ?_ | refine C_cond_t rfl ?_ | refine C_cond_f rfl ?_) | (refine E_id ?_; first | refine E_code ?_ | refine E_then_ret ?_ | refine E_blk_ret ?_ | refine E_ret1 rfl (Rv_tmp rfl) (Ret.mk ?_)) | (refine GO_id ?_; first | refine GO_nil ?_ | refine GO_pure rfl rfl (fun _ => Yl_assign rfl rfl) rfl rfl ?_ | refine GO_pure rfl rfl (fun _ => Yl_not_t rfl rfl) rfl rfl ?_) | (refine Keep_id ?_; first | refine And.intro (by repeat (first | exact trivial | refine And.intro (.inl (by decide +kernel)) ?_ | refine And.intro (.inr (by first | assumption | exact hS.cell | exact cell_at (by assumption) | exact hS.cellI (by omega) | exact hS.cellIP (by omega) | exact hS.cellsN | exact ((hr.rd hS).cellX (by omega) hx) | exact ((hr2.rd hS).cellX (by omega) hx2) | exact hS.cellB (by omega) | exact hS.cellBA (by omega) | exact (hb.rd hS).cellB' (by omega) | exact (hb2.rd hS).cellB' (by omega) | exact (hg.rd hS).cellI (by omega) | exact (hg2.rd hS).cellI (by omega) | exact ((hr.rd hS).cellF (by first | omega | (dsimp only; omega)) hx) | exact ((hr2.rd hS).cellF (by first | omega | (dsimp only; omega)) hx2) | exact hS.cellO 0 (by omega) | exact hS.cellO 1 (by omega) | exact hS.cellIA (by omega) | exact (hg.rd hS).cellIA (by omega) | exact (hg2.rd hS).cellIA (by omega) | exact cell_at (hc.rd hS).pts | exact hb.rd hS | exact hS.cellO 4 (by omega) | exact hS.cellO 5 (by omega) | exact hS.cellO 6 (by omega) | exact hS.cellO 7 (by omega) | exact hS.cellO 8 (by omega) | exact hS.cellO 9 (by omega) | exact hS.cellO 10 (by omega) | exact hS.cellO 11 (by omega) | exact hS.cellO 12 (by omega) | exact hS.cellO 13 (by omega))) ?_)) ?_))
      exact ⟨rfl, hS.drops⟩
end Cr
namespace Go.Proofs.YtkdolbmcnekeoaaDoor
open Go.ChangeShapes Go.WideShapes Go.ChangeAt Go.RowKit
set_option maxRecDepth 100000
def spaces16 : List Value := [.int .u16 9, .int .u16 13, .int .u16 1, .int .u16 32, .int .u16 133, .int .u16 101, .int .u16 160, .int .u16 5760, .int .u16 5600, .int .u16 8192, .int .u16 8202, .int .u16 1, .int .u16 8232, .int .u16 8233, .int .u16 1, .int .u16 8239, .int .u16 8287, .int .u16 48, .int .u16 12288, .int .u16 12288, .int .u16 1]
/-- A world for a witness: the settled one, the listed variables as their initialisers lay them. -/
noncomputable def lawWorld7 (os : Os) : World :=
  let w0 := World.holding Tryd.prog os ⟨#[.cells #[.string (Cr.str rangeText)] 183, .cells #[.string (Cr.str syntaxText)] 183, .cells spaces16.toArray 137, .cells #[.slice (some ⟨lowBlock + 2, 0, none⟩) 7 7, .slice none 0 0, .int .i64 2] 134], #[], []⟩
  { w0 with heap := ((((((w0.heap.modify 5 (tabOf (u8s tab32))).modify 6 (tabOf (u8s tab64))).modify 2 (tabOf (Lib.pow10Tab.map fun z => Value.int .u64 z))).modify 4 (tabOf [.iface 181 (.pointer (some ⟨lowBlock, 0, none⟩))])).modify 3 (tabOf [.iface 181 (.pointer (some ⟨lowBlock + 1, 0, none⟩))])).modify 1 (tabOf [.pointer (some ⟨lowBlock + 3, 0, none⟩)])).modify 0 (tabOf (u8s Lib.asciiSpaceTab)) }
theorem lg_of_laid7 {W : World} (h : laidMetH Tryd.prog Rows.auditBytesRow.laid W) : Cr.Lg W Cr.noF := by
  have h2 := laidMet.tail (laidMet.tail h)
  have h1 : Lib.TabIs Tryd.prog W "internal/strconv.uint64pow10" .u64 Lib.pow10Tab := Lib.tabIs_of_head (g := 2) (t := 161) (e := 153) (n := 20) (rest := [_, _, _, _]) (by kernel_rfl) (by kernel_rfl) Tryd.underlying161 Tryd.underlying153 (by kernel_rfl) (by kernel_rfl) h2
  obtain ⟨a0, s0, hv, _, _, _⟩ := laid_sentinel (g := 4) (laidMet.tail h2) (by kernel_rfl) (show (Tryd.prog.globals[4]?).map (·.type) = some 146 by kernel_rfl) Tryd.underlying146 errRow Tryd.underlying181 Tryd.underlying183 rfl rfl Tryd.underlying9 (by kernel_rfl) (by kernel_rfl)
  refine ⟨?_, 181, .pointer (some a0), ?_⟩
  · have := Cr.glob_of_var (P := Tryd.prog) (n := "internal/strconv.uint64pow10") (g := 2) (by kernel_rfl) h1
    simpa using this.ro
  · have := Cr.glob_of_var (P := Tryd.prog) (n := "strconv.ErrRange") (g := 4) (by kernel_rfl) hv
    simpa using this.ro
theorem sp_of_laid7 {W : World} (h : laidMetH Tryd.prog Rows.auditBytesRow.laid W) : Cr.Sp W Cr.noF := by
  have h2 := laidMet.tail (laidMet.tail (laidMet.tail (laidMet.tail (laidMet.tail (laidMet.tail h)))))
  have h1 : Lib.TabIs Tryd.prog W "strings.asciiSpace" .u8 Lib.asciiSpaceTab := Lib.tabIs_of_head (g := 0) (t := 105) (e := 5) (n := 256) (rest := []) (by kernel_rfl) (by kernel_rfl) Tryd.underlying105 Tryd.underlying5 (by kernel_rfl) (by kernel_rfl) h2
  have := Cr.glob_of_var (P := Tryd.prog) (n := "strings.asciiSpace") (g := 0) (by kernel_rfl) h1
  have e : (Array.map (fun z => Value.int .u8 z) Lib.asciiSpaceTab.toArray).toList = Lib.asciiSpaceTab.map fun z => Value.int .u8 z := by simp
  unfold Cr.Sp
  simpa using this.ro
end Go.Proofs.YtkdolbmcnekeoaaDoor
