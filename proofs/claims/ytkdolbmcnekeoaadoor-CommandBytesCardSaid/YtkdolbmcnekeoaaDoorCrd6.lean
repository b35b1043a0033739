/-
  Package codec: a reader takes a number and the byte behind it.
  Package codec: a reader reads a list, given that it reads values.
  Package codec: a reader reads a value: the parse in plain words (pv) is what it does.
  Package codec: Next and Decode: what bytes say (dec).
  Package codec: what is wrong with a value: nothing, at leaves and lists of leaves.
  Package codec: a writer; leaves and lists of leaves are written as encL and encT say.
  Package codec: Encode of a list of leaves.
  Package command: Check, Encode, Decode.
-/
import Derived.Test.YtkdolbmcnekeoaaDoorCrd5
import Derived.Test.YtkdolbmcnekeoaaDoorCrd4
namespace Cr
open Go Go.Proofs
set_option maxRecDepth 100000
set_option maxHeartbeats 4000000
attribute [local irreducible] Calls

/-- What number tells: the number, and where the reader stands; or that something is wrong. -/
def NumRes (p : Nat) (a : Option Addr) (s : List UInt8) (c : Nat) (W : World) (F : Nat → Prop) (r : Option (Int × List UInt8)) (v : Value) (w : World) : Prop :=
  match r with
  | some (n, t) => v = .int .i64 n ∧ ∃ i, i ≤ s.length ∧ s.drop i = t ∧ St W F [Rdr p a s.length c i 0] w
  | none => v = .int .i64 0 ∧ ∃ i e, i ≤ s.length ∧ e ≠ 0 ∧ St W F [Rdr p a s.length c i e] w
instance : Und Tryd.prog 146 (.interface #[("Error", 184)]) := ⟨Tryd.underlying146⟩
theorem Lg.at_ {W : World} {F : Nat → Prop} {rs : List Res} {w : World} (H : Lg W F) (hS : St W F rs w) : Lg w noF := by
  obtain ⟨h1, tp, p, h2⟩ := H
  exact ⟨(h1.rd hS).ro, tp, p, (h2.rd hS).ro⟩
theorem pu_ne (d : List UInt8) : ∀ a, (∀ c ∈ d, dig c = true) → (∃ u, Lib.parseUint10 a d = .ok u) ∨ Lib.parseUint10 a d = .range := by
  induction d with
  | nil => intro a _; exact .inl ⟨a, by rw [Lib.parseUint10]⟩
  | cons c d ih =>
    intro a hd
    rw [Lib.parseUint10, if_pos (dig_iff.1 (hd c (List.mem_cons_self ..)))]
    split
    · exact .inr rfl
    · split
      · exact .inr rfl
      · exact ih _ fun x hx => hd x (List.mem_cons_of_mem _ hx)
theorem mag_ne {d : List UInt8} (h0 : d ≠ []) (hd : ∀ c ∈ d, dig c = true) : (∃ u, Lib.parseMag d = .ok u) ∨ Lib.parseMag d = .range := by
  unfold Lib.parseMag
  rw [if_neg h0]
  exact pu_ne d 0 hd
theorem badN_digit {below : Bool} {l : List UInt8} (h : ¬ badN (numS below l)) : (∃ v, Lib.atoiAll (numS below l) = .ok v) ∨ Lib.atoiAll (numS below l) = .range := by
  have key : ∀ (neg : Prop) [Decidable neg] (u : Nat), (∃ v, (if ¬ neg ∧ 9223372036854775808 ≤ u then Lib.NumEnd.range else if neg ∧ 9223372036854775808 < u then .range else .ok (if neg then -(u : Int) else u)) = .ok v) ∨
      (if ¬ neg ∧ 9223372036854775808 ≤ u then Lib.NumEnd.range else if neg ∧ 9223372036854775808 < u then .range else .ok (if neg then -(u : Int) else u)) = .range := fun neg _ u => by
    split
    · exact .inr rfl
    · split
      · exact .inr rfl
      · exact .inl ⟨_, rfl⟩
  obtain ⟨d, hd, hs | ⟨hs, _⟩⟩ := numS_cases below l
  · rw [hs] at h ⊢
    cases d with
    | nil => exact absurd (.inl rfl) h
    | cons c d =>
      have hc := not45 (hd c (List.mem_cons_self ..))
      unfold Lib.atoiAll
      simp only
      rw [if_neg hc.2]
      rcases mag_ne (by simp) hd with ⟨u, hu⟩ | hu
      · rw [hu]; exact key _ u
      · rw [hu]; exact .inr rfl
  · rw [hs] at h ⊢
    unfold Lib.atoiAll
    simp only
    rw [if_pos (.inr rfl)]
    rcases mag_ne (fun hn => h (.inr (.inl (by rw [hn])))) hd with ⟨u, hu⟩ | hu
    · rw [hu]; exact key _ u
    · rw [hu]; exact .inr rfl
theorem number_ (p : Nat) (a : Option Addr) (s : List UInt8) (c : Nat) (hsc : s.length ≤ c) (i : Nat) (below : Bool) (k : UInt8) (W : World) (F : Nat → Prop) (hS : St W F [Rdr p a s.length c i 0] W) (hb : Ro W F (bytes a s)) (hl : s.length ≤ 1099511627776) (hi : i ≤ s.length) (hG : Lg W F) :
    Calls Tryd.prog 71 #[.pointer (some ⟨p, 0, none⟩), .bool below, .int .u8 (k.toNat : Int)] W (Ret fun v w => NumRes p a s c W F (num below k (s.drop i)) v w) := by
  have hdg := digits_ p a s c hsc i 0 below
  have hT := numS_take below (s.drop i)
  have hTl := numS_le below (s.drop i)
  have hsy := badN_digit (below := below) (l := s.drop i)
  unfold num
  generalize numS below (s.drop i) = T at hdg hT hTl hsy ⊢
  rw [List.length_drop] at hTl
  have hz := str_size T
  have hTl' : i + T.length ≤ s.length := by omega
  rw [List.drop_drop]
  refine calls_C Tryd.func71 rfl Tryd.ntmps71 rfl ?_
  repeat (first | (refine G_id ?_; first | refine G_nil ?_ | refine G_plain rfl rfl ?_) | (refine X_id ?_; first | refine X_yl (Yl_move rfl rfl) rfl rfl ?_ | refine X_yl (Yl_assign rfl rfl) rfl rfl ?_) | (refine C_id ?_; first | refine C_seq ?_ | refine C_region ?_) | (refine E_id ?_; first | refine E_code ?_))
  obtain ⟨_, hc, hr, hw, hbk⟩ := hS.call [true]
  refine X_callg _ rfl rfl rfl rfl rfl (hdg _ _ hc (hw _ hb) hl hi) ?_
  rintro _ w ⟨rfl, hS⟩
  replace hS := hbk hS
  clear hc hr hw hbk
  repeat (first | (refine G_id ?_; first | refine G_nil ?_ | refine G_plain rfl rfl ?_) | (refine X_id ?_; first | refine X_yl (Yl_move rfl rfl) rfl rfl ?_ | refine X_yl (Yl_assign rfl rfl) rfl rfl ?_ | refine X_yl (Yl_nilCheck rfl rfl) rfl rfl ?_ | refine X_yl (Yl_fieldAddr0 rfl rfl rfl) rfl rfl ?_) | (refine C_id ?_; first | refine C_seq ?_ | refine C_region ?_) | (refine E_id ?_; first | refine E_code ?_))
  have hm := more_ p a s.length c (i + T.length) 0
  by_cases hlt : i + T.length < s.length
  · simp only [decide_eq_true hlt] at hm
    refine X_callq 66 rfl rfl rfl rfl rfl hS (hm _ (hS.rd (List.mem_cons_self ..))) ?_
    rintro _ w rfl hS
    have hdr := List.drop_eq_getElem_cons hlt
    generalize hx0 : s[i + T.length] = x at hdr
    have hx : s[i + T.length]? = some x := by rw [List.getElem?_eq_getElem hlt, hx0]
    rw [hdr]
    simp only
    have hq := is_ p a s c (i + T.length) 0 k
    refine G_plain rfl rfl ?_
    refine X_yl (Yl_not_t rfl rfl) rfl rfl ?_
    refine G_nil ?_
    refine E_code ?_
    refine C_cond_f rfl ?_
    refine C_skip ?_
    refine E_code ?_
    refine C_seq ?_
    refine C_seq ?_
    refine C_join (α := Bool) (fun b => [(0, .pointer (some ⟨p, 0, none⟩)), (2, .int .u8 (k.toNat : Int)), (7, .string (str T)), (57, .bool b)]) (fun b w => (b = true ↔ badN T ∨ x ≠ k) ∧ St W F [Rdr p a s.length c (i + T.length) 0] w) ?_ ?_
    · by_cases h1 : T = []
      · repeat (first | (refine G_id ?_; first | refine G_nil ?_ | refine G_plain rfl rfl ?_ | refine G_no rfl rfl rfl rfl rfl rfl ?_ | refine G_no_undef rfl rfl rfl rfl rfl ?_) | (refine X_id ?_; first | refine X_yl (Yl_move rfl rfl) rfl rfl ?_ | refine X_yl (Yl_pick_t rfl rfl rfl) rfl rfl ?_ | refine X_yl (Yl_eqlStrT rfl rfl rfl (by assumption)) rfl rfl ?_) | (refine C_id ?_; first | refine C_region ?_))
        exact E_mid true ⟨rfl, rfl, rfl, rfl, trivial⟩ ⟨⟨fun _ => .inl (.inl h1), fun _ => rfl⟩, hS⟩
      · by_cases h2 : T = [45]
        · repeat (first | (refine G_id ?_; first | refine G_nil ?_ | refine G_plain rfl rfl ?_ | refine G_yes rfl rfl rfl rfl ?_ | refine G_no rfl rfl rfl rfl rfl rfl ?_ | refine G_no_undef rfl rfl rfl rfl rfl ?_) | (refine X_id ?_; first | refine X_yl (Yl_move rfl rfl) rfl rfl ?_ | refine X_yl (Yl_pick_t rfl rfl rfl) rfl rfl ?_ | refine X_yl (Yl_pick_f rfl rfl rfl) rfl rfl ?_ | refine X_yl (Yl_eqlStrT rfl rfl rfl (by assumption)) rfl rfl ?_ | refine X_yl (Yl_eqlStrF rfl rfl rfl (by assumption)) rfl rfl ?_) | (refine C_id ?_; first | refine C_region ?_))
          exact E_mid true ⟨rfl, rfl, rfl, rfl, trivial⟩ ⟨⟨fun _ => .inl (.inr (.inl h2)), fun _ => rfl⟩, hS⟩
        · by_cases h3 : T = [45, 48]
          · repeat (first | (refine G_id ?_; first | refine G_nil ?_ | refine G_plain rfl rfl ?_ | refine G_yes rfl rfl rfl rfl ?_ | refine G_no rfl rfl rfl rfl rfl rfl ?_ | refine G_no_undef rfl rfl rfl rfl rfl ?_) | (refine X_id ?_; first | refine X_yl (Yl_move rfl rfl) rfl rfl ?_ | refine X_yl (Yl_pick_t rfl rfl rfl) rfl rfl ?_ | refine X_yl (Yl_pick_f rfl rfl rfl) rfl rfl ?_ | refine X_yl (Yl_eqlStrT rfl rfl rfl (by assumption)) rfl rfl ?_ | refine X_yl (Yl_eqlStrF rfl rfl rfl (by assumption)) rfl rfl ?_) | (refine C_id ?_; first | refine C_region ?_))
            exact E_mid true ⟨rfl, rfl, rfl, rfl, trivial⟩ ⟨⟨fun _ => .inl (.inr (.inr (.inl h3))), fun _ => rfl⟩, hS⟩
          · obtain ⟨t, r, ht⟩ : ∃ t r, T = t :: r := by
              cases T with
              | nil => exact absurd rfl h1
              | cons t r => exact ⟨t, r, rfl⟩
            have ht0 : T[(0 : Int).toNat]? = some t := by rw [ht]; rfl
            have hth : T.head? = some t := by rw [ht]; rfl
            by_cases h4 : (t.toNat : Int) = 48 ∧ 1 < T.length
            · obtain ⟨h4, h5⟩ := h4
              repeat (first | (refine G_id ?_; first | refine G_nil ?_ | refine G_plain rfl rfl ?_ | refine G_yes rfl rfl rfl rfl ?_ | refine G_no rfl rfl rfl rfl rfl rfl ?_ | refine G_no_undef rfl rfl rfl rfl rfl ?_) | (refine X_id ?_; first | refine X_yl (Yl_move rfl rfl) rfl rfl ?_ | refine X_yl (Yl_pick_t rfl rfl rfl) rfl rfl ?_ | refine X_yl (Yl_pick_f rfl rfl rfl) rfl rfl ?_ | refine X_yl (Yl_len_str rfl rfl) rfl rfl ?_ | refine X_yl (Yl_eql_t rfl rfl rfl (by omega)) rfl rfl ?_ | refine X_yl (Yl_gtr_t rfl rfl rfl (by omega)) rfl rfl ?_ | refine X_yl (Yl_eqlStrF rfl rfl rfl (by assumption)) rfl rfl ?_ | refine X_yl (Yl_indexStr rfl rfl rfl (by omega) (by assumption)) rfl rfl ?_) | (refine C_id ?_; first | refine C_region ?_))
              refine E_mid true ⟨rfl, rfl, rfl, rfl, trivial⟩ ⟨⟨fun _ => .inl (.inr (.inr (.inr (.inl ⟨?_, h5⟩)))), fun _ => rfl⟩, hS⟩
              rw [hth, show t = 48 from UInt8.toNat_inj.1 (by have : (48 : UInt8).toNat = 48 := rfl; omega)]
            · by_cases h6 : 2 < T.length ∧ List.take (2 - 0) (List.drop 0 T) = [45, 48]
              · obtain ⟨h6, h7⟩ := h6
                have h4' : ¬ (t.toNat : Int) = 48 := fun h => h4 ⟨h, by omega⟩
                repeat (first | (refine G_id ?_; first | refine G_nil ?_ | refine G_plain rfl rfl ?_ | refine G_yes rfl rfl rfl rfl ?_ | refine G_no rfl rfl rfl rfl rfl rfl ?_) | (refine X_id ?_; first | refine X_yl (Yl_move rfl rfl) rfl rfl ?_ | refine X_yl (Yl_pick_t rfl rfl rfl) rfl rfl ?_ | refine X_yl (Yl_pick_f rfl rfl rfl) rfl rfl ?_ | refine X_yl (Yl_len_str rfl rfl) rfl rfl ?_ | refine X_yl (Yl_eql_f rfl rfl rfl (by omega)) rfl rfl ?_ | refine X_yl (Yl_gtr_t rfl rfl rfl (by omega)) rfl rfl ?_ | refine X_yl (Yl_eqlStrT rfl rfl rfl (by assumption)) rfl rfl ?_ | refine X_yl (Yl_eqlStrF rfl rfl rfl (by assumption)) rfl rfl ?_ | refine X_yl (Yl_indexStr rfl rfl rfl (by omega) (by assumption)) rfl rfl ?_ | refine X_yl (Yl_sliceStr rfl rfl rfl rfl (.inr ⟨_, _, rfl, by omega, rfl, by omega⟩) (.inl ⟨rfl, rfl⟩)) rfl rfl ?_) | (refine C_id ?_; first | refine C_region ?_))
                exact E_mid true ⟨rfl, rfl, rfl, rfl, trivial⟩ ⟨⟨fun _ => .inl (.inr (.inr (.inr (.inr ⟨h6, by simpa using h7⟩)))), fun _ => rfl⟩, hS⟩
              · have hgood : ¬ badN T := by
                  rintro (h | h | h | ⟨h, h'⟩ | ⟨h, h'⟩)
                  · exact h1 h
                  · exact h2 h
                  · exact h3 h
                  · rw [hth] at h
                    exact h4 ⟨by rw [Option.some.inj h]; rfl, h'⟩
                  · exact h6 ⟨h, by simpa using h'⟩
                have hcase : (¬ (t.toNat : Int) = 48 ∧ 2 < T.length ∧ ¬ List.take (2 - 0) (List.drop 0 T) = [45, 48]) ∨ (¬ (t.toNat : Int) = 48 ∧ ¬ 2 < T.length) ∨ ((t.toNat : Int) = 48 ∧ ¬ 1 < T.length) := by
                  by_cases q : (t.toNat : Int) = 48
                  · exact .inr (.inr ⟨q, fun h => h4 ⟨q, h⟩⟩)
                  · by_cases q2 : 2 < T.length
                    · exact .inl ⟨q, q2, fun h => h6 ⟨q2, h⟩⟩
                    · exact .inr (.inl ⟨q, q2⟩)
                have hlen : 1 ≤ T.length := by rw [ht]; simp
                clear ht hth
                by_cases hxk : s[i + T.length]? = some k
                · have hxe : x = k := by rw [hx] at hxk; exact Option.some.inj hxk
                  simp only [decide_eq_true hxk] at hq
                  rcases hcase with ⟨q1, q2, q3⟩ | ⟨q1, q2⟩ | ⟨q1, q2⟩
                  all_goals
                    repeat (first | (refine G_id ?_; first | refine G_nil ?_ | refine G_plain rfl rfl ?_ | refine G_yes rfl rfl rfl rfl ?_ | refine G_no rfl rfl rfl rfl rfl rfl ?_) | (refine X_id ?_; first | (refine X_callq 68 rfl rfl rfl rfl rfl hS (hq _ (hS.rd (List.mem_cons_self ..)) (hb.rd hS)) ?_; rintro _ _ rfl hS) | refine X_yl (Yl_move rfl rfl) rfl rfl ?_ | refine X_yl (Yl_nilCheck rfl rfl) rfl rfl ?_ | refine X_yl (Yl_fieldAddr0 rfl rfl rfl) rfl rfl ?_ | refine X_yl (Yl_pick_t rfl rfl rfl) rfl rfl ?_ | refine X_yl (Yl_pick_f rfl rfl rfl) rfl rfl ?_ | refine X_yl (Yl_not_t rfl rfl) rfl rfl ?_ | refine X_yl (Yl_len_str rfl rfl) rfl rfl ?_ | refine X_yl (Yl_eql_t rfl rfl rfl (by omega)) rfl rfl ?_ | refine X_yl (Yl_eql_f rfl rfl rfl (by omega)) rfl rfl ?_ | refine X_yl (Yl_gtr_t rfl rfl rfl (by omega)) rfl rfl ?_ | refine X_yl (Yl_gtr_f rfl rfl rfl (by omega)) rfl rfl ?_ | refine X_yl (Yl_eqlStrF rfl rfl rfl (by assumption)) rfl rfl ?_ | refine X_yl (Yl_indexStr rfl rfl rfl (by omega) (by assumption)) rfl rfl ?_ | refine X_yl (Yl_sliceStr rfl rfl rfl rfl (.inr ⟨_, _, rfl, by omega, rfl, by omega⟩) (.inl ⟨rfl, rfl⟩)) rfl rfl ?_) | (refine C_id ?_; first | refine C_region ?_))
                    exact E_mid false ⟨rfl, rfl, rfl, rfl, trivial⟩ ⟨⟨fun h => (Bool.noConfusion h), fun h => (h.elim hgood (fun q => q hxe)).elim⟩, hS⟩
                · have hxe : x ≠ k := fun h => hxk (by rw [hx, h])
                  simp only [decide_eq_false hxk] at hq
                  rcases hcase with ⟨q1, q2, q3⟩ | ⟨q1, q2⟩ | ⟨q1, q2⟩
                  all_goals
                    repeat (first | (refine G_id ?_; first | refine G_nil ?_ | refine G_plain rfl rfl ?_ | refine G_yes rfl rfl rfl rfl ?_ | refine G_no rfl rfl rfl rfl rfl rfl ?_) | (refine X_id ?_; first | (refine X_callq 68 rfl rfl rfl rfl rfl hS (hq _ (hS.rd (List.mem_cons_self ..)) (hb.rd hS)) ?_; rintro _ _ rfl hS) | refine X_yl (Yl_move rfl rfl) rfl rfl ?_ | refine X_yl (Yl_nilCheck rfl rfl) rfl rfl ?_ | refine X_yl (Yl_fieldAddr0 rfl rfl rfl) rfl rfl ?_ | refine X_yl (Yl_pick_t rfl rfl rfl) rfl rfl ?_ | refine X_yl (Yl_pick_f rfl rfl rfl) rfl rfl ?_ | refine X_yl (Yl_not_f rfl rfl) rfl rfl ?_ | refine X_yl (Yl_len_str rfl rfl) rfl rfl ?_ | refine X_yl (Yl_eql_t rfl rfl rfl (by omega)) rfl rfl ?_ | refine X_yl (Yl_eql_f rfl rfl rfl (by omega)) rfl rfl ?_ | refine X_yl (Yl_gtr_t rfl rfl rfl (by omega)) rfl rfl ?_ | refine X_yl (Yl_gtr_f rfl rfl rfl (by omega)) rfl rfl ?_ | refine X_yl (Yl_eqlStrF rfl rfl rfl (by assumption)) rfl rfl ?_ | refine X_yl (Yl_indexStr rfl rfl rfl (by omega) (by assumption)) rfl rfl ?_ | refine X_yl (Yl_sliceStr rfl rfl rfl rfl (.inr ⟨_, _, rfl, by omega, rfl, by omega⟩) (.inl ⟨rfl, rfl⟩)) rfl rfl ?_) | (refine C_id ?_; first | refine C_region ?_))
                    exact E_mid true ⟨rfl, rfl, rfl, rfl, trivial⟩ ⟨⟨fun _ => .inr hxe, fun _ => rfl⟩, hS⟩
    · clear hS
      rintro bad w ⟨hbad, hS⟩
      cases bad with
      | true =>
        rw [if_pos (hbad.1 rfl)]
        repeat (first | (refine G_id ?_; first | refine G_plain rfl rfl ?_) | (refine X_id ?_; first | refine X_yl (Yl_move rfl rfl) rfl rfl ?_) | (refine C_id ?_; first | refine C_seq ?_ | refine C_region ?_ | refine C_cond_t rfl ?_))
        obtain ⟨_, hc, hr, hw, hbk⟩ := hS.call [true]
        refine X_callg _ rfl rfl rfl rfl rfl (wrong_ p a s.length c (i + T.length) 0 3 _ _ hc) ?_
        rintro _ w ⟨rfl, hS⟩
        replace hS := hbk hS
        clear hc hr hw hbk
        repeat (first | (refine G_id ?_; first | refine G_nil ?_ | refine G_plain rfl rfl ?_) | (refine X_id ?_; first | refine X_yl (Yl_assign rfl rfl) rfl rfl ?_) | (refine C_id ?_; first | refine C_seq ?_ | refine C_region ?_ | refine C_ret ?_) | (refine E_id ?_; first | refine E_code ?_ | refine E_then_ret ?_ | refine E_ret1 rfl (Rv_tmp rfl) (Ret.mk ?_)))
        exact ⟨rfl, _, 3, hTl', by decide, hS⟩
      | false =>
        have hgood : ¬ (badN T ∨ x ≠ k) := fun h => by have := hbad.2 h; cases this
        rw [if_neg hgood]
        have hxk : x = k := Decidable.not_not.1 fun h => hgood (.inr h)
        have hsyn := hsy (fun h => hgood (.inl h))
        repeat (first | (refine G_id ?_; first | refine G_plain rfl rfl ?_) | (refine X_id ?_; first | refine X_yl (Yl_move rfl rfl) rfl rfl ?_) | (refine C_id ?_; first | refine C_seq ?_ | refine C_region ?_ | refine C_skip ?_ | refine C_cond_f rfl ?_) | (refine E_id ?_; first | refine E_code ?_))
        refine X_callq 76 rfl rfl rfl rfl rfl hS (atoi_ T _ _ (hG.at_ hS) (by omega) hsyn) ?_
        rintro _ w ⟨n, er, rfl, hres⟩ hS
        rcases hres with ⟨hn, rfl⟩ | ⟨hn, t, pp, rfl⟩
        · rw [hn]
          repeat (first | (refine G_id ?_; first | refine G_nil ?_ | refine G_plain rfl rfl ?_) | (refine X_id ?_; first | refine X_yl (Yl_move rfl rfl) rfl rfl ?_ | refine X_yl (Yl_assign rfl rfl) rfl rfl ?_ | refine X_yl (Yl_extract rfl rfl) rfl rfl ?_ | refine X_yl (Yl_neqIfNil rfl rfl) rfl rfl ?_) | (refine C_id ?_; first | refine C_seq ?_ | refine C_region ?_ | refine C_skip ?_ | refine C_cond_f rfl ?_) | (refine E_id ?_; first | refine E_code ?_))
          obtain ⟨_, hc, hr, hw, hbk⟩ := hS.call [true]
          refine X_callg _ rfl rfl rfl rfl rfl (take_ p a s c (i + T.length) 0 k _ _ hc (hw _ hb) hl) ?_
          rintro _ w ⟨rfl, hS⟩
          replace hS := hbk hS
          clear hc hr hw hbk
          repeat (first | (refine G_id ?_; first | refine G_nil ?_ | refine G_plain rfl rfl ?_) | (refine X_id ?_; first | refine X_yl (Yl_move rfl rfl) rfl rfl ?_ | refine X_yl (Yl_assign rfl rfl) rfl rfl ?_) | (refine C_id ?_; first | refine C_seq ?_ | refine C_region ?_ | refine C_ret ?_) | (refine E_id ?_; first | refine E_code ?_ | refine E_ret1 rfl (Rv_tmp rfl) (Ret.mk ?_)))
          rw [show takeP s (i + T.length) 0 k = (i + T.length + 1, 0) by unfold takeP; rw [if_neg (by simp), if_neg (by simpa using hlt), if_pos (by rw [hx, hxk])]] at hS
          exact ⟨rfl, _, by omega, rfl, hS⟩
        · rw [hn]
          repeat (first | (refine G_id ?_; first | refine G_nil ?_ | refine G_plain rfl rfl ?_) | (refine X_id ?_; first | refine X_yl (Yl_move rfl rfl) rfl rfl ?_ | refine X_yl (Yl_assign rfl rfl) rfl rfl ?_ | refine X_yl (Yl_extract rfl rfl) rfl rfl ?_ | refine X_yl (Yl_neqIfSome rfl rfl rfl) rfl rfl ?_) | (refine C_id ?_; first | refine C_seq ?_ | refine C_region ?_ | refine C_cond_t rfl ?_) | (refine E_id ?_; first | refine E_code ?_))
          obtain ⟨_, hc, hr, hw, hbk⟩ := hS.call [true]
          refine X_callg _ rfl rfl rfl rfl rfl (wrong_ p a s.length c (i + T.length) 0 2 _ _ hc) ?_
          rintro _ w ⟨rfl, hS⟩
          replace hS := hbk hS
          clear hc hr hw hbk
          repeat (first | (refine G_id ?_; first | refine G_nil ?_ | refine G_plain rfl rfl ?_) | (refine X_id ?_; first | refine X_yl (Yl_assign rfl rfl) rfl rfl ?_) | (refine C_id ?_; first | refine C_seq ?_ | refine C_region ?_ | refine C_ret ?_) | (refine E_id ?_; first | refine E_code ?_ | refine E_then_ret ?_ | refine E_ret1 rfl (Rv_tmp rfl) (Ret.mk ?_)))
          exact ⟨rfl, _, 2, hTl', by decide, hS⟩
  · simp only [decide_eq_false hlt] at hm
    rw [List.drop_of_length_le (by omega)]
    repeat (first | (refine G_id ?_; first | refine G_nil ?_ | refine G_plain rfl rfl ?_) | (refine X_id ?_; first | (refine X_callq 66 rfl rfl rfl rfl rfl hS (hm _ (hS.rd (List.mem_cons_self ..))) ?_; rintro _ _ rfl hS) | refine X_yl (Yl_move rfl rfl) rfl rfl ?_ | refine X_yl (Yl_not_f rfl rfl) rfl rfl ?_) | (refine C_id ?_; first | refine C_seq ?_ | refine C_region ?_ | refine C_cond_t rfl ?_) | (refine E_id ?_; first | refine E_code ?_))
    obtain ⟨_, hc, hr, hw, hbk⟩ := hS.call [true]
    refine X_callg _ rfl rfl rfl rfl rfl (wrong_ p a s.length c (i + T.length) 0 4 _ _ hc) ?_
    rintro _ w ⟨rfl, hS⟩
    replace hS := hbk hS
    clear hc hr hw hbk
    repeat (first | (refine G_id ?_; first | refine G_nil ?_ | refine G_plain rfl rfl ?_) | (refine X_id ?_; first | refine X_yl (Yl_assign rfl rfl) rfl rfl ?_) | (refine C_id ?_; first | refine C_seq ?_ | refine C_region ?_ | refine C_ret ?_) | (refine E_id ?_; first | refine E_code ?_ | refine E_then_ret ?_ | refine E_ret1 rfl (Rv_tmp rfl) (Ret.mk ?_)))
    exact ⟨rfl, _, 4, hTl', by decide, hS⟩
end Cr
namespace Cr
open Go Go.Proofs
set_option maxRecDepth 100000
set_option maxHeartbeats 4000000
attribute [local irreducible] Calls

theorem row_pts {b : Nat} {l : List Value} {T : TypeId} : ∀ h, pts b (.cells l.toArray T (0, 0)) h → row (some ⟨b, 0, none⟩) l h := fun _ hg => .inr ⟨b, 0, l.toArray, T, (0, 0), rfl, hg, fun j v hv => by simpa using hv⟩
/-- What value tells. -/
def VRes (p : Nat) (a : Option Addr) (s : List UInt8) (c : Nat) (W : World) (F : Nat → Prop) (r : Option (Top × List UInt8)) (v : Value) (w : World) : Prop :=
  match r with
  | some (t, l) => ∃ cs, v = .agg (List.toArray cs) ∧ ∃ i, i ≤ s.length ∧ s.drop i = l ∧ St W F [topR t cs, Rdr p a s.length c i 0] w
  | none => ∃ k n a1 n1 c1 a2 n2 c2, v = .agg (List.toArray [.int .i64 k, .int .i64 n, .slice a1 n1 c1, .slice a2 n2 c2]) ∧ ∃ i e, i ≤ s.length ∧ e ≠ 0 ∧ St W F [Rdr p a s.length c i e] w
/-- What list tells. -/
def LRes (p : Nat) (a : Option Addr) (s : List UInt8) (c : Nat) (W : World) (F : Nat → Prop) (r : Option (List Leaf × List UInt8)) (v : Value) (w : World) : Prop :=
  match r with
  | some (x, l) => ∃ b q, v = .slice b x.length q ∧ ∃ i, i ≤ s.length ∧ s.drop i = l ∧ St W F [listR b x, Rdr p a s.length c i 0] w
  | none => ∃ b m q, v = .slice b m q ∧ ∃ i e, i ≤ s.length ∧ e ≠ 0 ∧ St W F [Rdr p a s.length c i e] w
def ValueOk (p : Nat) (a : Option Addr) (s : List UInt8) (c : Nat) (f : Nat) : Prop :=
  ∀ (i deep : Nat) (W : World) (F : Nat → Prop), i ≤ s.length → deep ≤ 9 → 2 * (s.length - i) + 1 ≤ f → Lg W F → Ro W F (bytes a s) → St W F [Rdr p a s.length c i 0] W →
    Calls Tryd.prog 61 #[.pointer (some ⟨p, 0, none⟩), .int .i64 (deep : Nat)] W (Ret fun v w => VRes p a s c W F (pv f deep (s.drop i)) v w)
def ListOk (p : Nat) (a : Option Addr) (s : List UInt8) (c : Nat) (f : Nat) : Prop :=
  ∀ (i deep : Nat) (W : World) (F : Nat → Prop), s[i]? = some 40 → deep ≤ 9 → 2 * (s.length - (i + 1)) + 2 ≤ f → Lg W F → Ro W F (bytes a s) → St W F [Rdr p a s.length c i 0] W →
    Calls Tryd.prog 69 #[.pointer (some ⟨p, 0, none⟩), .int .i64 (deep : Nat)] W (Ret fun v w => LRes p a s c W F (if 8 < deep then none else pl f deep (s.drop (i + 1))) v w)

theorem pv_nil (f deep : Nat) : pv f deep [] = none := by cases f <;> simp [pv]
theorem pl_step (f deep : Nat) (l : List UInt8) (h : l.head? ≠ some 41) : pl (f + 1) deep l = match pv f (deep + 1) l with
    | none => none
    | some (t, r') => match pl f deep r' with
      | none => none
      | some (x, r'') => some (t.shut :: x, r'') := by
  cases l with
  | nil => rw [pv_nil]; simp [pl]
  | cons c l =>
    rw [pl, if_neg (fun e => h (by rw [e]; rfl))]
    cases pv f (deep + 1) (c :: l) with
    | none => rfl
    | some q =>
      obtain ⟨t, r'⟩ := q
      simp only
      cases pl f deep r' with
      | none => rfl
      | some q => rfl
/-- Where a list's loop stands: z: what is left to do, and the slice. -/
def LInv (top p : Nat) (a : Option Addr) (s : List UInt8) (c : Nat) (deep : Nat) (res : Option (List Leaf × List UInt8)) (W : World) (F : Nat → Prop) (z : Nat × Option Addr × Nat × Nat) (w : World) : Prop :=
  (∃ f i x rows, z.1 = f + 1 ∧ deep ≤ 8 ∧ f ≤ top ∧ z.2.2.1 = x.length ∧ x.length ≤ z.2.2.2 ∧ i ≤ s.length ∧ x.length ≤ i ∧ 2 * (s.length - i) + 2 ≤ f ∧ res = (pl f deep (s.drop i)).map (fun q => (x ++ q.1, q.2)) ∧ rows.flatten.length = x.length * 4 ∧
    St W F [own 61 4 z.2.1 z.2.2.2 rows.flatten, leavesR x rows, Rdr p a s.length c i 0] w) ∨
  (res = none ∧ ∃ i e, i ≤ s.length ∧ e ≠ 0 ∧ St W F [Rdr p a s.length c i e] w)
def LFin (p : Nat) (a : Option Addr) (s : List UInt8) (c : Nat) (res : Option (List Leaf × List UInt8)) (W : World) (F : Nat → Prop) (z : Option Addr × Nat × Nat) (w : World) : Prop :=
  (∃ i x rows, z.2.1 = x.length ∧ s[i]? = some 41 ∧ res = some (x, s.drop (i + 1)) ∧
    St W F [own 61 4 z.1 z.2.2 rows.flatten, leavesR x rows, Rdr p a s.length c i 0] w) ∨
  (res = none ∧ ∃ i e, i ≤ s.length ∧ e ≠ 0 ∧ St W F [Rdr p a s.length c i e] w)
theorem list_of (p : Nat) (a : Option Addr) (s : List UInt8) (c : Nat) (hl : s.length ≤ 1099511627776) (f : Nat) (hv : ∀ g, g < f → ValueOk p a s c g) : ListOk p a s c f := by
  intro i deep W F hi hd hf hG hb hS
  have hil := (List.getElem?_eq_some_iff.1 hi).1
  obtain ⟨res, hres⟩ : ∃ res, res = (if 8 < deep then none else pl f deep (s.drop (i + 1))) := ⟨_, rfl⟩
  rw [← hres]
  refine calls_C Tryd.func69 rfl Tryd.ntmps69 rfl ?_
  repeat (first | (refine G_id ?_; first | refine G_nil ?_ | refine G_plain rfl rfl ?_) | (refine X_id ?_; first | refine X_yl (Yl_move rfl rfl) rfl rfl ?_ | refine X_yl (Yl_assign rfl rfl) rfl rfl ?_) | (refine C_id ?_; first | refine C_seq ?_ | refine C_region ?_) | (refine E_id ?_; first | refine E_code ?_))
  obtain ⟨_, hc, hr, hw, hbk⟩ := hS.call [true]
  refine X_callg _ rfl rfl rfl rfl rfl (take_ p a s c i 0 40 _ _ hc (hw _ hb) hl) ?_
  rintro _ w ⟨rfl, hS⟩
  replace hS := hbk hS
  clear hc hr hw hbk
  rw [show takeP s i 0 40 = (i + 1, 0) by unfold takeP; rw [if_neg (by simp), if_neg (by simpa using hil), if_pos hi]] at hS
  simp only at hS
  by_cases h8 : 8 < deep
  case' pos =>
    rw [if_pos h8] at hres
    repeat (first | (refine G_id ?_; first | refine G_nil ?_ | refine G_plain rfl rfl ?_) | (refine X_id ?_; first | refine X_yl (Yl_move rfl rfl) rfl rfl ?_ | refine X_yl (Yl_gtr_t rfl rfl rfl (by omega)) rfl rfl ?_) | (refine C_id ?_; first | refine C_seq ?_ | refine C_region ?_ | refine C_cond_t rfl ?_) | (refine E_id ?_; first | refine E_code ?_))
    obtain ⟨_, hc, hr, hw, hbk⟩ := hS.call [true]
    refine X_callg _ rfl rfl rfl rfl rfl (wrong_ p a s.length c (i + 1) 0 18 _ _ hc) ?_
    rintro _ w ⟨rfl, hS⟩
    replace hS := hbk hS
    clear hc hr hw hbk
    repeat (first | (refine G_id ?_; first | refine G_nil ?_ | refine G_plain rfl rfl ?_) | (refine X_id ?_; first | refine X_yl (Yl_assign rfl rfl) rfl rfl ?_) | (refine C_id ?_; first | refine C_seq ?_ | refine C_region ?_ | refine C_block ?_) | (refine E_id ?_; first | refine E_code ?_))
    have hI : ∃ z0, LInv f p a s c deep res W F (z0, none, 0, 0) _ := ⟨0, .inr ⟨hres, _, 18, hil, by decide, hS⟩⟩
  case' neg =>
    rw [if_neg h8] at hres
    repeat (first | (refine G_id ?_; first | refine G_nil ?_ | refine G_plain rfl rfl ?_) | (refine X_id ?_; first | refine X_yl (Yl_move rfl rfl) rfl rfl ?_ | refine X_yl (Yl_assign rfl rfl) rfl rfl ?_ | refine X_yl (Yl_gtr_f rfl rfl rfl (by omega)) rfl rfl ?_) | (refine C_id ?_; first | refine C_seq ?_ | refine C_region ?_ | refine C_block ?_ | refine C_skip ?_ | refine C_cond_f rfl ?_) | (refine E_id ?_; first | refine E_code ?_))
    have hI : ∃ z0, LInv f p a s c deep res W F (z0, none, 0, 0) _ := ⟨f + 1, .inl ⟨f, i + 1, [], [], rfl, by omega, Nat.le_refl _, rfl, Nat.le_refl _, hil, Nat.zero_le _, hf, by rw [hres]; cases pl f deep (s.drop (i + 1)) <;> simp, rfl, (hS.leaves_nil).own_none _ _ _⟩⟩
  all_goals
    obtain ⟨z0, hI⟩ := hI
    clear hS hres
    refine C_joinB (α := Option Addr × Nat × Nat) (fun z => [(0, .pointer (some ⟨p, 0, none⟩)), (5, .slice z.1 z.2.1 z.2.2)]) (LFin p a s c res W F) ?_ ?_
    · refine C_loop (α := Nat × Option Addr × Nat × Nat) (fun z => [(0, .pointer (some ⟨p, 0, none⟩)), (1, .int .i64 (deep : Nat)), (5, .slice z.2.1 z.2.2.1 z.2.2.2)]) (LInv f p a s c deep res W F) (fun z => z.1) (z0, none, 0, 0) ⟨rfl, rfl, rfl, trivial⟩ hI ?_
      clear hI
      rintro ⟨m, b, n, q⟩ w (⟨g, j, x, rows, hm, hd8, hgf, hn, hnq, hj, hxj, hg, hr, hrl, hS⟩ | ⟨hr, j, e, hj, he, hS⟩)
      · simp only at hm hn hnq hS
        subst hm hn
        have hq41 := is_ p a s c j 0 41
        obtain ⟨g', rfl⟩ : ∃ g', g = g' + 1 := ⟨g - 1, by omega⟩
        by_cases h41 : s[j]? = some 41
        · simp only [decide_eq_true h41] at hq41
          repeat (first | (refine G_id ?_; first | refine G_nil ?_ | refine G_plain rfl rfl ?_ | refine G_yes rfl rfl rfl rfl ?_) | (refine X_id ?_; first | (refine X_callq 68 rfl rfl rfl rfl rfl hS (hq41 _ (hS.rd (List.mem_cons_of_mem _ (List.mem_cons_of_mem _ (List.mem_cons_self ..)))) (hb.rd hS)) ?_; rintro _ _ rfl hS) | refine X_yl (Yl_move rfl rfl) rfl rfl ?_ | refine X_yl (Yl_nilCheck rfl rfl) rfl rfl ?_ | refine X_yl (Yl_fieldAddr0 rfl rfl rfl) rfl rfl ?_ | refine X_yl (Yl_pick_t rfl rfl rfl) rfl rfl ?_ | refine X_yl (Yl_not_t rfl rfl) rfl rfl ?_ | refine X_yl (Yl_eql_t rfl rfl rfl (by omega)) rfl rfl ?_ | refine X_yl (Yl_load rfl rfl hS.cell) rfl rfl ?_) | (refine C_id ?_; first | refine C_seq ?_ | refine C_region ?_ | refine C_exit ?_ | refine C_cond_f rfl ?_) | (refine E_id ?_; first | refine E_code ?_ | refine E_then_exit ?_ | refine E_blk_same ?_))
          refine E_mid (b, x.length, q) ⟨rfl, rfl, trivial⟩ (.inl ⟨j, x, rows, rfl, h41, ?_, hS⟩)
          obtain ⟨hjl, hje⟩ := List.getElem?_eq_some_iff.1 h41
          rw [hr, List.drop_eq_getElem_cons hjl, hje, pl, if_pos rfl]
          simp
        · simp only [decide_eq_false h41] at hq41
          rw [pl_step g' deep _ (by rw [List.head?_drop]; exact h41)] at hr
          repeat (first | (refine G_id ?_; first | refine G_nil ?_ | refine G_plain rfl rfl ?_ | refine G_yes rfl rfl rfl rfl ?_) | (refine X_id ?_; first | (refine X_callq 68 rfl rfl rfl rfl rfl hS (hq41 _ (hS.rd (List.mem_cons_of_mem _ (List.mem_cons_of_mem _ (List.mem_cons_self ..)))) (hb.rd hS)) ?_; rintro _ _ rfl hS) | refine X_yl (Yl_move rfl rfl) rfl rfl ?_ | refine X_yl (Yl_nilCheck rfl rfl) rfl rfl ?_ | refine X_yl (Yl_fieldAddr0 rfl rfl rfl) rfl rfl ?_ | refine X_yl (Yl_pick_t rfl rfl rfl) rfl rfl ?_ | refine X_yl (Yl_not_f rfl rfl) rfl rfl ?_ | refine X_yl (Yl_eql_t rfl rfl rfl (by omega)) rfl rfl ?_ | refine X_yl (Yl_add rfl rfl rfl (w64 (by omega) (by omega))) rfl rfl ?_ | refine X_yl (Yl_load rfl rfl hS.cell) rfl rfl ?_) | (refine C_id ?_; first | refine C_seq ?_ | refine C_region ?_ | refine C_block ?_ | refine C_skip ?_ | refine C_cond_t rfl ?_) | (refine E_id ?_; first | refine E_code ?_))
          obtain ⟨_, hc, _, hw, hbk⟩ := hS.call [false, false, true]
          refine X_callg _ rfl rfl rfl rfl rfl (hv g' (by omega) j (deep + 1) _ _ hj (by omega) (by omega) (hG.mono hw) (hw _ hb) hc) ?_
          rintro v w hV
          cases hp : pv g' (deep + 1) (s.drop j) with
          | none =>
            rw [hp] at hV hr
            obtain ⟨k1, k2, a1, n1, c1, a2, n2, c2, rfl, j', e', hj', he', hS⟩ := hV
            replace hS := hbk hS
            clear hbk hw hc
            simp only at hr
            repeat (first | (refine G_id ?_; first | refine G_plain rfl rfl ?_) | (refine X_id ?_; first | refine X_buildSlice rfl rfl rfl rfl rfl rfl rfl rfl hS (fun _ _ hS _ => ?_)))
            have hnw := (hS.rd (List.mem_cons_self ..)).own_row
            refine X_append rfl rfl rfl rfl rfl hS hrl hnq hnw rfl (by simp [Value.oneCell']) (by dsimp only; omega) (by simp only [maxLen]; omega) (fun b' q' w hS hq' _ => ?_)
            repeat (first | (refine G_id ?_; first | refine G_nil ?_ | refine G_plain rfl rfl ?_) | (refine X_id ?_; first | refine X_yl (Yl_assign rfl rfl) rfl rfl ?_) | (refine E_id ?_; first | refine E_blk_n ?_))
            exact E_round (z := (g' + 1 + 1, b, x.length, q)) (0, b', x.length + 1, q') ⟨rfl, rfl, rfl, trivial⟩ (.inr ⟨by rw [hr]; rfl, j', e', hj', he', hS.took⟩) (by simp)
          | some u =>
            obtain ⟨t, l⟩ := u
            rw [hp] at hV hr
            obtain ⟨cs, rfl, j', hj', hdl, hS⟩ := hV
            replace hS := hbk hS
            clear hbk hw hc
            obtain ⟨k1, k2, a1, n1, c1, a2, n2, c2, rfl⟩ := hS.top_cells
            replace hS := hS.shut
            have hlen := (p_len g').1 _ _ _ _ hp
            rw [← hdl] at hlen hr
            simp only [List.length_drop] at hlen
            simp only at hr
            repeat (first | (refine G_id ?_; first | refine G_plain rfl rfl ?_) | (refine X_id ?_; first | refine X_buildSlice rfl rfl rfl rfl rfl rfl rfl rfl hS (fun _ _ hS _ => ?_)))
            have hnw := (hS.rd (List.mem_cons_self ..)).own_row
            refine X_append rfl rfl rfl rfl rfl hS hrl hnq hnw rfl (by simp [Value.oneCell']) (by dsimp only; omega) (by simp only [maxLen]; omega) (fun b' q' w hS hq' _ => ?_)
            repeat (first | (refine G_id ?_; first | refine G_nil ?_ | refine G_plain rfl rfl ?_) | (refine X_id ?_; first | refine X_yl (Yl_assign rfl rfl) rfl rfl ?_) | (refine E_id ?_; first | refine E_blk_n ?_))
            have hS : St W F [leavesR x rows, leafR t.shut [.int .i64 k1, .int .i64 k2, .slice a1 n1 c1, .slice a2 n2 c2], own 61 4 b' q' (rows.flatten ++ [.int .i64 k1, .int .i64 k2, .slice a1 n1 c1, .slice a2 n2 c2]), Rdr p a s.length c j' 0] w := hS.took
            replace hS := hS.leaves_snoc
            refine E_round (z := (g' + 1 + 1, b, x.length, q)) (g' + 1, b', x.length + 1, q') ⟨rfl, rfl, rfl, trivial⟩ (.inl ⟨g', j', x ++ [t.shut], rows ++ [[.int .i64 k1, .int .i64 k2, .slice a1 n1 c1, .slice a2 n2 c2]], rfl, hd8, by omega, by simp, by simpa using hq', hj', by simp; omega, by omega, ?_, by simp [hrl]; omega, ?_⟩) (by simp)
            · rw [hr]
              cases pl g' deep (s.drop j') with
              | none => rfl
              | some q => simp
            · rw [List.flatten_append]
              simpa using hS.took
      · repeat (first | (refine G_id ?_; first | refine G_nil ?_ | refine G_plain rfl rfl ?_ | refine G_no rfl rfl rfl rfl rfl rfl ?_) | (refine X_id ?_; first | refine X_yl (Yl_move rfl rfl) rfl rfl ?_ | refine X_yl (Yl_nilCheck rfl rfl) rfl rfl ?_ | refine X_yl (Yl_fieldAddr0 rfl rfl rfl) rfl rfl ?_ | refine X_yl (Yl_pick_f rfl rfl rfl) rfl rfl ?_ | refine X_yl (Yl_eql_f rfl rfl rfl (by omega)) rfl rfl ?_ | refine X_yl (Yl_load rfl rfl hS.cell) rfl rfl ?_) | (refine C_id ?_; first | refine C_seq ?_ | refine C_region ?_ | refine C_exit ?_ | refine C_cond_f rfl ?_) | (refine E_id ?_; first | refine E_code ?_ | refine E_then_exit ?_ | refine E_blk_same ?_))
        exact E_mid (b, n, q) ⟨rfl, rfl, trivial⟩ (.inr ⟨hr, j, e, hj, he, hS⟩)
    · clear hI
      rintro ⟨b, n, q⟩ w (⟨j, x, rows, hn, h41, hr, hS⟩ | ⟨hr, j, e, hj, he, hS⟩)
      · simp only at hn hS
        subst hn
        have hjl := (List.getElem?_eq_some_iff.1 h41).1
        repeat (first | (refine G_id ?_; first | refine G_plain rfl rfl ?_) | (refine X_id ?_; first | refine X_yl (Yl_move rfl rfl) rfl rfl ?_) | (refine C_id ?_; first | refine C_seq ?_ | refine C_region ?_))
        obtain ⟨_, hc, hr, hw, hbk⟩ := hS.call [false, false, true]
        refine X_callg _ rfl rfl rfl rfl rfl (take_ p a s c j 0 41 _ _ hc (hw _ hb) hl) ?_
        rintro _ w ⟨rfl, hS⟩
        replace hS := hbk hS
        clear hc hr hw hbk
        rw [show takeP s j 0 41 = (j + 1, 0) by unfold takeP; rw [if_neg (by simp), if_neg (by simpa using hjl), if_pos h41]] at hS
        simp only at hS
        repeat (first | (refine G_id ?_; first | refine G_nil ?_ | refine G_plain rfl rfl ?_) | (refine X_id ?_; first | refine X_yl (Yl_move rfl rfl) rfl rfl ?_ | refine X_yl (Yl_assign rfl rfl) rfl rfl ?_) | (refine C_id ?_; first | refine C_seq ?_ | refine C_region ?_ | refine C_ret ?_) | (refine E_id ?_; first | refine E_code ?_ | refine E_ret1 rfl (Rv_tmp rfl) (Ret.mk ?_)))
        rw [hr]
        refine ⟨b, q, rfl, j + 1, hjl, rfl, ?_⟩
        have hS : St W F [own 61 4 b q rows.flatten, leavesR x rows, Rdr p a s.length c (j + 1) 0] _ := hS.took
        exact (hS.head fun _ h => h.row).list_mk
      · repeat (first | (refine G_id ?_; first | refine G_plain rfl rfl ?_) | (refine X_id ?_; first | refine X_yl (Yl_move rfl rfl) rfl rfl ?_) | (refine C_id ?_; first | refine C_seq ?_ | refine C_region ?_))
        obtain ⟨_, hc, hr, hw, hbk⟩ := hS.call [true]
        refine X_callg _ rfl rfl rfl rfl rfl (take_bad p a s.length c j e 41 _ _ hc he) ?_
        rintro _ w ⟨rfl, hS⟩
        replace hS := hbk hS
        clear hc hr hw hbk
        repeat (first | (refine G_id ?_; first | refine G_nil ?_ | refine G_plain rfl rfl ?_) | (refine X_id ?_; first | refine X_yl (Yl_move rfl rfl) rfl rfl ?_ | refine X_yl (Yl_assign rfl rfl) rfl rfl ?_) | (refine C_id ?_; first | refine C_seq ?_ | refine C_region ?_ | refine C_ret ?_) | (refine E_id ?_; first | refine E_code ?_ | refine E_ret1 rfl (Rv_tmp rfl) (Ret.mk ?_)))
        rw [hr]
        exact ⟨b, n, q, rfl, j, e, hj, he, hS⟩
end Cr
namespace Cr
open Go Go.Proofs
set_option maxRecDepth 100000
set_option maxHeartbeats 4000000
attribute [local irreducible] Calls

theorem St.top_list {W : World} {F : Nat → Prop} {q : List Res} {w : World} {x : List Leaf} {b : Option Addr} {k : Nat} (hS : St W F (listR b x :: q) w) : St W F (topR (.list x) [.int .i64 2, .int .i64 0, z0, .slice b x.length k] :: q) w :=
  hS.head fun _ h => ⟨b, k, rfl, h⟩
theorem St.top_num {W : World} {F : Nat → Prop} {q : List Res} {w : World} (n : Int) (hS : St W F q w) : St W F (topR (.leaf (.num n)) [.int .i64 0, .int .i64 n, z0, z0] :: q) w :=
  hS.imp fun _ h => Sep.shut_head (ps := []) (fun _ hg => ⟨rfl, hg⟩) h
theorem St.top_txt {W : World} {F : Nat → Prop} {q : List Res} {w : World} {b : Option Addr} {t : List UInt8} {n k : Nat} (hn : n = t.length) (hS : St W F (own 5 1 b k (bv t) :: q) w) : St W F (topR (.leaf (.txt t)) [.int .i64 1, .int .i64 0, .slice b n k, z0] :: q) w :=
  hS.head fun _ h => ⟨b, k, by rw [hn], h.row⟩
theorem pv_list (f deep : Nat) (r : List UInt8) : pv (f + 1) deep (40 :: r) = (if 8 < deep then none else pl f deep r).map fun q => (.list q.1, q.2) := by
  rw [pv, if_pos rfl]
  split
  · rfl
  · cases pl f deep r <;> rfl
theorem pv_num (f deep : Nat) (r : List UInt8) : pv (f + 1) deep (105 :: r) = (num true 59 r).map fun q => (.leaf (.num q.1), q.2) := by
  rw [pv, if_neg (by decide), if_pos rfl]
  cases num true 59 r <;> rfl
theorem pv_txt (f deep : Nat) (c : UInt8) (r : List UInt8) (h1 : ¬ c = 40) (h2 : ¬ c = 105) : pv (f + 1) deep (c :: r) =
    (num false 58 (c :: r)).bind fun q => if q.1.toNat ≤ q.2.length then some (.leaf (.txt (q.2.take q.1.toNat)), q.2.drop q.1.toNat) else none := by
  rw [pv, if_neg h1, if_neg h2]
  cases num false 58 (c :: r) <;> rfl
theorem wrong0_ (p : Nat) (a : Option Addr) (n c : Nat) (i : Nat) (k : Int) (W : World) (F : Nat → Prop) (hS : St W F [Rdr p a n c i 0] W) :
    Calls Tryd.prog 67 #[.pointer (some ⟨p, 0, none⟩), .int .i64 k] W (Ret fun v w => v = .tuple #[] ∧ St W F [Rdr p a n c i k] w) := wrong_ p a n c i 0 k W F hS
theorem value_of (p : Nat) (a : Option Addr) (s : List UInt8) (c : Nat) (hsc : s.length ≤ c) (hl : s.length ≤ 1073741824) (f : Nat) (hL : ListOk p a s c f) : ValueOk p a s c (f + 1) := by
  intro i deep W F hi hd hf hG hb hS
  have hm := more_ p a s.length c i 0
  have q40 := is_ p a s c i 0 40
  have q105 := is_ p a s c i 0 105
  refine calls_C Tryd.func61 rfl Tryd.ntmps61 rfl ?_
  by_cases hlt : i < s.length
  · simp only [decide_eq_true hlt] at hm
    have hdr := List.drop_eq_getElem_cons hlt
    generalize hx0 : s[i] = x at hdr
    have hx : s[i]? = some x := by rw [List.getElem?_eq_getElem hlt, hx0]
    rw [hdr]
    by_cases h40 : x = 40
    · subst h40
      simp only [decide_eq_true hx] at q40
      have hLi := hL i deep
      rw [pv_list]
      generalize (if 8 < deep then none else pl f deep (s.drop (i + 1))) = res at hLi ⊢
      repeat (first | (refine G_id ?_; first | refine G_nil ?_ | refine G_plain rfl rfl ?_) | (refine X_id ?_; first | (refine X_callq 66 rfl rfl rfl rfl rfl hS (hm _ (hS.rd (List.mem_cons_of_mem _ (List.mem_cons_self ..)))) ?_; rintro _ _ rfl hS) | (refine X_callq 68 rfl rfl rfl rfl rfl hS (q40 _ (hS.rd (List.mem_cons_of_mem _ (List.mem_cons_self ..))) (hb.rd hS)) ?_; rintro _ _ rfl hS) | refine X_yl (Yl_move rfl rfl) rfl rfl ?_ | refine X_yl (Yl_assign rfl rfl) rfl rfl ?_ | refine X_yl (Yl_nilCheck rfl rfl) rfl rfl ?_ | refine X_yl (Yl_fieldAddr0 rfl rfl rfl) rfl rfl ?_ | refine X_yl (Yl_not_t rfl rfl) rfl rfl ?_ | refine X_alloc rfl rfl rfl hS (fun _ _ hS _ => ?_)) | (refine C_id ?_; first | refine C_seq ?_ | refine C_region ?_ | refine C_block ?_ | refine C_cond_t rfl ?_ | refine C_cond_f rfl ?_) | (refine E_id ?_; first | refine E_code ?_))
      obtain ⟨_, hc, _, hw, hbk⟩ := hS.call [false, true]
      refine X_callg _ rfl rfl rfl rfl rfl (hLi _ _ hx hd (by omega) (hG.mono hw) (hw _ hb) hc) ?_
      rintro v w hV
      cases res with
      | none =>
        obtain ⟨b, m, q, rfl, j, e, hj, he, hS⟩ := hV
        replace hS := hbk hS
        clear hbk hw hc
        repeat (first | (refine G_id ?_; first | refine G_nil ?_ | refine G_plain rfl rfl ?_) | (refine X_id ?_; first | refine X_yl (Yl_build rfl rfl rfl) rfl rfl ?_ | refine X_store rfl rfl rfl rfl hS (fun _ hS _ => ?_)) | (refine C_id ?_; first | refine C_ret ?_) | (refine E_id ?_; first | refine E_code ?_ | refine E_then_ret ?_ | refine E_blk_ret ?_ | refine E_ret1 rfl (by first | exact Rv_tmp rfl | exact Rv_cell rfl (run_load1 hS.cell) | exact Rv_cell rfl (run_loadN hS.cellsN)) (Ret.mk ?_)))
        exact ⟨_, _, _, _, _, _, _, _, rfl, j, e, hj, he, hS.took⟩
      | some u =>
        obtain ⟨x, t⟩ := u
        obtain ⟨b, q, rfl, j, hj, hdj, hS⟩ := hV
        replace hS := hbk hS
        clear hbk hw hc
        repeat (first | (refine G_id ?_; first | refine G_nil ?_ | refine G_plain rfl rfl ?_) | (refine X_id ?_; first | refine X_yl (Yl_build rfl rfl rfl) rfl rfl ?_ | refine X_store rfl rfl rfl rfl hS (fun _ hS _ => ?_)) | (refine C_id ?_; first | refine C_ret ?_) | (refine E_id ?_; first | refine E_code ?_ | refine E_then_ret ?_ | refine E_blk_ret ?_ | refine E_ret1 rfl (by first | exact Rv_tmp rfl | exact Rv_cell rfl (run_load1 hS.cell) | exact Rv_cell rfl (run_loadN hS.cellsN)) (Ret.mk ?_)))
        refine ⟨_, rfl, j, hj, hdj, ?_⟩
        have hS : St W F [listR b x, Rdr p a s.length c j 0] _ := hS.took
        exact hS.top_list
    · have h40' : ¬ s[i]? = some 40 := fun h => h40 (by rw [hx] at h; exact Option.some.inj h)
      simp only [decide_eq_false h40'] at q40
      by_cases h105 : x = 105
      · subst h105
        simp only [decide_eq_true hx] at q105
        rw [pv_num]
        have hN := number_ p a s c hsc (i + 1) true 59
        generalize num true 59 (s.drop (i + 1)) = res at hN ⊢
        repeat (first | (refine G_id ?_; first | refine G_nil ?_ | refine G_plain rfl rfl ?_) | (refine X_id ?_; first | (refine X_callq 66 rfl rfl rfl rfl rfl hS (hm _ (hS.rd (List.mem_cons_of_mem _ (List.mem_cons_self ..)))) ?_; rintro _ _ rfl hS) | (refine X_callq 68 rfl rfl rfl rfl rfl hS (q40 _ (hS.rd (List.mem_cons_of_mem _ (List.mem_cons_self ..))) (hb.rd hS)) ?_; rintro _ _ rfl hS) | (refine X_callq 68 rfl rfl rfl rfl rfl hS (q105 _ (hS.rd (List.mem_cons_of_mem _ (List.mem_cons_self ..))) (hb.rd hS)) ?_; rintro _ _ rfl hS) | refine X_yl (Yl_move rfl rfl) rfl rfl ?_ | refine X_yl (Yl_assign rfl rfl) rfl rfl ?_ | refine X_yl (Yl_nilCheck rfl rfl) rfl rfl ?_ | refine X_yl (Yl_fieldAddr0 rfl rfl rfl) rfl rfl ?_ | refine X_yl (Yl_not_t rfl rfl) rfl rfl ?_ | refine X_alloc rfl rfl rfl hS (fun _ _ hS _ => ?_)) | (refine C_id ?_; first | refine C_seq ?_ | refine C_region ?_ | refine C_block ?_ | refine C_cond_t rfl ?_ | refine C_cond_f rfl ?_) | (refine E_id ?_; first | refine E_code ?_))
        obtain ⟨_, hc, hr, hw, hbk⟩ := hS.call [false, true]
        refine X_callg _ rfl rfl rfl rfl rfl (take_ p a s c i 0 105 _ _ hc (hw _ hb) (by omega)) ?_
        rintro _ w ⟨rfl, hS⟩
        replace hS := hbk hS
        clear hc hr hw hbk
        rw [show takeP s i 0 105 = (i + 1, 0) by unfold takeP; rw [if_neg (by simp), if_neg (by simpa using hlt), if_pos hx]] at hS
        simp only at hS
        repeat (first | (refine G_id ?_; first | refine G_nil ?_ | refine G_plain rfl rfl ?_) | (refine X_id ?_; first | refine X_yl (Yl_move rfl rfl) rfl rfl ?_) | (refine C_id ?_; first | refine C_seq ?_ | refine C_region ?_) | (refine E_id ?_; first | refine E_code ?_))
        obtain ⟨_, hc, _, hw, hbk⟩ := hS.call [true, false]
        refine X_callg _ rfl rfl rfl rfl rfl (hN _ _ hc (hw _ hb) (by omega) (by omega) (hG.mono hw)) ?_
        rintro v w hV
        cases res with
        | none =>
          obtain ⟨rfl, j, e, hj, he, hS⟩ := hV
          replace hS := hbk hS
          clear hbk hw hc
          repeat (first | (refine G_id ?_; first | refine G_nil ?_ | refine G_plain rfl rfl ?_) | (refine X_id ?_; first | refine X_yl (Yl_build rfl rfl rfl) rfl rfl ?_ | refine X_store rfl rfl rfl rfl hS (fun _ hS _ => ?_)) | (refine C_id ?_; first | refine C_ret ?_) | (refine E_id ?_; first | refine E_code ?_ | refine E_then_ret ?_ | refine E_blk_ret ?_ | refine E_ret1 rfl (by first | exact Rv_tmp rfl | exact Rv_cell rfl (run_load1 hS.cell) | exact Rv_cell rfl (run_loadN hS.cellsN)) (Ret.mk ?_)))
          exact ⟨_, _, _, _, _, _, _, _, rfl, j, e, hj, he, hS.took⟩
        | some u =>
          obtain ⟨n, t⟩ := u
          obtain ⟨rfl, j, hj, hdj, hS⟩ := hV
          replace hS := hbk hS
          clear hbk hw hc
          repeat (first | (refine G_id ?_; first | refine G_nil ?_ | refine G_plain rfl rfl ?_) | (refine X_id ?_; first | refine X_yl (Yl_build rfl rfl rfl) rfl rfl ?_ | refine X_store rfl rfl rfl rfl hS (fun _ hS _ => ?_)) | (refine C_id ?_; first | refine C_ret ?_) | (refine E_id ?_; first | refine E_code ?_ | refine E_then_ret ?_ | refine E_blk_ret ?_ | refine E_ret1 rfl (by first | exact Rv_tmp rfl | exact Rv_cell rfl (run_load1 hS.cell) | exact Rv_cell rfl (run_loadN hS.cellsN)) (Ret.mk ?_)))
          refine ⟨_, rfl, j, hj, hdj, ?_⟩
          have hS : St W F [Rdr p a s.length c j 0] _ := hS.took
          exact hS.top_num n
      · have h105' : ¬ s[i]? = some 105 := fun h => h105 (by rw [hx] at h; exact Option.some.inj h)
        simp only [decide_eq_false h105'] at q105
        rw [pv_txt _ _ _ _ h40 h105, ← hdr]
        have hN := number_ p a s c hsc i false 58
        have hnn : ∀ n t, num false 58 (s.drop i) = some (n, t) → 0 ≤ n := fun n t h => num_nonneg h
        generalize num false 58 (s.drop i) = res at hN hnn ⊢
        repeat (first | (refine G_id ?_; first | refine G_nil ?_ | refine G_plain rfl rfl ?_) | (refine X_id ?_; first | (refine X_callq 66 rfl rfl rfl rfl rfl hS (hm _ (hS.rd (List.mem_cons_of_mem _ (List.mem_cons_self ..)))) ?_; rintro _ _ rfl hS) | (refine X_callq 68 rfl rfl rfl rfl rfl hS (q40 _ (hS.rd (List.mem_cons_of_mem _ (List.mem_cons_self ..))) (hb.rd hS)) ?_; rintro _ _ rfl hS) | (refine X_callq 68 rfl rfl rfl rfl rfl hS (q105 _ (hS.rd (List.mem_cons_of_mem _ (List.mem_cons_self ..))) (hb.rd hS)) ?_; rintro _ _ rfl hS) | refine X_yl (Yl_move rfl rfl) rfl rfl ?_ | refine X_yl (Yl_assign rfl rfl) rfl rfl ?_ | refine X_yl (Yl_nilCheck rfl rfl) rfl rfl ?_ | refine X_yl (Yl_fieldAddr0 rfl rfl rfl) rfl rfl ?_ | refine X_yl (Yl_not_t rfl rfl) rfl rfl ?_ | refine X_alloc rfl rfl rfl hS (fun _ _ hS _ => ?_)) | (refine C_id ?_; first | refine C_seq ?_ | refine C_region ?_ | refine C_block ?_ | refine C_cond_f rfl ?_) | (refine E_id ?_; first | refine E_code ?_))
        obtain ⟨_, hc, _, hw, hbk⟩ := hS.call [false, true]
        refine X_callg _ rfl rfl rfl rfl rfl (hN _ _ hc (hw _ hb) (by omega) (by omega) (hG.mono hw)) ?_
        rintro v w hV
        cases res with
        | none =>
          obtain ⟨rfl, j, e, hj, he, hS⟩ := hV
          replace hS := hbk hS
          clear hbk hw hc
          repeat (first | (refine G_id ?_; first | refine G_nil ?_ | refine G_plain rfl rfl ?_) | (refine X_id ?_; first | refine X_yl (Yl_assign rfl rfl) rfl rfl ?_) | (refine C_id ?_; first | refine C_seq ?_) | (refine E_id ?_; first | refine E_code ?_))
          refine C_ord (.s 0 (.s 1 (.s 2 (.s 3 (.s 4 (.s 5 (.s 6 (.s 7 (.s 8 (.s 9 (.s 10 (.s 11 (.s 12 (.s 13 (.s 14 (.s 15 (.s 16 (.s 17 (.s 18 (.s 19 (.s 20 .nil))))))))))))))))))))) mixed (by kernel_rfl) rfl ?_
          have hS := hS.drew
          repeat (first | (refine G_id ?_; first | refine G_nil ?_ | refine G_plain rfl rfl ?_) | (refine X_id ?_; first | refine X_yl (Yl_move rfl rfl) rfl rfl ?_ | refine X_yl (Yl_nilCheck rfl rfl) rfl rfl ?_ | refine X_yl (Yl_fieldAddr0 rfl rfl rfl) rfl rfl ?_ | refine X_yl (Yl_eql_f rfl rfl rfl (by omega)) rfl rfl ?_ | refine X_yl (Yl_build rfl rfl rfl) rfl rfl ?_ | refine X_yl (Yl_load rfl rfl hS.cell) rfl rfl ?_ | refine X_store rfl rfl rfl rfl hS (fun _ hS _ => ?_)) | (refine C_id ?_; first | refine C_seq ?_ | refine C_region ?_ | refine C_ret ?_ | refine C_skip ?_ | refine C_cond_f rfl ?_) | (refine E_id ?_; first | refine E_code ?_ | refine E_blk_n ?_ | refine E_ret1 rfl (by first | exact Rv_tmp rfl | exact Rv_cell rfl (run_load1 hS.cell) | exact Rv_cell rfl (run_loadN hS.cellsN)) (Ret.mk ?_)) | (refine GO_id ?_; first | refine GO_nil ?_ | refine GO_pure rfl rfl (fun _ => Yl_move rfl rfl) rfl rfl ?_ | refine GO_pure rfl rfl (fun _ => Yl_nilCheck rfl rfl) rfl rfl ?_ | refine GO_pure rfl rfl (fun _ => Yl_fieldAddr0 rfl rfl rfl) rfl rfl ?_ | refine GO_pure rfl rfl (fun _ => Yl_pick_f rfl rfl rfl) rfl rfl ?_ | refine GO_pure rfl rfl (fun _ => Yl_eql_f rfl rfl rfl (by omega)) rfl rfl ?_ | refine GO_read (fun w' => w'.cell? _ = some _) rfl rfl hS.cell (fun _ hc => Yl_load rfl rfl hc) rfl rfl ?_ | refine GO_no rfl rfl rfl rfl rfl rfl rfl ?_))
          exact ⟨_, _, _, _, _, _, _, _, rfl, j, e, hj, he, hS.took⟩
        | some u =>
          obtain ⟨n, t⟩ := u
          obtain ⟨rfl, j, hj, hdj, hS⟩ := hV
          replace hS := hbk hS
          clear hbk hw hc
          obtain ⟨m, rfl⟩ : ∃ m : Nat, n = m := ⟨n.toNat, by have := hnn n t rfl; omega⟩
          have htl : t.length = s.length - j := by rw [← hdj, List.length_drop]
          simp only [Option.bind_some, Int.toNat_natCast]
          by_cases hmt : m ≤ t.length
          · rw [if_pos hmt]
            repeat (first | (refine G_id ?_; first | refine G_nil ?_ | refine G_plain rfl rfl ?_) | (refine X_id ?_; first | refine X_yl (Yl_assign rfl rfl) rfl rfl ?_) | (refine C_id ?_; first | refine C_seq ?_) | (refine E_id ?_; first | refine E_code ?_))
            refine C_ord (.s 0 (.s 1 (.s 2 (.s 3 (.s 4 (.s 5 (.s 6 (.s 7 (.s 8 (.s 9 (.s 10 (.s 11 (.s 12 (.s 13 (.s 14 (.s 15 (.s 16 (.s 17 (.s 18 (.s 19 (.s 20 .nil))))))))))))))))))))) mixed (by kernel_rfl) rfl ?_
            have hS := hS.drew
            repeat (first | (refine G_id ?_; first | refine G_nil ?_ | refine G_plain rfl rfl ?_) | (refine X_id ?_; first | refine X_yl (Yl_move rfl rfl) rfl rfl ?_ | refine X_yl (Yl_nilCheck rfl rfl) rfl rfl ?_ | refine X_yl (Yl_fieldAddr0 rfl rfl rfl) rfl rfl ?_ | refine X_yl (Yl_eql_t rfl rfl rfl (by omega)) rfl rfl ?_ | refine X_yl (Yl_add rfl rfl rfl (w64 (by omega) (by omega))) rfl rfl ?_ | refine X_yl (Yl_load rfl rfl hS.cell) rfl rfl ?_ | refine X_store rfl rfl rfl rfl hS (fun _ hS _ => ?_)) | (refine C_id ?_; first | refine C_seq ?_ | refine C_region ?_ | refine C_skip ?_ | refine C_cond_t rfl ?_ | refine C_cond_f rfl ?_) | (refine E_id ?_; first | refine E_code ?_) | (refine GO_id ?_; first | refine GO_nil ?_ | refine GO_pure rfl rfl (fun _ => Yl_move rfl rfl) rfl rfl ?_ | refine GO_pure rfl rfl (fun _ => Yl_nilCheck rfl rfl) rfl rfl ?_ | refine GO_pure rfl rfl (fun _ => Yl_fieldAddr0 rfl rfl rfl) rfl rfl ?_ | refine GO_pure rfl rfl (fun _ => Yl_pick_t rfl rfl rfl) rfl rfl ?_ | refine GO_pure rfl rfl (fun _ => Yl_eql_t rfl rfl rfl (by omega)) rfl rfl ?_ | refine GO_read (fun w' => w'.cell? _ = some _) rfl rfl hS.cell (fun _ hc => Yl_load rfl rfl hc) rfl rfl ?_ | refine GO_yes rfl rfl rfl rfl (fun _ => Yl_move rfl rfl) rfl rfl ?_ | refine GO_yes rfl rfl rfl rfl (fun _ => Yl_nilCheck rfl rfl) rfl rfl ?_ | refine GO_yes rfl rfl rfl rfl (fun _ => Yl_fieldAddr0 rfl rfl rfl) rfl rfl ?_ | refine GO_yes rfl rfl rfl rfl (fun _ => Yl_len rfl rfl) rfl rfl ?_ | refine GO_yes rfl rfl rfl rfl (fun _ => Yl_gtr_f rfl rfl rfl (by omega)) rfl rfl ?_ | refine GO_yes rfl rfl rfl rfl (fun _ => Yl_sub rfl rfl rfl (w64 (by omega) (by omega))) rfl rfl ?_ | refine GO_yes_read (fun w' => w'.cell? _ = some _) rfl rfl rfl rfl hS.cell (fun _ hc => Yl_load rfl rfl hc) rfl rfl ?_))
            have hS := hS.conv (rs' := [Rdr p a s.length c (j + m) 0, pts _ (.cells (List.toArray _) _ _)]) rfl
            refine C_ord (.s 0 (.s 1 (.s 2 (.s 3 (.s 4 (.s 5 (.s 6 (.s 7 (.s 8 (.s 9 (.s 10 (.s 11 (.s 12 (.s 13 (.s 14 (.s 15 (.s 16 (.s 17 (.h 18 (.s 19 (.h 20 .nil .no)) .no))))))))))))))))))) mixed (by kernel_rfl) rfl ?_
            have hS := hS.drew
            repeat (first | (refine GO_id ?_; first | refine GO_pure rfl rfl (fun _ => Yl_move rfl rfl) rfl rfl ?_ | refine GO_pure rfl rfl (fun _ => Yl_nilCheck rfl rfl) rfl rfl ?_ | refine GO_pure rfl rfl (fun _ => Yl_fieldAddr0 rfl rfl rfl) rfl rfl ?_ | refine GO_pure rfl rfl (fun _ => Yl_sub rfl rfl rfl (w64 (by omega) (by omega))) rfl rfl ?_ | refine GO_read (fun w' => w'.cell? _ = some _) rfl rfl hS.cell (fun _ hc => Yl_load rfl rfl hc) rfl rfl ?_))
            have hsb : Ro W F (bytes (Cr.sub a j 1 c) (t.take m)) := by
              have := hb.subBytes (l := j) (h := j + m) (c := c) (by omega) (by omega)
              rwa [show j + m - j = m by omega, hdj] at this
            refine GO_pure rfl rfl (fun _ => Yl_slice (l := j) (h := j + m) rfl rfl rfl rfl (.inr ⟨_, _, rfl, by omega, by omega, by omega⟩) (.inr ⟨_, _, rfl, by omega, by omega, by omega⟩)) rfl rfl ?_
            repeat (first | (refine GO_id ?_; first | refine GO_hard rfl rfl ?_))
            refine X_callg _ rfl rfl rfl rfl rfl (bclone_ _ _ _ (t.take m) _ (hsb.rd hS) (by simp; omega) (by omega)) ?_
            rintro _ w ⟨a', c', rfl, _, _, hS'⟩
            replace hS := hS.plus hS'
            clear hS'
            repeat (first | (refine X_id ?_; first | refine X_store rfl rfl rfl rfl hS (fun _ hS _ => ?_)) | (refine C_id ?_; first | refine C_ret ?_) | (refine E_id ?_; first | refine E_code ?_ | refine E_then_ret ?_ | refine E_blk_ret ?_ | refine E_ret1 rfl (by first | exact Rv_tmp rfl | exact Rv_cell rfl (run_load1 hS.cell) | exact Rv_cell rfl (run_loadN hS.cellsN)) (Ret.mk ?_)) | (refine GO_id ?_; first | refine GO_nil ?_ | refine GO_pure rfl rfl (fun _ => Yl_build rfl rfl rfl) rfl rfl ?_ | refine GO_hard rfl rfl ?_) | (refine Keep_id ?_; first | refine And.intro (by repeat (first | exact trivial | refine And.intro (.inl (by decide +kernel)) ?_ | refine And.intro (.inr (by first | assumption | exact hS.cell | exact cell_at (by assumption) | exact hS.cellI (by omega) | exact hS.cellIP (by omega) | exact hS.cellsN | exact ((hr.rd hS).cellX (by omega) hx) | exact ((hr2.rd hS).cellX (by omega) hx2) | exact hS.cellB (by omega) | exact hS.cellBA (by omega) | exact (hb.rd hS).cellB' (by omega) | exact (hb2.rd hS).cellB' (by omega) | exact (hg.rd hS).cellI (by omega) | exact (hg2.rd hS).cellI (by omega) | exact ((hr.rd hS).cellF (by first | omega | (dsimp only; omega)) hx) | exact ((hr2.rd hS).cellF (by first | omega | (dsimp only; omega)) hx2) | exact hS.cellO 0 (by omega) | exact hS.cellO 1 (by omega) | exact hS.cellIA (by omega) | exact (hg.rd hS).cellIA (by omega) | exact (hg2.rd hS).cellIA (by omega) | exact cell_at (hc.rd hS).pts | exact hb.rd hS)) ?_)) ?_))
            refine ⟨_, rfl, j + m, by omega, by rw [← hdj, List.drop_drop], ?_⟩
            have hS : St W F [own 5 1 a' c' (bv (t.take m)), Rdr p a s.length c (j + m) 0] _ := hS.took
            exact hS.top_txt (by simp; omega)
          · rw [if_neg hmt]
            repeat (first | (refine G_id ?_; first | refine G_nil ?_ | refine G_plain rfl rfl ?_) | (refine X_id ?_; first | refine X_yl (Yl_assign rfl rfl) rfl rfl ?_) | (refine C_id ?_; first | refine C_seq ?_) | (refine E_id ?_; first | refine E_code ?_))
            refine C_ord (.s 0 (.s 1 (.s 2 (.s 3 (.s 4 (.s 5 (.s 6 (.s 7 (.s 8 (.s 9 (.s 10 (.s 11 (.s 12 (.s 13 (.s 14 (.s 15 (.s 16 (.s 17 (.s 18 (.s 19 (.s 20 .nil))))))))))))))))))))) mixed (by kernel_rfl) rfl ?_
            have hS := hS.drew
            repeat (first | (refine G_id ?_; first | refine G_plain rfl rfl ?_) | (refine X_id ?_; first | refine X_yl (Yl_move rfl rfl) rfl rfl ?_) | (refine C_id ?_; first | refine C_region ?_ | refine C_cond_t rfl ?_) | (refine E_id ?_; first | refine E_code ?_) | (refine GO_id ?_; first | refine GO_nil ?_ | refine GO_pure rfl rfl (fun _ => Yl_move rfl rfl) rfl rfl ?_ | refine GO_pure rfl rfl (fun _ => Yl_nilCheck rfl rfl) rfl rfl ?_ | refine GO_pure rfl rfl (fun _ => Yl_fieldAddr0 rfl rfl rfl) rfl rfl ?_ | refine GO_pure rfl rfl (fun _ => Yl_pick_t rfl rfl rfl) rfl rfl ?_ | refine GO_pure rfl rfl (fun _ => Yl_eql_t rfl rfl rfl (by omega)) rfl rfl ?_ | refine GO_read (fun w' => w'.cell? _ = some _) rfl rfl hS.cell (fun _ hc => Yl_load rfl rfl hc) rfl rfl ?_ | refine GO_yes rfl rfl rfl rfl (fun _ => Yl_move rfl rfl) rfl rfl ?_ | refine GO_yes rfl rfl rfl rfl (fun _ => Yl_nilCheck rfl rfl) rfl rfl ?_ | refine GO_yes rfl rfl rfl rfl (fun _ => Yl_fieldAddr0 rfl rfl rfl) rfl rfl ?_ | refine GO_yes rfl rfl rfl rfl (fun _ => Yl_len rfl rfl) rfl rfl ?_ | refine GO_yes rfl rfl rfl rfl (fun _ => Yl_gtr_t rfl rfl rfl (by omega)) rfl rfl ?_ | refine GO_yes rfl rfl rfl rfl (fun _ => Yl_sub rfl rfl rfl (w64 (by omega) (by omega))) rfl rfl ?_ | refine GO_yes_read (fun w' => w'.cell? _ = some _) rfl rfl rfl rfl hS.cell (fun _ hc => Yl_load rfl rfl hc) rfl rfl ?_))
            obtain ⟨_, hc, hr, hw, hbk⟩ := hS.call [true, false]
            refine X_callg _ rfl rfl rfl rfl rfl (wrong0_ p a s.length c j 4 _ _ hc) ?_
            rintro _ w ⟨rfl, hS⟩
            replace hS := hbk hS
            clear hc hr hw hbk
            repeat (first | (refine G_id ?_; first | refine G_nil ?_ | refine G_plain rfl rfl ?_) | (refine X_id ?_; first | refine X_yl (Yl_move rfl rfl) rfl rfl ?_ | refine X_yl (Yl_nilCheck rfl rfl) rfl rfl ?_ | refine X_yl (Yl_fieldAddr0 rfl rfl rfl) rfl rfl ?_ | refine X_yl (Yl_eql_f rfl rfl rfl (by omega)) rfl rfl ?_ | refine X_yl (Yl_build rfl rfl rfl) rfl rfl ?_ | refine X_yl (Yl_load rfl rfl hS.cell) rfl rfl ?_ | refine X_store rfl rfl rfl rfl hS (fun _ hS _ => ?_)) | (refine C_id ?_; first | refine C_seq ?_ | refine C_region ?_ | refine C_ret ?_ | refine C_skip ?_ | refine C_cond_f rfl ?_) | (refine E_id ?_; first | refine E_code ?_ | refine E_blk_n ?_ | refine E_ret1 rfl (by first | exact Rv_tmp rfl | exact Rv_cell rfl (run_load1 hS.cell) | exact Rv_cell rfl (run_loadN hS.cellsN)) (Ret.mk ?_)))
            exact ⟨_, _, _, _, _, _, _, _, rfl, j, 4, hj, by decide, hS.took⟩
  · simp only [decide_eq_false hlt] at hm
    rw [List.drop_of_length_le (by omega)]
    repeat (first | (refine G_id ?_; first | refine G_nil ?_ | refine G_plain rfl rfl ?_) | (refine X_id ?_; first | (refine X_callq 66 rfl rfl rfl rfl rfl hS (hm _ (hS.rd (List.mem_cons_of_mem _ (List.mem_cons_self ..)))) ?_; rintro _ _ rfl hS) | refine X_yl (Yl_move rfl rfl) rfl rfl ?_ | refine X_yl (Yl_assign rfl rfl) rfl rfl ?_ | refine X_yl (Yl_nilCheck rfl rfl) rfl rfl ?_ | refine X_yl (Yl_fieldAddr0 rfl rfl rfl) rfl rfl ?_ | refine X_yl (Yl_not_f rfl rfl) rfl rfl ?_ | refine X_alloc rfl rfl rfl hS (fun _ _ hS _ => ?_)) | (refine C_id ?_; first | refine C_seq ?_ | refine C_region ?_ | refine C_block ?_ | refine C_cond_t rfl ?_) | (refine E_id ?_; first | refine E_code ?_))
    obtain ⟨_, hc, hr, hw, hbk⟩ := hS.call [false, true]
    refine X_callg _ rfl rfl rfl rfl rfl (wrong0_ p a s.length c i 4 _ _ hc) ?_
    rintro _ w ⟨rfl, hS⟩
    replace hS := hbk hS
    clear hc hr hw hbk
    repeat (first | (refine G_id ?_; first | refine G_nil ?_ | refine G_plain rfl rfl ?_) | (refine X_id ?_; first | refine X_yl (Yl_build rfl rfl rfl) rfl rfl ?_ | refine X_store rfl rfl rfl rfl hS (fun _ hS _ => ?_)) | (refine C_id ?_; first | refine C_seq ?_ | refine C_region ?_ | refine C_ret ?_) | (refine E_id ?_; first | refine E_code ?_ | refine E_blk_n ?_ | refine E_ret1 rfl (by first | exact Rv_tmp rfl | exact Rv_cell rfl (run_load1 hS.cell) | exact Rv_cell rfl (run_loadN hS.cellsN)) (Ret.mk ?_)))
    rw [pv_nil]
    exact ⟨_, _, _, _, _, _, _, _, rfl, i, 4, hi, by decide, hS.took⟩
end Cr
namespace Cr
open Go Go.Proofs
set_option maxRecDepth 100000
set_option maxHeartbeats 4000000
attribute [local irreducible] Calls

theorem value_ (p : Nat) (a : Option Addr) (s : List UInt8) (c : Nat) (hsc : s.length ≤ c) (hl : s.length ≤ 1073741824) (f : Nat) : ValueOk p a s c f := by
  induction f using Nat.strongRecOn with
  | _ f ih =>
    cases f with
    | zero => intro i deep W F hi hd hf; omega
    | succ f => exact value_of p a s c hsc hl f (list_of p a s c (by omega) f fun g hg => ih g (by omega))
abbrev zV : List Value := [.int .i64 0, .int .i64 0, .slice none 0 0, .slice none 0 0]
/-- What Next tells. -/
def NRes (W : World) (r : Option (Top × List UInt8)) (v : Value) (w : World) : Prop :=
  match r with
  | some (t, l) => ∃ cs b q, v = .tuple #[.agg (List.toArray cs), .slice b l.length q, .int .i64 0] ∧ St W noF [topR t cs] w
  | none => ∃ e, v = .tuple #[.agg (List.toArray zV), .slice none 0 0, .int .i64 e] ∧ e ≠ 0 ∧ St W noF [] w
theorem next_ (a : Option Addr) (s : List UInt8) (c : Nat) (hsc : s.length ≤ c) (hl : s.length ≤ 131072) (W : World) (hG : Lg W noF) (hb : Ro W noF (bytes a s)) :
    Calls Tryd.prog 49 #[.slice a s.length c] W (Ret fun v w => NRes W (pv (2 * s.length + 1) 1 s) v w) := by
  have hS := St.start W
  refine calls_C Tryd.func49 rfl Tryd.ntmps49 rfl ?_
  repeat (first | (refine G_id ?_; first | refine G_nil ?_ | refine G_plain rfl rfl ?_) | (refine X_id ?_; first | refine X_yl (Yl_move rfl rfl) rfl rfl ?_ | refine X_yl (Yl_assign rfl rfl) rfl rfl ?_ | refine X_yl (Yl_len rfl rfl) rfl rfl ?_ | refine X_yl (Yl_gtr_f rfl rfl rfl (by omega)) rfl rfl ?_ | refine X_yl (Yl_build rfl rfl rfl) rfl rfl ?_ | refine X_box rfl rfl rfl rfl hS (fun _ _ hS _ => ?_) | refine X_alloc rfl rfl rfl hS (fun _ _ hS _ => ?_)) | (refine C_id ?_; first | refine C_seq ?_ | refine C_region ?_ | refine C_skip ?_ | refine C_cond_f rfl ?_) | (refine E_id ?_; first | refine E_code ?_))
  rename_i r _ _
  have hv := value_ r a s c hsc (by omega) (2 * s.length + 1) 0 1
  rw [List.drop_zero] at hv
  generalize pv (2 * s.length + 1) 1 s = res at hv ⊢
  obtain ⟨_, hc, _, hw, hbk⟩ := hS.call [true, false]
  refine X_callg _ rfl rfl rfl rfl rfl (hv _ _ (Nat.zero_le _) (by omega) (by omega) (hG.mono hw) (hw _ hb) hc) ?_
  rintro v w hV
  cases res with
  | none =>
    obtain ⟨k, n, a1, n1, c1, a2, n2, c2, rfl, j, e, hj, he, hS⟩ := hV
    replace hS := hbk hS
    clear hbk hw hc
    repeat (first | (refine G_id ?_; first | refine G_nil ?_ | refine G_plain rfl rfl ?_) | (refine X_id ?_; first | refine X_yl (Yl_move rfl rfl) rfl rfl ?_ | refine X_yl (Yl_nilCheck rfl rfl) rfl rfl ?_ | refine X_yl (Yl_fieldAddr0 rfl rfl rfl) rfl rfl ?_ | refine X_yl (Yl_neq_t rfl rfl rfl (by omega)) rfl rfl ?_ | refine X_yl (Yl_load rfl rfl hS.cell) rfl rfl ?_ | refine X_store rfl rfl rfl rfl hS (fun _ hS _ => ?_) | refine X_alloc rfl rfl rfl hS (fun _ _ hS _ => ?_)) | (refine C_id ?_; first | refine C_seq ?_ | refine C_region ?_ | refine C_cond_t rfl ?_) | (refine E_id ?_; first | refine E_code ?_))
    refine C_ord (.s 0 (.s 1 (.s 2 (.s 3 (.s 4 (.h 5 (.s 6 (.s 7 .nil)) .no)))))) mixed (by kernel_rfl) rfl ?_
    have hS := hS.drew
    repeat (first | (refine X_id ?_; first | refine X_store rfl rfl rfl rfl hS (fun _ hS _ => ?_)) | (refine C_id ?_; first | refine C_ret ?_) | (refine E_id ?_; first | refine E_code ?_ | refine E_then_ret ?_ | refine E_ret3 rfl (by first | exact Rv_tmp rfl | exact Rv_cell rfl (run_load1 hS.cell) | exact Rv_cell rfl (run_loadN hS.cellsN)) (by first | exact Rv_tmp rfl | exact Rv_cell rfl (run_load1 hS.cell) | exact Rv_cell rfl (run_loadN hS.cellsN)) (by first | exact Rv_tmp rfl | exact Rv_cell rfl (run_load1 hS.cell) | exact Rv_cell rfl (run_loadN hS.cellsN)) (Ret.mk ?_)) | (refine GO_id ?_; first | refine GO_nil ?_ | refine GO_pure rfl rfl (fun _ => Yl_move rfl rfl) rfl rfl ?_ | refine GO_pure rfl rfl (fun _ => Yl_assign rfl rfl) rfl rfl ?_ | refine GO_pure rfl rfl (fun _ => Yl_nilCheck rfl rfl) rfl rfl ?_ | refine GO_pure rfl rfl (fun _ => Yl_fieldAddr0 rfl rfl rfl) rfl rfl ?_ | refine GO_pure rfl rfl (fun _ => Yl_build rfl rfl rfl) rfl rfl ?_ | refine GO_read (fun w' => w'.cell? _ = some _) rfl rfl hS.cell (fun _ hc => Yl_load rfl rfl hc) rfl rfl ?_ | refine GO_hard rfl rfl ?_) | (refine Keep_id ?_; first | refine And.intro (by repeat (first | exact trivial | refine And.intro (.inl (by decide +kernel)) ?_ | refine And.intro (.inr (by first | assumption | exact hS.cell | exact cell_at (by assumption) | exact hS.cellI (by omega) | exact hS.cellIP (by omega) | exact hS.cellsN | exact ((hr.rd hS).cellX (by omega) hx) | exact ((hr2.rd hS).cellX (by omega) hx2) | exact hS.cellB (by omega) | exact hS.cellBA (by omega) | exact (hb.rd hS).cellB' (by omega) | exact (hb2.rd hS).cellB' (by omega) | exact (hg.rd hS).cellI (by omega) | exact (hg2.rd hS).cellI (by omega) | exact ((hr.rd hS).cellF (by first | omega | (dsimp only; omega)) hx) | exact ((hr2.rd hS).cellF (by first | omega | (dsimp only; omega)) hx2) | exact hS.cellO 0 (by omega) | exact hS.cellO 1 (by omega) | exact hS.cellIA (by omega) | exact (hg.rd hS).cellIA (by omega) | exact (hg2.rd hS).cellIA (by omega) | exact cell_at (hc.rd hS).pts | exact hb.rd hS)) ?_)) ?_))
    exact ⟨e, rfl, he, hS.took⟩
  | some u =>
    obtain ⟨t, l⟩ := u
    obtain ⟨cs, rfl, j, hj, hdj, hS⟩ := hV
    replace hS := hbk hS
    clear hbk hw hc
    obtain ⟨k, n, a1, n1, c1, a2, n2, c2, rfl⟩ := hS.top_cells
    have hsb : Ro W noF (bytes (Cr.sub a j 1 c) l) := by
      have := hb.subBytes (l := j) (h := s.length) (c := c) (by omega) (by omega)
      rwa [hdj, List.take_of_length_le (by rw [← hdj]; simp)] at this
    have hll : l.length = s.length - j := by rw [← hdj, List.length_drop]
    repeat (first | (refine G_id ?_; first | refine G_nil ?_ | refine G_plain rfl rfl ?_) | (refine X_id ?_; first | refine X_yl (Yl_move rfl rfl) rfl rfl ?_ | refine X_yl (Yl_nilCheck rfl rfl) rfl rfl ?_ | refine X_yl (Yl_fieldAddr0 rfl rfl rfl) rfl rfl ?_ | refine X_yl (Yl_neq_f rfl rfl rfl (by omega)) rfl rfl ?_ | refine X_yl (Yl_load rfl rfl hS.cell) rfl rfl ?_ | refine X_store rfl rfl rfl rfl hS (fun _ hS _ => ?_) | refine X_alloc rfl rfl rfl hS (fun _ _ hS _ => ?_)) | (refine C_id ?_; first | refine C_seq ?_ | refine C_region ?_ | refine C_skip ?_ | refine C_cond_f rfl ?_) | (refine E_id ?_; first | refine E_code ?_))
    refine C_ord (.s 0 (.s 1 (.s 2 (.s 3 (.s 4 (.s 5 (.s 6 (.s 7 (.h 8 (.h 9 (.s 10 (.s 11 .nil)) .no) .no))))))))) mixed (by kernel_rfl) rfl ?_
    have hS := hS.drew
    repeat (first | (refine GO_id ?_; first | refine GO_pure rfl rfl (fun _ => Yl_move rfl rfl) rfl rfl ?_ | refine GO_pure rfl rfl (fun _ => Yl_nilCheck rfl rfl) rfl rfl ?_ | refine GO_pure rfl rfl (fun _ => Yl_fieldAddr0 rfl rfl rfl) rfl rfl ?_ | refine GO_read (fun w' => w'.cell? _ = some _) rfl rfl hS.cell (fun _ hc => Yl_load rfl rfl hc) rfl rfl ?_ | refine GO_read (fun w' => CellsN w' _ _ _) rfl rfl hS.cellsN (fun _ hc => Yl_loadN rfl rfl hc) rfl rfl ?_))
    refine GO_pure rfl rfl (fun _ => Yl_slice (l := j) (h := s.length) rfl rfl rfl rfl (.inl ⟨rfl, rfl⟩) (.inr ⟨_, _, rfl, by omega, by omega, by omega⟩)) rfl rfl ?_
    repeat (first | (refine GO_id ?_; first | refine GO_hard rfl rfl ?_))
    refine X_callg _ rfl rfl rfl rfl rfl (bclone_ _ _ _ l _ (hsb.rd hS) hll (by omega)) ?_
    rintro _ w ⟨a', c', rfl, _, _, hS'⟩
    replace hS := hS.plus hS'
    clear hS'
    rw [← hll]
    repeat (first | (refine X_id ?_; first | refine X_store rfl rfl rfl rfl hS (fun _ hS _ => ?_)) | (refine C_id ?_; first | refine C_ret ?_) | (refine E_id ?_; first | refine E_code ?_ | refine E_ret3 rfl (by first | exact Rv_tmp rfl | exact Rv_cell rfl (run_load1 hS.cell) | exact Rv_cell rfl (run_loadN hS.cellsN)) (by first | exact Rv_tmp rfl | exact Rv_cell rfl (run_load1 hS.cell) | exact Rv_cell rfl (run_loadN hS.cellsN)) (by first | exact Rv_tmp rfl | exact Rv_cell rfl (run_load1 hS.cell) | exact Rv_cell rfl (run_loadN hS.cellsN)) (Ret.mk ?_)) | (refine GO_id ?_; first | refine GO_nil ?_ | refine GO_pure rfl rfl (fun _ => Yl_assign rfl rfl) rfl rfl ?_ | refine GO_hard rfl rfl ?_) | (refine Keep_id ?_; first | refine And.intro (by repeat (first | exact trivial | refine And.intro (.inl (by decide +kernel)) ?_ | refine And.intro (.inr (by first | assumption | exact hS.cell | exact cell_at (by assumption) | exact hS.cellI (by omega) | exact hS.cellIP (by omega) | exact hS.cellsN | exact ((hr.rd hS).cellX (by omega) hx) | exact ((hr2.rd hS).cellX (by omega) hx2) | exact hS.cellB (by omega) | exact hS.cellBA (by omega) | exact (hb.rd hS).cellB' (by omega) | exact (hb2.rd hS).cellB' (by omega) | exact (hg.rd hS).cellI (by omega) | exact (hg2.rd hS).cellI (by omega) | exact ((hr.rd hS).cellF (by first | omega | (dsimp only; omega)) hx) | exact ((hr2.rd hS).cellF (by first | omega | (dsimp only; omega)) hx2) | exact hS.cellO 0 (by omega) | exact hS.cellO 1 (by omega) | exact hS.cellIA (by omega) | exact (hg.rd hS).cellIA (by omega) | exact (hg2.rd hS).cellIA (by omega) | exact cell_at (hc.rd hS).pts | exact hb.rd hS)) ?_)) ?_))
    exact ⟨_, a', c', rfl, hS.took⟩
/-- What Decode tells. -/
def DRes (W : World) (r : Option Top) (v : Value) (w : World) : Prop :=
  match r with
  | some t => ∃ cs, v = .tuple #[.agg (List.toArray cs), .int .i64 0] ∧ St W noF [topR t cs] w
  | none => ∃ e, v = .tuple #[.agg (List.toArray zV), .int .i64 e] ∧ e ≠ 0 ∧ St W noF [] w
theorem decode_ (a : Option Addr) (s : List UInt8) (c : Nat) (hsc : s.length ≤ c) (hl : s.length ≤ 131072) (W : World) (hG : Lg W noF) (hb : Ro W noF (bytes a s)) :
    Calls Tryd.prog 32 #[.slice a s.length c] W (Ret fun v w => DRes W (dec s) v w) := by
  have hS := St.start W
  have hN := next_ a s c hsc hl
  unfold dec
  generalize pv (2 * s.length + 1) 1 s = res at hN ⊢
  refine calls_C Tryd.func32 rfl Tryd.ntmps32 rfl ?_
  repeat (first | (refine G_id ?_; first | refine G_nil ?_ | refine G_plain rfl rfl ?_) | (refine X_id ?_; first | refine X_yl (Yl_move rfl rfl) rfl rfl ?_ | refine X_yl (Yl_assign rfl rfl) rfl rfl ?_ | refine X_alloc rfl rfl rfl hS (fun _ _ hS _ => ?_)) | (refine C_id ?_; first | refine C_seq ?_ | refine C_region ?_) | (refine E_id ?_; first | refine E_code ?_))
  obtain ⟨_, hc, _, hw, hbk⟩ := hS.call [false]
  refine X_callg _ rfl rfl rfl rfl rfl (hN _ ((hG.mono hw).at_ hc) ((hw _ hb).rd hc).ro) ?_
  rintro v w hV
  cases res with
  | none =>
    obtain ⟨e, rfl, he, hS'⟩ := hV
    replace hS := hS.plus hS'
    clear hbk hw hc
    repeat (first | (refine G_id ?_; first | refine G_nil ?_ | refine G_plain rfl rfl ?_) | (refine X_id ?_; first | refine X_yl (Yl_move rfl rfl) rfl rfl ?_ | refine X_yl (Yl_assign rfl rfl) rfl rfl ?_ | refine X_yl (Yl_extract rfl rfl) rfl rfl ?_ | refine X_yl (Yl_neq_t rfl rfl rfl (by omega)) rfl rfl ?_ | refine X_yl (Yl_build rfl rfl rfl) rfl rfl ?_ | refine X_store rfl rfl rfl rfl hS (fun _ hS _ => ?_) | refine X_alloc rfl rfl rfl hS (fun _ _ hS _ => ?_)) | (refine C_id ?_; first | refine C_seq ?_ | refine C_region ?_ | refine C_block ?_ | refine C_ret ?_ | refine C_cond_t rfl ?_) | (refine E_id ?_; first | refine E_code ?_ | refine E_then_ret ?_ | refine E_blk_ret ?_ | refine E_ret2 rfl (by first | exact Rv_tmp rfl | exact Rv_cell rfl (run_load1 hS.cell) | exact Rv_cell rfl (run_loadN hS.cellsN)) (by first | exact Rv_tmp rfl | exact Rv_cell rfl (run_load1 hS.cell) | exact Rv_cell rfl (run_loadN hS.cellsN)) (Ret.mk ?_)))
    exact ⟨e, rfl, he, hS.took⟩
  | some u =>
    obtain ⟨t, l⟩ := u
    obtain ⟨cs, b, q, rfl, hS'⟩ := hV
    replace hS := hS.plus hS'
    clear hbk hw hc
    obtain ⟨k, n, a1, n1, c1, a2, n2, c2, rfl⟩ := hS.top_cells
    cases l with
    | nil =>
      simp only [List.length_nil]
      repeat (first | (refine G_id ?_; first | refine G_nil ?_ | refine G_plain rfl rfl ?_) | (refine X_id ?_; first | refine X_yl (Yl_move rfl rfl) rfl rfl ?_ | refine X_yl (Yl_assign rfl rfl) rfl rfl ?_ | refine X_yl (Yl_extract rfl rfl) rfl rfl ?_ | refine X_yl (Yl_len rfl rfl) rfl rfl ?_ | refine X_yl (Yl_neq_f rfl rfl rfl (by omega)) rfl rfl ?_ | refine X_yl (Yl_gtr_f rfl rfl rfl (by omega)) rfl rfl ?_ | refine X_yl (Yl_loadN rfl rfl hS.cellsN) rfl rfl ?_ | refine X_store rfl rfl rfl rfl hS (fun _ hS _ => ?_) | refine X_alloc rfl rfl rfl hS (fun _ _ hS _ => ?_)) | (refine C_id ?_; first | refine C_seq ?_ | refine C_region ?_ | refine C_block ?_ | refine C_ret ?_ | refine C_skip ?_ | refine C_cond_f rfl ?_) | (refine E_id ?_; first | refine E_code ?_ | refine E_blk_n ?_ | refine E_ret2 rfl (by first | exact Rv_tmp rfl | exact Rv_cell rfl (run_load1 hS.cell) | exact Rv_cell rfl (run_loadN hS.cellsN)) (by first | exact Rv_tmp rfl | exact Rv_cell rfl (run_load1 hS.cell) | exact Rv_cell rfl (run_loadN hS.cellsN)) (Ret.mk ?_)))
      exact ⟨_, rfl, hS.took⟩
    | cons x l =>
      simp only [List.length_cons]
      repeat (first | (refine G_id ?_; first | refine G_nil ?_ | refine G_plain rfl rfl ?_) | (refine X_id ?_; first | refine X_yl (Yl_move rfl rfl) rfl rfl ?_ | refine X_yl (Yl_assign rfl rfl) rfl rfl ?_ | refine X_yl (Yl_extract rfl rfl) rfl rfl ?_ | refine X_yl (Yl_len rfl rfl) rfl rfl ?_ | refine X_yl (Yl_neq_f rfl rfl rfl (by omega)) rfl rfl ?_ | refine X_yl (Yl_gtr_t rfl rfl rfl (by omega)) rfl rfl ?_ | refine X_yl (Yl_build rfl rfl rfl) rfl rfl ?_ | refine X_store rfl rfl rfl rfl hS (fun _ hS _ => ?_) | refine X_alloc rfl rfl rfl hS (fun _ _ hS _ => ?_)) | (refine C_id ?_; first | refine C_seq ?_ | refine C_region ?_ | refine C_block ?_ | refine C_ret ?_ | refine C_cond_t rfl ?_ | refine C_cond_f rfl ?_) | (refine E_id ?_; first | refine E_code ?_ | refine E_then_ret ?_ | refine E_blk_ret ?_ | refine E_ret2 rfl (by first | exact Rv_tmp rfl | exact Rv_cell rfl (run_load1 hS.cell) | exact Rv_cell rfl (run_loadN hS.cellsN)) (by first | exact Rv_tmp rfl | exact Rv_cell rfl (run_load1 hS.cell) | exact Rv_cell rfl (run_loadN hS.cellsN)) (Ret.mk ?_)))
      exact ⟨3, rfl, by decide, hS.took⟩
end Cr
namespace Cr
open Go Go.Proofs
set_option maxRecDepth 100000
set_option maxHeartbeats 4000000
attribute [local irreducible] Calls

theorem kind_ (k n : Int) (a1 a2 : Option Addr) (n1 c1 n2 c2 : Nat) (W : World) (h : (k = 0 ∧ n1 = 0 ∧ n2 = 0) ∨ (k = 1 ∧ n = 0 ∧ n2 = 0) ∨ (k = 2 ∧ n = 0 ∧ n1 = 0)) :
    Calls Tryd.prog 58 #[.agg (List.toArray [.int .i64 k, .int .i64 n, .slice a1 n1 c1, .slice a2 n2 c2])] W (Ret fun v w => v = .bool true ∧ St W noF [] w) := by
  have hS := St.start W
  rcases h with ⟨rfl, rfl, rfl⟩ | ⟨rfl, rfl, rfl⟩ | ⟨rfl, rfl, rfl⟩
  all_goals
    refine calls_C Tryd.func58 rfl Tryd.ntmps58 rfl ?_
    repeat (first | (refine G_id ?_; first | refine G_nil ?_ | refine G_plain rfl rfl ?_ | refine G_yes rfl rfl rfl rfl ?_) | (refine X_id ?_; first | refine X_yl (Yl_move rfl rfl) rfl rfl ?_ | refine X_yl (Yl_assign rfl rfl) rfl rfl ?_ | refine X_yl (Yl_fieldAddr0 rfl rfl rfl) rfl rfl ?_ | refine X_yl (Yl_pick_t rfl rfl rfl) rfl rfl ?_ | refine X_yl (Yl_len rfl rfl) rfl rfl ?_ | refine X_yl (Yl_eql_t rfl rfl rfl (by omega)) rfl rfl ?_ | refine X_yl (Yl_eql_f rfl rfl rfl (by omega)) rfl rfl ?_ | refine X_yl (Yl_load rfl rfl hS.cell) rfl rfl ?_ | refine X_box rfl rfl rfl rfl hS (fun _ _ hS _ => ?_)) | (refine C_id ?_; first | refine C_seq ?_ | refine C_region ?_ | refine C_block ?_ | refine C_ret ?_ | refine C_cond_t rfl ?_ | refine C_cond_f rfl ?_) | (refine E_id ?_; first | refine E_code ?_ | refine E_then_ret ?_ | refine E_blk_ret ?_ | refine E_ret1 rfl (Rv_tmp rfl) (Ret.mk ?_)))
    exact ⟨rfl, hS.drops⟩
theorem check_leaf (y : Leaf) (cs : List Value) (deep : Nat) (W : World) (F : Nat → Prop) (hy : LeafRo W F y cs) (hne : y ≠ .oth) :
    Calls Tryd.prog 47 #[.agg (List.toArray cs), .int .i64 (deep : Nat)] W (Ret fun v w => v = .int .i64 0 ∧ St W noF [] w) := by
  have hS := St.start W
  obtain ⟨k, n, a1, n1, c1, a2, c2, rfl, hk, hk2⟩ : ∃ k n a1 n1 c1 a2 c2, cs = [.int .i64 k, .int .i64 n, .slice a1 n1 c1, .slice a2 0 c2] ∧ ((k = 0 ∧ n1 = 0 ∧ 0 = 0) ∨ (k = 1 ∧ n = 0 ∧ 0 = 0) ∨ (k = 2 ∧ n = 0 ∧ n1 = 0)) ∧ k ≠ 2 := by
    cases y with
    | oth => exact absurd rfl hne
    | num n => exact ⟨0, n, none, 0, 0, none, 0, hy, .inl ⟨rfl, rfl, rfl⟩, by decide⟩
    | txt b =>
      obtain ⟨a, c, rfl, _⟩ := hy
      exact ⟨1, 0, a, b.length, c, none, 0, rfl, .inr (.inl ⟨rfl, rfl, rfl⟩), by decide⟩
  refine calls_C Tryd.func47 rfl Tryd.ntmps47 rfl ?_
  repeat (first | (refine G_id ?_; first | refine G_nil ?_ | refine G_plain rfl rfl ?_ | refine G_no rfl rfl rfl rfl rfl rfl ?_) | (refine X_id ?_; first | (refine X_callq 58 rfl rfl rfl rfl rfl hS (kind_ _ _ _ _ _ _ _ _ _ hk) ?_; rintro _ _ rfl hS) | refine X_yl (Yl_move rfl rfl) rfl rfl ?_ | refine X_yl (Yl_assign rfl rfl) rfl rfl ?_ | refine X_yl (Yl_fieldAddr0 rfl rfl rfl) rfl rfl ?_ | refine X_yl (Yl_pick_f rfl rfl rfl) rfl rfl ?_ | refine X_yl (Yl_not_t rfl rfl) rfl rfl ?_ | refine X_yl (Yl_len rfl rfl) rfl rfl ?_ | refine X_yl (Yl_eql_f rfl rfl rfl (by omega)) rfl rfl ?_ | refine X_yl (Yl_load rfl rfl hS.cell) rfl rfl ?_ | refine X_yl (Yl_loadN rfl rfl hS.cellsN) rfl rfl ?_ | refine X_box rfl rfl rfl rfl hS (fun _ _ hS _ => ?_)) | (refine C_id ?_; first | refine C_seq ?_ | refine C_region ?_ | refine C_block ?_ | refine C_skip ?_ | refine C_cond_f rfl ?_) | (refine E_id ?_; first | refine E_code ?_ | refine E_blk_n ?_))
  refine C_loop (α := Unit) (fun _ => [(22, .int .i64 0), (23, .int .i64 0)]) (fun _ w => St W noF [] w) (fun _ => 0) () ⟨rfl, rfl, trivial⟩ hS.drops ?_
  clear hS
  rintro _ w hS
  repeat (first | (refine G_id ?_; first | refine G_nil ?_ | refine G_plain rfl rfl ?_) | (refine X_id ?_; first | refine X_yl (Yl_assign rfl rfl) rfl rfl ?_ | refine X_yl (Yl_lss_f rfl rfl rfl (by omega)) rfl rfl ?_) | (refine C_id ?_; first | refine C_seq ?_ | refine C_region ?_ | refine C_ret ?_ | refine C_exit ?_ | refine C_cond_f rfl ?_) | (refine E_id ?_; first | refine E_code ?_ | refine E_then_exit ?_ | refine E_blk_same ?_ | refine E_ret1 rfl (Rv_tmp rfl) (Ret.mk ?_)))
  exact ⟨rfl, hS⟩
theorem check_list (a : Option Addr) (x : List Leaf) (c : Nat) (rows : List (List Value)) (W : World) (hr : Ro W noF (row a rows.flatten)) (hx : Leaves W noF x rows) (hne : Leaf.oth ∉ x) (hxl : x.length ≤ 1024) :
    Calls Tryd.prog 47 #[.agg (List.toArray [.int .i64 2, .int .i64 0, .slice none 0 0, .slice a x.length c]), .int .i64 1] W (Ret fun v w => v = .int .i64 0 ∧ St W noF [] w) := by
  have hS := St.start W
  have hk := fun W => kind_ 2 0 none a 0 0 x.length c W (.inr (.inr ⟨rfl, rfl, rfl⟩))
  refine calls_C Tryd.func47 rfl Tryd.ntmps47 rfl ?_
  repeat (first | (refine G_id ?_; first | refine G_nil ?_ | refine G_plain rfl rfl ?_ | refine G_yes rfl rfl rfl rfl ?_) | (refine X_id ?_; first | (refine X_callq 58 rfl rfl rfl rfl rfl hS (hk _) ?_; rintro _ _ rfl hS) | refine X_yl (Yl_move rfl rfl) rfl rfl ?_ | refine X_yl (Yl_assign rfl rfl) rfl rfl ?_ | refine X_yl (Yl_fieldAddr0 rfl rfl rfl) rfl rfl ?_ | refine X_yl (Yl_pick_t rfl rfl rfl) rfl rfl ?_ | refine X_yl (Yl_not_t rfl rfl) rfl rfl ?_ | refine X_yl (Yl_len rfl rfl) rfl rfl ?_ | refine X_yl (Yl_eql_t rfl rfl rfl (by omega)) rfl rfl ?_ | refine X_yl (Yl_gtr_f rfl rfl rfl (by omega)) rfl rfl ?_ | refine X_yl (Yl_load rfl rfl hS.cell) rfl rfl ?_ | refine X_yl (Yl_loadN rfl rfl hS.cellsN) rfl rfl ?_ | refine X_box rfl rfl rfl rfl hS (fun _ _ hS _ => ?_)) | (refine C_id ?_; first | refine C_seq ?_ | refine C_region ?_ | refine C_block ?_ | refine C_skip ?_ | refine C_cond_f rfl ?_) | (refine E_id ?_; first | refine E_code ?_ | refine E_blk_n ?_))
  refine C_loop (α := Nat) (fun i => [(1, .int .i64 1), (21, .slice a x.length c), (22, .int .i64 (x.length : Nat)), (23, .int .i64 (i : Nat))]) (fun i w => i ≤ x.length ∧ St W noF [] w) (fun i => x.length - i) 0 ⟨rfl, rfl, rfl, rfl, trivial⟩ ⟨Nat.zero_le _, hS.drops⟩ ?_
  clear hS
  rintro i w ⟨hi, hS2⟩
  by_cases hlt : i < x.length
  · obtain ⟨y, hyx⟩ : ∃ y, y = x[i] := ⟨_, rfl⟩
    have hy0 : x[i]? = some y := by rw [hyx]; exact List.getElem?_eq_getElem hlt
    have hymem : y ∈ x := List.mem_of_getElem? hy0
    obtain ⟨cs, hxs, hy⟩ := hx.at_ hy0
    obtain ⟨k1, k2, a1, n1, c1, a2, n2, c2, rfl⟩ := hy.lit
    obtain ⟨ab, ao, rfl⟩ := hr.start.base (by
      intro e
      rw [e] at hxs
      simp at hxs)
    have hS := hS2
    repeat (first | (refine G_id ?_; first | refine G_nil ?_ | refine G_plain rfl rfl ?_) | (refine X_id ?_; first | refine X_yl (Yl_move rfl rfl) rfl rfl ?_ | refine X_yl (Yl_lss_t rfl rfl rfl (by omega)) rfl rfl ?_ | refine X_yl (Yl_indexAddr rfl rfl rfl (by omega) (by omega) (by first | assumption | exact ⟨_, _, rfl⟩)) rfl rfl ?_ | refine X_yl (Yl_add rfl rfl rfl (w64 (by omega) (by omega))) rfl rfl ?_ | refine X_yl (Yl_loadN rfl rfl hS.cellsN) rfl rfl ?_ | refine X_yl (Yl_loadN rfl rfl ((hr.rd hS).cellsX (by omega) hxs rfl)) rfl rfl ?_ | refine X_store rfl rfl rfl rfl hS (fun _ hS _ => ?_) | refine X_alloc rfl rfl rfl hS (fun _ _ hS _ => ?_)) | (refine C_id ?_; first | refine C_seq ?_ | refine C_region ?_ | refine C_block ?_ | refine C_skip ?_ | refine C_cond_t rfl ?_) | (refine E_id ?_; first | refine E_code ?_))
    refine X_callq 47 rfl rfl rfl rfl rfl hS (check_leaf y _ 2 _ noF (hy.mono fun r h => (h.rd hS).ro) (fun e => hne (e ▸ hymem))) ?_
    rintro _ w rfl hS
    repeat (first | (refine G_id ?_; first | refine G_nil ?_ | refine G_plain rfl rfl ?_) | (refine X_id ?_; first | refine X_yl (Yl_move rfl rfl) rfl rfl ?_ | refine X_yl (Yl_assign rfl rfl) rfl rfl ?_ | refine X_yl (Yl_neq_f rfl rfl rfl (by omega)) rfl rfl ?_ | refine X_yl (Yl_add rfl rfl rfl (w64 (by omega) (by omega))) rfl rfl ?_) | (refine C_id ?_; first | refine C_seq ?_ | refine C_region ?_ | refine C_skip ?_ | refine C_cond_f rfl ?_) | (refine E_id ?_; first | refine E_code ?_ | refine E_blk_n ?_))
    exact E_round (i + 1) ⟨rfl, rfl, rfl, rfl, trivial⟩ ⟨hlt, hS.drops⟩ (by omega)
  · obtain rfl : i = x.length := by omega
    have hS := hS2
    repeat (first | (refine G_id ?_; first | refine G_nil ?_ | refine G_plain rfl rfl ?_) | (refine X_id ?_; first | refine X_yl (Yl_assign rfl rfl) rfl rfl ?_ | refine X_yl (Yl_lss_f rfl rfl rfl (by omega)) rfl rfl ?_) | (refine C_id ?_; first | refine C_seq ?_ | refine C_region ?_ | refine C_ret ?_ | refine C_exit ?_ | refine C_cond_f rfl ?_) | (refine E_id ?_; first | refine E_code ?_ | refine E_then_exit ?_ | refine E_blk_same ?_ | refine E_ret1 rfl (Rv_tmp rfl) (Ret.mk ?_)))
    exact ⟨rfl, hS⟩
end Cr
namespace Cr
open Go Go.Proofs
set_option maxRecDepth 100000
set_option maxHeartbeats 4000000
attribute [local irreducible] Calls

/-- A writer that has written s, with room. -/
abbrev Wt (p : Nat) (b : Option Addr) (q : Nat) (s : List UInt8) : List Res := [pts p (.cells (List.toArray [.slice b s.length q, .bool false]) 97 (0, 0)), own 5 1 b q (bv s)]
theorem put_ (p : Nat) (b : Option Addr) (q : Nat) (s : List UInt8) (a : Option Addr) (t : List UInt8) (c m : Nat) (W : World) (F : Nat → Prop) (hq : s.length ≤ q) (hm : t.length = m) (hS : St W F (Wt p b q s) W) (ht : Ro W F (bytes a t)) (hl : s.length + t.length ≤ 131072) :
    Calls Tryd.prog 59 #[.pointer (some ⟨p, 0, none⟩), .slice a m c] W (Ret fun v w => (v = .tuple #[] ∧ ∃ b' q', (s ++ t).length ≤ q' ∧ St W F (Wt p b' q' (s ++ t)) w)) := by
  subst hm
  refine calls_C Tryd.func59 rfl Tryd.ntmps59 rfl ?_
  repeat (first | (refine G_id ?_; first | refine G_nil ?_ | refine G_plain rfl rfl ?_ | refine G_yes rfl rfl rfl rfl ?_) | (refine X_id ?_; first | refine X_yl (Yl_move rfl rfl) rfl rfl ?_ | refine X_yl (Yl_nilCheck rfl rfl) rfl rfl ?_ | refine X_yl (Yl_fieldAddr0 rfl rfl rfl) rfl rfl ?_ | refine X_yl (Yl_pick_f rfl rfl rfl) rfl rfl ?_ | refine X_yl (Yl_not_f rfl rfl) rfl rfl ?_ | refine X_yl (Yl_len rfl rfl) rfl rfl ?_ | refine X_yl (Yl_gtr_f rfl rfl rfl (by omega)) rfl rfl ?_ | refine X_yl (Yl_add rfl rfl rfl (w64 (by omega) (by omega))) rfl rfl ?_ | refine X_yl (Yl_load rfl rfl hS.cell) rfl rfl ?_ | refine X_store rfl rfl rfl rfl hS (fun _ hS _ => ?_)) | (refine C_id ?_; first | refine C_seq ?_ | refine C_region ?_ | refine C_cond_t rfl ?_) | (refine E_id ?_; first | refine E_code ?_))
  refine X_append rfl rfl rfl rfl rfl hS (by simp) hq (ht.rd hS) (by simp) bv_one (by omega) (by simp only [maxLen]; omega) (fun b' q' w hS hq' _ => ?_)
  repeat (first | (refine G_id ?_; first | refine G_nil ?_ | refine G_plain rfl rfl ?_) | (refine X_id ?_; first | refine X_yl (Yl_nilCheck rfl rfl) rfl rfl ?_ | refine X_yl (Yl_fieldAddr0 rfl rfl rfl) rfl rfl ?_ | refine X_store rfl rfl rfl rfl hS (fun _ hS _ => ?_)) | (refine E_id ?_; first | refine E_end0 rfl (Ret.mk ?_)))
  refine ⟨rfl, b', q', by simpa using hq', ?_⟩
  exact St.conv (rs := [pts p (.cells (List.toArray [.slice b' ((s.length + t.length : Nat)) q', .bool false]) 97 (0, 0)), own 5 1 b' q' (bv s ++ bv t)]) hS.took (by show _ = [_, _]; rw [List.length_append, bv_append])
theorem wleaf_ (p : Nat) (b : Option Addr) (q : Nat) (s : List UInt8) (y : Leaf) (cs : List Value) (W : World) (F : Nat → Prop) (hq : s.length ≤ q) (hy : LeafRo W F y cs) (hfit : y.fits) (hS : St W F (Wt p b q s) W) (hl : s.length + (encL y).length ≤ 131072) (hG : Lg W F) :
    Calls Tryd.prog 48 #[.pointer (some ⟨p, 0, none⟩), .agg (List.toArray cs)] W (Ret fun v w => (v = .tuple #[] ∧ ∃ b' q', (s ++ encL y).length ≤ q' ∧ St W F (Wt p b' q' (s ++ encL y)) w)) := by
  cases y with
  | oth => exact hfit.elim
  | num n =>
    have hy : cs = [.int .i64 0, .int .i64 n, .slice none 0 0, .slice none 0 0] := hy
    subst hy
    have e : encL (.num n) = [105] ++ Lib.itoa n ++ [59] := by simp [encL]
    rw [e] at hl ⊢
    have hl2 := hl
    simp only [List.length_append, List.length_cons, List.length_nil] at hl2
    refine calls_C Tryd.func48 rfl Tryd.ntmps48 rfl ?_
    repeat (first | (refine G_id ?_; first | refine G_nil ?_ | refine G_plain rfl rfl ?_) | (refine X_id ?_; first | (refine X_callq 60 rfl rfl rfl rfl rfl hS (itoa_ n _ _ (hG.at_ hS) hfit.1 hfit.2) ?_; rintro _ _ rfl hS) | refine X_yl (Yl_move rfl rfl) rfl rfl ?_ | refine X_yl (Yl_assign rfl rfl) rfl rfl ?_ | refine X_yl (Yl_fieldAddr0 rfl rfl rfl) rfl rfl ?_ | refine X_yl (Yl_eql_t rfl rfl rfl (by omega)) rfl rfl ?_ | refine X_yl (Yl_load rfl rfl hS.cell) rfl rfl ?_ | refine X_box rfl rfl rfl rfl hS (fun _ _ hS _ => ?_) | refine X_yl (Yl_addStr rfl rfl rfl (by first | omega | (simp; omega))) rfl rfl ?_ | refine X_strBytes rfl rfl rfl rfl hS (fun _ _ _ hS _ => ?_)) | (refine C_id ?_; first | refine C_seq ?_ | refine C_region ?_ | refine C_block ?_ | refine C_cond_t rfl ?_) | (refine E_id ?_; first | refine E_code ?_))
    obtain ⟨_, hc, hr, hw, hbk⟩ := hS.call [false, false, true, true]
    refine X_callg _ rfl rfl rfl rfl rfl (put_ p b q s _ _ _ _ _ _ hq rfl hc (hr _ (List.mem_cons_self ..)) hl) ?_
    rintro _ w ⟨rfl, b', q', hq', hS⟩
    replace hS := hbk hS
    clear hc hr hw hbk
    repeat (first | (refine G_id ?_; first | refine G_nil ?_) | (refine E_id ?_; first | refine E_blk_n ?_ | refine E_end0 rfl (Ret.mk ?_)))
    exact ⟨rfl, b', q', hq', hS.took⟩
  | txt t =>
    obtain ⟨a, c, hy, hb⟩ := hy
    have hy : cs = [.int .i64 1, .int .i64 0, .slice a t.length c, .slice none 0 0] := hy
    subst hy
    have e : s ++ encL (.txt t) = (s ++ (Lib.itoa (t.length : Nat) ++ [58])) ++ t := by simp [encL]
    have hl2 := congrArg List.length e
    rw [List.length_append] at hl2
    rw [e]
    rw [hl2] at hl
    simp only [List.length_append, List.length_cons, List.length_nil] at hl
    refine calls_C Tryd.func48 rfl Tryd.ntmps48 rfl ?_
    repeat (first | (refine G_id ?_; first | refine G_nil ?_ | refine G_plain rfl rfl ?_) | (refine X_id ?_; first | (refine X_callq 60 rfl rfl rfl rfl rfl hS (itoa_ (t.length : Nat) _ _ (hG.at_ hS) (by omega) (by omega)) ?_; rintro _ _ rfl hS) | refine X_yl (Yl_move rfl rfl) rfl rfl ?_ | refine X_yl (Yl_assign rfl rfl) rfl rfl ?_ | refine X_yl (Yl_fieldAddr0 rfl rfl rfl) rfl rfl ?_ | refine X_yl (Yl_len rfl rfl) rfl rfl ?_ | refine X_yl (Yl_eql_t rfl rfl rfl (by omega)) rfl rfl ?_ | refine X_yl (Yl_eql_f rfl rfl rfl (by omega)) rfl rfl ?_ | refine X_yl (Yl_load rfl rfl hS.cell) rfl rfl ?_ | refine X_box rfl rfl rfl rfl hS (fun _ _ hS _ => ?_) | refine X_yl (Yl_addStr rfl rfl rfl (by first | omega | (simp; omega))) rfl rfl ?_ | refine X_strBytes rfl rfl rfl rfl hS (fun _ _ _ hS _ => ?_)) | (refine C_id ?_; first | refine C_seq ?_ | refine C_region ?_ | refine C_block ?_ | refine C_cond_t rfl ?_ | refine C_cond_f rfl ?_) | (refine E_id ?_; first | refine E_code ?_))
    obtain ⟨_, hc, hr, hw, hbk⟩ := hS.call [false, false, true, true]
    refine X_callg _ rfl rfl rfl rfl rfl (put_ p b q s _ _ _ _ _ _ hq rfl hc (hr _ (List.mem_cons_self ..)) (by simp; omega)) ?_
    rintro _ w ⟨rfl, b', q', hq', hS⟩
    replace hS := hbk hS
    clear hc hr hw hbk
    repeat (first | (refine G_id ?_; first | refine G_nil ?_ | refine G_plain rfl rfl ?_) | (refine X_id ?_; first | refine X_yl (Yl_move rfl rfl) rfl rfl ?_ | refine X_yl (Yl_fieldAddr0 rfl rfl rfl) rfl rfl ?_ | refine X_yl (Yl_load rfl rfl hS.cell) rfl rfl ?_) | (refine C_id ?_; first | refine C_region ?_) | (refine E_id ?_; first | refine E_code ?_))
    obtain ⟨_, hc, hr, hw, hbk⟩ := hS.call [true, true, false, false]
    refine X_callg _ rfl rfl rfl rfl rfl (put_ p b' q' _ a t c t.length _ _ hq' rfl hc (hw _ hb) (by simp; omega)) ?_
    rintro _ w ⟨rfl, b2, q2, hq2, hS⟩
    replace hS := hbk hS
    clear hc hr hw hbk
    repeat (first | (refine G_id ?_; first | refine G_nil ?_) | (refine E_id ?_; first | refine E_blk_n ?_ | refine E_end0 rfl (Ret.mk ?_)))
    exact ⟨rfl, b2, q2, hq2, hS.took⟩
theorem wlist_ (p : Nat) (b : Option Addr) (q : Nat) (s : List UInt8) (a : Option Addr) (x : List Leaf) (c : Nat) (rows : List (List Value)) (W : World) (F : Nat → Prop) (hq : s.length ≤ q) (hr0 : Ro W F (row a rows.flatten)) (hx : Leaves W F x rows) (hfit : ∀ y ∈ x, y.fits) (hxl : x.length ≤ 1024) (hS : St W F (Wt p b q s) W) (hl : s.length + (encT x).length ≤ 131072) (hG : Lg W F) :
    Calls Tryd.prog 48 #[.pointer (some ⟨p, 0, none⟩), .agg (List.toArray [.int .i64 2, .int .i64 0, .slice none 0 0, .slice a x.length c])] W (Ret fun v w => (v = .tuple #[] ∧ ∃ b' q', (s ++ encT x).length ≤ q' ∧ St W F (Wt p b' q' (s ++ encT x)) w)) := by
  have e : s ++ encT x = ((s ++ [40]) ++ encs x) ++ [41] := by simp [encT]
  have hl2 := congrArg List.length e
  rw [List.length_append] at hl2
  rw [e]
  rw [hl2] at hl
  simp only [List.length_append, List.length_cons, List.length_nil] at hl
  refine calls_C Tryd.func48 rfl Tryd.ntmps48 rfl ?_
  repeat (first | (refine G_id ?_; first | refine G_nil ?_ | refine G_plain rfl rfl ?_) | (refine X_id ?_; first | refine X_yl (Yl_move rfl rfl) rfl rfl ?_ | refine X_yl (Yl_assign rfl rfl) rfl rfl ?_ | refine X_yl (Yl_fieldAddr0 rfl rfl rfl) rfl rfl ?_ | refine X_yl (Yl_eql_t rfl rfl rfl (by omega)) rfl rfl ?_ | refine X_yl (Yl_eql_f rfl rfl rfl (by omega)) rfl rfl ?_ | refine X_yl (Yl_load rfl rfl hS.cell) rfl rfl ?_ | refine X_box rfl rfl rfl rfl hS (fun _ _ hS _ => ?_) | refine X_buildSlice rfl rfl rfl rfl rfl rfl rfl rfl hS (fun _ _ hS _ => ?_)) | (refine C_id ?_; first | refine C_seq ?_ | refine C_region ?_ | refine C_block ?_ | refine C_cond_t rfl ?_ | refine C_cond_f rfl ?_) | (refine E_id ?_; first | refine E_code ?_))
  obtain ⟨_, hc, hr, hw, hbk⟩ := hS.call [false, false, true, true]
  refine X_callg _ rfl rfl rfl rfl rfl (put_ p b q s _ [40] _ _ _ _ hq rfl hc (hr _ (List.mem_cons_self ..)).own_row (by simp; omega)) ?_
  rintro _ w ⟨rfl, b', q', hq', hS⟩
  replace hS := hbk hS
  clear hc hr hw hbk
  repeat (first | (refine G_id ?_; first | refine G_nil ?_ | refine G_plain rfl rfl ?_) | (refine X_id ?_; first | refine X_yl (Yl_move rfl rfl) rfl rfl ?_ | refine X_yl (Yl_fieldAddr0 rfl rfl rfl) rfl rfl ?_ | refine X_yl (Yl_len rfl rfl) rfl rfl ?_ | refine X_yl (Yl_load rfl rfl hS.cell) rfl rfl ?_) | (refine C_id ?_; first | refine C_seq ?_ | refine C_region ?_ | refine C_block ?_) | (refine E_id ?_; first | refine E_code ?_))
  refine C_loop (α := Nat × Option Addr × Nat) (fun z => [(0, .pointer (some ⟨p, 0, none⟩)), (38, .slice a x.length c), (39, .int .i64 (x.length : Nat)), (40, .int .i64 (z.1 : Nat))])
    (fun z w => z.1 ≤ x.length ∧ ((s ++ [40]) ++ encs (x.take z.1)).length ≤ z.2.2 ∧ St W F (Wt p z.2.1 z.2.2 ((s ++ [40]) ++ encs (x.take z.1))) w) (fun z => x.length - z.1) (0, b', q') ⟨rfl, rfl, rfl, rfl, trivial⟩ ⟨Nat.zero_le _, by simpa [encs_nil] using hq', by rw [List.take_zero, encs_nil, List.append_nil]; exact hS.took⟩ ?_
  clear hS
  rintro ⟨i, b2, q2⟩ w ⟨hi, hq2, hS2⟩
  simp only at hi hq2 hS2
  by_cases hlt : i < x.length
  · obtain ⟨y, hyx⟩ : ∃ y, y = x[i] := ⟨_, rfl⟩
    have hy0 : x[i]? = some y := by rw [hyx]; exact List.getElem?_eq_getElem hlt
    have hymem : y ∈ x := List.mem_of_getElem? hy0
    obtain ⟨cs, hxs, hy⟩ := hx.at_ hy0
    obtain ⟨k1, k2, a1, n1, c1, a2, n2, c2, rfl⟩ := hy.lit
    have hr := hr0
    obtain ⟨ab, ao, rfl⟩ := hr.start.base (by
      intro e
      rw [e] at hxs
      simp at hxs)
    have htk : encs (x.take (i + 1)) = encs (x.take i) ++ encL y := by
      rw [List.take_succ_eq_append_getElem hlt, ← hyx, encs_snoc]
    have hle : (encs (x.take (i + 1))).length ≤ (encs x).length := by
      have := congrArg List.length (congrArg encs (List.take_append_drop (i + 1) x))
      simp only [encs, List.map_append, List.flatten_append, List.length_append] at this ⊢
      omega
    rw [htk, List.length_append] at hle
    have hS := hS2
    repeat (first | (refine G_id ?_; first | refine G_nil ?_ | refine G_plain rfl rfl ?_) | (refine X_id ?_; first | refine X_yl (Yl_move rfl rfl) rfl rfl ?_ | refine X_yl (Yl_lss_t rfl rfl rfl (by omega)) rfl rfl ?_ | refine X_yl (Yl_indexAddr rfl rfl rfl (by omega) (by omega) (by first | assumption | exact ⟨_, _, rfl⟩)) rfl rfl ?_ | refine X_yl (Yl_loadN rfl rfl hS.cellsN) rfl rfl ?_ | refine X_yl (Yl_loadN rfl rfl ((hr.rd hS).cellsX (by omega) hxs rfl)) rfl rfl ?_ | refine X_store rfl rfl rfl rfl hS (fun _ hS _ => ?_) | refine X_alloc rfl rfl rfl hS (fun _ _ hS _ => ?_)) | (refine C_id ?_; first | refine C_seq ?_ | refine C_region ?_ | refine C_block ?_ | refine C_skip ?_ | refine C_cond_t rfl ?_) | (refine E_id ?_; first | refine E_code ?_))
    obtain ⟨_, hc, hr, hw, hbk⟩ := hS.call [false, true, true]
    refine X_callg _ rfl rfl rfl rfl rfl (wleaf_ p b2 q2 _ y _ _ _ hq2 (hy.mono hw) (hfit y hymem) hc (by simp; omega) (hG.mono hw)) ?_
    rintro _ w ⟨rfl, b3, q3, hq3, hS⟩
    replace hS := hbk hS
    clear hc hr hw hbk
    repeat (first | (refine G_id ?_; first | refine G_nil ?_ | refine G_plain rfl rfl ?_) | (refine X_id ?_; first | refine X_yl (Yl_move rfl rfl) rfl rfl ?_ | refine X_yl (Yl_add rfl rfl rfl (w64 (by omega) (by omega))) rfl rfl ?_) | (refine C_id ?_; first | refine C_region ?_) | (refine E_id ?_; first | refine E_code ?_ | refine E_blk_n ?_))
    refine E_round (z := (i, b2, q2)) (i + 1, b3, q3) ⟨rfl, rfl, rfl, rfl, trivial⟩ ⟨hlt, ?_, ?_⟩ (by dsimp only; omega)
    · rw [htk, ← List.append_assoc]; exact hq3
    · rw [htk, ← List.append_assoc]; exact hS.took
  · obtain rfl : i = x.length := by omega
    have hS := hS2
    rw [List.take_length] at hS hq2
    repeat (first | (refine G_id ?_; first | refine G_nil ?_ | refine G_plain rfl rfl ?_) | (refine X_id ?_; first | refine X_yl (Yl_move rfl rfl) rfl rfl ?_ | refine X_yl (Yl_lss_f rfl rfl rfl (by omega)) rfl rfl ?_ | refine X_buildSlice rfl rfl rfl rfl rfl rfl rfl rfl hS (fun _ _ hS _ => ?_)) | (refine C_id ?_; first | refine C_seq ?_ | refine C_region ?_ | refine C_exit ?_ | refine C_cond_f rfl ?_) | (refine E_id ?_; first | refine E_code ?_ | refine E_then_exit ?_ | refine E_blk_same ?_))
    obtain ⟨_, hc, hr, hw, hbk⟩ := hS.call [false, true, true]
    refine X_callg _ rfl rfl rfl rfl rfl (put_ p b2 q2 _ _ [41] _ _ _ _ hq2 rfl hc (hr _ (List.mem_cons_self ..)).own_row (by simp; omega)) ?_
    rintro _ w ⟨rfl, b3, q3, hq3, hS⟩
    replace hS := hbk hS
    clear hc hr hw hbk
    repeat (first | (refine G_id ?_; first | refine G_nil ?_) | (refine E_id ?_; first | refine E_blk_n ?_ | refine E_end0 rfl (Ret.mk ?_)))
    exact ⟨rfl, b3, q3, hq3, hS.took⟩
end Cr
namespace Cr
open Go Go.Proofs
set_option maxRecDepth 100000
set_option maxHeartbeats 4000000
attribute [local irreducible] Calls

theorem encode_ (a : Option Addr) (x : List Leaf) (c : Nat) (rows : List (List Value)) (W : World) (hr0 : Ro W noF (row a rows.flatten)) (hx : Leaves W noF x rows) (hfit : ∀ y ∈ x, y.fits) (hxl : x.length ≤ 1024) (hl : (encT x).length ≤ 131072) (hG : Lg W noF) :
    Calls Tryd.prog 28 #[.agg (List.toArray [.int .i64 2, .int .i64 0, .slice none 0 0, .slice a x.length c])] W (Ret fun v w => ∃ b q, v = .tuple #[.slice b (encT x).length q, .int .i64 0] ∧ (encT x).length ≤ q ∧ St W noF [own 5 1 b q (bv (encT x))] w) := by
  have hS := St.start W
  have hne : Leaf.oth ∉ x := fun h => hfit _ h
  have hck := fun W h1 h2 => check_list a x c rows W h1 h2 hne hxl
  refine calls_C Tryd.func28 rfl Tryd.ntmps28 rfl ?_
  repeat (first | (refine G_id ?_; first | refine G_nil ?_ | refine G_plain rfl rfl ?_) | (refine X_id ?_; first | (refine X_callq 47 rfl rfl rfl rfl rfl hS (hck _ (hr0.rd hS).ro (hx.mono fun r h => (h.rd hS).ro)) ?_; rintro _ _ rfl hS) | refine X_yl (Yl_move rfl rfl) rfl rfl ?_ | refine X_yl (Yl_assign rfl rfl) rfl rfl ?_ | refine X_yl (Yl_neq_f rfl rfl rfl (by omega)) rfl rfl ?_ | refine X_yl (Yl_build rfl rfl rfl) rfl rfl ?_ | refine X_yl (Yl_loadN rfl rfl hS.cellsN) rfl rfl ?_ | refine X_box rfl rfl rfl rfl hS (fun _ _ hS _ => ?_)) | (refine C_id ?_; first | refine C_seq ?_ | refine C_region ?_ | refine C_skip ?_ | refine C_cond_f rfl ?_) | (refine E_id ?_; first | refine E_code ?_))
  rename_i p _ _
  replace hS := hS.head (r' := pts p (.cells (List.toArray [.slice none 0 0, .bool false]) 97 (0, 0))) (fun _ h => h)
  replace hS := hS.own_none 5 1 none
  have hS := hS.pick [1, 0, 0]
  obtain ⟨_, hc, hr, hw, hbk⟩ := hS.call [true, true, false]
  refine X_callg _ rfl rfl rfl rfl rfl (wlist_ p none 0 [] a x c rows _ _ (Nat.le_refl _) (hw _ hr0) (hx.mono hw) hfit hxl hc (by simpa using hl) (hG.mono hw)) ?_
  rintro _ w ⟨rfl, b, q, hq, hS⟩
  replace hS := hbk hS
  clear hc hr hw hbk
  rw [List.nil_append] at hS hq
  repeat (first | (refine G_id ?_; first | refine G_nil ?_ | refine G_plain rfl rfl ?_) | (refine X_id ?_; first | refine X_yl (Yl_move rfl rfl) rfl rfl ?_ | refine X_yl (Yl_assign rfl rfl) rfl rfl ?_ | refine X_yl (Yl_nilCheck rfl rfl) rfl rfl ?_ | refine X_yl (Yl_fieldAddr0 rfl rfl rfl) rfl rfl ?_ | refine X_yl (Yl_load rfl rfl hS.cell) rfl rfl ?_) | (refine C_id ?_; first | refine C_seq ?_ | refine C_region ?_ | refine C_ret ?_ | refine C_skip ?_ | refine C_cond_f rfl ?_) | (refine E_id ?_; first | refine E_code ?_ | refine E_ret2 rfl (Rv_tmp rfl) (Rv_tmp rfl) (Ret.mk ?_)))
  refine ⟨b, q, rfl, hq, ?_⟩
  have hS := hS.pick [1]
  exact hS
end Cr
namespace Cr
open Go Go.Proofs
set_option maxRecDepth 100000
set_option maxHeartbeats 8000000
attribute [local irreducible] Calls

theorem pl_count : ∀ {f deep : Nat} {l r : List UInt8} {x : List Leaf}, pl f deep l = some (x, r) → x.length + r.length ≤ l.length
  | 0, _, _, _, _, h => by simp [pl] at h
  | f + 1, deep, [], _, _, h => by simp [pl] at h
  | f + 1, deep, c :: l, r, x, h => by
    rw [pl] at h
    split at h
    · obtain ⟨h1, rfl⟩ : [] = x ∧ l = r := by simpa using h
      subst h1
      simp
    · split at h
      · cases h
      · rename_i t r' hp
        split at h
        · cases h
        · rename_i x' r'' hp'
          obtain ⟨h1, rfl⟩ : t.shut :: x' = x ∧ r'' = r := by simpa using h
          subst h1
          have := pl_count hp'
          have h2 := (p_len f).1 _ _ _ _ hp
          simp only [List.length_cons] at h2 ⊢
          omega
theorem dec_leaf {s : List UInt8} {y : Leaf} (h : dec s = some (.leaf y)) : y ≠ .oth := by
  unfold dec at h
  split at h
  · rename_i t hp
    injection h with h
    subst h
    exact (pv_canon hp).2
  · cases h
theorem dec_count {s : List UInt8} {x : List Leaf} (h : dec s = some (.list x)) : x.length ≤ s.length := by
  unfold dec at h
  split at h
  · rename_i t hp
    injection h with h
    subst h
    cases s with
    | nil => simp [pv] at hp
    | cons c l =>
      rw [pv] at hp
      split at hp
      · split at hp
        · cases hp
        · split at hp
          · rename_i x' r' hp'
            obtain ⟨rfl, rfl⟩ : x' = x ∧ r' = [] := by simpa using hp
            have := pl_count hp'
            simp at this ⊢; omega
          · cases hp
      · split at hp
        · split at hp
          · simp at hp
          · cases hp
        · split at hp
          · split at hp
            · simp at hp
            · cases hp
          · cases hp
  · cases h
theorem read_m (t : Top) (cs : List Value) (W : World) (ht : TopRo W noF t cs) (hl : ∀ x, t = .list x → x.length ≤ 1099511627776) : Calls Tryd.prog 30 #[.agg (List.toArray cs)] W (Ret fun v w => RdRes W (readT t) v w) := by
  cases t with
  | leaf y => exact read_leaf y cs W ht.2 ht.1
  | list x =>
    obtain ⟨a, c, rows, rfl, hr, hx⟩ := ht
    cases x with
    | nil => exact read_nil a c W
    | cons y xs =>
      cases y with
      | txt w0 => exact read_list a c w0 xs rows W hr hx (by have := hl _ rfl; simp at this; omega)
      | num n => exact read_first a c _ rows (.num n) W hr hx rfl (fun b h => by cases h)
      | oth => exact read_first a c _ rows .oth W hr hx rfl (fun b h => by cases h)
theorem topRo_of {W : World} {F : Nat → Prop} {t : Top} {cs : List Value} (H : Ro W F (topR t cs)) (hne : ∀ y, t = .leaf y → y ≠ .oth) : TopRo W F t cs := by
  cases t with
  | leaf y => exact ⟨hne y rfl, Ro.leaf H⟩
  | list x =>
    obtain ⟨h, ⟨a, c, rfl, hl⟩, ha⟩ := H
    obtain ⟨rows, h1, h2⟩ := Ro.list (W := W) (F := F) ⟨h, hl, ha⟩
    exact ⟨a, c, rows, rfl, h1, h2⟩
/-- Numbers are ints. -/
def Cmd.ints (c : Cmd) : Prop := ∀ o, -9223372036854775808 ≤ c.n o ∧ c.n o ≤ 9223372036854775807
theorem leaves_fit {c : Cmd} (hs : c.small) (hi : c.ints) : ∀ y ∈ c.leaves, y.fits := by
  intro x hx
  have hsm := leaf_small hs x hx
  unfold Cmd.leaves at hx
  rcases List.mem_cons.1 hx with rfl | hx
  · have := hsm _ rfl
    show c.word.length ≤ _
    omega
  · obtain ⟨p, _, rfl⟩ := List.mem_map.1 hx
    cases p with
    | t o => have := hsm _ rfl; show (c.s o).length ≤ _; omega
    | b => have := hsm _ rfl; show c.arch.length ≤ _; omega
    | n o => exact hi o
theorem leaves_len (c : Cmd) : c.leaves.length ≤ 5 := by
  have := partsW_len c.word
  unfold Cmd.leaves
  simp; omega
theorem check_m (c : Cmd) (aa : Option Addr) (cc : Nat) (W : World) (hb : Ro W noF (bytes aa c.arch)) (hs : c.small) :
    Calls Tryd.prog 11 #[.agg (c.cells (.slice aa c.arch.length cc)).toArray] W (Ret fun v w => v = .int .i64 (chk c : Nat) ∧ St W noF [] w) := by
  have hS := St.start W
  have hV := fun W h => value_m c aa cc W h hs
  cases hk : sort c.word with
  | none =>
    have e2 : isWord c.word = false := by unfold isWord; rw [hk]; rfl
    have e3 : chk c = 1 := by unfold chk; rw [hk]
    rw [e2] at hV
    rw [e3]
    refine calls_C Tryd.func11 rfl Tryd.ntmps11 rfl ?_
    repeat (first | (refine G_id ?_; first | refine G_nil ?_ | refine G_plain rfl rfl ?_) | (refine X_id ?_; first | refine X_yl (Yl_assign rfl rfl) rfl rfl ?_ | refine X_yl (Yl_loadN rfl rfl hS.cellsN) rfl rfl ?_ | refine X_box rfl rfl rfl rfl hS (fun _ _ hS _ => ?_)) | (refine C_id ?_; first | refine C_seq ?_ | refine C_region ?_) | (refine E_id ?_; first | refine E_code ?_))
    refine X_callg _ rfl rfl rfl rfl rfl (hV _ (hb.rd hS).ro) ?_
    rintro _ w ⟨b, q, rfl, hS'⟩
    replace hS := hS.plus hS'
    clear hS'
    repeat (first | (refine G_id ?_; first | refine G_nil ?_ | refine G_plain rfl rfl ?_) | (refine X_id ?_; first | refine X_yl (Yl_move rfl rfl) rfl rfl ?_ | refine X_yl (Yl_assign rfl rfl) rfl rfl ?_ | refine X_yl (Yl_extract rfl rfl) rfl rfl ?_ | refine X_yl (Yl_not_f rfl rfl) rfl rfl ?_ | refine X_store rfl rfl rfl rfl hS (fun _ hS _ => ?_) | refine X_alloc rfl rfl rfl hS (fun _ _ hS _ => ?_)) | (refine C_id ?_; first | refine C_seq ?_ | refine C_region ?_ | refine C_ret ?_ | refine C_cond_t rfl ?_) | (refine E_id ?_; first | refine E_code ?_ | refine E_then_ret ?_ | refine E_ret1 rfl (Rv_tmp rfl) (Ret.mk ?_)))
    exact ⟨rfl, hS.drops⟩
  | some k =>
    have e2 : isWord c.word = true := by unfold isWord; rw [hk]; rfl
    have e3 : chk c = if c = c.own k then 0 else 3 := by unfold chk; rw [hk]
    rw [e2] at hV
    rw [e3]
    have hread := readC_leaves hk
    refine calls_C Tryd.func11 rfl Tryd.ntmps11 rfl ?_
    repeat (first | (refine G_id ?_; first | refine G_nil ?_ | refine G_plain rfl rfl ?_) | (refine X_id ?_; first | refine X_yl (Yl_assign rfl rfl) rfl rfl ?_ | refine X_yl (Yl_loadN rfl rfl hS.cellsN) rfl rfl ?_ | refine X_box rfl rfl rfl rfl hS (fun _ _ hS _ => ?_)) | (refine C_id ?_; first | refine C_seq ?_ | refine C_region ?_) | (refine E_id ?_; first | refine E_code ?_))
    refine X_callg _ rfl rfl rfl rfl rfl (hV _ (hb.rd hS).ro) ?_
    rintro _ w ⟨b, q, rfl, hS'⟩
    replace hS := hS.plus hS'
    clear hS' hV
    repeat (first | (refine G_id ?_; first | refine G_nil ?_ | refine G_plain rfl rfl ?_) | (refine X_id ?_; first | refine X_yl (Yl_move rfl rfl) rfl rfl ?_ | refine X_yl (Yl_assign rfl rfl) rfl rfl ?_ | refine X_yl (Yl_extract rfl rfl) rfl rfl ?_ | refine X_yl (Yl_not_t rfl rfl) rfl rfl ?_ | refine X_yl (Yl_loadN rfl rfl hS.cellsN) rfl rfl ?_ | refine X_store rfl rfl rfl rfl hS (fun _ hS _ => ?_) | refine X_alloc rfl rfl rfl hS (fun _ _ hS _ => ?_)) | (refine C_id ?_; first | refine C_seq ?_ | refine C_region ?_ | refine C_skip ?_ | refine C_cond_f rfl ?_) | (refine E_id ?_; first | refine E_code ?_))
    obtain ⟨rows, hr1, hr2⟩ := (hS.rd (r := listR b c.leaves) (by simp)).ro.list
    have hR := read_m (.list c.leaves) [.int .i64 2, .int .i64 0, .slice none 0 0, .slice b c.leaves.length q] _ ⟨b, q, rows, rfl, hr1, hr2⟩ (fun x hx => by injection hx with hx; rw [← hx]; have := leaves_len c; omega)
    rw [show readT (.list c.leaves) = some (c.own k) from hread] at hR
    refine X_callg _ rfl rfl rfl rfl rfl hR ?_
    rintro _ w ⟨b2, q2, rfl, hS'⟩
    replace hS := hS.plus hS'
    clear hS' hR hr1 hr2
    have hsm := fun W h1 h2 => same_m c (c.own k) aa b2 cc q2 W h1 h2
    by_cases hc : c = c.own k
    · simp only [decide_eq_true hc] at hsm
      rw [if_pos hc]
      repeat (first | (refine G_id ?_; first | refine G_nil ?_ | refine G_plain rfl rfl ?_ | refine G_yes rfl rfl rfl rfl ?_) | (refine X_id ?_; first | refine X_yl (Yl_move rfl rfl) rfl rfl ?_ | refine X_yl (Yl_assign rfl rfl) rfl rfl ?_ | refine X_yl (Yl_extract rfl rfl) rfl rfl ?_ | refine X_yl (Yl_not_t rfl rfl) rfl rfl ?_ | refine X_yl (Yl_loadN rfl rfl hS.cellsN) rfl rfl ?_ | refine X_store rfl rfl rfl rfl hS (fun _ hS _ => ?_) | refine X_alloc rfl rfl rfl hS (fun _ _ hS _ => ?_)) | (refine C_id ?_; first | refine C_seq ?_ | refine C_region ?_) | (refine E_id ?_; first | refine E_code ?_))
      refine X_callq 12 rfl rfl rfl rfl rfl hS (hsm _ (hb.rd hS).ro (hS.rd (r := bytes b2 (c.own k).arch) (by simp)).ro) ?_
      rintro _ w rfl hS
      repeat (first | (refine G_id ?_; first | refine G_nil ?_ | refine G_plain rfl rfl ?_ | refine G_yes rfl rfl rfl rfl ?_) | (refine X_id ?_; first | refine X_yl (Yl_assign rfl rfl) rfl rfl ?_ | refine X_yl (Yl_pick_f rfl rfl rfl) rfl rfl ?_ | refine X_yl (Yl_not_t rfl rfl) rfl rfl ?_) | (refine C_id ?_; first | refine C_seq ?_ | refine C_region ?_ | refine C_ret ?_ | refine C_skip ?_ | refine C_cond_f rfl ?_) | (refine E_id ?_; first | refine E_code ?_ | refine E_ret1 rfl (Rv_tmp rfl) (Ret.mk ?_)))
      exact ⟨rfl, hS.drops⟩
    · simp only [decide_eq_false hc] at hsm
      rw [if_neg hc]
      repeat (first | (refine G_id ?_; first | refine G_nil ?_ | refine G_plain rfl rfl ?_ | refine G_yes rfl rfl rfl rfl ?_) | (refine X_id ?_; first | refine X_yl (Yl_move rfl rfl) rfl rfl ?_ | refine X_yl (Yl_assign rfl rfl) rfl rfl ?_ | refine X_yl (Yl_extract rfl rfl) rfl rfl ?_ | refine X_yl (Yl_not_t rfl rfl) rfl rfl ?_ | refine X_yl (Yl_loadN rfl rfl hS.cellsN) rfl rfl ?_ | refine X_store rfl rfl rfl rfl hS (fun _ hS _ => ?_) | refine X_alloc rfl rfl rfl hS (fun _ _ hS _ => ?_)) | (refine C_id ?_; first | refine C_seq ?_ | refine C_region ?_) | (refine E_id ?_; first | refine E_code ?_))
      refine X_callq 12 rfl rfl rfl rfl rfl hS (hsm _ (hb.rd hS).ro (hS.rd (r := bytes b2 (c.own k).arch) (by simp)).ro) ?_
      rintro _ w rfl hS
      repeat (first | (refine G_id ?_; first | refine G_nil ?_ | refine G_plain rfl rfl ?_ | refine G_yes rfl rfl rfl rfl ?_) | (refine X_id ?_; first | refine X_yl (Yl_assign rfl rfl) rfl rfl ?_ | refine X_yl (Yl_pick_f rfl rfl rfl) rfl rfl ?_ | refine X_yl (Yl_not_f rfl rfl) rfl rfl ?_) | (refine C_id ?_; first | refine C_seq ?_ | refine C_region ?_ | refine C_ret ?_ | refine C_cond_t rfl ?_) | (refine E_id ?_; first | refine E_code ?_ | refine E_then_ret ?_ | refine E_ret1 rfl (Rv_tmp rfl) (Ret.mk ?_)))
      exact ⟨rfl, hS.drops⟩
end Cr
