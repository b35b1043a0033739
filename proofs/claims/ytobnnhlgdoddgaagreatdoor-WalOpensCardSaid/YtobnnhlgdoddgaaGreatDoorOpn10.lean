/-
  The plain law of recovering: what is recovered, and that it stays so when it is opened again.
  The plain law of recovering: what is opened is what the document says, and it stays so.
  The document's answers: what is recovered of a disk's bytes.
  The laws' helper known of layer 4: the chapter's example.
  All data of a log.
  The law WalOpens: what it computes.
  A law's arguments, opened: bytes, lists of writes. What is read of them, by the reading that the row gives.
  The law WalOpens holds: for every bytes and every two numbers it returns true, and what is handed reads as it did.
-/
import Derived.Test.YtobnnhlgdoddgaaGreatDoorOpn9
import Derived.Test.YtobnnhlgdoddgaaGreatDoorOpn8
import Derived.KernelRfl
import Derived.Test.YtobnnhlgdoddgaaGreatDoorOpn4
import Derived.Deep.SlicePairs
import Derived.Carry
import Derived.Test.YtobnnhlgdoddgaaGreatDoorOpn3
namespace Cr
open Go Go.Proofs
set_option maxRecDepth 10000
/-! ### sectors in a row -/
theorem secs_row (b : List UInt8) (a : Nat) : ∀ m, 64 * (a + m) ≤ b.length → (List.range m).flatMap (fun k => secB b (a + k)) = (b.drop (64 * a)).take (64 * m)
  | 0, _ => by simp
  | m + 1, h => by
    rw [List.range_succ, List.flatMap_append, secs_row b a m (by omega), show 64 * (m + 1) = 64 * m + 64 by omega, List.take_add]
    congr 1
    simp only [List.flatMap_cons, List.flatMap_nil, List.append_nil, secB, List.drop_drop]
    rw [show 64 * a + 64 * m = 64 * (a + m) by omega]
theorem secs_all {x : List UInt8} {m : Nat} (h : x.length = 64 * m) : (List.range m).flatMap (fun k => secB x k) = x := by
  have := secs_row x 0 m (by omega)
  simp only [Nat.zero_add, Nat.mul_zero, List.drop_zero] at this
  rw [this, List.take_of_length_le (by omega)]
theorem sec_drop (b : List UInt8) (a k : Nat) : secB (b.drop (64 * a)) k = secB b (a + k) := by
  unfold secB; rw [List.drop_drop, show 64 * a + 64 * k = 64 * (a + k) by omega]
theorem sec_put {d v : List UInt8} {m k : Nat} (hm : 64 * m + 64 ≤ d.length) (hk : 64 * k + 64 ≤ d.length) (hv : v.length = 64) : secB (putTo d (64 * m) v 64) k = if m = k then v else secB d k := by
  have hl : (putTo d (64 * m) v 64).length = d.length := putTo_length (by omega) (by omega)
  have e : putTo d (64 * m) v 64 = d.take (64 * m) ++ (v ++ d.drop (64 * m + 64)) := by
    unfold putTo; rw [List.take_of_length_le (l := v) (by omega), List.append_assoc]
  apply getD_ext
  · rw [secB_length (by omega)]; split
    · exact hv.symm
    · rw [secB_length hk]
  · intro i hi
    rw [secB_length (by omega)] at hi
    have e1 : (secB (putTo d (64 * m) v 64) k).getD i 0 = (putTo d (64 * m) v 64).getD (64 * k + i) 0 := by unfold secB; rw [getD_take hi, getD_drop]
    have ht : (d.take (64 * m)).length = 64 * m := by simp; omega
    rw [e1, e]
    by_cases h : m = k
    · subst h
      rw [if_pos rfl, getD_append_right (by omega), ht, getD_append_left (by omega)]
      congr 1; omega
    · rw [if_neg h]
      have e2 : (secB d k).getD i 0 = d.getD (64 * k + i) 0 := by unfold secB; rw [getD_take hi, getD_drop]
      rw [e2]
      rcases Nat.lt_or_ge k m with hlt | hge
      · rw [getD_append_left (by omega), getD_take (by omega)]
      · rw [getD_append_right (by omega), ht, getD_append_right (by omega), hv, getD_drop]
        congr 1; omega
theorem sec_lay {n : Nat} : ∀ (w : List (Int × List UInt8)) {d : List UInt8}, d.length = 64 * n → (∀ v ∈ w, 0 ≤ v.1 ∧ v.1 < n ∧ v.2.length = 64) → ∀ k, k < n → secB (layTo d w) k = (lastOf w (k : Nat)).getD (secB d k)
  | [], _, _, _, _, _ => rfl
  | v :: w, d, hd, hw, k, hk => by
    have hv := hw v (List.mem_cons_self ..)
    have hl : (putTo d (64 * v.1.toNat) v.2 64).length = d.length := putTo_length (by omega) (by omega)
    have ih := sec_lay w (d := putTo d (64 * v.1.toNat) v.2 64) (by omega) (fun u hu => hw u (List.mem_cons_of_mem _ hu)) k hk
    have e : layTo d (v :: w) = layTo (putTo d (64 * v.1.toNat) v.2 64) w := rfl
    rw [e, ih, lastOf_cons]
    cases lastOf w (k : Nat) with
    | some x => rfl
    | none =>
      simp only [Option.getD_none, Option.none_or]
      rw [sec_put (by omega) (by omega) hv.2.2]
      by_cases h : v.1.toNat = k
      · rw [if_pos h, if_pos (by omega)]; rfl
      · rw [if_neg h, if_neg (by omega)]; rfl
theorem rlist_good {b : List UInt8} {j s number : Nat} (hs : b.length = 64 * s) (hjs : j + 2 ≤ s) (hok : rfoundOk b j number) : ∀ v ∈ rlist b (rcount b), 0 ≤ v.1 ∧ v.1 < ((s - 1 - j : Nat) : Int) ∧ v.2.length = 64 := fun v hv => by
  obtain ⟨_, h2, h3, _⟩ := hok
  obtain ⟨i, hi, rfl⟩ := List.mem_map.1 hv
  have hi := List.mem_range.1 hi
  have h4 := (h3 i hi).1
  rw [hs, show 64 * s / 64 = s by omega] at h4
  exact ⟨by simp only; omega, by simp only; omega, secB_length (by omega)⟩
/-! ### opened again -/
theorem front_nat {m : Nat} (hm : m < 9223372036854775808) : natTo (frontB roundL firstL (m : Nat)) 8 = m := by
  have e : natTo (frontB roundL firstL (m : Int)) 8 = natTo (bigB (m : Int) 8) 8 := natTo_congr 8 fun k hk => by
    unfold frontB fullB
    rw [getD_take (by omega), getD_append_left (by rw [List.length_append, bigB_length]; omega), getD_append_left (by rw [bigB_length]; omega)]
  rw [e, natTo_big (by omega) (by omega) hm]
theorem natTo_zeros (n : Nat) : ∀ i, natTo (List.replicate n (0 : UInt8)) i = 0
  | 0 => rfl
  | i + 1 => by
    rw [natTo, natTo_zeros n i, List.getD_eq_getElem?_getD, List.getElem?_replicate]
    split <;> rfl
theorem front_num {m : Nat} (h1 : 1 ≤ m) (hm : m ≤ 1152921504606846976) : rnumM (frontB roundL firstL (m : Nat)) = m := by
  have hn := front_nat (m := m) (by omega)
  have ht := natTo_top (frontB roundL firstL (m : Nat)) 7
  rw [show natTo (frontB roundL firstL (m : Nat)) (7 + 1) = natTo (frontB roundL firstL (m : Nat)) 8 from rfl, hn] at ht
  unfold rnumM
  rw [if_neg (fun h => by rw [h, natTo_zeros] at hn; omega), if_neg (by omega), hn, if_neg (by rintro (h | h); omega; exact h rfl)]
section
variable {D : DiskM} {j s : Nat}
theorem reopen {m : Nat} {h0 a : List UInt8} (hoff : D.off = false) (hline : D.line = []) (hlen : D.laid.length = s) (hs : j + 2 ≤ s) (hr0 : D.laid.getD 0 [] = h0) (hr1 : D.laid.getD 1 [] = a) (ha : a.length = 64)
    (hnum : headNum roundL firstL h0 = ((m : Int), true)) (hm : m ≤ 1152921504606846976) (hor : 1152921504606846976 ≤ m ∨ natTo a 8 ≠ m + 1) : redoM roundL firstL D j 0 false = ⟨0, D, m, false⟩ := by
  have hread : ∀ k : Nat, k < s → D.read (k : Nat) = (0, D.laid.getD k []) := fun k hk => by
    unfold DiskM.read DiskM.find
    rw [if_neg (by simp [hoff]), if_neg (by simp [inDisk, hlen]; omega), hline]; rfl
  have r0 := hread 0 (by omega)
  rw [hr0, show (((0 : Nat) : Nat) : Int) = 0 from rfl] at r0
  have r1 := hread 1 (by omega)
  rw [hr1, show (((1 : Nat) : Nat) : Int) = 1 from rfl] at r1
  unfold redoM
  rw [r0, hnum]
  simp only [not_true_eq_false, if_false, Bool.true_eq_false]
  by_cases hl : last ≤ (m : Int)
  · rw [if_pos hl]
  · rw [if_neg hl]
    unfold last at hl
    have hna : natTo a 8 ≠ m + 1 := by rcases hor with h | h; omega; exact h
    have hlt := natTo_lt a 8
    have hent : (entM D j ((m : Int) + 1) 0).ok = false := by
      unfold entM
      split
      · rfl
      · split
        · rfl
        · rw [show (1 : Int) + 2 * 0 = 1 from rfl, r1]
          unfold entOf
          simp only [Bool.and_eq_false_iff, decide_eq_false_iff_not]
          left
          intro h
          have hdl : ((a.drop 20).take 32).length = 32 := by simp [ha]
          have := note_number (number := m + 1) (at_ := 0) (count := smallN ((a.drop 12).take 4)) (no := smallN ((a.drop 16).take 4)) hdl (by omega)
          rw [show (((m + 1 : Nat) : Nat) : Int) = (m : Int) + 1 by omega, ← h] at this
          exact hna this
    have hf : foundM roundL firstL D j ((m : Int) + 1) = [] := by
      unfold foundM foundL
      rw [if_neg (by rw [hent]; simp)]
    rw [hf, if_pos rfl]
    have hsm : smallN (a.take 8) = IntKind.i64.wrap (natTo a 8 : Nat) := by rw [smallN_8 (by simp; omega), natTo_take a 8 8 (Nat.le_refl _)]
    have hcl : clearM D ((m : Int) + 1) = (0, D) := by
      unfold clearM
      rw [r1]
      simp only [not_true_eq_false, if_false]
      rw [if_pos]
      rw [hsm, IntKind.wrap_i64]
      omega
    rw [hcl]
end
end Cr
namespace Cr
open Go Go.Proofs
set_option maxRecDepth 10000
/-- A disk as it stands behind an opening: of so many sectors, nothing waits; opened again it tells the same and writes nothing. -/
structure Stands (D : DiskM) (j s n : Nat) (data : List UInt8) : Prop where
  off : D.off = false
  line : D.line = []
  len : D.laid.length = s
  data : dataM D j = data
  again : redoM roundL firstL D j 0 false = ⟨0, D, n, false⟩
theorem dataM_of {D : DiskM} {j s : Nat} {x : List UInt8} (hline : D.line = []) (hlen : D.laid.length = s) (hx : x.length = 64 * (s - 1 - j)) (h : ∀ k, k < s - 1 - j → D.laid.getD (1 + j + k) [] = secB x k) : dataM D j = x := by
  unfold dataM
  rw [hlen]
  have e : (List.range (s - 1 - j)).flatMap (fun k => D.find (1 + (j : Int) + ((k : Nat) : Int))) = (List.range (s - 1 - j)).flatMap (fun k => secB x k) := by
    rw [List.flatMap_def, List.flatMap_def]
    congr 1
    apply List.map_congr_left
    intro k hk
    have hk := List.mem_range.1 hk
    rw [find_quiet hline, show (1 + (j : Int) + ((k : Nat) : Int)).toNat = 1 + j + k by omega, h k hk]
  rw [e, secs_all hx]
section
variable {D : DiskM} {b : List UInt8} {j s : Nat}
theorem opens_bad (h : Holds D b s) (hjs : j + 2 ≤ s) (hs : b.length = 64 * s) (hn : rnumM (secB b 0) < 0) : redoM roundL firstL D j 0 false = ⟨5, D, 0, false⟩ := by
  have r0 := h.read (k := 0) (by omega)
  rw [show (((0 : Nat) : Nat) : Int) = 0 from rfl] at r0
  have hh := (head_is (secB_length (b := b) (no := 0) (by omega))).1 hn
  unfold redoM
  rw [r0]
  simp only [not_true_eq_false, if_false]
  rw [if_pos hh]
theorem opens_none (h : Holds D b s) (harm : D.armed = false) (hjs : j + 2 ≤ s) (hj : 2 ≤ j) (hs : b.length = 64 * s) {n : Nat} (hn : rnumM (secB b 0) = n) (hno : ¬ rfoundOk b j (n + 1) ∨ 1152921504606846976 ≤ n) :
    ∃ D', redoM roundL firstL D j 0 false = ⟨0, D', n, false⟩ ∧ Stands D' j s n (b.drop (64 * (1 + j))) := by
  have hl0 : (secB b 0).length = 64 := secB_length (by omega)
  have hl1 : (secB b 1).length = 64 := secB_length (by omega)
  have hnl := (rnumM_le (secB b 0)).1
  rw [hn] at hnl
  have hh := (head_is hl0).2 n hn
  have r0 := h.read (k := 0) (by omega)
  rw [show (((0 : Nat) : Nat) : Int) = 0 from rfl] at r0
  have r1 := h.read (k := 1) (by omega)
  rw [show (((1 : Nat) : Nat) : Int) = 1 from rfl] at r1
  have hdl : (b.drop (64 * (1 + j))).length = 64 * (s - 1 - j) := by simp; omega
  have hdat : ∀ k, k < s - 1 - j → D.laid.getD (1 + j + k) [] = secB (b.drop (64 * (1 + j))) k := fun k hk => by rw [sec_drop, h.at_ _ (by omega)]
  have same : (1152921504606846976 ≤ n ∨ natTo (secB b 1) 8 ≠ n + 1) → ∃ D', redoM roundL firstL D j 0 false = ⟨0, D', n, false⟩ ∧ Stands D' j s n (b.drop (64 * (1 + j))) := fun hor => by
    have hr := reopen h.off h.line h.len hjs (h.at_ 0 (by omega)) (h.at_ 1 (by omega)) hl1 hh (by omega) hor
    exact ⟨D, hr, h.off, h.line, h.len, dataM_of h.line h.len hdl hdat, hr⟩
  by_cases hlast : 1152921504606846976 ≤ n
  · exact same (.inl hlast)
  · by_cases h1 : natTo (secB b 1) 8 = n + 1
    · have hf : foundM roundL firstL D j ((n : Int) + 1) = [] := by
        refine Classical.byContradiction fun hc => ?_
        have := found_no (number := n + 1) h hs hjs hj (by rw [show (((n + 1 : Nat) : Nat) : Int) = (n : Int) + 1 by omega]; exact hc)
        rcases hno with h | h
        · exact h this
        · exact hlast h
      have hsm : smallN ((secB b 1).take 8) = (n : Int) + 1 := by
        rw [smallN_8 (by simp; omega), natTo_take (secB b 1) 8 8 (Nat.le_refl _), h1, wrap64 (by omega)]; omega
      have hq0 : Qs (0, D) s D.laid [] := ⟨rfl, ⟨h.off, harm, h.len⟩, rfl, h.line⟩
      have hq := (hq0.write (no := 1) (b := zeros64) (by omega) (by omega) (by simp [zeros64])).flush
      rw [List.nil_append] at hq
      have hcl : clearM D ((n : Int) + 1) = stepF (stepW (0, D) 1 zeros64) := by
        unfold clearM
        rw [r1]
        simp only [not_true_eq_false, if_false]
        rw [if_neg (by simp [hsm])]
      obtain ⟨R, hR⟩ : ∃ R, R = stepF (stepW (0, D) 1 zeros64) := ⟨_, rfl⟩
      rw [← hR] at hq hcl
      have hget : ∀ k, k < s → R.2.laid.getD k [] = if k = 1 then zeros64 else secB b k := fun k hk => by
        rw [hq.laid, layOn_get _ _ _ (by rw [h.len]; exact hk) (fun v hv => by rw [List.mem_singleton.1 hv]; decide), lastOf_cons]
        by_cases h1 : k = 1
        · subst h1; simp [lastOf]
        · rw [if_neg (by simp only; omega), if_neg h1, h.at_ k hk]; rfl
      have hg0 := hget 0 (by omega)
      have hg1 := hget 1 (by omega)
      rw [if_neg (by omega)] at hg0
      rw [if_pos rfl] at hg1
      have hre := reopen hq.q.off hq.line hq.q.len hjs hg0 hg1 (by simp [zeros64]) hh (by omega) (.inr (by unfold zeros64; rw [natTo_zeros]; omega))
      refine ⟨R.2, ?_, hq.q.off, hq.line, hq.q.len, dataM_of hq.line hq.q.len hdl (fun k hk => by rw [hget _ (by omega), if_neg (by omega), sec_drop]), hre⟩
      unfold redoM
      rw [r0, hh]
      simp only [not_true_eq_false, if_false, Bool.true_eq_false]
      rw [if_neg (by unfold last; omega), if_pos hf, hcl, hq.e]
    · exact same (.inr h1)
theorem opens_some (h : Holds D b s) (harm : D.armed = false) (hjs : j + 2 ≤ s) (hj : 2 ≤ j) (hs : b.length = 64 * s) {n : Nat} (hn : rnumM (secB b 0) = n) (hyes : rfoundOk b j (n + 1)) (hlast : n < 1152921504606846976) :
    ∃ D', redoM roundL firstL D j 0 false = ⟨0, D', ((n + 1 : Nat) : Int), true⟩ ∧ Stands D' j s (n + 1) (layTo (b.drop (64 * (1 + j))) (rlist b (rcount b))) := by
  have hl0 : (secB b 0).length = 64 := secB_length (by omega)
  have hl1 : (secB b 1).length = 64 := secB_length (by omega)
  have hh := (head_is hl0).2 n hn
  have r0 := h.read (k := 0) (by omega)
  rw [show (((0 : Nat) : Nat) : Int) = 0 from rfl] at r0
  have hdl : (b.drop (64 * (1 + j))).length = 64 * (s - 1 - j) := by simp; omega
  have hfy := found_yes (number := n + 1) h hs hjs hj hyes
  rw [show (((n + 1 : Nat) : Nat) : Int) = (n : Int) + 1 by omega] at hfy
  have hgood := rlist_good hs hjs hyes
  obtain ⟨w, hw⟩ : ∃ w, w = rlist b (rcount b) := ⟨_, rfl⟩
  have hwne : w ≠ [] := by
    intro e
    have h1 := hyes.1
    have := rlist_length b (rcount b)
    rw [← hw, e] at this
    simp at this; omega
  rw [← hw] at hfy hgood ⊢
  have hq0 : Qs (0, D) s D.laid [] := ⟨rfl, ⟨h.off, harm, h.len⟩, rfl, h.line⟩
  have hq1 := Qs.puts (1 + (j : Int)) w hq0 (fun v hv => by have := hgood v hv; omega)
  have hq := (hq1.flush.write (no := 0) (b := frontB roundL firstL ((n + 1 : Nat) : Int)) (by omega) (by omega) (fullB_length _)).flush
  rw [List.nil_append, List.nil_append] at hq
  obtain ⟨R, hR⟩ : ∃ R, R = layM roundL firstL j (0, D) ((n + 1 : Nat) : Int) w := ⟨_, rfl⟩
  have hRe : R = stepF (stepW (stepF (putsM (1 + (j : Int)) (0, D) w)) 0 (frontB roundL firstL ((n + 1 : Nat) : Int))) := hR
  rw [← hRe] at hq
  have hget : ∀ k, k < s → R.2.laid.getD k [] = if k = 0 then frontB roundL firstL ((n + 1 : Nat) : Int) else (lastOf (w.map fun v => (1 + (j : Int) + v.1, v.2)) (k : Nat)).getD (secB b k) := fun k hk => by
    rw [hq.laid, layOn_get _ _ _ (by rw [layOn_length, h.len]; exact hk) (fun v hv => by rw [List.mem_singleton.1 hv]; exact Int.le_refl _), lastOf_cons]
    by_cases h0 : k = 0
    · subst h0; simp [lastOf]
    · rw [if_neg (by simp only; omega), if_neg h0]
      show (Option.or none none).getD _ = _
      rw [layOn_get _ _ _ (by rw [h.len]; exact hk) (fun v hv => by
        obtain ⟨u, hu, rfl⟩ := List.mem_map.1 hv
        have := hgood u hu
        simp only; omega), h.at_ k hk]
      rfl
  have hg0 := hget 0 (by omega)
  rw [if_pos rfl] at hg0
  have hg1 := hget 1 (by omega)
  rw [if_neg (by omega), lastOf_none (fun v hv => by
    obtain ⟨u, hu, rfl⟩ := List.mem_map.1 hv
    have := hgood u hu
    simp only; omega)] at hg1
  have hhf := (head_is (h := frontB roundL firstL ((n + 1 : Nat) : Int)) (fullB_length _)).2 (n + 1) (front_num (m := n + 1) (by omega) (by omega))
  have hd32 : (rdig b).length = 32 := edig_length hs (i := 0) (by omega)
  have hs1 : natTo (secB b 1) 8 = n + 1 := by
    have := (hyes.2.2.1 0 (by have := hyes.1; omega)).2.1
    rw [show 1 + 2 * 0 = 1 from rfl] at this
    rw [this]
    exact note_number hd32 (by omega)
  have hre := reopen hq.q.off hq.line hq.q.len hjs hg0 hg1 hl1 hhf (by omega) (.inr (by rw [Option.getD_none, hs1]; omega))
  refine ⟨R.2, ?_, hq.q.off, hq.line, hq.q.len, dataM_of hq.line hq.q.len (layTo_length hdl (fun v hv => by have := hgood v hv; omega)) (fun k hk => ?_), hre⟩
  · unfold redoM
    rw [r0, hh]
    simp only [not_true_eq_false, if_false, Bool.true_eq_false]
    rw [if_neg (by unfold last; omega), if_neg (by rw [hfy]; exact hwne), hfy, show (n : Int) + 1 = ((n + 1 : Nat) : Int) by omega, ← hR, hq.e, if_pos rfl]
  · rw [hget _ (by omega), if_neg (by omega), sec_lay w hdl hgood k hk, sec_drop, show (((1 + j + k : Nat) : Nat) : Int) = 1 + (j : Int) + (k : Nat) by omega, lastOf_map]
end
end Cr
namespace Cr
open Go Go.Proofs
set_option maxRecDepth 100000
set_option maxHeartbeats 8000000
attribute [local irreducible] Calls

def RecoverR (W : World) (a : Option Addr) (c : Nat) (b : List UInt8) (j : Nat) (v : Value) (w : World) : Prop :=
  (rnumM (secB b 0) < 0 ∧ v = .tuple #[.slice none 0 0, .int .i64 0, .bool false, .int .i64 5] ∧ St W noF [] w) ∨
  (∃ n : Nat, rnumM (secB b 0) = n ∧ (¬ rfoundOk b j (n + 1) ∨ 1152921504606846976 ≤ n) ∧ v = .tuple #[.slice (sub a (64 * (1 + j)) 1 c) (b.drop (64 * (1 + j))).length (c - 64 * (1 + j)), .int .i64 (n : Nat), .bool false, .int .i64 0] ∧ St W noF [] w) ∨
  (∃ n : Nat, rnumM (secB b 0) = n ∧ rfoundOk b j (n + 1) ∧ n < 1152921504606846976 ∧ ∃ p k, v = .tuple #[.slice p (b.drop (64 * (1 + j))).length k, .int .i64 ((n + 1 : Nat) : Int), .bool true, .int .i64 0] ∧ St W noF [bytes p (layTo (b.drop (64 * (1 + j))) (rlist b (rcount b)))] w)
theorem rrecover_ (a : Option Addr) (c : Nat) (b : List UInt8) (j s : Nat) (W : World) (hb : Ro W noF (bytes a b)) (hs : b.length = 64 * s) (hs4 : s ≤ 4096) (hjs : j + 2 ≤ s) (hj : 2 ≤ j) (hc : b.length ≤ c) (hcm : c ≤ 1073741824) :
    Calls Tryz.prog 8 #[tabV, .slice a b.length c, .int .i64 (j : Nat)] W (Ret fun v w => RecoverR W a c b j v w) := by
  have hS := St.start W
  have hl72 : LenO (ints .i64 (tabTo 310)) 72 := ⟨by rw [ints_length]; exact tabTo_length 310⟩
  have hs0 : ∀ {w : World} {rs : List Res}, St W noF rs w → Rd w (bytes (sub a (64 * 0) 1 c) (secB b 0)) := fun h => secB_rd (hb.rd h) (by omega) hc
  have hl0 : (secB b 0).length = 64 := secB_length (by omega)
  have hdl : (b.drop (64 * (1 + j))).length = b.length - 64 * (1 + j) := by simp
  refine calls_C Tryz.func8 rfl Tryz.ntmps8 rfl ?_
  repeat (first | (refine G_id ?_; first | refine G_nil ?_ | refine G_plain rfl rfl ?_) | (refine X_id ?_; first | refine X_yl (Yl_assign rfl rfl) rfl rfl ?_ | refine X_box rfl rfl rfl rfl hS (fun _ _ hS _ => ?_)) | (refine C_id ?_; first | refine C_seq ?_ | refine C_region ?_) | (refine E_id ?_; first | refine E_code ?_))
  refine C_ord (.s 0 (.s 1 (.h 2 (.h 3 (.s 4 .nil) .no) .no))) mixed (by kernel_rfl) rfl ?_
  have hS := hS.drew
  repeat (first | (refine GO_id ?_; first | refine GO_pure rfl rfl (fun _ => Yl_move rfl rfl) rfl rfl ?_ | refine GO_read (fun w' => CellsN w' _ _ _) rfl rfl hS.cellsN (fun _ hc => Yl_loadN rfl rfl hc) rfl rfl ?_ | refine GO_hard rfl rfl ?_))
  refine X_callq _ rfl rfl rfl rfl rfl hS (sectorS a c b 0 _ (by omega) hc hcm) ?_
  rintro _ w rfl hS
  repeat (first | (refine GO_id ?_; first | refine GO_hard rfl rfl ?_) | (refine Keep_id ?_; first | refine And.intro (by repeat (first | exact trivial | refine And.intro (.inl (by decide +kernel)) ?_ | refine And.intro (.inr (by first | assumption | exact hS.cell | exact cell_at (by assumption) | exact hS.cellI (by omega) | exact hS.cellIP (by omega) | exact hS.cellsN | exact ((hr.rd hS).cellX (by omega) hx) | exact ((hr2.rd hS).cellX (by omega) hx2) | exact hS.cellB (by omega) | exact hS.cellBA (by omega) | exact (hb.rd hS).cellB' (by omega) | exact (hb2.rd hS).cellB' (by omega) | exact (hg.rd hS).cellI (by omega) | exact (hg2.rd hS).cellI (by omega) | exact ((hr.rd hS).cellF (by first | omega | (dsimp only; omega)) hx) | exact ((hr2.rd hS).cellF (by first | omega | (dsimp only; omega)) hx2) | exact hS.cellO 0 (by omega) | exact hS.cellO 1 (by omega) | exact hS.cellIA (by omega) | exact (hg.rd hS).cellIA (by omega) | exact (hg2.rd hS).cellIA (by omega))) ?_)) ?_))
  refine X_callq _ rfl rfl rfl rfl rfl hS (rnumber_ (sub a (64 * 0) 1 c) (c - 64 * 0) (secB b 0) _ (hs0 hS) hl0) ?_
  rintro _ w rfl hS
  have hnl := rnumM_le (secB b 0)
  obtain ⟨n, hn⟩ : ∃ n, n = rnumM (secB b 0) := ⟨_, rfl⟩
  rw [← hn] at hnl ⊢
  by_cases h0 : n < 0
  · repeat (first | (refine G_id ?_; first | refine G_nil ?_ | refine G_plain rfl rfl ?_) | (refine X_id ?_; first | refine X_yl (Yl_move rfl rfl) rfl rfl ?_ | refine X_yl (Yl_assign rfl rfl) rfl rfl ?_ | refine X_yl (Yl_lss_t rfl rfl rfl (by omega)) rfl rfl ?_) | (refine C_id ?_; first | refine C_seq ?_ | refine C_region ?_ | refine C_ret ?_ | refine C_cond_t rfl ?_) | (refine E_id ?_; first | refine E_code ?_ | refine E_then_ret ?_ | refine E_ret4 rfl (Rv_tmp rfl) (Rv_tmp rfl) (Rv_tmp rfl) (Rv_tmp rfl) (Ret.mk ?_)) | (refine GO_id ?_; first | refine GO_nil ?_ | refine GO_pure rfl rfl (fun _ => Yl_assign rfl rfl) rfl rfl ?_) | (refine Keep_id ?_; first | refine And.intro (by repeat (first | exact trivial | refine And.intro (.inl (by decide +kernel)) ?_ | refine And.intro (.inr (by first | assumption | exact hS.cell | exact cell_at (by assumption) | exact hS.cellI (by omega) | exact hS.cellIP (by omega) | exact hS.cellsN | exact ((hr.rd hS).cellX (by omega) hx) | exact ((hr2.rd hS).cellX (by omega) hx2) | exact hS.cellB (by omega) | exact hS.cellBA (by omega) | exact (hb.rd hS).cellB' (by omega) | exact (hb2.rd hS).cellB' (by omega) | exact (hg.rd hS).cellI (by omega) | exact (hg2.rd hS).cellI (by omega) | exact ((hr.rd hS).cellF (by first | omega | (dsimp only; omega)) hx) | exact ((hr2.rd hS).cellF (by first | omega | (dsimp only; omega)) hx2) | exact hS.cellO 0 (by omega) | exact hS.cellO 1 (by omega) | exact hS.cellIA (by omega) | exact (hg.rd hS).cellIA (by omega) | exact (hg2.rd hS).cellIA (by omega))) ?_)) ?_))
    exact .inl ⟨by omega, rfl, hS.drops⟩
  · obtain ⟨m, rfl⟩ : ∃ m : Nat, n = m := ⟨n.toNat, by omega⟩
    repeat (first | (refine G_id ?_; first | refine G_nil ?_ | refine G_plain rfl rfl ?_) | (refine X_id ?_; first | refine X_yl (Yl_move rfl rfl) rfl rfl ?_ | refine X_yl (Yl_lss_f rfl rfl rfl (by omega)) rfl rfl ?_ | refine X_yl (Yl_add rfl rfl rfl (w64 (by omega) (by omega))) rfl rfl ?_ | refine X_yl (Yl_mul rfl rfl rfl (w64 (by omega) (by omega))) rfl rfl ?_) | (refine C_id ?_; first | refine C_seq ?_ | refine C_region ?_ | refine C_skip ?_ | refine C_cond_f rfl ?_) | (refine E_id ?_; first | refine E_code ?_) | (refine GO_id ?_; first | refine GO_nil ?_ | refine GO_pure rfl rfl (fun _ => Yl_assign rfl rfl) rfl rfl ?_) | (refine Keep_id ?_; first | refine And.intro (by repeat (first | exact trivial | refine And.intro (.inl (by decide +kernel)) ?_ | refine And.intro (.inr (by first | assumption | exact hS.cell | exact cell_at (by assumption) | exact hS.cellI (by omega) | exact hS.cellIP (by omega) | exact hS.cellsN | exact ((hr.rd hS).cellX (by omega) hx) | exact ((hr2.rd hS).cellX (by omega) hx2) | exact hS.cellB (by omega) | exact hS.cellBA (by omega) | exact (hb.rd hS).cellB' (by omega) | exact (hb2.rd hS).cellB' (by omega) | exact (hg.rd hS).cellI (by omega) | exact (hg2.rd hS).cellI (by omega) | exact ((hr.rd hS).cellF (by first | omega | (dsimp only; omega)) hx) | exact ((hr2.rd hS).cellF (by first | omega | (dsimp only; omega)) hx2) | exact hS.cellO 0 (by omega) | exact hS.cellO 1 (by omega) | exact hS.cellIA (by omega) | exact (hg.rd hS).cellIA (by omega) | exact (hg2.rd hS).cellIA (by omega))) ?_)) ?_))
    refine X_yl (Yl_slice (l := 64 * (1 + j)) (h := b.length) rfl rfl rfl rfl (.inl ⟨rfl, rfl⟩) (.inr ⟨_, _, rfl, by omega, by omega, by omega⟩)) rfl rfl ?_
    rw [← hdl]
    repeat (first | (refine G_id ?_; first | refine G_nil ?_ | refine G_plain rfl rfl ?_) | (refine X_id ?_; first | refine X_yl (Yl_move rfl rfl) rfl rfl ?_ | refine X_yl (Yl_assign rfl rfl) rfl rfl ?_ | refine X_yl (Yl_add rfl rfl rfl (w64 (by omega) (by omega))) rfl rfl ?_ | refine X_yl (Yl_loadN rfl rfl hS.cellsN) rfl rfl ?_) | (refine C_id ?_; first | refine C_seq ?_ | refine C_region ?_) | (refine E_id ?_; first | refine E_code ?_))
    refine X_callg _ rfl rfl rfl rfl rfl (rfound_ a c b j (m + 1) s _ ((hb.rd hS).ro) hs hs4 hjs hj hc hcm (by omega)) ?_
    rintro _ w (⟨hno, x, rfl, hS'⟩ | ⟨hyes, aw, cw, rfl, hS'⟩)
    · replace hS := hS.plus hS'
      clear hS'
      repeat (first | (refine G_id ?_; first | refine G_nil ?_ | refine G_plain rfl rfl ?_ | refine G_no rfl rfl rfl rfl rfl rfl ?_) | (refine X_id ?_; first | refine X_yl (Yl_move rfl rfl) rfl rfl ?_ | refine X_yl (Yl_assign rfl rfl) rfl rfl ?_ | refine X_yl (Yl_extract rfl rfl) rfl rfl ?_ | refine X_yl (Yl_pick_t rfl rfl rfl) rfl rfl ?_ | refine X_yl (Yl_not_f rfl rfl) rfl rfl ?_) | (refine C_id ?_; first | refine C_seq ?_ | refine C_region ?_ | refine C_ret ?_ | refine C_cond_t rfl ?_) | (refine E_id ?_; first | refine E_code ?_ | refine E_then_ret ?_ | refine E_ret4 rfl (Rv_tmp rfl) (Rv_tmp rfl) (Rv_tmp rfl) (Rv_tmp rfl) (Ret.mk ?_)))
      exact .inr (.inl ⟨m, hn.symm, .inl hno, rfl, hS.drops⟩)
    · replace hS := hS.plus hS'
      clear hS'
      by_cases hlast : (1152921504606846976 : Int) ≤ (m : Int)
      · repeat (first | (refine G_id ?_; first | refine G_nil ?_ | refine G_plain rfl rfl ?_ | refine G_yes rfl rfl rfl rfl ?_) | (refine X_id ?_; first | refine X_yl (Yl_move rfl rfl) rfl rfl ?_ | refine X_yl (Yl_assign rfl rfl) rfl rfl ?_ | refine X_yl (Yl_extract rfl rfl) rfl rfl ?_ | refine X_yl (Yl_pick_f rfl rfl rfl) rfl rfl ?_ | refine X_yl (Yl_not_t rfl rfl) rfl rfl ?_ | refine X_yl (Yl_geq_t rfl rfl rfl (by omega)) rfl rfl ?_) | (refine C_id ?_; first | refine C_seq ?_ | refine C_region ?_ | refine C_ret ?_ | refine C_cond_t rfl ?_) | (refine E_id ?_; first | refine E_code ?_ | refine E_then_ret ?_ | refine E_ret4 rfl (Rv_tmp rfl) (Rv_tmp rfl) (Rv_tmp rfl) (Rv_tmp rfl) (Ret.mk ?_)))
        exact .inr (.inl ⟨m, hn.symm, .inr (by omega), rfl, hS.drops⟩)
      · repeat (first | (refine G_id ?_; first | refine G_nil ?_ | refine G_plain rfl rfl ?_ | refine G_yes rfl rfl rfl rfl ?_) | (refine X_id ?_; first | refine X_yl (Yl_move rfl rfl) rfl rfl ?_ | refine X_yl (Yl_assign rfl rfl) rfl rfl ?_ | refine X_yl (Yl_extract rfl rfl) rfl rfl ?_ | refine X_yl (Yl_pick_f rfl rfl rfl) rfl rfl ?_ | refine X_yl (Yl_not_t rfl rfl) rfl rfl ?_ | refine X_yl (Yl_geq_f rfl rfl rfl (by omega)) rfl rfl ?_) | (refine C_id ?_; first | refine C_seq ?_ | refine C_region ?_ | refine C_skip ?_ | refine C_cond_f rfl ?_) | (refine E_id ?_; first | refine E_code ?_))
        have hok := hyes.2.2.1
        have hcnt := hyes.2.1
        have hWr : Wrs w noF aw (rlistW a c b (rcount b)) := ⟨(hS.rd (List.mem_cons_self ..)).own_row.ro, fun v hv => by
          obtain ⟨i, hi, rfl⟩ := List.mem_map.1 hv
          have hi := List.mem_range.1 hi
          exact (secB_rd (hb.rd hS) (by omega) hc).ro⟩
        have hlay := rlay_ (sub a (64 * (1 + j)) 1 c) (c - 64 * (1 + j)) (b.drop (64 * (1 + j))) aw cw (rlistW a c b (rcount b)) w (dropRd (hb.rd hS) (64 * (1 + j)) (by omega) hc) hWr (by rw [rlistW_length]; omega) (by omega) (fun v hv => by
          obtain ⟨i, hi, rfl⟩ := List.mem_map.1 hv
          have hi := List.mem_range.1 hi
          have h1 := (hok i hi).1
          have h2 := secB_length (b := b) (no := 2 + 2 * i) (by omega)
          refine ⟨by simp only; omega, ?_, h2⟩
          show 64 * ((rno b i : Nat) : Int).toNat + 64 ≤ _
          rw [hdl]; omega)
        rw [rlistW_length, rlistW_data] at hlay
        refine X_callg _ rfl rfl rfl rfl rfl hlay ?_
        clear hlay
        rintro _ w ⟨p, k, rfl, hS'⟩
        replace hS := hS.plus hS'
        clear hS'
        repeat (first | (refine G_id ?_; first | refine G_nil ?_ | refine G_plain rfl rfl ?_) | (refine X_id ?_; first | refine X_yl (Yl_move rfl rfl) rfl rfl ?_ | refine X_yl (Yl_assign rfl rfl) rfl rfl ?_ | refine X_yl (Yl_add rfl rfl rfl (w64 (by omega) (by omega))) rfl rfl ?_) | (refine C_id ?_; first | refine C_ret ?_) | (refine E_id ?_; first | refine E_code ?_ | refine E_ret4 rfl (Rv_tmp rfl) (Rv_tmp rfl) (Rv_tmp rfl) (Rv_tmp rfl) (Ret.mk ?_)))
        exact .inr (.inr ⟨m, hn.symm, hyes, by omega, p, k, rfl, hS.pick [0]⟩)
end Cr
namespace Cr
open Go Go.Proofs
set_option maxRecDepth 100000
set_option maxHeartbeats 8000000
attribute [local irreducible] Calls

def kb : List UInt8 := (List.replicate 64 0).set 5 7
theorem known_open (rd fs : List Int) : openM rd fs (newDisk 6) 2 = ⟨0, newDisk 6, 0, false⟩ := by kernel_rfl
theorem known_c1 (rd fs : List Int) : commitM rd fs (newDisk 6) 2 0 [(0, kb), (1, kb)] = (6, newDisk 6, 0) := by kernel_rfl
theorem known_c2 (rd fs : List Int) : (commitM rd fs (newDisk 6) 2 0 [(2, kb)]).1 = 0 ∧ (commitM rd fs (newDisk 6) 2 0 [(2, kb)]).2.2 = 1 ∧ wreadM (commitM rd fs (newDisk 6) 2 0 [(2, kb)]).2.1 2 2 = (0, kb) ∧
    (commitM rd fs (newDisk 6) 2 0 [(2, kb)]).2.1.laid.length = 6 ∧ (commitM rd fs (newDisk 6) 2 0 [(2, kb)]).2.1.line.length = 0 := ⟨by kernel_rfl, by kernel_rfl, by kernel_rfl, by kernel_rfl, by kernel_rfl⟩

theorem known_ (rd fs : List Int) (W : World) (hG : Gl W noF rd fs) : Calls Tryz.prog 10 #[] W (Ret fun v w => v = .bool true ∧ St W noF [] w) := by
  have hS := St.start W
  refine calls_C Tryz.func10 rfl Tryz.ntmps10 rfl ?_
  repeat (first | (refine G_id ?_; first | refine G_nil ?_ | refine G_plain rfl rfl ?_) | (refine X_id ?_; first | refine X_yl (Yl_assign rfl rfl) rfl rfl ?_) | (refine C_id ?_; first | refine C_seq ?_ | refine C_region ?_) | (refine E_id ?_; first | refine E_code ?_))
  refine X_callg _ rfl rfl rfl rfl rfl (new_ 6 _ (by omega) (by omega)) ?_
  rintro _ w ⟨p, rfl, hS'⟩
  replace hS := hS.plus hS'
  clear hS'
  repeat (first | (refine G_id ?_; first | refine G_nil ?_ | refine G_plain rfl rfl ?_) | (refine X_id ?_; first | refine X_yl (Yl_move rfl rfl) rfl rfl ?_ | refine X_yl (Yl_assign rfl rfl) rfl rfl ?_ | refine X_yl (Yl_extract rfl rfl) rfl rfl ?_) | (refine C_id ?_; first | refine C_seq ?_ | refine C_region ?_) | (refine E_id ?_; first | refine E_code ?_))
  have hopen := open_ p (newDisk 6) 2 rd fs
  rw [known_open] at hopen
  obtain ⟨_, hc, hr, hw, hbk⟩ := hS.call [true]
  refine X_callg _ rfl rfl rfl rfl rfl (hopen _ _ (hG.mono hw) (by simp [newDisk]) hc) ?_
  rintro _ w (⟨h, _⟩ | ⟨_, lp, rfl, hS⟩)
  · exact absurd rfl h
  replace hS := hbk hS
  clear hc hr hw hbk hopen
  replace hS : St W noF [logAt lp p 1 0 0 2 0 false, disk p (newDisk 6)] w := hS
  repeat (first | (refine G_id ?_; first | refine G_nil ?_ | refine G_plain rfl rfl ?_ | refine G_yes rfl rfl rfl rfl ?_) | (refine X_id ?_; first | refine X_yl (Yl_move rfl rfl) rfl rfl ?_ | refine X_yl (Yl_assign rfl rfl) rfl rfl ?_ | refine X_yl (Yl_extract rfl rfl) rfl rfl ?_ | refine X_yl (Yl_pick_f rfl rfl rfl) rfl rfl ?_ | refine X_yl (Yl_neq_f rfl rfl rfl (by omega)) rfl rfl ?_ | refine X_yl (Yl_eqlNil_some rfl rfl rfl) rfl rfl ?_) | (refine C_id ?_; first | refine C_seq ?_ | refine C_region ?_ | refine C_skip ?_ | refine C_cond_f rfl ?_) | (refine E_id ?_; first | refine E_code ?_))
  refine X_makeB (c := 64) rfl rfl rfl (by omega) (by omega) rfl rfl hS (fun kp _ hS => ?_)
  repeat (first | (refine G_id ?_; first | refine G_nil ?_ | refine G_plain rfl rfl ?_) | (refine X_id ?_; first | refine X_yl (Yl_move rfl rfl) rfl rfl ?_ | refine X_yl (Yl_assign rfl rfl) rfl rfl ?_ | refine X_yl (Yl_indexAddr rfl rfl rfl (by omega) (by omega) (by first | assumption | exact ⟨_, _, rfl⟩)) rfl rfl ?_) | (refine C_id ?_; first | refine C_seq ?_ | refine C_region ?_) | (refine E_id ?_; first | refine E_code ?_))
  refine X_setG (b := kp) (off := 5) (l' := bv kb) rfl rfl rfl rfl hS (by simp) rfl (fun _ hS => ?_)
  repeat (first | (refine G_id ?_; first | refine G_nil ?_ | refine G_plain rfl rfl ?_) | (refine X_id ?_; first | refine X_yl (Yl_move rfl rfl) rfl rfl ?_ | refine X_yl (Yl_build rfl rfl rfl) rfl rfl ?_ | refine X_buildSlice rfl rfl rfl rfl rfl rfl rfl rfl hS (fun _ _ hS _ => ?_)) | (refine C_id ?_; first | refine C_seq ?_ | refine C_region ?_) | (refine E_id ?_; first | refine E_code ?_))
  rename_i nb w1 _
  have hS := hS.pick [2, 2, 0, 0]
  have hWr : ∀ F, (∀ r ∈ [own 85 2 (some ⟨nb, 0, none⟩) 2 [.int .i64 0, .slice (some ⟨kp, 0, none⟩) 64 64, .int .i64 1, .slice (some ⟨kp, 0, none⟩) 64 64], pts kp (.cells (bv kb).toArray 5)], Ro w1 F r) → Wrs w1 F (some ⟨nb, 0, none⟩) [⟨0, ⟨some ⟨kp, 0, none⟩, 64, kb⟩⟩, ⟨1, ⟨some ⟨kp, 0, none⟩, 64, kb⟩⟩] := fun F hr => by
    refine ⟨(hr _ (List.mem_cons_self ..)).own_row, fun v hv => ?_⟩
    have h1 : Ro w1 F (bytes (some ⟨kp, 0, none⟩) kb) := (hr _ (List.mem_cons_of_mem _ (List.mem_cons_self ..))).mono fun g hg => ⟨g, row_pts g hg, fun _ _ e => e⟩
    simp only [List.mem_cons, List.not_mem_nil, or_false] at hv
    rcases hv with rfl | rfl <;> exact h1
  obtain ⟨_, hc, hr, hw, hbk⟩ := hS.call [true, true, false, false]
  refine X_callg _ rfl rfl rfl rfl rfl (commit_ lp p 1 0 0 2 0 false (newDisk 6) _ 2 _ rd fs _ _ (hG.mono hw) (hWr _ hr) (by omega) (by omega) (by simp) (fun v hv => by
    simp only [List.mem_cons, List.not_mem_nil, or_false] at hv
    rcases hv with rfl | rfl <;> simp [kb]) (by simp [newDisk]) hc) ?_
  rintro _ w ⟨rfl, hS⟩
  replace hS := hbk hS
  clear hc hr hw hbk hWr
  have e1 : commitM rd fs (newDisk 6) 2 0 (List.map Wr.data [⟨0, ⟨some ⟨kp, 0, none⟩, 64, kb⟩⟩, ⟨1, ⟨some ⟨kp, 0, none⟩, 64, kb⟩⟩]) = (6, newDisk 6, 0) := known_c1 rd fs
  rw [e1] at hS
  rw [show (commitM rd fs (newDisk 6) 2 0 (List.map Wr.data [⟨0, ⟨some ⟨kp, 0, none⟩, 64, kb⟩⟩, ⟨1, ⟨some ⟨kp, 0, none⟩, 64, kb⟩⟩])).1 = 6 by rw [e1]]
  replace hS : St W noF [logAt lp p 1 0 0 2 0 false, disk p (newDisk 6), pts kp (.cells (bv kb).toArray 5)] w := hS.pick [0, 0, 1]
  clear e1
  repeat (first | (refine G_id ?_; first | refine G_nil ?_ | refine G_plain rfl rfl ?_) | (refine X_id ?_; first | refine X_yl (Yl_move rfl rfl) rfl rfl ?_ | refine X_yl (Yl_assign rfl rfl) rfl rfl ?_ | refine X_yl (Yl_build rfl rfl rfl) rfl rfl ?_ | refine X_buildSlice rfl rfl rfl rfl rfl rfl rfl rfl hS (fun _ _ hS _ => ?_)) | (refine C_id ?_; first | refine C_seq ?_ | refine C_region ?_) | (refine E_id ?_; first | refine E_code ?_))
  rename_i nb w1 _
  have hS := hS.pick [1, 1, 0, 0]
  have hWr : ∀ F, (∀ r ∈ [own 85 2 (some ⟨nb, 0, none⟩) 1 [.int .i64 2, .slice (some ⟨kp, 0, none⟩) 64 64], pts kp (.cells (bv kb).toArray 5)], Ro w1 F r) → Wrs w1 F (some ⟨nb, 0, none⟩) [⟨2, ⟨some ⟨kp, 0, none⟩, 64, kb⟩⟩] := fun F hr => by
    refine ⟨(hr _ (List.mem_cons_self ..)).own_row, fun v hv => ?_⟩
    have h1 : Ro w1 F (bytes (some ⟨kp, 0, none⟩) kb) := (hr _ (List.mem_cons_of_mem _ (List.mem_cons_self ..))).mono fun g hg => ⟨g, row_pts g hg, fun _ _ e => e⟩
    simp only [List.mem_cons, List.not_mem_nil, or_false] at hv
    subst hv
    exact h1
  obtain ⟨_, hc, hr, hw, hbk⟩ := hS.call [true, true, false, false]
  refine X_callg _ rfl rfl rfl rfl rfl (commit_ lp p 1 0 0 2 0 false (newDisk 6) _ 1 _ rd fs _ _ (hG.mono hw) (hWr _ hr) (by omega) (by omega) (by simp) (fun v hv => by
    simp only [List.mem_cons, List.not_mem_nil, or_false] at hv
    subst hv; simp [kb]) (by simp [newDisk]) hc) ?_
  rintro _ w ⟨rfl, hS⟩
  replace hS := hbk hS
  clear hc hr hw hbk hWr
  obtain ⟨k1, k2, k3, k4, k5⟩ := known_c2 rd fs
  rw [show List.map Wr.data [⟨2, ⟨some ⟨kp, 0, none⟩, 64, kb⟩⟩] = [(2, kb)] from rfl] at hS ⊢
  generalize commitM rd fs (newDisk 6) 2 0 [(2, kb)] = R at k1 k2 k3 k4 k5 hS ⊢
  obtain ⟨e2, D2, n2⟩ := R
  simp only at k1 k2 k3 k4 k5 hS ⊢
  subst k1 k2
  replace hS := hS.pick [0, 0, 1]
  repeat (first | (refine G_id ?_; first | refine G_nil ?_ | refine G_plain rfl rfl ?_) | (refine X_id ?_; first | refine X_yl (Yl_move rfl rfl) rfl rfl ?_ | refine X_yl (Yl_assign rfl rfl) rfl rfl ?_) | (refine C_id ?_; first | refine C_seq ?_ | refine C_region ?_) | (refine E_id ?_; first | refine E_code ?_))
  refine X_callg _ rfl rfl rfl rfl rfl (wread_ lp p 1 0 0 2 1 false D2 2 _ (hS.rd (List.mem_cons_self ..)) (hS.rd (List.mem_cons_of_mem _ (List.mem_cons_self ..))) (by omega) (by omega)) ?_
  rw [k3]
  rintro _ w ⟨ra, rc, rfl, _, hS'⟩
  replace hS := hS.plus hS'
  clear hS'
  have hsame := same_ ra (some ⟨kp, 0, none⟩) rc 64 kb kb
  rw [decide_eq_true rfl] at hsame
  repeat (first | (refine G_id ?_; first | refine G_nil ?_ | refine G_plain rfl rfl ?_ | refine G_yes rfl rfl rfl rfl ?_) | (refine X_id ?_; first | (refine X_callq 33 rfl rfl rfl rfl rfl hS (wsectors_ lp p 1 0 0 2 1 false D2 _ (hS.rd (List.mem_cons_of_mem _ (List.mem_cons_self ..))) (hS.rd (List.mem_cons_of_mem _ (List.mem_cons_of_mem _ (List.mem_cons_self ..)))) (by omega)) ?_; rintro _ _ rfl hS) | (refine X_callq 13 rfl rfl rfl rfl rfl hS (hsame _ (hS.rd (List.mem_cons_self ..)) ((hS.rd (List.mem_cons_of_mem _ (List.mem_cons_of_mem _ (List.mem_cons_of_mem _ (List.mem_cons_self ..))))).ptsB) (by simp [kb])) ?_; rintro _ _ rfl hS) | (refine X_callg 11 rfl rfl rfl rfl rfl (wdone_ lp p 1 0 0 2 1 false _ (hS.rd (List.mem_cons_of_mem _ (List.mem_cons_self ..)))) ?_; rintro _ _ ⟨rfl, rfl⟩) | refine X_yl (Yl_move rfl rfl) rfl rfl ?_ | refine X_yl (Yl_assign rfl rfl) rfl rfl ?_ | refine X_yl (Yl_extract rfl rfl) rfl rfl ?_ | refine X_yl (Yl_pick_t rfl rfl rfl) rfl rfl ?_ | refine X_yl (Yl_eql_t rfl rfl rfl (by omega)) rfl rfl ?_) | (refine C_id ?_; first | refine C_seq ?_ | refine C_region ?_ | refine C_ret ?_) | (refine E_id ?_; first | refine E_code ?_ | refine E_ret1 rfl (Rv_tmp rfl) (Ret.mk ?_)))
  exact ⟨rfl, hS.drops⟩
end Cr
namespace Cr
open Go Go.Proofs
set_option maxRecDepth 100000
set_option maxHeartbeats 8000000
attribute [local irreducible] Calls

def dataTo (D : DiskM) (j i : Nat) : List UInt8 := (List.range i).flatMap fun k => D.find (1 + (j : Int) + ((k : Nat) : Int))
theorem find_len {D : DiskM} (h : D.ok) {no : Int} (hn : inDisk D no = true) : (D.find no).length = 64 := by
  unfold DiskM.find
  split
  · rename_i x hx
    exact (h.line64 x (List.mem_reverse.1 (List.mem_of_find?_eq_some hx))).1
  · have h2 := of_decide_eq_true hn
    rw [List.getD_eq_getElem?_getD, List.getElem?_eq_getElem (show no.toNat < D.laid.length by omega)]
    exact h.laid64 _ (List.getElem_mem _)
theorem dataTo_le {D : DiskM} (h : D.ok) {j : Nat} : ∀ i, 1 + j + i ≤ D.laid.length → (dataTo D j i).length = 64 * i
  | 0, _ => rfl
  | i + 1, hi => by
    have ih := dataTo_le h (j := j) i (by omega)
    unfold dataTo at ih ⊢
    rw [List.range_succ, List.flatMap_append, List.length_append, ih]
    simp only [List.flatMap_cons, List.flatMap_nil, List.append_nil]
    rw [find_len h (by simp [inDisk]; omega)]; omega
theorem dataTo_succ (D : DiskM) (j i : Nat) : dataTo D j (i + 1) = dataTo D j i ++ D.find (1 + j + i) := by simp [dataTo, List.range_succ]
theorem data_ (lp p : Nat) (o s m : Int) (j : Nat) (done : Int) (rdn : Bool) (D : DiskM) (W : World) (hL : Rd W (logAt lp p o s m j done rdn)) (hD : Rd W (disk p D)) (hoff : D.off = false) (hj : j ≤ 4096) (hjl : 1 + j ≤ D.laid.length) (hline : D.line.length < 1073741824) :
    Calls Tryz.prog 14 #[.pointer (some ⟨lp, 0, none⟩)] W (Ret fun v w => ∃ a c, v = .slice a (dataM D j).length c ∧ St W noF [bytes a (dataM D j)] w) := by
  have hS := St.start W
  have hok := hD.disk.1
  have hmost := hok.most
  have hLo := hL.ro
  have hDo := hD.ro
  obtain ⟨n, hn⟩ : ∃ n : Nat, n = D.laid.length - 1 - j := ⟨_, rfl⟩
  have hse : (D.laid.length : Int) - 1 - j = (n : Nat) := by omega
  have hdm : dataM D j = dataTo D j n := by unfold dataM dataTo; rw [hn]
  rw [hdm]
  refine calls_C Tryz.func14 rfl Tryz.ntmps14 rfl ?_
  repeat (first | (refine G_id ?_; first | refine G_nil ?_ | refine G_plain rfl rfl ?_) | (refine X_id ?_; first | refine X_yl (Yl_assign rfl rfl) rfl rfl ?_) | (refine C_id ?_; first | refine C_seq ?_ | refine C_region ?_ | refine C_block ?_) | (refine E_id ?_; first | refine E_code ?_))
  refine C_loop (α := Nat × Option Addr × Nat) (fun z => [(0, .pointer (some ⟨lp, 0, none⟩)), (3, .slice z.2.1 (dataTo D j z.1).length z.2.2), (4, .int .i64 (z.1 : Nat))])
    (fun z w => z.1 ≤ n ∧ (dataTo D j z.1).length ≤ z.2.2 ∧ St W noF [own 5 1 z.2.1 z.2.2 (bv (dataTo D j z.1))] w) (fun z => n - z.1) (0, none, 0) ⟨rfl, rfl, rfl, trivial⟩ ⟨Nat.zero_le _, Nat.le_refl _, hS.own_none _ _ _⟩ ?_
  clear hS
  rintro ⟨i, a, c⟩ w ⟨hi, hc, hS⟩
  simp only at hi hc hS ⊢
  have hsec := fun w (hS : Rd w (logAt lp p o s m j done rdn)) (hD : Rd w (disk p D)) => wsectors_ lp p o s m j done rdn D w hS hD hj
  simp only [hse] at hsec
  have hdl := dataTo_le hok (j := j) i (by omega)
  by_cases hlt : i < n
  · have hrd : wreadM D j (i : Nat) = (0, D.find (1 + j + i)) := by
      unfold wreadM DiskM.read
      rw [if_neg (by simp [hoff]), if_neg (by omega), if_neg (by simp [hoff]), if_neg (by simp [inDisk]; omega)]
    have hfl := find_len hok (no := 1 + j + i) (by simp [inDisk]; omega)
    repeat (first | (refine G_id ?_; first | refine G_nil ?_ | refine G_plain rfl rfl ?_) | (refine X_id ?_; first | (refine X_callq 33 rfl rfl rfl rfl rfl hS (hsec _ (hLo.rd hS) (hDo.rd hS)) ?_; rintro _ _ rfl hS) | refine X_yl (Yl_move rfl rfl) rfl rfl ?_ | refine X_yl (Yl_lss_t rfl rfl rfl (by omega)) rfl rfl ?_) | (refine C_id ?_; first | refine C_seq ?_ | refine C_region ?_ | refine C_block ?_ | refine C_skip ?_ | refine C_cond_t rfl ?_) | (refine E_id ?_; first | refine E_code ?_))
    refine X_callg _ rfl rfl rfl rfl rfl (wread_ lp p o s m j done rdn D (i : Nat) _ (hLo.rd hS) (hDo.rd hS) hj hline) ?_
    rw [hrd]
    rintro _ w ⟨ra, rc, rfl, _, hS'⟩
    replace hS := hS.plus hS'
    clear hS'
    simp only at hS ⊢
    repeat (first | (refine G_id ?_; first | refine G_nil ?_ | refine G_plain rfl rfl ?_) | (refine X_id ?_; first | refine X_yl (Yl_move rfl rfl) rfl rfl ?_ | refine X_yl (Yl_assign rfl rfl) rfl rfl ?_ | refine X_yl (Yl_extract rfl rfl) rfl rfl ?_ | refine X_yl (Yl_neq_f rfl rfl rfl (by omega)) rfl rfl ?_) | (refine C_id ?_; first | refine C_seq ?_ | refine C_region ?_ | refine C_skip ?_ | refine C_cond_f rfl ?_) | (refine E_id ?_; first | refine E_code ?_))
    refine X_append rfl rfl rfl rfl rfl hS (by simp) hc (hS.rd (List.mem_cons_self ..)) (by simp) bv_one (by omega) (by simp only [maxLen]; omega) (fun a' c' w hS hc' _ => ?_)
    repeat (first | (refine G_id ?_; first | refine G_nil ?_ | refine G_plain rfl rfl ?_) | (refine X_id ?_; first | refine X_yl (Yl_move rfl rfl) rfl rfl ?_ | refine X_yl (Yl_assign rfl rfl) rfl rfl ?_ | refine X_yl (Yl_add rfl rfl rfl (w64 (by omega) (by omega))) rfl rfl ?_) | (refine C_id ?_; first | refine C_region ?_) | (refine E_id ?_; first | refine E_code ?_ | refine E_blk_n ?_))
    refine E_round (z := (i, a, c)) (i + 1, a', c') ⟨rfl, ?_, rfl, trivial⟩ ⟨by simp only; omega, by simp only; rw [dataTo_succ]; simpa using hc', ?_⟩ (by simp only; omega)
    · show some _ = some _
      rw [dataTo_succ]; simp
    · simp only
      rw [dataTo_succ, bv_append]
      exact hS.pick [0]
  · obtain rfl : i = n := by omega
    repeat (first | (refine G_id ?_; first | refine G_nil ?_ | refine G_plain rfl rfl ?_) | (refine X_id ?_; first | (refine X_callq 33 rfl rfl rfl rfl rfl hS (hsec _ (hLo.rd hS) (hDo.rd hS)) ?_; rintro _ _ rfl hS) | refine X_yl (Yl_move rfl rfl) rfl rfl ?_ | refine X_yl (Yl_assign rfl rfl) rfl rfl ?_ | refine X_yl (Yl_lss_f rfl rfl rfl (by omega)) rfl rfl ?_) | (refine C_id ?_; first | refine C_seq ?_ | refine C_region ?_ | refine C_ret ?_ | refine C_exit ?_ | refine C_cond_f rfl ?_) | (refine E_id ?_; first | refine E_code ?_ | refine E_then_exit ?_ | refine E_blk_same ?_ | refine E_ret1 rfl (Rv_tmp rfl) (Ret.mk ?_)))
    exact ⟨a, c, rfl, hS.head fun _ h => h.row⟩
end Cr
namespace Cr
open Go Go.Proofs
set_option maxRecDepth 100000
set_option maxHeartbeats 16000000
attribute [local irreducible] Calls

def fillN (b : List UInt8) (N i : Nat) : List UInt8 := b.take i ++ List.replicate (N - i) 0
theorem fillN_length {b : List UInt8} {N i : Nat} (h : i ≤ b.length) (h' : i ≤ N) : (fillN b N i).length = N := by simp [fillN]; omega
theorem fillN_set {b : List UInt8} {N i : Nat} (h : i < b.length) (h' : i < N) : (fillN b N i).set i (b.getD i 0) = fillN b N (i + 1) := by
  unfold fillN
  have e : (b.take i).length = i := by simp; omega
  have e1 : b.getD i 0 = b[i] := by simp [List.getD_eq_getElem?_getD, h]
  have e2 : b.take (i + 1) = b.take i ++ [b[i]] := List.take_succ_eq_append_getElem h
  rw [show N - i = (N - (i + 1)) + 1 by omega, List.replicate_succ, List.set_append_right _ _ (by omega), e, Nat.sub_self, List.set_cons_zero, e1, e2, List.append_assoc]; rfl
/-- The disk, so many of its sectors written. -/
def wrM (F : List UInt8) (s : Nat) : Nat → Int × DiskM
  | 0 => (0, newDisk s)
  | i + 1 => stepW (wrM F s i) (i : Nat) (secB F i)
theorem wrM_q {F : List UInt8} {s : Nat} (hF : F.length = 64 * s) : ∀ i, i ≤ s → Qs (wrM F s i) s (List.replicate s zero64) ((List.range i).map fun k => (((k : Nat) : Int), secB F k))
  | 0, _ => ⟨rfl, ⟨rfl, rfl, by simp [wrM, newDisk]⟩, rfl, rfl⟩
  | i + 1, hi => by
    have := (wrM_q hF i (by omega)).write (no := (i : Nat)) (b := secB F i) (by omega) (by omega) (secB_length (by omega))
    rw [List.range_succ, List.map_append]
    exact this
theorem wrM_line {F : List UInt8} {s : Nat} (hF : F.length = 64 * s) (i : Nat) (hi : i ≤ s) : (wrM F s i).2.line.length = i := by rw [(wrM_q hF i hi).line]; simp
def laidM (F : List UInt8) (s : Nat) : Int × DiskM := stepF (wrM F s s)
theorem laidM_holds {F : List UInt8} {s : Nat} (hF : F.length = 64 * s) : (laidM F s).1 = 0 ∧ Holds (laidM F s).2 F s ∧ (laidM F s).2.armed = false := by
  have h := (wrM_q hF s (Nat.le_refl _)).flush
  refine ⟨h.e, ⟨h.q.off, h.line, h.q.len, fun k hk => ?_⟩, h.q.armed⟩
  show (stepF (wrM F s s)).2.laid.getD k [] = _
  have hnn : ∀ v ∈ (List.range s).map (fun k => (((k : Nat) : Int), secB F k)), 0 ≤ v.1 := fun v hv => by
    obtain ⟨i, _, rfl⟩ := List.mem_map.1 hv
    simp only; omega
  rw [h.laid, layOn_get _ _ _ (by simpa using hk) hnn]
  have hl : lastOf ((List.range s).map fun k => (((k : Nat) : Int), secB F k)) (k : Nat) = some (secB F k) := by
    have htw : twiceTo ((List.range s).map fun k => (((k : Nat) : Int), secB F k)) ((List.range s).map fun k => (((k : Nat) : Int), secB F k)).length = false := twice_free (fun a c ha hc => by
      have hs : ((List.range s).map fun k => (((k : Nat) : Int), secB F k)).length = s := by simp
      rw [hs] at ha
      have hg : ∀ {x : Nat}, x < s → ((List.range s).map fun k => (((k : Nat) : Int), secB F k)).getD x (0, []) = (((x : Nat) : Int), secB F x) := fun {x} hx => by
        rw [List.getD_eq_getElem?_getD, List.getElem?_map, List.getElem?_range hx]; rfl
      rw [hg ha, hg (show c < s by omega)]
      simp only; omega) _ (Nat.le_refl _)
    exact lastOf_only htw (v := (((k : Nat) : Int), secB F k)) (List.mem_map.2 ⟨k, List.mem_range.2 hk, rfl⟩)
  rw [hl]; rfl
theorem load64_ (b off : Nat) (x : Int) (l : List Value) (T : TypeId) (W : World) [hn : Nth l off (.int .i64 x)] (hc : W.heap[b]? = some (.cells l.toArray T)) :
    Calls Tryz.prog 34 #[.pointer (some ⟨b, off, none⟩)] W (Ret fun v w => v = .int .i64 x ∧ W = w) := by
  have hS := St.start W
  refine calls_C Tryz.func34 rfl Tryz.ntmps34 rfl ?_
  repeat (first | (refine G_id ?_; first | refine G_nil ?_ | refine G_plain rfl rfl ?_) | (refine X_id ?_; first | refine X_yl (Yl_move rfl rfl) rfl rfl ?_ | refine X_yl (Yl_assign rfl rfl) rfl rfl ?_ | refine X_yl (Yl_nilCheck rfl rfl) rfl rfl ?_ | refine X_yl (Yl_fieldAddr rfl rfl rfl) rfl rfl ?_ | refine X_eload rfl rfl rfl (cell_at (by assumption)) rfl rfl ?_) | (refine C_id ?_; first | refine C_seq ?_ | refine C_region ?_ | refine C_ret ?_) | (refine E_id ?_; first | refine E_code ?_ | refine E_ret1 rfl (Rv_tmp rfl) (Ret.mk ?_)))
  exact ⟨rfl, rfl⟩
theorem dwrites_ (p : Nat) (D : DiskM) (W : World) (hd : Rd W (disk p D)) :
    Calls Tryz.prog 15 #[.pointer (some ⟨p, 0, none⟩)] W (Ret fun v w => v = .int .i64 D.writes ∧ W = w) := by
  obtain ⟨_, al, cl, ai, ci, _, _, hc, _, _⟩ := hd.disk
  have hS := St.start W
  refine calls_C Tryz.func15 rfl Tryz.ntmps15 rfl ?_
  repeat (first | (refine G_id ?_; first | refine G_nil ?_ | refine G_plain rfl rfl ?_) | (refine X_id ?_; first | (refine X_callg 34 rfl rfl rfl rfl rfl (load64_ p 5 D.writes _ _ _ hc) ?_; rintro _ _ ⟨rfl, rfl⟩) | refine X_yl (Yl_move rfl rfl) rfl rfl ?_ | refine X_yl (Yl_assign rfl rfl) rfl rfl ?_ | refine X_yl (Yl_nilCheck rfl rfl) rfl rfl ?_ | refine X_yl (Yl_fieldAddr0 rfl rfl rfl) rfl rfl ?_ | refine X_yl (Yl_eqlNil_some rfl rfl rfl) rfl rfl ?_) | (refine C_id ?_; first | refine C_seq ?_ | refine C_region ?_ | refine C_ret ?_ | refine C_skip ?_ | refine C_cond_f rfl ?_) | (refine E_id ?_; first | refine E_code ?_ | refine E_ret1 rfl (Rv_tmp rfl) (Ret.mk ?_)))
  exact ⟨rfl, rfl⟩
theorem run_neqB {P : Program} {w : World} {t : TypeId} [h : Und P t .bool] (b : Bool) : (binOp .neq t (.bool b) (.bool b)).run P w = .ok (.bool false) w := by
  have e : (Op.equal t (.bool b) (.bool b)).run P w = .ok true w := by
    unfold Op.equal Op.maxDepth Op.equalIn
    simp only [Sem.run_bind, run_underlying h.und, Result.andThen_ok]
    cases b <;> rfl
  show ((do pure (.bool (!(← Op.equal t (.bool b) (.bool b)))) : Sem Value)).run P w = _
  simp only [Sem.run_bind, e, Result.andThen_ok]; rfl
theorem Yl_neqB {P : Program} {o : Oper} {σ : Env} {w : World} {t ty : TypeId} {x y : Operand} {b : Bool} (ho : o.op = .binOp .neq t x y ty) (hx : ev σ x = some (.bool b)) (hy : ev σ y = some (.bool b)) [h : Und P t .bool] : Yl P o σ w (.bool false) := ⟨fun N ds f ha => by
  have e := run_neqB (P := P) (w := w) (t := t) b
  have g : (eqGuard .neq t x y (.bool b) (.bool b)).run P w = .ok () w := rfl
  simp only [execOp, ho, ha.eval hx, ha.eval hy, Sem.run_bind, e, g, Result.andThen_ok]
  rfl⟩
theorem bv_ints (n : Nat) : ints .u8 (List.replicate n 0) = bv (List.replicate n 0) := by simp [ints, bv]
theorem walOpens_ (a : Option Addr) (ca : Nat) (b : List UInt8) (sec jou : Int) (W : World) (hG : Gl W noF roundL firstL) (hb : Ro W noF (bytes a b)) (_hbl : b.length ≤ ca) :
    Calls Tryz.prog 3 #[.slice a b.length ca, .int .i64 sec, .int .i64 jou] W (Ret fun v w => v = .bool true ∧ St W noF [] w) := by
  have hS := St.start W
  have hu1 : 0 ≤ IntKind.u64.wrap sec := by simp only [IntKind.wrap, IntKind.bits, IntKind.signed]; simp; omega
  have hu2 : 0 ≤ IntKind.u64.wrap jou := by simp only [IntKind.wrap, IntKind.bits, IntKind.signed]; simp; omega
  have hw3 : IntKind.u64.wrap ((4 + IntKind.u64.wrap sec % 9 - 2) / 2) = (4 + IntKind.u64.wrap sec % 9 - 2) / 2 := by
    have e : ∀ x : Int, 0 ≤ x → x < 100 → IntKind.u64.wrap x = x := fun x h1 h2 => by simp only [IntKind.wrap, IntKind.bits, IntKind.signed]; simp; omega
    exact e _ (by omega) (by omega)
  have hm : 0 ≤ IntKind.u64.wrap jou % IntKind.u64.wrap ((4 + IntKind.u64.wrap sec % 9 - 2) / 2) ∧ IntKind.u64.wrap jou % IntKind.u64.wrap ((4 + IntKind.u64.wrap sec % 9 - 2) / 2) < (4 + IntKind.u64.wrap sec % 9 - 2) / 2 := by
    rw [hw3]
    exact ⟨Int.emod_nonneg _ (by omega), Int.emod_lt_of_pos _ (by omega)⟩
  obtain ⟨j, hj⟩ : ∃ j : Nat, (j : Int) = 2 + 2 * (IntKind.u64.wrap jou % IntKind.u64.wrap ((4 + IntKind.u64.wrap sec % 9 - 2) / 2)) := ⟨(2 + 2 * (IntKind.u64.wrap jou % IntKind.u64.wrap ((4 + IntKind.u64.wrap sec % 9 - 2) / 2))).toNat, by omega⟩
  obtain ⟨s, hs⟩ : ∃ s : Nat, (s : Int) = 4 + IntKind.u64.wrap sec % 9 := ⟨(4 + IntKind.u64.wrap sec % 9).toNat, by omega⟩
  have hs1 : 4 ≤ s := by omega
  have hs2 : s ≤ 12 := by omega
  refine calls_C Tryz.func3 rfl Tryz.ntmps3 rfl ?_
  repeat (first | (refine G_id ?_; first | refine G_nil ?_ | refine G_plain rfl rfl ?_) | (refine X_id ?_; first | refine X_yl (Yl_move rfl rfl) rfl rfl ?_ | refine X_yl (Yl_assign rfl rfl) rfl rfl ?_ | refine X_yl (Yl_add rfl rfl rfl (w64 (by omega) (by omega))) rfl rfl ?_ | refine X_yl (Yl_sub rfl rfl rfl (w64 (by omega) (by omega))) rfl rfl ?_ | refine X_yl (Yl_mul rfl rfl rfl (w64 (by omega) (by omega))) rfl rfl ?_ | refine X_yl (Yl_convInt rfl rfl (w64 (by omega) (by omega))) rfl rfl ?_ | refine X_yl (Yl_convInt rfl rfl rfl) rfl rfl ?_ | refine X_yl (Yl_quoE rfl rfl rfl (by omega) (by omega) (by omega)) rfl rfl ?_ | refine X_yl (Yl_remE rfl rfl rfl (by omega) (by omega)) rfl rfl ?_) | (refine C_id ?_; first | refine C_seq ?_ | refine C_region ?_) | (refine E_id ?_; first | refine E_code ?_))
  have hj1 : 2 ≤ j := by omega
  have hj2 : j + 2 ≤ s := by omega
  have hj3 : j % 2 = 0 := by omega
  rw [← hj, ← hs]
  clear hj hs hm hw3 hu1 hu2
  refine X_callg _ rfl rfl rfl rfl rfl (new_ s _ (by omega) (by omega)) ?_
  rintro _ w ⟨p, rfl, hS'⟩
  replace hS := hS.plus hS'
  clear hS'
  repeat (first | (refine G_id ?_; first | refine G_nil ?_ | refine G_plain rfl rfl ?_) | (refine X_id ?_; first | refine X_yl (Yl_move rfl rfl) rfl rfl ?_ | refine X_yl (Yl_assign rfl rfl) rfl rfl ?_ | refine X_yl (Yl_extract rfl rfl) rfl rfl ?_ | refine X_yl (Yl_mul rfl rfl rfl (w64 (by omega) (by omega))) rfl rfl ?_) | (refine C_id ?_; first | refine C_seq ?_ | refine C_region ?_) | (refine E_id ?_; first | refine E_code ?_))
  refine X_makeI (64 * s) rfl rfl rfl (by omega) (by omega) (by omega) (by omega) rfl rfl hS (fun q w hS => ?_)
  rw [bv_ints] at hS
  repeat (first | (refine G_id ?_; first | refine G_nil ?_ | refine G_plain rfl rfl ?_) | (refine X_id ?_; first | refine X_yl (Yl_assign rfl rfl) rfl rfl ?_) | (refine C_id ?_; first | refine C_seq ?_ | refine C_region ?_ | refine C_block ?_) | (refine E_id ?_; first | refine E_code ?_))
  refine C_joinB (α := List UInt8) (fun _ => [(1, .int .i64 (s : Nat)), (2, .int .i64 (j : Nat)), (7, .pointer (some ⟨p, 0, none⟩)), (9, .slice (some ⟨q, 0, none⟩) (64 * s) (64 * s))])
    (fun F w => F.length = 64 * s ∧ St W noF [pts q (.cells (bv F).toArray 5), disk p (newDisk s)] w) ?_ ?_
  · refine C_loop (α := Nat) (fun i => [(0, .slice a b.length ca), (1, .int .i64 (s : Nat)), (2, .int .i64 (j : Nat)), (7, .pointer (some ⟨p, 0, none⟩)), (9, .slice (some ⟨q, 0, none⟩) (64 * s) (64 * s)), (10, .int .i64 (i : Nat))])
      (fun i w => i ≤ b.length ∧ i ≤ 64 * s ∧ St W noF [pts q (.cells (bv (fillN b (64 * s) i)).toArray 5), disk p (newDisk s)] w) (fun i => 64 * s - i) 0 ⟨rfl, rfl, rfl, rfl, rfl, rfl, trivial⟩ ⟨Nat.zero_le _, Nat.zero_le _, hS⟩ ?_
    clear hS
    rintro i w ⟨hi, his, hS⟩
    have hlen := fillN_length hi his
    obtain ⟨L, hL⟩ : ∃ L, L = fillN b (64 * s) i := ⟨_, rfl⟩
    rw [← hL] at hS hlen
    by_cases h1 : i < b.length
    · by_cases h2 : i < 64 * s
      · have hbr := hb
        obtain ⟨ab, ao, rfl⟩ := (hb.rd hS).base (by intro e; have := bv_length b; rw [e] at this; simp at this; omega)
        repeat (first | (refine G_id ?_; first | refine G_nil ?_ | refine G_plain rfl rfl ?_ | refine G_yes rfl rfl rfl rfl ?_) | (refine X_id ?_; first | refine X_yl (Yl_move rfl rfl) rfl rfl ?_ | refine X_yl (Yl_assign rfl rfl) rfl rfl ?_ | refine X_yl (Yl_pick_t rfl rfl rfl) rfl rfl ?_ | refine X_yl (Yl_len rfl rfl) rfl rfl ?_ | refine X_yl (Yl_lss_t rfl rfl rfl (by omega)) rfl rfl ?_ | refine X_yl (Yl_indexAddr rfl rfl rfl (by omega) (by omega) (by first | assumption | exact ⟨_, _, rfl⟩)) rfl rfl ?_ | refine X_yl (Yl_add rfl rfl rfl (w64 (by omega) (by omega))) rfl rfl ?_ | refine X_yl (Yl_load rfl rfl ((hb.rd hS).cellB' (by omega))) rfl rfl ?_ | refine X_storeBA rfl rfl rfl rfl hS (by omega) (fun _ hS => ?_)) | (refine C_id ?_; first | refine C_seq ?_ | refine C_region ?_ | refine C_block ?_ | refine C_skip ?_ | refine C_cond_t rfl ?_) | (refine E_id ?_; first | refine E_code ?_ | refine E_blk_n ?_))
        rw [show 0 + (i : Int).toNat * 1 = i by omega, show (i : Int).toNat * 1 = i by omega, hL, fillN_set h1 h2] at hS
        exact E_round (i + 1) ⟨rfl, rfl, rfl, rfl, rfl, rfl, trivial⟩ ⟨h1, h2, hS⟩ (by omega)
      · repeat (first | (refine G_id ?_; first | refine G_nil ?_ | refine G_plain rfl rfl ?_ | refine G_yes rfl rfl rfl rfl ?_) | (refine X_id ?_; first | refine X_yl (Yl_move rfl rfl) rfl rfl ?_ | refine X_yl (Yl_pick_t rfl rfl rfl) rfl rfl ?_ | refine X_yl (Yl_len rfl rfl) rfl rfl ?_ | refine X_yl (Yl_lss_t rfl rfl rfl (by omega)) rfl rfl ?_ | refine X_yl (Yl_lss_f rfl rfl rfl (by omega)) rfl rfl ?_) | (refine C_id ?_; first | refine C_seq ?_ | refine C_region ?_ | refine C_exit ?_ | refine C_cond_f rfl ?_) | (refine E_id ?_; first | refine E_code ?_ | refine E_then_exit ?_ | refine E_blk_same ?_))
        exact E_mid L ⟨rfl, rfl, rfl, rfl, trivial⟩ ⟨hlen, hS⟩
    · repeat (first | (refine G_id ?_; first | refine G_nil ?_ | refine G_plain rfl rfl ?_ | refine G_no rfl rfl rfl rfl rfl rfl ?_) | (refine X_id ?_; first | refine X_yl (Yl_move rfl rfl) rfl rfl ?_ | refine X_yl (Yl_pick_f rfl rfl rfl) rfl rfl ?_ | refine X_yl (Yl_len rfl rfl) rfl rfl ?_ | refine X_yl (Yl_lss_f rfl rfl rfl (by omega)) rfl rfl ?_) | (refine C_id ?_; first | refine C_seq ?_ | refine C_region ?_ | refine C_exit ?_ | refine C_cond_f rfl ?_) | (refine E_id ?_; first | refine E_code ?_ | refine E_then_exit ?_ | refine E_blk_same ?_))
      exact E_mid L ⟨rfl, rfl, rfl, rfl, trivial⟩ ⟨hlen, hS⟩
  clear hS
  rintro F w ⟨hF, hS⟩
  repeat (first | (refine G_id ?_; first | refine G_nil ?_ | refine G_plain rfl rfl ?_) | (refine X_id ?_; first | refine X_yl (Yl_assign rfl rfl) rfl rfl ?_) | (refine C_id ?_; first | refine C_seq ?_ | refine C_region ?_ | refine C_block ?_) | (refine E_id ?_; first | refine E_code ?_))
  refine C_joinB (α := Unit) (fun _ => [(1, .int .i64 (s : Nat)), (2, .int .i64 (j : Nat)), (7, .pointer (some ⟨p, 0, none⟩)), (9, .slice (some ⟨q, 0, none⟩) (64 * s) (64 * s))])
    (fun _ w => St W noF [pts q (.cells (bv F).toArray 5), disk p (wrM F s s).2] w) ?_ ?_
  · refine C_loop (α := Nat) (fun i => [(1, .int .i64 (s : Nat)), (2, .int .i64 (j : Nat)), (7, .pointer (some ⟨p, 0, none⟩)), (9, .slice (some ⟨q, 0, none⟩) (64 * s) (64 * s)), (11, .int .i64 (i : Nat))])
      (fun i w => i ≤ s ∧ St W noF [pts q (.cells (bv F).toArray 5), disk p (wrM F s i).2] w) (fun i => s - i) 0 ⟨rfl, rfl, rfl, rfl, rfl, trivial⟩ ⟨Nat.zero_le _, hS⟩ ?_
    clear hS
    rintro i w ⟨hi, hS⟩
    by_cases h1 : i < s
    · have hq := wrM_q hF i (by omega)
      have hq1 := (wrM_q hF (i + 1) (by omega)).e
      have hln := wrM_line hF i (by omega)
      have hwr : (wrM F s i).2.write (i : Nat) (secB F i) = wrM F s (i + 1) := by
        show _ = stepW _ _ _
        unfold stepW
        rw [if_pos hq.e]
      repeat (first | (refine G_id ?_; first | refine G_nil ?_ | refine G_plain rfl rfl ?_) | (refine X_id ?_; first | refine X_yl (Yl_move rfl rfl) rfl rfl ?_ | refine X_yl (Yl_lss_t rfl rfl rfl (by omega)) rfl rfl ?_ | refine X_yl (Yl_add rfl rfl rfl (w64 (by omega) (by omega))) rfl rfl ?_ | refine X_yl (Yl_mul rfl rfl rfl (w64 (by omega) (by omega))) rfl rfl ?_) | (refine C_id ?_; first | refine C_seq ?_ | refine C_region ?_ | refine C_block ?_ | refine C_skip ?_ | refine C_cond_t rfl ?_) | (refine E_id ?_; first | refine E_code ?_))
      refine X_yl (Yl_slice (l := 64 * i) (h := 64 * i + 64) rfl rfl rfl rfl (.inr ⟨_, _, rfl, by omega, by omega, by omega⟩) (.inr ⟨_, _, rfl, by omega, by omega, by omega⟩)) rfl rfl ?_
      rw [show 64 * i + 64 - 64 * i = 64 by omega]
      refine G_plain rfl rfl ?_
      obtain ⟨F2, hc, hr, hw, hbk⟩ := hS.call [false, true]
      have hsb : Ro w F2 (bytes (sub (some ⟨q, 0, none⟩) (64 * i) 1 (64 * s)) (secB F i)) := by
        have h0 := (hr (pts q (.cells (bv F).toArray 5)) (by simp)).mono (r' := bytes (some ⟨q, 0, none⟩) F) fun h hh => ⟨h, row_pts h hh, fun _ _ e => e⟩
        have := Ro.subBytes h0 (l := 64 * i) (h := 64 * i + 64) (c := 64 * s) (by omega) (by omega)
        rw [show 64 * i + 64 - 64 * i = 64 by omega] at this
        exact this
      refine X_callg _ rfl rfl rfl rfl rfl (write_ p (wrM F s i).2 (i : Nat) _ 64 _ (secB F i) _ _ hc hsb (secB_length (by omega)) (by omega)) ?_
      rw [hwr, hq1]
      rintro _ w ⟨rfl, hS⟩
      replace hS := hbk hS
      clear hc hr hw hbk hsb
      have hS := hS.pick [1, 0]
      repeat (first | (refine G_id ?_; first | refine G_nil ?_ | refine G_plain rfl rfl ?_) | (refine X_id ?_; first | refine X_yl (Yl_move rfl rfl) rfl rfl ?_ | refine X_yl (Yl_assign rfl rfl) rfl rfl ?_ | refine X_yl (Yl_neq_f rfl rfl rfl (by omega)) rfl rfl ?_ | refine X_yl (Yl_add rfl rfl rfl (w64 (by omega) (by omega))) rfl rfl ?_) | (refine C_id ?_; first | refine C_region ?_ | refine C_skip ?_ | refine C_cond_f rfl ?_) | (refine E_id ?_; first | refine E_code ?_ | refine E_blk_n ?_))
      exact E_round (i + 1) ⟨rfl, rfl, rfl, rfl, rfl, trivial⟩ ⟨h1, hS⟩ (by omega)
    · obtain rfl : s = i := by omega
      repeat (first | (refine G_id ?_; first | refine G_nil ?_ | refine G_plain rfl rfl ?_) | (refine X_id ?_; first | refine X_yl (Yl_move rfl rfl) rfl rfl ?_ | refine X_yl (Yl_lss_f rfl rfl rfl (by omega)) rfl rfl ?_) | (refine C_id ?_; first | refine C_seq ?_ | refine C_region ?_ | refine C_exit ?_ | refine C_cond_f rfl ?_) | (refine E_id ?_; first | refine E_code ?_ | refine E_then_exit ?_ | refine E_blk_same ?_))
      exact E_mid () ⟨rfl, rfl, rfl, rfl, trivial⟩ hS
  clear hS
  rintro _ w hS
  obtain ⟨hL0, hL1, hL2⟩ := laidM_holds hF
  have hqs := wrM_q hF s (Nat.le_refl _)
  have hln := wrM_line hF s (Nat.le_refl _)
  have hfl : (wrM F s s).2.flush = laidM F s := by
    unfold laidM stepF
    rw [if_pos hqs.e]
  repeat (first | (refine G_id ?_; first | refine G_plain rfl rfl ?_) | (refine X_id ?_; first | refine X_yl (Yl_move rfl rfl) rfl rfl ?_) | (refine C_id ?_; first | refine C_seq ?_ | refine C_region ?_))
  obtain ⟨_, hc, hr, hw, hbk⟩ := hS.call [false, true]
  refine X_callg _ rfl rfl rfl rfl rfl (flush_ p (wrM F s s).2 _ _ hc (by omega)) ?_
  rw [hfl, hL0]
  rintro _ w ⟨rfl, hS⟩
  replace hS := hbk hS
  clear hc hr hw hbk
  obtain ⟨D, hD⟩ : ∃ D, D = (laidM F s).2 := ⟨_, rfl⟩
  rw [← hD] at hL1 hL2 hS
  clear hfl hqs hln hL0 hD
  have hop : openM roundL firstL D (j : Nat) = redoM roundL firstL D j 0 false := by
    unfold openM
    rw [if_neg (by simp [hL1.off]), if_neg (by rw [hL1.len]; omega), Int.toNat_natCast]
  have hkn : ∀ (w : World) (rs : List Res), St W noF rs w → Calls Tryz.prog 10 #[] w (Ret fun v w' => v = .bool true ∧ St w noF [] w') := fun w rs h => known_ roundL firstL w (hG.mono fun r hr => (hr.rd h).ro)
  have hrc : ∀ (w : World) (rs : List Res), St W noF rs w → pts q (.cells (bv F).toArray 5) ∈ rs → Calls Tryz.prog 8 #[tabV, .slice (some ⟨q, 0, none⟩) (64 * s) (64 * s), .int .i64 (j : Nat)] w (Ret fun v w' => RecoverR w (some ⟨q, 0, none⟩) (64 * s) F j v w') := fun w rs h hm => by
    have := rrecover_ (some ⟨q, 0, none⟩) (64 * s) F j s w ((h.rd hm).ptsB.ro) hF (by omega) hj2 hj1 (by omega) (by omega)
    rwa [hF] at this
  by_cases hneg : rnumM (secB F 0) < 0
  · have hR := opens_bad hL1 hj2 hF hneg
    have hopen := open_ p D (j : Nat) roundL firstL
    rw [hop, hR] at hopen
    repeat (first | (refine G_id ?_; first | refine G_nil ?_ | refine G_plain rfl rfl ?_) | (refine X_id ?_; first | refine X_yl (Yl_move rfl rfl) rfl rfl ?_ | refine X_yl (Yl_neq_f rfl rfl rfl (by omega)) rfl rfl ?_) | (refine C_id ?_; first | refine C_seq ?_ | refine C_region ?_ | refine C_skip ?_ | refine C_cond_f rfl ?_) | (refine E_id ?_; first | refine E_code ?_))
    obtain ⟨F2, hc, hr, hw, hbk⟩ := hS.call [true]
    refine X_callg _ rfl rfl rfl rfl rfl (hopen _ _ (hG.mono fun r hr => hw _ hr) (by rw [hL1.line]; simp) hc) ?_
    rintro _ w (⟨_, rfl, hS⟩ | ⟨h, _⟩)
    · replace hS := hbk hS
      clear hc hr hw hbk hopen
      repeat (first | (refine G_id ?_; first | refine G_nil ?_ | refine G_plain rfl rfl ?_) | (refine X_id ?_; first | refine X_yl (Yl_move rfl rfl) rfl rfl ?_ | refine X_yl (Yl_assign rfl rfl) rfl rfl ?_ | refine X_yl (Yl_extract rfl rfl) rfl rfl ?_) | (refine C_id ?_; first | refine C_seq ?_ | refine C_region ?_) | (refine E_id ?_; first | refine E_code ?_))
      refine X_callq _ rfl rfl rfl rfl rfl hS (make_ _) ?_
      rintro _ w rfl hS
      repeat (first | (refine G_id ?_; first | refine G_plain rfl rfl ?_) | (refine X_id ?_; first | refine X_yl (Yl_move rfl rfl) rfl rfl ?_))
      refine X_callg _ rfl rfl rfl rfl rfl (hrc _ _ hS (by simp)) ?_
      rintro _ w (⟨_, rfl, hS'⟩ | ⟨n, hn, _⟩ | ⟨n, hn, _⟩)
      · replace hS := hS.plus hS'
        clear hS'
        repeat (first | (refine G_id ?_; first | refine G_nil ?_ | refine G_plain rfl rfl ?_) | (refine X_id ?_; first | refine X_yl (Yl_move rfl rfl) rfl rfl ?_ | refine X_yl (Yl_assign rfl rfl) rfl rfl ?_ | refine X_yl (Yl_extract rfl rfl) rfl rfl ?_ | refine X_yl (Yl_neq_t rfl rfl rfl (by omega)) rfl rfl ?_) | (refine C_id ?_; first | refine C_seq ?_ | refine C_region ?_ | refine C_cond_t rfl ?_) | (refine E_id ?_; first | refine E_code ?_))
        refine X_callq _ rfl rfl rfl rfl rfl hS (hkn _ _ hS) ?_
        rintro _ w rfl hS
        repeat (first | (refine G_id ?_; first | refine G_nil ?_ | refine G_plain rfl rfl ?_ | refine G_yes rfl rfl rfl rfl ?_) | (refine X_id ?_; first | refine X_yl (Yl_move rfl rfl) rfl rfl ?_ | refine X_yl (Yl_assign rfl rfl) rfl rfl ?_ | refine X_yl (Yl_pick_t rfl rfl rfl) rfl rfl ?_ | refine X_yl (Yl_eql rfl rfl rfl) rfl rfl ?_ | refine X_yl (Yl_eqlNil_none rfl rfl rfl) rfl rfl ?_) | (refine C_id ?_; first | refine C_ret ?_) | (refine E_id ?_; first | refine E_code ?_ | refine E_then_ret ?_ | refine E_ret1 rfl (Rv_tmp rfl) (Ret.mk ?_)))
        exact ⟨rfl, hS.drops⟩
      · omega
      · omega
    · exact absurd h (by simp)
  · obtain ⟨D', n, rn, want, hR, hst, hrec⟩ : ∃ (D' : DiskM) (n : Nat) (rn : Bool) (want : List UInt8), redoM roundL firstL D j 0 false = ⟨0, D', (n : Nat), rn⟩ ∧ Stands D' j s n want ∧
        ∀ (W' : World) (v : Value) (w : World), RecoverR W' (some ⟨q, 0, none⟩) (64 * s) F j v w → ∃ (wa : Option Addr) (wk : Nat) (XR : Res), v = .tuple #[.slice wa want.length wk, .int .i64 (n : Nat), .bool rn, .int .i64 0] ∧ (∀ w'', Rd w'' XR → Rd w'' (bytes (some ⟨q, 0, none⟩) F) → Rd w'' (bytes wa want)) ∧ St W' noF [XR] w := by
      obtain ⟨n, hn⟩ : ∃ n : Nat, rnumM (secB F 0) = n := ⟨(rnumM (secB F 0)).toNat, by omega⟩
      by_cases hyes : rfoundOk F j (n + 1) ∧ n < 1152921504606846976
      · obtain ⟨D', h1, h2⟩ := opens_some hL1 hL2 hj2 hj1 hF hn hyes.1 hyes.2
        refine ⟨D', n + 1, true, _, h1, h2, fun W' v w h => ?_⟩
        rcases h with ⟨h, _⟩ | ⟨m, hm, h, _⟩ | ⟨m, hm, _, _, p', k, rfl, hS'⟩
        · omega
        · obtain rfl : m = n := by omega
          rcases h with h | h
          · exact absurd hyes.1 h
          · omega
        · obtain rfl : m = n := by omega
          refine ⟨p', k, _, ?_, fun _ h _ => h, hS'⟩
          rw [layTo_length rfl (fun v hv => by have := rlist_good hF hj2 hyes.1 v hv; simp only [List.length_drop, hF]; omega)]
      · have hno : ¬ rfoundOk F j (n + 1) ∨ 1152921504606846976 ≤ n := by
          by_cases h : rfoundOk F j (n + 1)
          · exact .inr (Nat.le_of_not_lt fun h2 => hyes ⟨h, h2⟩)
          · exact .inl h
        obtain ⟨D', h1, h2⟩ := opens_none hL1 hL2 hj2 hj1 hF hn hno
        refine ⟨D', n, false, _, h1, h2, fun W' v w h => ?_⟩
        rcases h with ⟨h, _⟩ | ⟨m, hm, _, rfl, hS'⟩ | ⟨m, hm, hy1, hy2, _⟩
        · omega
        · obtain rfl : m = n := by omega
          exact ⟨_, _, row none [], rfl, fun w'' _ h => dropRd h (64 * (1 + j)) (by omega) (by omega), hS'.row_none⟩
        · obtain rfl : m = n := by omega
          exact absurd ⟨hy1, hy2⟩ hyes
    have hopen := open_ p D (j : Nat) roundL firstL
    rw [hop, hR] at hopen
    repeat (first | (refine G_id ?_; first | refine G_nil ?_ | refine G_plain rfl rfl ?_) | (refine X_id ?_; first | refine X_yl (Yl_move rfl rfl) rfl rfl ?_ | refine X_yl (Yl_neq_f rfl rfl rfl (by omega)) rfl rfl ?_) | (refine C_id ?_; first | refine C_seq ?_ | refine C_region ?_ | refine C_skip ?_ | refine C_cond_f rfl ?_) | (refine E_id ?_; first | refine E_code ?_))
    obtain ⟨F2, hc, hr, hw, hbk⟩ := hS.call [true]
    refine X_callg _ rfl rfl rfl rfl rfl (hopen _ _ (hG.mono fun r hr => hw _ hr) (by rw [hL1.line]; simp) hc) ?_
    rintro _ w (⟨h, _⟩ | ⟨_, lp, rfl, hS⟩)
    · exact absurd rfl h
    replace hS := hbk hS
    clear hc hr hw hbk hopen
    simp only [Int.toNat_natCast] at hS
    repeat (first | (refine G_id ?_; first | refine G_nil ?_ | refine G_plain rfl rfl ?_) | (refine X_id ?_; first | refine X_yl (Yl_move rfl rfl) rfl rfl ?_ | refine X_yl (Yl_assign rfl rfl) rfl rfl ?_ | refine X_yl (Yl_extract rfl rfl) rfl rfl ?_) | (refine C_id ?_; first | refine C_seq ?_ | refine C_region ?_) | (refine E_id ?_; first | refine E_code ?_))
    refine X_callq _ rfl rfl rfl rfl rfl hS (make_ _) ?_
    rintro _ w rfl hS
    repeat (first | (refine G_id ?_; first | refine G_plain rfl rfl ?_) | (refine X_id ?_; first | refine X_yl (Yl_move rfl rfl) rfl rfl ?_))
    refine X_callg _ rfl rfl rfl rfl rfl (hrc _ _ hS (by simp)) ?_
    intro v w hrv
    obtain ⟨wa, wk, XR, rfl, hwr, hS'⟩ := hrec _ _ _ hrv
    replace hS := hS.plus hS'
    clear hS' hrv
    have hwl : want.length ≤ 1099511627776 := by
      have h1 := dataTo_le (hS.rd (r := disk p D') (by simp)).disk.1 (j := j) (s - 1 - j) (by rw [hst.len]; omega)
      have h2 : dataTo D' j (s - 1 - j) = want := by
        rw [← hst.data]; unfold dataM dataTo; rw [hst.len]
      rw [h2] at h1
      omega
    repeat (first | (refine G_id ?_; first | refine G_nil ?_ | refine G_plain rfl rfl ?_ | refine G_yes rfl rfl rfl rfl ?_) | (refine X_id ?_; first | (refine X_callg 11 rfl rfl rfl rfl rfl (wdone_ lp p 1 0 0 j n rn _ (hS.rd (by simp))) ?_; rintro _ _ ⟨rfl, rfl⟩) | refine X_yl (Yl_move rfl rfl) rfl rfl ?_ | refine X_yl (Yl_assign rfl rfl) rfl rfl ?_ | refine X_yl (Yl_extract rfl rfl) rfl rfl ?_ | refine X_yl (Yl_pick_f rfl rfl rfl) rfl rfl ?_ | refine X_yl (Yl_neq_f rfl rfl rfl (by omega)) rfl rfl ?_ | refine X_yl (Yl_eqlNil_some rfl rfl rfl) rfl rfl ?_) | (refine C_id ?_; first | refine C_seq ?_ | refine C_region ?_ | refine C_skip ?_ | refine C_cond_f rfl ?_) | (refine E_id ?_; first | refine E_code ?_))
    repeat (first | (refine G_id ?_; first | refine G_yes rfl rfl rfl rfl ?_) | (refine X_id ?_; first | (refine X_callg 12 rfl rfl rfl rfl rfl (wredone_ lp p 1 0 0 j n rn _ (hS.rd (by simp))) ?_; rintro _ _ ⟨rfl, rfl⟩) | refine X_yl (Yl_move rfl rfl) rfl rfl ?_))
    refine X_yl (Yl_neqB rfl rfl rfl) rfl rfl ?_
    repeat (first | (refine G_id ?_; first | refine G_plain rfl rfl ?_ | refine G_yes rfl rfl rfl rfl ?_) | (refine X_id ?_; first | refine X_yl (Yl_move rfl rfl) rfl rfl ?_ | refine X_yl (Yl_pick_f rfl rfl rfl) rfl rfl ?_))
    refine X_callg _ rfl rfl rfl rfl rfl (data_ lp p 1 0 0 j n rn D' _ (hS.rd (by simp)) (hS.rd (by simp)) hst.off (by omega) (by rw [hst.len]; omega) (by rw [hst.line]; simp)) ?_
    rw [hst.data]
    rintro _ w ⟨da, dc, rfl, hS'⟩
    replace hS := hS.plus hS'
    clear hS'
    repeat (first | (refine G_id ?_; first | refine G_yes rfl rfl rfl rfl ?_) | (refine X_id ?_; first | refine X_yl (Yl_move rfl rfl) rfl rfl ?_))
    refine X_callq _ rfl rfl rfl rfl rfl hS (same_ da wa dc wk want want _ (hS.rd (by simp)) (hwr _ (hS.rd (by simp)) (hS.rd (r := pts q (.cells (bv F).toArray 5)) (by simp)).ptsB) hwl) ?_
    rw [show decide (want = want) = true by simp]
    rintro _ w rfl hS
    repeat (first | (refine G_id ?_; first | refine G_nil ?_ | refine G_plain rfl rfl ?_ | refine G_yes rfl rfl rfl rfl ?_) | (refine X_id ?_; first | refine X_yl (Yl_move rfl rfl) rfl rfl ?_ | refine X_yl (Yl_pick_f rfl rfl rfl) rfl rfl ?_ | refine X_yl (Yl_not_t rfl rfl) rfl rfl ?_) | (refine C_id ?_; first | refine C_seq ?_ | refine C_region ?_ | refine C_skip ?_ | refine C_cond_f rfl ?_) | (refine E_id ?_; first | refine E_code ?_))
    have hop2 : openM roundL firstL D' (j : Nat) = redoM roundL firstL D' j 0 false := by
      unfold openM
      rw [if_neg (by simp [hst.off]), if_neg (by rw [hst.len]; omega), Int.toNat_natCast]
    have hopen2 := open_ p D' (j : Nat) roundL firstL
    rw [hop2, hst.again] at hopen2
    have hS : St W noF [disk p D', XR, pts q (.cells (bv F).toArray 5)] w := hS.took
    repeat (first | (refine G_id ?_; first | refine G_nil ?_ | refine G_plain rfl rfl ?_) | (refine X_id ?_; first | (refine X_callg 15 rfl rfl rfl rfl rfl (dwrites_ p D' _ (hS.rd (by simp))) ?_; rintro _ _ ⟨rfl, rfl⟩) | refine X_yl (Yl_move rfl rfl) rfl rfl ?_ | refine X_yl (Yl_assign rfl rfl) rfl rfl ?_) | (refine C_id ?_; first | refine C_seq ?_ | refine C_region ?_) | (refine E_id ?_; first | refine E_code ?_))
    obtain ⟨F3, hc2, hr2, hw2, hbk2⟩ := hS.call [true]
    refine X_callg _ rfl rfl rfl rfl rfl (hopen2 _ _ (hG.mono fun r hr => hw2 _ hr) (by rw [hst.line]; simp) hc2) ?_
    rintro _ w (⟨h, _⟩ | ⟨_, lp2, rfl, hS⟩)
    · exact absurd rfl h
    replace hS := hbk2 hS
    clear hc2 hr2 hw2 hbk2 hopen2
    simp only [Int.toNat_natCast] at hS
    repeat (first | (refine G_id ?_; first | refine G_nil ?_ | refine G_plain rfl rfl ?_ | refine G_yes rfl rfl rfl rfl ?_) | (refine X_id ?_; first | (refine X_callq 10 rfl rfl rfl rfl rfl hS (hkn _ _ hS) ?_; rintro _ _ rfl hS) | refine X_yl (Yl_move rfl rfl) rfl rfl ?_ | refine X_yl (Yl_assign rfl rfl) rfl rfl ?_ | refine X_yl (Yl_extract rfl rfl) rfl rfl ?_ | refine X_yl (Yl_pick_t rfl rfl rfl) rfl rfl ?_ | refine X_yl (Yl_eql_t rfl rfl rfl (by omega)) rfl rfl ?_ | refine X_yl (Yl_neqNil_some rfl rfl rfl) rfl rfl ?_) | (refine C_id ?_; first | refine C_seq ?_ | refine C_region ?_) | (refine E_id ?_; first | refine E_code ?_))
    repeat (first | (refine G_id ?_; first | refine G_plain rfl rfl ?_ | refine G_yes rfl rfl rfl rfl ?_) | (refine X_id ?_; first | (refine X_callg 12 rfl rfl rfl rfl rfl (wredone_ lp2 p 1 0 0 j n false _ (hS.rd (by simp))) ?_; rintro _ _ ⟨rfl, rfl⟩) | refine X_yl (Yl_move rfl rfl) rfl rfl ?_ | refine X_yl (Yl_pick_t rfl rfl rfl) rfl rfl ?_ | refine X_yl (Yl_not_f rfl rfl) rfl rfl ?_))
    repeat (first | (refine G_id ?_; first | refine G_plain rfl rfl ?_ | refine G_yes rfl rfl rfl rfl ?_) | (refine X_id ?_; first | (refine X_callg 11 rfl rfl rfl rfl rfl (wdone_ lp2 p 1 0 0 j n false _ (hS.rd (by simp))) ?_; rintro _ _ ⟨rfl, rfl⟩) | refine X_yl (Yl_move rfl rfl) rfl rfl ?_ | refine X_yl (Yl_pick_t rfl rfl rfl) rfl rfl ?_ | refine X_yl (Yl_eql_t rfl rfl rfl (by omega)) rfl rfl ?_))
    repeat (first | (refine G_id ?_; first | refine G_plain rfl rfl ?_ | refine G_yes rfl rfl rfl rfl ?_) | (refine X_id ?_; first | (refine X_callg 15 rfl rfl rfl rfl rfl (dwrites_ p D' _ (hS.rd (by simp))) ?_; rintro _ _ ⟨rfl, rfl⟩) | refine X_yl (Yl_move rfl rfl) rfl rfl ?_ | refine X_yl (Yl_pick_t rfl rfl rfl) rfl rfl ?_ | refine X_yl (Yl_eql_t rfl rfl rfl (by omega)) rfl rfl ?_))
    refine X_callg _ rfl rfl rfl rfl rfl (data_ lp2 p 1 0 0 j n false D' _ (hS.rd (by simp)) (hS.rd (by simp)) hst.off (by omega) (by rw [hst.len]; omega) (by rw [hst.line]; simp)) ?_
    rw [hst.data]
    rintro _ w ⟨da2, dc2, rfl, hS'⟩
    replace hS := hS.plus hS'
    clear hS'
    repeat (first | (refine G_id ?_; first | refine G_yes rfl rfl rfl rfl ?_) | (refine X_id ?_; first | refine X_yl (Yl_move rfl rfl) rfl rfl ?_))
    refine X_callq _ rfl rfl rfl rfl rfl hS (same_ da2 wa dc2 wk want want _ (hS.rd (by simp)) (hwr _ (hS.rd (by simp)) (hS.rd (r := pts q (.cells (bv F).toArray 5)) (by simp)).ptsB) hwl) ?_
    rw [show decide (want = want) = true by simp]
    rintro _ w rfl hS
    repeat (first | (refine G_id ?_; first | refine G_nil ?_ | refine G_plain rfl rfl ?_) | (refine X_id ?_; first | refine X_yl (Yl_assign rfl rfl) rfl rfl ?_ | refine X_yl (Yl_pick_t rfl rfl rfl) rfl rfl ?_) | (refine C_id ?_; first | refine C_ret ?_) | (refine E_id ?_; first | refine E_code ?_ | refine E_ret1 rfl (Rv_tmp rfl) (Ret.mk ?_)))
    exact ⟨rfl, hS.drops⟩
end Cr
namespace Cr
open Go Go.Proofs Go.ChangeShapes Go.WideShapes Go.Deep
section
variable {H : Type} {enc : TypeId × Value → H} {P : Program} {w : World} {base : Nat} {sp : Nat → Bool} {held : Bool}
theorem Rd.ofCellsA {a : Addr} {l : List Value} (h : ∀ i v, l[i]? = some v → w.cell? (a.add i) = some v) : Rd w (row (some a) l) := by
  cases l with
  | nil => exact Rd_nil w _
  | cons x r =>
    have h0 := h 0 x rfl
    have hsp : a.spot = none := by
      have := World.cell?_spot h0
      simpa [Addr.add] using this
    obtain ⟨b, off, spot⟩ := a
    obtain rfl : spot = none := hsp
    unfold World.cell? at h0
    split at h0
    · rename_i c t fz hb
      have hb : w.heap[b]? = some (.cells c t fz) := by simpa [Addr.add] using hb
      refine ⟨single b (.cells c t fz), .inr ⟨b, off, c, t, fz, rfl, rfl, fun i v hv => ?_⟩, fun k o e => ?_⟩
      · have := h i v hv
        have e : (⟨b, off, none⟩ : Addr).add i = ⟨b, off + i, none⟩ := by
          unfold Addr.add; split
          · rename_i h; subst h; rfl
          · rfl
        rw [e, cell_of_row w b (off + i) c t fz hb] at this
        exact this
      · obtain ⟨rfl, rfl⟩ := of_single e
        exact hb
    · cases h0
theorem u8_back {n : Int} (h : (Lit.int .u8 n).wf = true) : Value.int .u8 n = .int .u8 ((UInt8.ofNat n.toNat).toNat : Int) := by
  simp only [Lit.wf, Bool.and_eq_true, decide_eq_true_eq] at h
  have h1 : 0 ≤ n := h.1
  have h2 : n ≤ 255 := h.2
  congr 1
  have : (UInt8.ofNat n.toNat).toNat = n.toNat := by rw [UInt8.toNat_ofNat']; omega
  rw [this]; omega
/-- A slice of bytes. -/
theorem open_bytes {t e : TypeId} {fuel : Nat} {cs : List Value} {x : DataW H × List MemPlace} (ht : P.underlying t = some (.slice e)) (he : P.underlying e = some (.int .u8)) (hc : P.cellsOf e = 1)
    (h : DataW.trod enc P w base sp held fuel t cs = some x) : ∃ a s c, cs = [.slice a s.length c] ∧ s.length ≤ c ∧ c ≤ maxLen ∧ Rd w (bytes a s) := by
  rcases open_ints ht he hc h with ⟨rfl, _⟩ | ⟨a, len, cap, zs, rfl, _, hl, hm, hz, _, hcell, hwf⟩
  · exact ⟨none, [], 0, rfl, Nat.le_refl _, Nat.zero_le _, Rd_nil w _⟩
  · have hlz : len ≤ zs.length := by rw [hz]; split <;> omega
    have e1 : bv ((zs.take len).map fun n => UInt8.ofNat n.toNat) = (zs.take len).map fun n => Value.int .u8 n := by
      unfold bv
      rw [List.map_map]
      refine List.map_congr_left fun n hn => ?_
      exact (u8_back (hwf n (List.mem_of_mem_take hn))).symm
    have e2 : ((zs.take len).map fun n => UInt8.ofNat n.toNat).length = len := by simp; omega
    refine ⟨some a, (zs.take len).map fun n => UInt8.ofNat n.toNat, cap, by rw [e2], by rw [e2]; exact hl, hm, ?_⟩
    unfold bytes
    rw [e1]
    refine Rd.ofCellsA fun i v hv => ?_
    rw [List.getElem?_map, List.getElem?_take] at hv
    split at hv
    · rename_i hi
      rw [hcell i (by omega)]
      have h3 : zs[i]? = some zs[i] := List.getElem?_eq_getElem (by omega)
      rw [h3] at hv
      rw [List.getD_eq_getElem?_getD, h3]
      exact hv
    · cases hv
end
end Cr
namespace Go.Proofs.YtobnnhlgdoddgaaGreatDoor
open Go.ChangeShapes Go.WideShapes Go.ChangeAt Go.RowKit
set_option maxRecDepth 100000

theorem arg_bytes {H : Type} {enc : TypeId × Value → H} {W : World} {base : Nat} {v : Value} {d : DataW H} {p : List MemPlace} (hval : Value.okWide Tryz.prog W .any base 22 v) (h : DataW.Trod enc Tryz.prog W 0 (fun _ => true) true 22 v d p) :
    ∃ a s c, v = .slice a s.length c ∧ s.length ≤ c ∧ Cr.Ro W Cr.noF (Cr.bytes a s) := by
  obtain ⟨a, n, c, rfl⟩ := okWide_slice Tryz.underlying22 hval
  obtain ⟨fuel, hf⟩ := h
  obtain ⟨a', l, c', e, hl, _, hw⟩ := Cr.open_bytes Tryz.underlying22 Tryz.underlying5 (by kernel_rfl) hf
  have e : [Value.slice a n c] = [.slice a' l.length c'] := e
  simp only [List.cons.injEq, Value.slice.injEq, and_true] at e
  obtain ⟨rfl, rfl, rfl⟩ := e
  exact ⟨a, l, c, rfl, hl, hw.ro⟩
theorem walOpens_contract (H : Type) (enc : TypeId × Value → H) (W : World) (base : Nat) (args : Array Value) (ds gs : List (DataW H)) (before : List MemPlace)
    (hval : ∀ (j : Nat) t v, Tryz.f3.params[j]? = some t → args[j]? = some v → Value.okWide Tryz.prog W .any base t v)
    (hW : DataW.Whole enc Tryz.prog Tryz.f3.params.toList Rows.walOpensSpec.vars false W args.toList ds gs before) (hL : laidMetH Tryz.prog Rows.walOpensRow.laid W) :
    Calls Tryz.prog 3 args W fun e W' => ∃ v, e = .returned v ∧ Rows.walOpensSpec.post enc Tryz.prog Tryz.f3 false true false false W args v W' := by
  have hW' := hW
  obtain ⟨p, q, hA0, hV, rfl, hfz, hnd⟩ := hW
  have hA : DataW.TrodAll enc Tryz.prog W 0 (fun _ => true) true Tryz.f3.params.toList args.toList ds p := hA0
  rw [Tryz.params3] at hA hval
  obtain ⟨rfl, rfl⟩ := trodVars_none hV
  have hAk := hA
  obtain ⟨v0, vs0, d0, ds0, p0, q0, hargs, rfl, rfl, h0, r0⟩ := trodAll_cons hA
  obtain ⟨v1, vs1, d1, ds1, p1, q1, hargs1, rfl, rfl, h1, r1⟩ := trodAll_cons r0
  obtain ⟨v2, vs2, d2, ds2, p2, q2, hargs2, rfl, rfl, h2, r2⟩ := trodAll_cons r1
  obtain ⟨rfl, rfl, rfl⟩ := trodAll_nil r2
  subst hargs2
  subst hargs1
  obtain rfl : args = #[v0, v1, v2] := by cases args; simp_all
  obtain ⟨a, b, ca, rfl, hbl, hb0⟩ := arg_bytes (hval 0 22 v0 rfl rfl) h0
  have h1' := h1
  have h2' := h2
  obtain ⟨n, rfl, rfl, rfl, hn⟩ := open_int Tryz.underlying3 (hval 1 3 v1 rfl rfl) h1
  obtain ⟨m, rfl, rfl, rfl, hm⟩ := open_int Tryz.underlying3 (hval 2 3 v2 rfl rfl) h2
  clear hA0
  simp only [List.append_nil] at hW' hAk
  refine (Cr.walOpens_ a ca b n m W (Cr.gl_of_laid hL) hb0 hbl).mono fun e W' ⟨v, he, hv, hS⟩ => ?_
  subst he hv
  have hb := hS.toBelow
  exact ⟨_, rfl, post_of_law (pa := p0) (pv := []) hW' (fun _ _ _ => trodAll_cons_mk (shut_bool Tryz.underlying4 _) trodAll_mk0)
    (fun sp hsp => trodAll_stays lawLaid hb (fun t ht => by
      have ht : t ∈ [22, 3, 3] := ht
      simp only [List.mem_cons, List.not_mem_nil, or_false] at ht
      rcases ht with rfl | rfl | rfl <;> exact ⟨by kernel_rfl, of_decide_eq_true (by kernel_rfl)⟩) hAk hW'.lt hsp) (fun _ _ => rfl) (by simp)
    (hb.frame _) (fun _ h => hb.frozen h) (ok_one (by kernel_rfl) rfl (okWide_bool_mk Tryz.underlying4 _))⟩
theorem walOpens_laid (os : Os) : laidMet Tryz.prog Rows.walOpensRow.laid ((lawWorld os).forCall (fun _ _ => 0) ⟨#[], #[.slice none 0 0, .int .i64 0, .int .i64 0], []⟩).memory :=
  laidMet_of_run' 8 (by kernel_rfl) (by kernel_rfl)
theorem walOpens_reads (os : Os) {H : Type} (enc : TypeId × Value → H) : ∃ places, DataW.whole enc Tryz.prog ((lawWorld os).forCall (fun _ _ => 0) ⟨#[], #[.slice none 0 0, .int .i64 0, .int .i64 0], []⟩).memory Tryz.f3.params.toList Rows.walOpensSpec.vars false #[Value.slice none 0 0, .int .i64 0, .int .i64 0].toList 8 = some ([.nil, .lit (.int .i64 0), .lit (.int .i64 0)], [], places) :=
  ⟨[], by kernel_rfl⟩
theorem walOpens_lifted (os : Os) (started : os.Started) (H : Type) (enc : TypeId × Value → H) (F : Stop.Interp) :
    ReturnsInHanded {} Tryz.checked os 3 .any ((OpenSpec.ofChange Rows.walOpensSpec).preRow enc Tryz.prog Tryz.f3 Rows.walOpensRow.domain false Rows.walOpensRow.laid) (((OpenSpec.ofChange Rows.walOpensSpec).at F).post enc Tryz.prog Tryz.f3 false true false false) := by
  obtain ⟨places, hx⟩ := walOpens_reads os enc
  refine returnsInHanded_of_row (C := Tryz.checked) (s := OpenSpec.ofChange Rows.walOpensSpec) lawOwn started (by kernel_rfl) Tryz.func3
    (witness_row_at (enc := enc) (C := Tryz.checked) false (lawWorld os) #[.slice none 0 0, .int .i64 0, .int .i64 0] rfl (by kernel_rfl) (by kernel_rfl) (by kernel_rfl)
      (OpenSpec.preRow_of_cond 8 hx (by kernel_rfl) (fun k hk => by cases hk) (by kernel_rfl) (walOpens_laid os))) ?_
  intro W base args ds gs before hval hW _ _ _ hL _ _
  exact walOpens_contract H enc W base args ds gs before hval hW hL
theorem walOpens_said : Rows.WalOpensSaid :=
  OpenClaim.holds_of_cond 3 Tryz.f3 rfl rfl rfl rfl rfl rfl rfl ⟨rfl, rfl, rfl, rfl, rfl⟩ rfl rfl rfl rfl rfl (by kernel_rfl) Tryz.func3 (by kernel_rfl)
    (of_decide_eq_true (by kernel_rfl)) (by unfold Func.isWrapper; first | (rw [if_pos (by decide +kernel)]; kernel_rfl) | (rw [if_neg (by decide +kernel)]; exact ⟨rfl, rfl⟩))
    (fun os started H enc _ F => by rw [OpenClaim.pre_eq_preRow]; exact walOpens_lifted os started H enc F)
theorem walOpens_plain (f : FuncId) (fn : Func) (hf : Tryz.pinned.checked.prog.funcNamed Rows.walOpensRow.func = some f) (hfn : Tryz.pinned.checked.prog.funcs[f]? = some fn) :
    false = Tryz.pinned.checked.prog.looks [] ∧ ∀ (j : Nat) t, fn.params[j]? = some t → Tryz.pinned.checked.prog.wantsStandIn t = false := by
  obtain rfl : f = 3 := Option.some.inj ((show Tryz.prog.funcNamed Rows.walOpensRow.func = some 3 by kernel_rfl).symm.trans hf) |>.symm
  obtain rfl : fn = Tryz.f3 := (Option.some.inj (Tryz.func3.symm.trans hfn)).symm
  refine ⟨by kernel_rfl, fun j t ht => ?_⟩
  rw [Tryz.params3] at ht
  have ht : t = 22 ∨ t = 3 ∨ t = 3 := by simpa using Array.mem_of_getElem? ht
  rcases ht with rfl | rfl | rfl
  · exact (show Tryz.prog.wantsStandIn 22 = false by kernel_rfl)
  · exact (show Tryz.prog.wantsStandIn 3 = false by kernel_rfl)
  · exact (show Tryz.prog.wantsStandIn 3 = false by kernel_rfl)
theorem walOpens_card : Rows.WalOpensCardSaid :=
  Claim7.holds_tied_plain_at .later [] _ _ _ _ walOpens_said (fun _ h => by cases h) (by kernel_rfl) (fun _ h => by cases h) walOpens_row_tie rfl ⟨rfl, rfl⟩ (by kernel_rfl) rfl walOpens_plain (by kernel_rfl)
end Go.Proofs.YtobnnhlgdoddgaaGreatDoor
