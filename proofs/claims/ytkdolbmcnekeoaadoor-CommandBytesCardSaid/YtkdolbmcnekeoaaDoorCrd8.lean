/-
  The law CommandBytes: for every command it returns true.
  A law's arguments, opened: bytes, lists of writes. What is read of them, by the reading that the row gives.
  Layer 29's command as an argument, opened.
  The law CommandBytes holds: for every command it returns true, and what is handed reads as it did.
-/
import Derived.Test.YtkdolbmcnekeoaaDoorCrd7
import Derived.Test.YtkdolbmcnekeoaaDoorCrd3
import Derived.Deep.SlicePairs
import Derived.Carry
import Derived.Test.YtkdolbmcnekeoaaDoorCrd6
import Derived.OpenShut
namespace Cr
open Go Go.Proofs
set_option maxRecDepth 100000
set_option maxHeartbeats 8000000
attribute [local irreducible] Calls

theorem cut_small (c : Cmd) : c.cut.word.length ≤ 4200 ∧ c.cut.arch.length ≤ 4200 ∧ ∀ o, (c.cut.s o).length ≤ 4200 := by
  refine ⟨by simp [Cmd.cut]; omega, by simp [Cmd.cut]; omega, fun o => ?_⟩
  unfold Cmd.s
  split <;> simp [Cmd.cut] <;> omega
theorem small_of {c : Cmd} (h : c.word.length ≤ 4200 ∧ c.arch.length ≤ 4200 ∧ ∀ o, (c.s o).length ≤ 4200) : c.small := ⟨by have := h.1; omega, by have := h.2.1; omega, fun o => by have := h.2.2 o; omega⟩
theorem encs_len : ∀ {l : List Leaf}, (∀ y ∈ l, (encL y).length ≤ 4230) → (encs l).length ≤ l.length * 4230
  | [], _ => Nat.le_refl _
  | y :: l, h => by
    have h1 := h y (List.mem_cons_self ..)
    have h2 := encs_len fun z hz => h z (List.mem_cons_of_mem _ hz)
    rw [encs_cons, List.length_append, List.length_cons]; omega
theorem leaf_len {c : Cmd} (h : c.word.length ≤ 4200 ∧ c.arch.length ≤ 4200 ∧ ∀ o, (c.s o).length ≤ 4200) (hi : c.ints) : (encT c.leaves).length ≤ 65536 := by
  have h5 := leaves_len c
  have hfit := leaves_fit (small_of h) hi
  have key : ∀ y ∈ c.leaves, (encL y).length ≤ 4230 := fun y hy => by
    have h1 := encL_len (hfit y hy)
    unfold Cmd.leaves at hy
    rcases List.mem_cons.1 hy with rfl | hy
    · simp only at h1; have := h.1; omega
    · obtain ⟨p, _, rfl⟩ := List.mem_map.1 hy
      cases p with
      | t o => simp only [Cmd.leaf] at h1 ⊢; have := h.2.2 o; omega
      | b => simp only [Cmd.leaf] at h1 ⊢; have := h.2.1; omega
      | n o => simp only [Cmd.leaf] at h1 ⊢; omega
  have := encs_len key
  unfold encT
  simp; omega
theorem cbytes_ (c : Cmd) (a : Option Addr) (q : Nat) (W : World) (hq : c.arch.length ≤ q) (hb0 : Ro W noF (bytes a c.arch)) (hi0 : c.ints) (hG : Lg W noF) :
    Calls Tryd.prog 3 #[.agg (c.cells (.slice a c.arch.length q)).toArray] W (Ret fun v w => v = .bool true ∧ St W noF [] w) := by
  have hS := St.start W
  obtain ⟨x, hx⟩ : ∃ x, x = c.cut := ⟨_, rfl⟩
  have hsm := cut_small c
  have hi : x.ints := fun o => by
    have := hi0 o
    rw [hx]
    exact this
  have hTo := fun W h => to_ c a q W h hq
  rw [← hx] at hsm hTo
  have hsmall := small_of hsm
  have hlen := leaf_len hsm hi
  have hK := fun W h => known29_ W h
  clear hx hsm
  refine calls_C Tryd.func3 rfl Tryd.ntmps3 rfl ?_
  repeat (first | (refine G_id ?_; first | refine G_nil ?_ | refine G_plain rfl rfl ?_) | (refine X_id ?_; first | refine X_yl (Yl_assign rfl rfl) rfl rfl ?_ | refine X_yl (Yl_loadN rfl rfl hS.cellsN) rfl rfl ?_ | refine X_box rfl rfl rfl rfl hS (fun _ _ hS _ => ?_)) | (refine C_id ?_; first | refine C_seq ?_ | refine C_region ?_) | (refine E_id ?_; first | refine E_code ?_))
  refine X_callg _ rfl rfl rfl rfl rfl (hTo _ (hb0.rd hS).ro) ?_
  rintro _ w ⟨b, q1, rfl, hq1, hS'⟩
  replace hS := hS.plus hS'
  clear hS' hTo
  have hb := (hS.rd (r := bytes b x.arch) (by simp)).ro
  have hO := fun W => of_m x b x.arch.length q1 W
  have hR := fun W => refcheck_ x b q1 W
  have hC := fun W h1 => check_m x b q1 W h1 hsmall
  have hM := fun W h1 h2 => same_m x x b b q1 q1 W h1 h2
  simp only [decide_true] at hM
  by_cases hok : chk x = 0
  case neg =>
    have hE := fun W h1 => encode_bad x b q1 W h1 hsmall hok
    generalize chk x = n at hE hC hR hok
    repeat (first | (refine G_id ?_; first | refine G_nil ?_ | refine G_plain rfl rfl ?_ | refine G_yes rfl rfl rfl rfl ?_) | (refine X_id ?_; first | (refine X_callq 13 rfl rfl rfl rfl rfl hS (hK _ (hG.at_ hS)) ?_; rintro _ _ rfl hS) | (refine X_callq 9 rfl rfl rfl rfl rfl hS (hE _ (hS.rd (r := bytes b x.arch) (by simp)).ro) ?_; rintro _ _ rfl hS) | (refine X_callq 11 rfl rfl rfl rfl rfl hS (hC _ (hS.rd (r := bytes b x.arch) (by simp)).ro) ?_; rintro _ _ rfl hS) | (refine X_callq 12 rfl rfl rfl rfl rfl hS (hM _ (hS.rd (r := bytes b x.arch) (by simp)).ro (hS.rd (r := bytes b x.arch) (by simp)).ro) ?_; rintro _ _ rfl hS) | (refine X_callq 8 rfl rfl rfl rfl rfl hS (hO _) ?_; rintro _ _ rfl hS) | (refine X_callq 10 rfl rfl rfl rfl rfl hS (hR _) ?_; rintro _ _ rfl hS) | refine X_yl (Yl_move rfl rfl) rfl rfl ?_ | refine X_yl (Yl_assign rfl rfl) rfl rfl ?_ | refine X_yl (Yl_extract rfl rfl) rfl rfl ?_ | refine X_yl (Yl_pick_t rfl rfl rfl) rfl rfl ?_ | refine X_yl (Yl_pick_f rfl rfl rfl) rfl rfl ?_ | refine X_yl (Yl_not_t rfl rfl) rfl rfl ?_ | refine X_yl (Yl_len rfl rfl) rfl rfl ?_ | refine X_yl (Yl_eql_t rfl rfl rfl (by omega)) rfl rfl ?_ | refine X_yl (Yl_neq_t rfl rfl rfl (by omega)) rfl rfl ?_ | refine X_yl (Yl_neq_f rfl rfl rfl (by omega)) rfl rfl ?_ | refine X_yl (Yl_loadN rfl rfl hS.cellsN) rfl rfl ?_ | refine X_store rfl rfl rfl rfl hS (fun _ hS _ => ?_) | refine X_alloc rfl rfl rfl hS (fun _ _ hS _ => ?_)) | (refine C_id ?_; first | refine C_seq ?_ | refine C_region ?_ | refine C_ret ?_ | refine C_skip ?_ | refine C_cond_t rfl ?_ | refine C_cond_f rfl ?_) | (refine E_id ?_; first | refine E_code ?_ | refine E_then_ret ?_ | refine E_ret1 rfl (Rv_tmp rfl) (Ret.mk ?_)))
    exact ⟨rfl, hS.drops⟩
  case pos =>
    have hE := fun W h1 h2 => encode_ok x b q1 W h1 hsmall hi hok hlen h2
    rw [hok] at hC hR
    obtain ⟨k, _, hk, hown⟩ := chk_own hok
    have hdec : (dec (encT x.leaves)).bind readT = some x := by
      rw [dec_enc (leaves_fit hsmall hi)]
      show readC x.leaves = some x
      rw [readC_leaves hk, ← hown]
    have hRE := fun W h1 => refenc_ x b q1 W h1 hsmall hi
    obtain ⟨s, hs⟩ : ∃ s, s = encT x.leaves := ⟨_, rfl⟩
    rw [← hs] at hE hdec hRE hlen
    have hD := fun (b2 : Option Addr) (q2 : Nat) (h : s.length ≤ q2) => decode_m b2 s q2 h hlen
    rw [hdec] at hD
    have hsame := fun (b2 b3 : Option Addr) (q2 q3 : Nat) => same_ b2 b3 q2 q3 s s
    simp only [decide_true] at hsame
    repeat (first | (refine G_id ?_; first | refine G_nil ?_ | refine G_plain rfl rfl ?_) | (refine X_id ?_; first | (refine X_callq 8 rfl rfl rfl rfl rfl hS (hO _) ?_; rintro _ _ rfl hS) | refine X_yl (Yl_loadN rfl rfl hS.cellsN) rfl rfl ?_ | refine X_store rfl rfl rfl rfl hS (fun _ hS _ => ?_) | refine X_alloc rfl rfl rfl hS (fun _ _ hS _ => ?_)) | (refine C_id ?_; first | refine C_seq ?_ | refine C_region ?_) | (refine E_id ?_; first | refine E_code ?_))
    refine X_callg _ rfl rfl rfl rfl rfl (hE _ (hS.rd (r := bytes b x.arch) (by simp)).ro (hG.at_ hS)) ?_
    rintro _ w ⟨b2, q2, rfl, hq2, hS'⟩
    replace hS := hS.plus hS'
    clear hS' hE
    have hyo : Rd w (bytes b2 s) := (hS.rd (List.mem_cons_self ..)).own_row
    have hyr := hyo.ro
    replace hS := hS.head (r' := bytes b2 s) (fun _ h => h.row)
    repeat (first | (refine G_id ?_; first | refine G_nil ?_ | refine G_plain rfl rfl ?_ | refine G_yes rfl rfl rfl rfl ?_) | (refine X_id ?_; first | (refine X_callq 11 rfl rfl rfl rfl rfl hS (hC _ (hS.rd (r := bytes b x.arch) (by simp)).ro) ?_; rintro _ _ rfl hS) | (refine X_callq 12 rfl rfl rfl rfl rfl hS (hM _ (hS.rd (r := bytes b x.arch) (by simp)).ro (hS.rd (r := bytes b x.arch) (by simp)).ro) ?_; rintro _ _ rfl hS) | (refine X_callq 10 rfl rfl rfl rfl rfl hS (hR _) ?_; rintro _ _ rfl hS) | refine X_yl (Yl_move rfl rfl) rfl rfl ?_ | refine X_yl (Yl_assign rfl rfl) rfl rfl ?_ | refine X_yl (Yl_extract rfl rfl) rfl rfl ?_ | refine X_yl (Yl_pick_f rfl rfl rfl) rfl rfl ?_ | refine X_yl (Yl_not_t rfl rfl) rfl rfl ?_ | refine X_yl (Yl_neq_f rfl rfl rfl (by omega)) rfl rfl ?_ | refine X_yl (Yl_loadN rfl rfl hS.cellsN) rfl rfl ?_) | (refine C_id ?_; first | refine C_seq ?_ | refine C_region ?_ | refine C_skip ?_ | refine C_cond_f rfl ?_) | (refine E_id ?_; first | refine E_code ?_))
    refine X_callg _ rfl rfl rfl rfl rfl (hD b2 q2 hq2 _ (hG.at_ hS) (hS.rd (r := bytes b2 s) (by simp)).ro) ?_
    rintro _ w ⟨b3, q3, rfl, hS'⟩
    replace hS := hS.plus hS'
    clear hS' hD
    have hM2 := fun W h1 h2 => same_m x x b3 b q3 q1 W h1 h2
    simp only [decide_true] at hM2
    repeat (first | (refine G_id ?_; first | refine G_nil ?_ | refine G_plain rfl rfl ?_ | refine G_yes rfl rfl rfl rfl ?_) | (refine X_id ?_; first | (refine X_callq 13 rfl rfl rfl rfl rfl hS (hK _ (hG.at_ hS)) ?_; rintro _ _ rfl hS) | refine X_yl (Yl_move rfl rfl) rfl rfl ?_ | refine X_yl (Yl_assign rfl rfl) rfl rfl ?_ | refine X_yl (Yl_extract rfl rfl) rfl rfl ?_ | refine X_yl (Yl_loadN rfl rfl hS.cellsN) rfl rfl ?_ | refine X_store rfl rfl rfl rfl hS (fun _ hS _ => ?_) | refine X_alloc rfl rfl rfl hS (fun _ _ hS _ => ?_)) | (refine C_id ?_; first | refine C_seq ?_ | refine C_region ?_) | (refine E_id ?_; first | refine E_code ?_))
    refine X_callg _ rfl rfl rfl rfl rfl (hRE _ (hS.rd (r := bytes b x.arch) (by simp)).ro) ?_
    rintro _ w ⟨b4, q4, rfl, hS'⟩
    replace hS := hS.plus hS'
    clear hS' hRE
    repeat (first | (refine G_id ?_; first | refine G_nil ?_ | refine G_plain rfl rfl ?_ | refine G_yes rfl rfl rfl rfl ?_) | (refine X_id ?_; first | (refine X_callq 15 rfl rfl rfl rfl rfl hS (hsame b2 b4 q2 q4 _ (hS.rd (r := bytes b2 s) (by simp)) (hS.rd (r := bytes b4 s) (by simp)) (by omega)) ?_; rintro _ _ rfl hS) | (refine X_callq 12 rfl rfl rfl rfl rfl hS (hM2 _ (hS.rd (r := bytes b3 x.arch) (by simp)).ro (hS.rd (r := bytes b x.arch) (by simp)).ro) ?_; rintro _ _ rfl hS) | refine X_yl (Yl_move rfl rfl) rfl rfl ?_ | refine X_yl (Yl_assign rfl rfl) rfl rfl ?_ | refine X_yl (Yl_pick_t rfl rfl rfl) rfl rfl ?_ | refine X_yl (Yl_eql_t rfl rfl rfl (by omega)) rfl rfl ?_ | refine X_yl (Yl_loadN rfl rfl hS.cellsN) rfl rfl ?_) | (refine C_id ?_; first | refine C_ret ?_) | (refine E_id ?_; first | refine E_code ?_ | refine E_ret1 rfl (Rv_tmp rfl) (Ret.mk ?_)))
    exact ⟨rfl, hS.drops⟩
end Cr
namespace Cr
open Go Go.Proofs Go.ChangeShapes Go.WideShapes Go.Deep
section
variable {H : Type} {enc : TypeId × Value → H} {P : Program} {w : World} {base : Nat} {sp : Nat → Bool} {held : Bool}
theorem Rd.ofCellsA {a : Addr} {l : List Value} (h : ∀ i v, l[i]? = some v → w.cell? (a.add i) = some v) : Rd w (row (some a) l) := by
  cases l with
  | nil => exact Rd_nil w _
  | cons x r =>
    have h0 := h 0 x rfl
    have hsp : a.spot = none := by
      have := World.cell?_spot h0
      simpa [Addr.add] using this
    obtain ⟨b, off, spot⟩ := a
    obtain rfl : spot = none := hsp
    unfold World.cell? at h0
    split at h0
    · rename_i c t fz hb
      have hb : w.heap[b]? = some (.cells c t fz) := by simpa [Addr.add] using hb
      refine ⟨single b (.cells c t fz), .inr ⟨b, off, c, t, fz, rfl, rfl, fun i v hv => ?_⟩, fun k o e => ?_⟩
      · have := h i v hv
        have e : (⟨b, off, none⟩ : Addr).add i = ⟨b, off + i, none⟩ := by
          unfold Addr.add; split
          · rename_i h; subst h; rfl
          · rfl
        rw [e, cell_of_row w b (off + i) c t fz hb] at this
        exact this
      · obtain ⟨rfl, rfl⟩ := of_single e
        exact hb
    · cases h0
theorem u8_back {n : Int} (h : (Lit.int .u8 n).wf = true) : Value.int .u8 n = .int .u8 ((UInt8.ofNat n.toNat).toNat : Int) := by
  simp only [Lit.wf, Bool.and_eq_true, decide_eq_true_eq] at h
  have h1 : 0 ≤ n := h.1
  have h2 : n ≤ 255 := h.2
  congr 1
  have : (UInt8.ofNat n.toNat).toNat = n.toNat := by rw [UInt8.toNat_ofNat']; omega
  rw [this]; omega
/-- A slice of bytes. -/
theorem open_bytes {t e : TypeId} {fuel : Nat} {cs : List Value} {x : DataW H × List MemPlace} (ht : P.underlying t = some (.slice e)) (he : P.underlying e = some (.int .u8)) (hc : P.cellsOf e = 1)
    (h : DataW.trod enc P w base sp held fuel t cs = some x) : ∃ a s c, cs = [.slice a s.length c] ∧ s.length ≤ c ∧ c ≤ maxLen ∧ Rd w (bytes a s) := by
  rcases open_ints ht he hc h with ⟨rfl, _⟩ | ⟨a, len, cap, zs, rfl, _, hl, hm, hz, _, hcell, hwf⟩
  · exact ⟨none, [], 0, rfl, Nat.le_refl _, Nat.zero_le _, Rd_nil w _⟩
  · have hlz : len ≤ zs.length := by rw [hz]; split <;> omega
    have e1 : bv ((zs.take len).map fun n => UInt8.ofNat n.toNat) = (zs.take len).map fun n => Value.int .u8 n := by
      unfold bv
      rw [List.map_map]
      refine List.map_congr_left fun n hn => ?_
      exact (u8_back (hwf n (List.mem_of_mem_take hn))).symm
    have e2 : ((zs.take len).map fun n => UInt8.ofNat n.toNat).length = len := by simp; omega
    refine ⟨some a, (zs.take len).map fun n => UInt8.ofNat n.toNat, cap, by rw [e2], by rw [e2]; exact hl, hm, ?_⟩
    unfold bytes
    rw [e1]
    refine Rd.ofCellsA fun i v hv => ?_
    rw [List.getElem?_map, List.getElem?_take] at hv
    split at hv
    · rename_i hi
      rw [hcell i (by omega)]
      have h3 : zs[i]? = some zs[i] := List.getElem?_eq_getElem (by omega)
      rw [h3] at hv
      rw [List.getD_eq_getElem?_getD, h3]
      exact hv
    · cases hv
end
end Cr
namespace Cr
open Go Go.Proofs Go.ChangeShapes Go.WideShapes
set_option maxRecDepth 100000
section
variable {H : Type} {enc : TypeId × Value → H} {w : World} {base : Nat} {sp : Nat → Bool} {held : Bool}
theorem list14 {cs : List Value} (h : cs.length = 14) : ∃ a0 a1 a2 a3 a4 a5 a6 a7 a8 a9 aa ab ac ad, cs = [a0, a1, a2, a3, a4, a5, a6, a7, a8, a9, aa, ab, ac, ad] := by
  match cs, h with
  | [a0, a1, a2, a3, a4, a5, a6, a7, a8, a9, aa, ab, ac, ad], _ => exact ⟨_, _, _, _, _, _, _, _, _, _, _, _, _, _, rfl⟩
theorem one_str {n : Nat} {v : Value} {y : DataW H × List MemPlace} (h : DataW.trod enc Tryd.prog w base sp held n 9 [v] = some y) : ∃ s, v = .string (str s) := by
  obtain ⟨s, hs, _⟩ := DataW.trod_string Tryd.underlying9 h
  obtain ⟨l, rfl⟩ := str_of s
  exact ⟨l, by simpa using hs⟩
theorem one_int {n : Nat} {v : Value} {y : DataW H × List MemPlace} (h : DataW.trod enc Tryd.prog w base sp held n 3 [v] = some y) : ∃ k : Int, v = .int .i64 k ∧ -9223372036854775808 ≤ k ∧ k ≤ 9223372036854775807 := by
  obtain ⟨k, hk, _, hw⟩ := DataW.trod_int Tryd.underlying3 h
  simp only [Lit.wf, Bool.and_eq_true, decide_eq_true_eq] at hw
  exact ⟨k, by simpa using hk, hw.1, hw.2⟩
theorem cells_str : Tryd.prog.cellsOf 9 = 1 := by kernel_rfl
theorem cells_int : Tryd.prog.cellsOf 3 = 1 := by kernel_rfl
theorem cells_sl : Tryd.prog.cellsOf 22 = 1 := by kernel_rfl
theorem cells_s2 : Tryd.prog.cellsOf 23 = 2 := by kernel_rfl
theorem cells_s3 : Tryd.prog.cellsOf 24 = 3 := by kernel_rfl
theorem cells_rc : Tryd.prog.cellsOf 26 = 14 := by kernel_rfl
theorem two_str {n : Nat} {u v : Value} {y : DataW H × List MemPlace} (h : DataW.trod enc Tryd.prog w base sp held n 23 [u, v] = some y) : ∃ s t, u = .string (str s) ∧ v = .string (str t) := by
  obtain ⟨xs, m, _, _, _, hl, hx⟩ := DataW.trod_array Tryd.underlying23 h
  have h0 := hx 0 (by omega)
  have h1 := hx 1 (by omega)
  rw [cells_str, List.getElem?_eq_getElem (by omega)] at h0 h1
  simp only [Nat.zero_mul, List.drop_zero, Nat.one_mul, List.drop_succ_cons, List.take_succ_cons, List.take_zero] at h0 h1
  obtain ⟨s, hs⟩ := one_str h0
  obtain ⟨t, ht⟩ := one_str h1
  exact ⟨s, t, hs, ht⟩
theorem three_str {n : Nat} {u v z : Value} {y : DataW H × List MemPlace} (h : DataW.trod enc Tryd.prog w base sp held n 24 [u, v, z] = some y) : ∃ s t r, u = .string (str s) ∧ v = .string (str t) ∧ z = .string (str r) := by
  obtain ⟨xs, m, _, _, _, hl, hx⟩ := DataW.trod_array Tryd.underlying24 h
  have h0 := hx 0 (by omega)
  have h1 := hx 1 (by omega)
  have h2 := hx 2 (by omega)
  rw [cells_str, List.getElem?_eq_getElem (by omega)] at h0 h1 h2
  simp only [Nat.zero_mul, List.drop_zero, Nat.one_mul, List.drop_succ_cons, List.take_succ_cons, List.take_zero, Nat.reduceMul] at h0 h1 h2
  obtain ⟨s, hs⟩ := one_str h0
  obtain ⟨t, ht⟩ := one_str h1
  obtain ⟨r, hr⟩ := one_str h2
  exact ⟨s, t, r, hs, ht, hr⟩
theorem open_cmd {fuel : Nat} {cs : List Value} {x : DataW H × List MemPlace} (h : DataW.trod enc Tryd.prog w base sp held fuel 26 cs = some x) :
    ∃ (c : Cmd) (a : Option Addr) (q : Nat), cs = c.cells (.slice a c.arch.length q) ∧ c.arch.length ≤ q ∧ Rd w (bytes a c.arch) ∧ c.ints := by
  obtain ⟨xs, n, _, _, hl, hxl, hf⟩ := DataW.trod_struct Tryd.underlying26 h
  rw [cells_rc] at hl
  have hxl : xs.length = 10 := hxl
  obtain ⟨a0, a1, a2, a3, a4, a5, a6, a7, a8, a9, aa, ab, ac, ad, rfl⟩ := list14 hl
  have f0 : DataW.trod enc Tryd.prog w base sp held n 9 [a0] = xs[0]? := by
    have h : DataW.trod enc Tryd.prog w base sp held n 9 ((List.drop 0 [a0, a1, a2, a3, a4, a5, a6, a7, a8, a9, aa, ab, ac, ad]).take (Tryd.prog.cellsOf 9)) = xs[0]? := by
      have h0 := hf 0 _ rfl
      exact h0
    rw [cells_str] at h
    exact h
  have f1 : DataW.trod enc Tryd.prog w base sp held n 9 [a1] = xs[1]? := by
    have h : DataW.trod enc Tryd.prog w base sp held n 9 ((List.drop 1 [a0, a1, a2, a3, a4, a5, a6, a7, a8, a9, aa, ab, ac, ad]).take (Tryd.prog.cellsOf 9)) = xs[1]? := by
      have h0 := hf 1 _ rfl
      exact h0
    rw [cells_str] at h
    exact h
  have f2 : DataW.trod enc Tryd.prog w base sp held n 9 [a2] = xs[2]? := by
    have h : DataW.trod enc Tryd.prog w base sp held n 9 ((List.drop 2 [a0, a1, a2, a3, a4, a5, a6, a7, a8, a9, aa, ab, ac, ad]).take (Tryd.prog.cellsOf 9)) = xs[2]? := by
      have h0 := hf 2 _ rfl
      exact h0
    rw [cells_str] at h
    exact h
  have f3 : DataW.trod enc Tryd.prog w base sp held n 22 [a3] = xs[3]? := by
    have h : DataW.trod enc Tryd.prog w base sp held n 22 ((List.drop 3 [a0, a1, a2, a3, a4, a5, a6, a7, a8, a9, aa, ab, ac, ad]).take (Tryd.prog.cellsOf 22)) = xs[3]? := by
      have h0 := hf 3 _ rfl
      exact h0
    rw [cells_sl] at h
    exact h
  have f4 : DataW.trod enc Tryd.prog w base sp held n 23 [a4, a5] = xs[4]? := by
    have h : DataW.trod enc Tryd.prog w base sp held n 23 ((List.drop 4 [a0, a1, a2, a3, a4, a5, a6, a7, a8, a9, aa, ab, ac, ad]).take (Tryd.prog.cellsOf 23)) = xs[4]? := by
      have h0 := hf 4 _ rfl
      exact h0
    rw [cells_s2] at h
    exact h
  have f5 : DataW.trod enc Tryd.prog w base sp held n 23 [a6, a7] = xs[5]? := by
    have h : DataW.trod enc Tryd.prog w base sp held n 23 ((List.drop 6 [a0, a1, a2, a3, a4, a5, a6, a7, a8, a9, aa, ab, ac, ad]).take (Tryd.prog.cellsOf 23)) = xs[5]? := by
      have h0 := hf 5 _ rfl
      exact h0
    rw [cells_s2] at h
    exact h
  have f6 : DataW.trod enc Tryd.prog w base sp held n 24 [a8, a9, aa] = xs[6]? := by
    have h : DataW.trod enc Tryd.prog w base sp held n 24 ((List.drop 8 [a0, a1, a2, a3, a4, a5, a6, a7, a8, a9, aa, ab, ac, ad]).take (Tryd.prog.cellsOf 24)) = xs[6]? := by
      have h0 := hf 6 _ rfl
      exact h0
    rw [cells_s3] at h
    exact h
  have f7 : DataW.trod enc Tryd.prog w base sp held n 3 [ab] = xs[7]? := by
    have h : DataW.trod enc Tryd.prog w base sp held n 3 ((List.drop 11 [a0, a1, a2, a3, a4, a5, a6, a7, a8, a9, aa, ab, ac, ad]).take (Tryd.prog.cellsOf 3)) = xs[7]? := by
      have h0 := hf 7 _ rfl
      exact h0
    rw [cells_int] at h
    exact h
  have f8 : DataW.trod enc Tryd.prog w base sp held n 3 [ac] = xs[8]? := by
    have h : DataW.trod enc Tryd.prog w base sp held n 3 ((List.drop 12 [a0, a1, a2, a3, a4, a5, a6, a7, a8, a9, aa, ab, ac, ad]).take (Tryd.prog.cellsOf 3)) = xs[8]? := by
      have h0 := hf 8 _ rfl
      exact h0
    rw [cells_int] at h
    exact h
  have f9 : DataW.trod enc Tryd.prog w base sp held n 3 [ad] = xs[9]? := by
    have h : DataW.trod enc Tryd.prog w base sp held n 3 ((List.drop 13 [a0, a1, a2, a3, a4, a5, a6, a7, a8, a9, aa, ab, ac, ad]).take (Tryd.prog.cellsOf 3)) = xs[9]? := by
      have h0 := hf 9 _ rfl
      exact h0
    rw [cells_int] at h
    exact h
  rw [List.getElem?_eq_getElem (by omega)] at f0 f1 f2 f3 f4 f5 f6 f7 f8 f9
  obtain ⟨s0, rfl⟩ := one_str f0
  obtain ⟨s1, rfl⟩ := one_str f1
  obtain ⟨s2, rfl⟩ := one_str f2
  obtain ⟨b, s3, q, hsl, hq, _, hb⟩ := open_bytes Tryd.underlying22 Tryd.underlying5 (by kernel_rfl) f3
  obtain rfl : a3 = .slice b s3.length q := by simpa using hsl
  obtain ⟨s4, s5, rfl, rfl⟩ := two_str f4
  obtain ⟨s6, s7, rfl, rfl⟩ := two_str f5
  obtain ⟨s8, s9, sa, rfl, rfl, rfl⟩ := three_str f6
  obtain ⟨n0, rfl, _⟩ := one_int f7
  obtain ⟨n1, rfl, h1⟩ := one_int f8
  obtain ⟨n2, rfl, h2⟩ := one_int f9
  refine ⟨⟨s0, s1, s2, s3, s4, s5, s6, s7, s8, s9, sa, n0, n1, n2⟩, b, q, rfl, hq, hb, fun o => ?_⟩
  unfold Cmd.n
  split
  · exact h1
  · exact h2
  · omega
end
end Cr
namespace Go.Proofs.YtkdolbmcnekeoaaDoor
open Go.ChangeShapes Go.WideShapes Go.ChangeAt Go.RowKit
set_option maxRecDepth 100000

abbrev zCmd : Value := .agg #[.string (Cr.str []), .string (Cr.str []), .string (Cr.str []), .slice none 0 0, .string (Cr.str []), .string (Cr.str []), .string (Cr.str []), .string (Cr.str []), .string (Cr.str []), .string (Cr.str []), .string (Cr.str []), .int .i64 0, .int .i64 0, .int .i64 0]
theorem commandBytes_contract (H : Type) (enc : TypeId × Value → H) (W : World) (base : Nat) (args : Array Value) (ds gs : List (DataW H)) (before : List MemPlace)
    (hval : ∀ (j : Nat) t v, Tryd.f3.params[j]? = some t → args[j]? = some v → Value.okWide Tryd.prog W .any base t v)
    (hW : DataW.Whole enc Tryd.prog Tryd.f3.params.toList Rows.commandBytesSpec.vars false W args.toList ds gs before) (hL : laidMetH Tryd.prog Rows.commandBytesRow.laid W) :
    Calls Tryd.prog 3 args W fun e W' => ∃ v, e = .returned v ∧ Rows.commandBytesSpec.post enc Tryd.prog Tryd.f3 false true false false W args v W' := by
  have hW' := hW
  obtain ⟨p, q, hA0, hV, rfl, hfz, hnd⟩ := hW
  have hA : DataW.TrodAll enc Tryd.prog W 0 (fun _ => true) true Tryd.f3.params.toList args.toList ds p := hA0
  rw [Tryd.params3] at hA hval
  obtain ⟨rfl, rfl⟩ := trodVars_none hV
  have hAk := hA
  obtain ⟨v0, vs0, d0, ds0, p0, q0, hargs, rfl, rfl, h0, r0⟩ := trodAll_cons hA
  obtain ⟨rfl, rfl, rfl⟩ := trodAll_nil r0
  obtain rfl : args = #[v0] := by cases args; simp_all
  obtain ⟨cs, rfl, _⟩ := okWide_struct Tryd.underlying26 (hval 0 26 v0 rfl rfl)
  obtain ⟨fuel, hf⟩ := h0
  obtain ⟨c, a, q, e, hq, hb, hi⟩ := Cr.open_cmd hf
  have e : cs.toList = c.cells (.slice a c.arch.length q) := e
  obtain rfl : cs = (c.cells (.slice a c.arch.length q)).toArray := by rw [← e]
  clear hA0
  simp only [List.append_nil] at hW' hAk
  refine (Cr.cbytes_ c a q W hq hb.ro hi (lg_of_laid hL)).mono fun e W' ⟨v, he, hv, hS⟩ => ?_
  subst he hv
  have hb := hS.toBelow
  exact ⟨_, rfl, post_of_law (pa := p0) (pv := []) hW' (fun _ _ _ => trodAll_cons_mk (shut_bool Tryd.underlying4 _) trodAll_mk0)
    (fun sp hsp => trodAll_stays lawLaid hb (fun t ht => by
      have ht : t ∈ [26] := ht
      simp only [List.mem_cons, List.not_mem_nil, or_false] at ht
      rcases ht with rfl
      exact ⟨by kernel_rfl, of_decide_eq_true (by kernel_rfl)⟩) hAk hW'.lt hsp) (fun _ _ => rfl) (by simp)
    (hb.frame _) (fun _ h => hb.frozen h) (ok_one (by kernel_rfl) rfl (okWide_bool_mk Tryd.underlying4 _))⟩
theorem commandBytes_laid (os : Os) : laidMet Tryd.prog Rows.commandBytesRow.laid ((lawWorld os).forCall (fun _ _ => 0) ⟨#[], #[zCmd], []⟩).memory :=
  laidMet_of_run' 8 (by kernel_rfl) (by kernel_rfl)
theorem commandBytes_reads (os : Os) {H : Type} (enc : TypeId × Value → H) : ∃ places, DataW.whole enc Tryd.prog ((lawWorld os).forCall (fun _ _ => 0) ⟨#[], #[zCmd], []⟩).memory Tryd.f3.params.toList Rows.commandBytesSpec.vars false #[zCmd].toList 8 = some ([.agg [.lit (.string []), .lit (.string []), .lit (.string []), .nil, .agg [.lit (.string []), .lit (.string [])], .agg [.lit (.string []), .lit (.string [])], .agg [.lit (.string []), .lit (.string []), .lit (.string [])], .lit (.int .i64 0), .lit (.int .i64 0), .lit (.int .i64 0)]], [], places) :=
  ⟨[], by kernel_rfl⟩
theorem commandBytes_lifted (os : Os) (started : os.Started) (H : Type) (enc : TypeId × Value → H) (F : Stop.Interp) :
    ReturnsInHanded {} Tryd.checked os 3 .any ((OpenSpec.ofChange Rows.commandBytesSpec).preRow enc Tryd.prog Tryd.f3 Rows.commandBytesRow.domain false Rows.commandBytesRow.laid) (((OpenSpec.ofChange Rows.commandBytesSpec).at F).post enc Tryd.prog Tryd.f3 false true false false) := by
  obtain ⟨places, hx⟩ := commandBytes_reads os enc
  refine returnsInHanded_of_row (C := Tryd.checked) (s := OpenSpec.ofChange Rows.commandBytesSpec) lawOwn started (by kernel_rfl) Tryd.func3
    (witness_row_at (enc := enc) (C := Tryd.checked) false (lawWorld os) #[zCmd] rfl (by kernel_rfl) (by kernel_rfl) (by kernel_rfl)
      (OpenSpec.preRow_of_cond 8 hx (by kernel_rfl) (fun k hk => by cases hk) (by kernel_rfl) (commandBytes_laid os))) ?_
  intro W base args ds gs before hval hW _ _ _ hL _ _
  exact commandBytes_contract H enc W base args ds gs before hval hW hL
theorem commandBytes_said : Rows.CommandBytesSaid :=
  OpenClaim.holds_of_cond 3 Tryd.f3 rfl rfl rfl rfl rfl rfl rfl ⟨rfl, rfl, rfl, rfl, rfl⟩ rfl rfl rfl rfl rfl (by kernel_rfl) Tryd.func3 (by kernel_rfl)
    (of_decide_eq_true (by kernel_rfl)) (by unfold Func.isWrapper; first | (rw [if_pos (by decide +kernel)]; kernel_rfl) | (rw [if_neg (by decide +kernel)]; exact ⟨rfl, rfl⟩))
    (fun os started H enc _ F => by rw [OpenClaim.pre_eq_preRow]; exact commandBytes_lifted os started H enc F)
theorem commandBytes_plain (f : FuncId) (fn : Func) (hf : Tryd.pinned.checked.prog.funcNamed Rows.commandBytesRow.func = some f) (hfn : Tryd.pinned.checked.prog.funcs[f]? = some fn) :
    true = Tryd.pinned.checked.prog.looks [] ∧ ∀ (j : Nat) t, fn.params[j]? = some t → Tryd.pinned.checked.prog.wantsStandIn t = false := by
  obtain rfl : f = 3 := Option.some.inj ((show Tryd.prog.funcNamed Rows.commandBytesRow.func = some 3 by kernel_rfl).symm.trans hf) |>.symm
  obtain rfl : fn = Tryd.f3 := (Option.some.inj (Tryd.func3.symm.trans hfn)).symm
  refine ⟨by kernel_rfl, fun j t ht => ?_⟩
  rw [Tryd.params3] at ht
  have ht : t = 26 := by simpa using Array.mem_of_getElem? ht
  rcases ht with rfl
  exact (show Tryd.prog.wantsStandIn 26 = false by kernel_rfl)
theorem commandBytes_card : Rows.CommandBytesCardSaid :=
  Claim7.holds_tied_plain_at .later [] _ _ _ _ commandBytes_said (fun _ h => by cases h) (by kernel_rfl) (fun _ h => by cases h) commandBytes_row_tie rfl ⟨rfl, rfl⟩ (by kernel_rfl) rfl commandBytes_plain (by kernel_rfl)
end Go.Proofs.YtkdolbmcnekeoaaDoor
