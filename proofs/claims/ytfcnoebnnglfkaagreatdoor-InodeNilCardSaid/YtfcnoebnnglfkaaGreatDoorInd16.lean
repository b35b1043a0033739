/-
  A law's arguments, opened: bytes, lists of writes. What is read of them, by the reading that the row gives.
  Layer 7's node as an argument, opened.
-/
import Derived.Test.YtfcnoebnnglfkaaGreatDoorInd15
import Derived.Test.YtfcnoebnnglfkaaGreatDoorInd7
import Derived.Deep.SlicePairs
import Derived.Carry
import Derived.Test.YtfcnoebnnglfkaaGreatDoorInd14
import Derived.OpenShut
namespace Cr
open Go Go.Proofs Go.ChangeShapes Go.WideShapes Go.Deep
section
variable {H : Type} {enc : TypeId × Value → H} {P : Program} {w : World} {base : Nat} {sp : Nat → Bool} {held : Bool}
theorem Rd.ofCellsA {a : Addr} {l : List Value} (h : ∀ i v, l[i]? = some v → w.cell? (a.add i) = some v) : Rd w (row (some a) l) := by
  cases l with
  | nil => exact Rd_nil w _
  | cons x r =>
    have h0 := h 0 x rfl
    have hsp : a.spot = none := by
      have := World.cell?_spot h0
      simpa [Addr.add] using this
    obtain ⟨b, off, spot⟩ := a
    obtain rfl : spot = none := hsp
    unfold World.cell? at h0
    split at h0
    · rename_i c t fz hb
      have hb : w.heap[b]? = some (.cells c t fz) := by simpa [Addr.add] using hb
      refine ⟨single b (.cells c t fz), .inr ⟨b, off, c, t, fz, rfl, rfl, fun i v hv => ?_⟩, fun k o e => ?_⟩
      · have := h i v hv
        have e : (⟨b, off, none⟩ : Addr).add i = ⟨b, off + i, none⟩ := by
          unfold Addr.add; split
          · rename_i h; subst h; rfl
          · rfl
        rw [e, cell_of_row w b (off + i) c t fz hb] at this
        exact this
      · obtain ⟨rfl, rfl⟩ := of_single e
        exact hb
    · cases h0
theorem u8_back {n : Int} (h : (Lit.int .u8 n).wf = true) : Value.int .u8 n = .int .u8 ((UInt8.ofNat n.toNat).toNat : Int) := by
  simp only [Lit.wf, Bool.and_eq_true, decide_eq_true_eq] at h
  have h1 : 0 ≤ n := h.1
  have h2 : n ≤ 255 := h.2
  congr 1
  have : (UInt8.ofNat n.toNat).toNat = n.toNat := by rw [UInt8.toNat_ofNat']; omega
  rw [this]; omega
/-- A slice of bytes. -/
theorem open_bytes {t e : TypeId} {fuel : Nat} {cs : List Value} {x : DataW H × List MemPlace} (ht : P.underlying t = some (.slice e)) (he : P.underlying e = some (.int .u8)) (hc : P.cellsOf e = 1)
    (h : DataW.trod enc P w base sp held fuel t cs = some x) : ∃ a s c, cs = [.slice a s.length c] ∧ s.length ≤ c ∧ c ≤ maxLen ∧ Rd w (bytes a s) := by
  rcases open_ints ht he hc h with ⟨rfl, _⟩ | ⟨a, len, cap, zs, rfl, _, hl, hm, hz, _, hcell, hwf⟩
  · exact ⟨none, [], 0, rfl, Nat.le_refl _, Nat.zero_le _, Rd_nil w _⟩
  · have hlz : len ≤ zs.length := by rw [hz]; split <;> omega
    have e1 : bv ((zs.take len).map fun n => UInt8.ofNat n.toNat) = (zs.take len).map fun n => Value.int .u8 n := by
      unfold bv
      rw [List.map_map]
      refine List.map_congr_left fun n hn => ?_
      exact (u8_back (hwf n (List.mem_of_mem_take hn))).symm
    have e2 : ((zs.take len).map fun n => UInt8.ofNat n.toNat).length = len := by simp; omega
    refine ⟨some a, (zs.take len).map fun n => UInt8.ofNat n.toNat, cap, by rw [e2], by rw [e2]; exact hl, hm, ?_⟩
    unfold bytes
    rw [e1]
    refine Rd.ofCellsA fun i v hv => ?_
    rw [List.getElem?_map, List.getElem?_take] at hv
    split at hv
    · rename_i hi
      rw [hcell i (by omega)]
      have h3 : zs[i]? = some zs[i] := List.getElem?_eq_getElem (by omega)
      rw [h3] at hv
      rw [List.getD_eq_getElem?_getD, h3]
      exact hv
    · cases hv
end
end Cr
namespace Cr
open Go Go.Proofs Go.ChangeShapes Go.WideShapes
set_option maxRecDepth 100000
section
variable {H : Type} {enc : TypeId × Value → H} {w : World} {base : Nat} {sp : Nat → Bool} {held : Bool}
theorem one_int7 {n : Nat} {v : Value} {y : DataW H × List MemPlace} (h : DataW.trod enc Tryz.prog w base sp held n 3 [v] = some y) : ∃ k : Int, v = .int .i64 k := by
  obtain ⟨k, hk, _, hw⟩ := DataW.trod_int Tryz.underlying3 h
  exact ⟨k, by simpa using hk⟩
theorem one_bool7 {n : Nat} {v : Value} {y : DataW H × List MemPlace} (h : DataW.trod enc Tryz.prog w base sp held n 4 [v] = some y) : ∃ k : Bool, v = .bool k := by
  obtain ⟨k, hk, _⟩ := DataW.trod_bool Tryz.underlying4 h
  exact ⟨k, by simpa using hk⟩
theorem cells7_int : Tryz.prog.cellsOf 3 = 1 := by kernel_rfl
theorem cells7_bool : Tryz.prog.cellsOf 4 = 1 := by kernel_rfl
theorem cells7_sl : Tryz.prog.cellsOf 40 = 1 := by kernel_rfl
theorem cells7_stat : Tryz.prog.cellsOf 51 = 4 := by kernel_rfl
theorem cells7_node : Tryz.prog.cellsOf 53 = 5 := by kernel_rfl
theorem cells7_chg : Tryz.prog.cellsOf 184 = 7 := by kernel_rfl
theorem open_stat {fuel : Nat} {a0 a1 a2 a3 : Value} {x : DataW H × List MemPlace} (h : DataW.trod enc Tryz.prog w base sp held fuel 51 [a0, a1, a2, a3] = some x) : ∃ s : StatM, [a0, a1, a2, a3] = s.cells := by
  obtain ⟨xs, n, _, _, hl, hxl, hf⟩ := DataW.trod_struct Tryz.underlying51 h
  have hxl : xs.length = 4 := hxl
  have f0 : DataW.trod enc Tryz.prog w base sp held n 3 ((List.drop 0 [a0, a1, a2, a3]).take (Tryz.prog.cellsOf 3)) = xs[0]? := hf 0 _ rfl
  have f1 : DataW.trod enc Tryz.prog w base sp held n 3 ((List.drop 1 [a0, a1, a2, a3]).take (Tryz.prog.cellsOf 3)) = xs[1]? := hf 1 _ rfl
  have f2 : DataW.trod enc Tryz.prog w base sp held n 3 ((List.drop 2 [a0, a1, a2, a3]).take (Tryz.prog.cellsOf 3)) = xs[2]? := hf 2 _ rfl
  have f3 : DataW.trod enc Tryz.prog w base sp held n 3 ((List.drop 3 [a0, a1, a2, a3]).take (Tryz.prog.cellsOf 3)) = xs[3]? := hf 3 _ rfl
  rw [cells7_int, List.getElem?_eq_getElem (by omega)] at f0 f1 f2 f3
  simp only [List.drop_zero, List.drop_succ_cons, List.take_succ_cons, List.take_zero] at f0 f1 f2 f3
  obtain ⟨n0, rfl⟩ := one_int7 f0
  obtain ⟨n1, rfl⟩ := one_int7 f1
  obtain ⟨n2, rfl⟩ := one_int7 f2
  obtain ⟨n3, rfl⟩ := one_int7 f3
  exact ⟨⟨n0, n1, n2, n3⟩, rfl⟩
theorem list5 {cs : List Value} (h : cs.length = 5) : ∃ a0 a1 a2 a3 a4, cs = [a0, a1, a2, a3, a4] := by
  match cs, h with
  | [a0, a1, a2, a3, a4], _ => exact ⟨_, _, _, _, _, rfl⟩
theorem open_node {fuel : Nat} {cs : List Value} {x : DataW H × List MemPlace} (h : DataW.trod enc Tryz.prog w base sp held fuel 53 cs = some x) :
    ∃ (y : Nd) (a : Option Addr) (c : Nat), cs = ndV y a c ∧ y.data.length ≤ c ∧ Rd w (bytes a y.data) := by
  obtain ⟨xs, n, _, _, hl, hxl, hf⟩ := DataW.trod_struct Tryz.underlying53 h
  rw [cells7_node] at hl
  have hxl : xs.length = 2 := hxl
  obtain ⟨a0, a1, a2, a3, a4, rfl⟩ := list5 hl
  have f0 : DataW.trod enc Tryz.prog w base sp held n 51 ((List.drop 0 [a0, a1, a2, a3, a4]).take (Tryz.prog.cellsOf 51)) = xs[0]? := hf 0 _ rfl
  have f1 : DataW.trod enc Tryz.prog w base sp held n 40 ((List.drop 4 [a0, a1, a2, a3, a4]).take (Tryz.prog.cellsOf 40)) = xs[1]? := hf 1 _ rfl
  rw [cells7_stat, List.getElem?_eq_getElem (by omega)] at f0
  rw [cells7_sl, List.getElem?_eq_getElem (by omega)] at f1
  simp only [List.drop_zero, List.drop_succ_cons, List.take_succ_cons, List.take_zero] at f0 f1
  obtain ⟨s, hs⟩ := open_stat f0
  obtain ⟨b, d, q, hsl, hq, _, hb⟩ := open_bytes Tryz.underlying40 Tryz.underlying5 (by kernel_rfl) f1
  simp only [List.cons.injEq, and_true] at hs hsl
  obtain ⟨rfl, rfl, rfl, rfl⟩ := hs
  subst hsl
  exact ⟨⟨s, d⟩, b, q, rfl, hq, hb⟩
end
end Cr
