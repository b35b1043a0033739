/-
  The law WalNil: for every number it returns true. What the row lists gives the two tables of package digest.
-/
import Derived.Test.YtobnnhlgdoddgaaDoorLaw1
import Derived.Test.YtobnnhlgdoddgaaDoorCards
import Derived.Test.YtobnnhlgdoddgaaDoorTie
import Derived.WalkKit
import Derived.ProofKit
import Derived.OpenShut
import Derived.Deep.DeepHandedRow
import Derived.Lib.LaidTab
import Derived.Stop.LaidErr
namespace Cr
open Go Go.Proofs
theorem Rd.ofCells {w : World} {b : Nat} {l : List Value} (h : ∀ i v, l[i]? = some v → w.cell? ⟨b, i, none⟩ = some v) (hl : l ≠ []) : Rd w (row (some ⟨b, 0, none⟩) l) := by
  obtain ⟨v0, hv0⟩ : ∃ v, l[0]? = some v := by
    cases l with
    | nil => exact absurd rfl hl
    | cons x r => exact ⟨x, rfl⟩
  have h0 := h 0 v0 hv0
  unfold World.cell? at h0
  split at h0
  · rename_i c t fz hb
    refine ⟨single b (.cells c t fz), .inr ⟨b, 0, c, t, fz, rfl, rfl, fun i v hv => ?_⟩, fun k o e => ?_⟩
    · have := h i v hv
      rw [cell_of_row w b i c t fz hb] at this
      simpa using this
    · obtain ⟨rfl, rfl⟩ := of_single e
      exact hb
  · cases h0
def roundL : List Int := [1116352408, 1899447441, 3049323471, 3921009573, 961987163, 1508970993, 2453635748, 2870763221, 3624381080, 310598401, 607225278, 1426881987, 1925078388, 2162078206, 2614888103, 3248222580, 3835390401, 4022224774, 264347078, 604807628, 770255983, 1249150122, 1555081692, 1996064986, 2554220882, 2821834349, 2952996808, 3210313671, 3336571891, 3584528711, 113926993, 338241895, 666307205, 773529912, 1294757372, 1396182291, 1695183700, 1986661051, 2177026350, 2456956037, 2730485921, 2820302411, 3259730800, 3345764771, 3516065817, 3600352804, 4094571909, 275423344, 430227734, 506948616, 659060556, 883997877, 958139571, 1322822218, 1537002063, 1747873779, 1955562222, 2024104815, 2227730452, 2361852424, 2428436474, 2756734187, 3204031479, 3329325298]
def firstL : List Int := [1779033703, 3144134277, 1013904242, 2773480762, 1359893119, 2600822924, 528734635, 1541459225]
theorem roundL_length : roundL.length = 64 := rfl
theorem firstL_length : firstL.length = 8 := rfl
theorem gl_of_laid {W : World} (h : laidMetH Tryd.prog Go.Proofs.YtobnnhlgdoddgaaDoor.Rows.walNilRow.laid W) : Gl W noF roundL firstL := by
  have h1 : Lib.TabIs Tryd.prog W "creel/digest.round" .u32 roundL := Lib.tabIs_of_head (g := 2) (t := 144) (e := 61) (n := 64) (rest := [_]) (by kernel_rfl) (by kernel_rfl) Tryd.underlying144 Tryd.underlying61 (by kernel_rfl) (by kernel_rfl) h
  have h2 : Lib.TabIs Tryd.prog W "creel/digest.first" .u32 firstL := Lib.tabIs_of_head (g := 0) (t := 112) (e := 61) (n := 8) (rest := []) (by kernel_rfl) (by kernel_rfl) Tryd.underlying112 Tryd.underlying61 (by kernel_rfl) (by kernel_rfl) (laidMet.tail h)
  refine ⟨(Rd.ofCells (fun i v hv => ?_) (by simp [ints, roundL])).ro, (Rd.ofCells (fun i v hv => ?_) (by simp [ints, firstL])).ro, rfl, rfl⟩
  · have hi : i < roundL.length := by
      rcases Nat.lt_or_ge i roundL.length with h | h
      · exact h
      · rw [List.getElem?_eq_none (by rw [ints_length]; omega)] at hv; cases hv
    rw [ints_get hi] at hv
    rw [← Option.some.inj hv]
    exact h1.cell (by kernel_rfl) i hi
  · have hi : i < firstL.length := by
      rcases Nat.lt_or_ge i firstL.length with h | h
      · exact h
      · rw [List.getElem?_eq_none (by rw [ints_length]; omega)] at hv; cases hv
    rw [ints_get hi] at hv
    rw [← Option.some.inj hv]
    exact h2.cell (by kernel_rfl) i hi
end Cr
