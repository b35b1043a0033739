/-
  Layer 2 (digest): Framed.
-/
import Derived.Test.YtobnnhlgdoddgaaDoorDig5
namespace Cr
open Go Go.Proofs
set_option maxRecDepth 100000
set_option maxHeartbeats 4000000
attribute [local irreducible] Calls

def frameAt (n : Nat) (i : Nat) : UInt8 := b8 (ishr .i64 n (8 * (3 - i)))
def frameTo (n : Nat) : Nat → List UInt8
  | 0 => List.replicate 4 0
  | i + 1 => (frameTo n i).set i (frameAt n i)
theorem frameTo_length (n : Nat) : ∀ i, (frameTo n i).length = 4
  | 0 => by simp [frameTo]
  | i + 1 => by simp [frameTo, frameTo_length n i]
def frameB (n : Nat) : List UInt8 := frameTo n 4
theorem frameB_length (n : Nat) : (frameB n).length = 4 := frameTo_length n 4
def framed (l : List (List UInt8)) : List UInt8 := l.flatMap fun s => frameB s.length ++ s
theorem framed_snoc {l : List (List UInt8)} {i : Nat} {x : List UInt8} (h : l[i]? = some x) : framed (l.take (i + 1)) = framed (l.take i) ++ (frameB x.length ++ x) := by
  obtain ⟨hi, rfl⟩ := List.getElem?_eq_some_iff.1 h
  rw [List.take_succ_eq_append_getElem hi]
  simp only [framed, List.flatMap_append, List.flatMap_cons, List.flatMap_nil, List.append_nil]
theorem framed_take_le (l : List (List UInt8)) (i : Nat) : (framed (l.take i)).length ≤ (framed l).length := by
  have : framed l = framed (l.take i) ++ framed (l.drop i) := by unfold framed; rw [← List.flatMap_append, List.take_append_drop]
  rw [this]; simp
/-- The digest of texts with their lengths. -/
def digest (rd fs : List Int) (l : List (List UInt8)) : List UInt8 := (StrM.init.more rd fs (framed l)).sum rd fs
theorem digest_length (rd fs : List Int) (l : List (List UInt8)) : (digest rd fs l).length = 32 := by unfold digest StrM.sum; exact outB_length _
attribute [irreducible] digest
def texts (l : List Bs) : List (List UInt8) := l.map Bs.s
theorem framed_ (a : Option Addr) (c : Nat) (l : List Bs) (rd fs : List Int) (W : World) (hn : (framed (texts l)).length < 1152921504606846976) (hl : l.length < 2305843009213693951) (hG : Gl W noF rd fs) (hB : Bss W noF a l) :
    Calls Tryd.prog 38 #[.slice a l.length c] W (Ret fun v w => v = .agg (bv (digest rd fs (texts l))).toArray ∧ St W noF [] w) := by
  have hS := St.start W
  have hf := hG.first8
  refine calls_C Tryd.func38 rfl Tryd.ntmps38 rfl ?_
  repeat (first | (refine G_id ?_; first | refine G_nil ?_ | refine G_plain rfl rfl ?_) | (refine X_id ?_; first | refine X_yl (Yl_move rfl rfl) rfl rfl ?_ | refine X_yl (Yl_assign rfl rfl) rfl rfl ?_ | refine X_yl (Yl_len rfl rfl) rfl rfl ?_ | refine X_yl (Yl_build rfl rfl rfl) rfl rfl ?_ | refine X_box rfl rfl rfl rfl hS (fun _ _ hS _ => ?_) | refine X_alloc rfl rfl rfl hS (fun _ _ hS _ => ?_)) | (refine C_id ?_; first | refine C_seq ?_ | refine C_region ?_ | refine C_block ?_) | (refine E_id ?_; first | refine E_code ?_))
  rename_i b2 _ _ _ p wp _
  rw [bv_rep] at hS
  replace hS : St W noF [pts p (.cells StrM.init.cells.toArray 114), pts b2 (.cells (bv (List.replicate 32 0)).toArray 78)] wp := hS
  refine C_loop (α := Nat) (fun i => [(2, .pointer (some ⟨b2, 0, none⟩)), (3, .pointer (some ⟨p, 0, none⟩)), (10, .slice a l.length c), (11, .int .i64 (l.length : Nat)), (12, .int .i64 (i : Nat))])
    (fun i w => i ≤ l.length ∧ St W noF [pts p (.cells (StrM.init.more rd fs (framed ((texts l).take i))).cells.toArray 114), pts b2 (.cells (bv (List.replicate 32 0)).toArray 78)] w) (fun i => l.length - i) 0 ⟨rfl, rfl, rfl, rfl, rfl, trivial⟩ ⟨Nat.zero_le _, hS⟩ ?_
  clear hS
  rintro i w ⟨hi, hS⟩
  have hle := framed_take_le (texts l) i
  obtain ⟨S', hSe⟩ : ∃ S', S' = StrM.init.more rd fs (framed ((texts l).take i)) := ⟨_, rfl⟩
  have hok' : S'.ok := hSe ▸ StrM.more_ok hf StrM.init_ok
  have hn' : S'.n = (framed ((texts l).take i)).length := by rw [hSe, StrM.more_n]; simp [StrM.init]
  rw [← hSe] at hS
  by_cases hlt : i < l.length
  · have hx0 : l[i]? = some l[i] := List.getElem?_eq_getElem hlt
    generalize l[i] = x at hx0
    have hxm := List.mem_of_getElem? hx0
    have hbx := hB.all x hxm
    have hj := framed_snoc (l := texts l) (i := i) (x := x.s) (by simp [texts, hx0])
    have hle1 := framed_take_le (texts l) (i + 1)
    rw [hj, List.length_append, List.length_append, frameB_length] at hle1
    obtain ⟨ab, ao, rfl⟩ := (hB.row.rd hS).base (by intro e; simp at e; subst e; simp at hlt)
    have hr := hB.row
    have hx : (l.map Bs.val)[i]? = some (.slice x.a x.s.length x.c) := by simp [hx0, Bs.val]
    repeat (first | (refine G_id ?_; first | refine G_nil ?_ | refine G_plain rfl rfl ?_) | (refine X_id ?_; first | refine X_yl (Yl_move rfl rfl) rfl rfl ?_ | refine X_yl (Yl_assign rfl rfl) rfl rfl ?_ | refine X_yl (Yl_lss_t rfl rfl rfl (by omega)) rfl rfl ?_ | refine X_yl (Yl_indexAddr rfl rfl rfl (by omega) (by omega) (by first | assumption | exact ⟨_, _, rfl⟩)) rfl rfl ?_ | refine X_yl (Yl_load rfl rfl ((hr.rd hS).cellX (by omega) hx)) rfl rfl ?_ | refine X_alloc rfl rfl rfl hS (fun _ _ hS _ => ?_)) | (refine C_id ?_; first | refine C_seq ?_ | refine C_region ?_ | refine C_block ?_ | refine C_skip ?_ | refine C_cond_t rfl ?_) | (refine E_id ?_; first | refine E_code ?_))
    rename_i b6 _ _
    refine C_loop (α := Nat) (fun j => [(2, .pointer (some ⟨b2, 0, none⟩)), (3, .pointer (some ⟨p, 0, none⟩)), (10, .slice (some ⟨ab, ao, none⟩) l.length c), (11, .int .i64 (l.length : Nat)), (12, .int .i64 (i : Nat)), (5, .slice x.a x.s.length x.c), (6, .pointer (some ⟨b6, 0, none⟩)), (16, .int .i64 (j : Nat))])
      (fun j w => j ≤ 4 ∧ St W noF [pts b6 (.cells (bv (frameTo x.s.length j)).toArray 115), pts p (.cells S'.cells.toArray 114), pts b2 (.cells (bv (List.replicate 32 0)).toArray 78)] w) (fun j => 4 - j) 0 ⟨rfl, rfl, rfl, rfl, rfl, rfl, rfl, rfl, trivial⟩ ⟨Nat.zero_le _, hS⟩ ?_
    clear hS
    rintro j w ⟨hj4, hS⟩
    obtain ⟨B, hBe⟩ : ∃ B, B = frameTo x.s.length j := ⟨_, rfl⟩
    have hBl : B.length = 4 := by rw [hBe]; exact frameTo_length _ _
    rw [← hBe] at hS
    by_cases hj : j < 4
    · repeat (first | (refine G_id ?_; first | refine G_nil ?_ | refine G_plain rfl rfl ?_) | (refine X_id ?_; first | refine X_yl (Yl_move rfl rfl) rfl rfl ?_ | refine X_yl (Yl_assign rfl rfl) rfl rfl ?_ | refine X_yl (Yl_len rfl rfl) rfl rfl ?_ | refine X_yl (Yl_lss_t rfl rfl rfl (by omega)) rfl rfl ?_ | refine X_yl (Yl_indexAddr_arr rfl rfl rfl (by omega) (by omega)) rfl rfl ?_ | refine X_yl (Yl_add rfl rfl rfl (w64 (by omega) (by omega))) rfl rfl ?_ | refine X_yl (Yl_sub rfl rfl rfl (w64 (by omega) (by omega))) rfl rfl ?_ | refine X_yl (Yl_mul rfl rfl rfl (w64 (by omega) (by omega))) rfl rfl ?_ | refine X_yl (Yl_convU8 rfl rfl) rfl rfl ?_ | refine X_yl (Yl_shr rfl rfl rfl (by omega)) rfl rfl ?_ | refine X_storeB rfl rfl rfl rfl hS (by omega) (fun _ hS => ?_)) | (refine C_id ?_; first | refine C_seq ?_ | refine C_region ?_ | refine C_block ?_ | refine C_skip ?_ | refine C_cond_t rfl ?_) | (refine E_id ?_; first | refine E_code ?_ | refine E_blk_n ?_))
      refine E_round (j + 1) ⟨rfl, rfl, rfl, rfl, rfl, rfl, rfl, rfl, trivial⟩ ⟨by omega, ?_⟩ (by omega)
      simp only [frameTo, frameAt]
      rw [← hBe]
      rw [show (8 * (3 - (j : Int))).toNat = 8 * (3 - j) by omega, show 0 + (j : Int).toNat * 1 = j by omega] at hS
      exact hS
    · obtain rfl : j = 4 := by omega
      repeat (first | (refine G_id ?_; first | refine G_nil ?_ | refine G_plain rfl rfl ?_) | (refine X_id ?_; first | refine X_yl (Yl_move rfl rfl) rfl rfl ?_ | refine X_yl (Yl_lss_f rfl rfl rfl (by omega)) rfl rfl ?_ | refine X_yl (Yl_slice_arr rfl rfl) rfl rfl ?_ | refine X_buildSlice rfl rfl rfl rfl rfl rfl rfl rfl hS (fun _ _ hS _ => ?_)) | (refine C_id ?_; first | refine C_seq ?_ | refine C_region ?_ | refine C_exit ?_ | refine C_cond_f rfl ?_) | (refine E_id ?_; first | refine E_code ?_ | refine E_then_exit ?_ | refine E_blk_same ?_))
      rename_i nb wb _
      obtain ⟨_, hc, hr, hw, hbk⟩ := hS.call [false, false, true]
      have hBs : Bss wb _ (some ⟨nb, 0, none⟩) [⟨some ⟨b6, 0, none⟩, 4, B⟩, x] := ⟨by
        have := (hr _ (List.mem_cons_self ..)).own_row
        simpa [Bs.val, hBl] using this, fun y hy => by
        simp only [List.mem_cons, List.not_mem_nil, or_false] at hy
        rcases hy with rfl | rfl
        · exact (hr _ (List.mem_cons_of_mem _ (List.mem_cons_self ..))).mono fun h hh => ⟨h, row_pts_at (n := 4) (by simp [← bv_length, ← hBl]) h hh, fun _ _ e => e⟩
        · exact hw _ hbx⟩
      refine X_callg _ rfl rfl rfl rfl rfl (dwrite_ p S' _ _ _ rd fs _ _ _ hok' (by simp [joined, hBl]; omega) (by simp) (hG.mono hw) hBs hc) ?_
      rintro _ w ⟨rfl, hS⟩
      replace hS := hbk hS
      clear hc hr hw hbk hBs
      repeat (first | (refine G_id ?_; first | refine G_nil ?_ | refine G_plain rfl rfl ?_) | (refine X_id ?_; first | refine X_yl (Yl_move rfl rfl) rfl rfl ?_ | refine X_yl (Yl_add rfl rfl rfl (w64 (by omega) (by omega))) rfl rfl ?_) | (refine C_id ?_; first | refine C_region ?_) | (refine E_id ?_; first | refine E_code ?_ | refine E_blk_n ?_))
      refine E_round (i + 1) ⟨rfl, rfl, rfl, rfl, rfl, trivial⟩ ⟨by omega, ?_⟩ (by omega)
      have hS := hS.pick [0, 2]
      rw [framed_snoc (x := x.s) (by simp [texts, hx0]), StrM.more_append, ← hSe]
      rw [show joined [⟨some ⟨b6, 0, none⟩, 4, B⟩, x] = frameB x.s.length ++ x.s by rw [hBe]; simp [joined, frameB]] at hS
      exact hS
  · obtain rfl : i = l.length := by omega
    have hlen32 : LenO (bv (S'.sum rd fs)) 32 := ⟨by rw [bv_length]; exact outB_length _⟩
    repeat (first | (refine G_id ?_; first | refine G_nil ?_ | refine G_plain rfl rfl ?_) | (refine X_id ?_; first | (refine X_callq 54 rfl rfl rfl rfl rfl hS (sum_ p S' rd fs 114 _ hok' (by omega) (hG.mono fun r hr => (hr.rd hS).ro) (hS.rd (List.mem_cons_self ..))) ?_; rintro _ _ rfl hS) | refine X_yl (Yl_move rfl rfl) rfl rfl ?_ | refine X_yl (Yl_lss_f rfl rfl rfl (by omega)) rfl rfl ?_ | refine X_storeAll rfl rfl rfl rfl hS (fun _ hS => ?_)) | (refine C_id ?_; first | refine C_seq ?_ | refine C_region ?_ | refine C_ret ?_ | refine C_exit ?_ | refine C_cond_f rfl ?_) | (refine E_id ?_; first | refine E_code ?_ | refine E_then_exit ?_ | refine E_blk_same ?_ | refine E_ret1 rfl (by first | exact Rv_tmp rfl | exact Rv_cell rfl (run_load1 hS.cell) | exact Rv_cell rfl (run_loadN hS.cellsN)) (Ret.mk ?_)))
    refine ⟨?_, hS.drops⟩
    rw [hSe, show (texts l).take l.length = texts l from List.take_of_length_le (by simp [texts])]
    unfold digest
    rfl
end Cr
