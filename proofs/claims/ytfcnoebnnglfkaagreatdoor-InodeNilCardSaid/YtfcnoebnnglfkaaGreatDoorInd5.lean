/-
  Layer 2 (digest): Sum.
  Layer 2 (digest): Framed.
  What the row of InodeNil lists gives the two tables of package digest.
-/
import Derived.Test.YtfcnoebnnglfkaaGreatDoorInd4
import Derived.Test.YtfcnoebnnglfkaaGreatDoorCards
import Derived.Test.YtfcnoebnnglfkaaGreatDoorTie
import Derived.WalkKit
import Derived.ProofKit
import Derived.OpenShut
import Derived.Deep.DeepHandedRow
import Derived.Lib.LaidTab
import Derived.Stop.LaidErr
namespace Cr
open Go Go.Proofs
set_option maxRecDepth 100000
set_option maxHeartbeats 4000000
attribute [local irreducible] Calls

theorem St.total {W : World} {F : Nat → Prop} {rs : List Res} {w : World} {b : Nat} {S : StrM} {T : TypeId} (hS : St W F rs w) [hh : Has rs b (.cells S.cells.toArray T (0, 0))] (hok : S.ok) : w.cell? ⟨b, 72, none⟩ = some (.int .i64 (S.n : Nat)) := by
  rw [cell_of_row w b 72 _ T (0, 0) hS.has]
  have h1 : (ints .u32 S.H).length = 8 := by rw [ints_length]; exact hok.h8
  have h2 : (bv S.R).length = 64 := by rw [bv_length]; exact hok.r64
  simp only [StrM.cells, List.getElem?_toArray]
  rw [List.getElem?_append_right (by omega), List.getElem?_append_right (by omega), h1, h2]
  rfl
def lenAt (n : Nat) (i : Nat) : UInt8 := b8 (ishr .u64 (IntKind.u64.wrap (IntKind.u64.wrap n * 8)) (8 * (7 - i)))
def lenB (n : Nat) : Nat → List UInt8
  | 0 => []
  | i + 1 => lenB n i ++ [lenAt n i]
/-- How many zeros are laid behind n bytes and the mark. -/
def gap (n : Nat) : Nat := (119 - n % 64) % 64
def padB (n : Nat) : List UInt8 := 128 :: List.replicate (gap n) 0 ++ lenB n 8
def StrM.sum (rd fs : List Int) (S : StrM) : List UInt8 := outB (S.more rd fs (padB S.n)).H
theorem StrM.more_one {rd fs : List Int} {S : StrM} {l : List UInt8} {c : UInt8} : (S.more rd fs l).one rd fs c = S.more rd fs (l ++ [c]) := by simp [StrM.more]
theorem sum_ (s : Nat) (S : StrM) (rd fs : List Int) (T : TypeId) (W : World) (hok : S.ok) (hn : S.n < 1152921504606846976) (hG : Gl W noF rd fs) (hs : Rd W (pts s (.cells S.cells.toArray T))) :
    Calls Tryz.prog 258 #[.pointer (some ⟨s, 0, none⟩)] W (Ret fun v w => v = .agg (bv (S.sum rd fs)).toArray ∧ St W noF [] w) := by
  have hS := St.start W
  have hso := hs.ro
  have hf := hG.first8
  have key : ∀ l : List UInt8, l.length ≤ 100 → (S.more rd fs l).n < 2305843009213693951 := fun l hl => by rw [StrM.more_n]; omega
  refine calls_C Tryz.func258 rfl Tryz.ntmps258 rfl ?_
  repeat (first | (refine G_id ?_; first | refine G_nil ?_ | refine G_plain rfl rfl ?_) | (refine X_id ?_; first | refine X_yl (Yl_move rfl rfl) rfl rfl ?_ | refine X_alloc rfl rfl rfl hS (fun _ _ hS _ => ?_)) | (refine C_id ?_; first | refine C_seq ?_ | refine C_region ?_) | (refine E_id ?_; first | refine E_code ?_))
  rename_i b2 _ _
  rw [bv_rep] at hS
  refine X_callg _ rfl rfl rfl rfl rfl (fork_ s S T _ hok (hso.rd hS)) ?_
  rintro _ w ⟨p, rfl, hS'⟩
  replace hS := hS.plus hS'
  clear hS'
  repeat (first | (refine G_id ?_; first | refine G_nil ?_ | refine G_plain rfl rfl ?_) | (refine X_id ?_; first | refine X_yl (Yl_move rfl rfl) rfl rfl ?_ | refine X_yl (Yl_assign rfl rfl) rfl rfl ?_ | refine X_yl (Yl_nilCheck rfl rfl) rfl rfl ?_ | refine X_yl (Yl_fieldAddr0 rfl rfl rfl) rfl rfl ?_) | (refine C_id ?_; first | refine C_seq ?_ | refine C_region ?_) | (refine E_id ?_; first | refine E_code ?_))
  refine X_yl (Yl_load rfl rfl (hS.total hok)) rfl rfl ?_
  repeat (first | (refine G_id ?_; first | refine G_nil ?_ | refine G_plain rfl rfl ?_) | (refine X_id ?_; first | refine X_yl (Yl_move rfl rfl) rfl rfl ?_ | refine X_yl (Yl_assign rfl rfl) rfl rfl ?_) | (refine C_id ?_; first | refine C_seq ?_ | refine C_region ?_) | (refine E_id ?_; first | refine E_code ?_))
  obtain ⟨_, hc, hr, hw, hbk⟩ := hS.call [true, false]
  refine X_callg _ rfl rfl rfl rfl rfl (one_ p S 128 rd fs _ _ _ hok (by omega) (hG.mono hw) hc) ?_
  rintro _ w ⟨_, hS⟩
  replace hS := hbk hS
  clear hc hr hw hbk
  repeat (first | (refine G_id ?_; first | refine G_nil ?_) | (refine C_id ?_; first | refine C_seq ?_ | refine C_block ?_) | (refine E_id ?_; first | refine E_code ?_))
  refine C_loop (α := Nat) (fun k => [(2, .pointer (some ⟨b2, 0, none⟩)), (3, .pointer (some ⟨p, 0, none⟩)), (4, .int .i64 (S.n : Nat))])
    (fun k w => k ≤ gap S.n ∧ St W noF [pts p (.cells (S.more rd fs (128 :: List.replicate k 0)).cells.toArray 416), pts b2 (.cells (bv (List.replicate 32 0)).toArray 250)] w) (fun k => gap S.n - k) 0 ⟨rfl, rfl, rfl, trivial⟩ ⟨Nat.zero_le _, hS⟩ ?_
  clear hS
  rintro k w ⟨hk, hS⟩
  have hg64 : gap S.n < 64 := by unfold gap; omega
  obtain ⟨S', hSe⟩ : ∃ S', S' = S.more rd fs (128 :: List.replicate k 0) := ⟨_, rfl⟩
  have hok' : S'.ok := hSe ▸ StrM.more_ok hf hok
  have hn' : S'.n = S.n + 1 + k := by rw [hSe, StrM.more_n]; simp; omega
  rw [← hSe] at hS
  by_cases hkk : k < gap S.n
  · have h56 : ((S'.n : Int) % 64 = 56) = False := by
      have : ¬ (S'.n : Int) % 64 = 56 := by unfold gap at hkk; omega
      simp [this]
    have h56' : ¬ (S'.n : Int) % 64 = 56 := by rw [h56]; exact id
    clear h56
    repeat (first | (refine G_id ?_; first | refine G_plain rfl rfl ?_) | (refine X_id ?_; first | refine X_yl (Yl_move rfl rfl) rfl rfl ?_ | refine X_yl (Yl_nilCheck rfl rfl) rfl rfl ?_ | refine X_yl (Yl_fieldAddr0 rfl rfl rfl) rfl rfl ?_) | (refine C_id ?_; first | refine C_seq ?_ | refine C_region ?_))
    refine X_yl (Yl_load rfl rfl (hS.total hok')) rfl rfl ?_
    repeat (first | (refine G_id ?_; first | refine G_nil ?_ | refine G_plain rfl rfl ?_) | (refine X_id ?_; first | refine X_yl (Yl_move rfl rfl) rfl rfl ?_ | refine X_yl (Yl_neq_t rfl rfl rfl (by omega)) rfl rfl ?_ | refine X_yl (Yl_remE rfl rfl rfl (by omega) (by omega)) rfl rfl ?_) | (refine C_id ?_; first | refine C_region ?_ | refine C_block ?_ | refine C_skip ?_ | refine C_cond_t rfl ?_) | (refine E_id ?_; first | refine E_code ?_))
    obtain ⟨_, hc, hr, hw, hbk⟩ := hS.call [true, false]
    refine X_callg _ rfl rfl rfl rfl rfl (one_ p S' 0 rd fs _ _ _ hok' (by omega) (hG.mono hw) hc) ?_
    rintro _ w ⟨_, hS⟩
    replace hS := hbk hS
    clear hc hr hw hbk
    repeat (first | (refine G_id ?_; first | refine G_nil ?_) | (refine E_id ?_; first | refine E_blk_n ?_))
    refine E_round (k + 1) ⟨rfl, rfl, rfl, trivial⟩ ⟨by omega, ?_⟩ (by omega)
    rw [hSe, StrM.more_one] at hS
    rw [show (128 :: List.replicate (k + 1) 0 : List UInt8) = 128 :: List.replicate k 0 ++ [0] by simp [List.replicate_succ']]
    exact hS
  · obtain rfl : k = gap S.n := by omega
    have h56 : (S'.n : Int) % 64 = 56 := by unfold gap at hn'; omega
    repeat (first | (refine G_id ?_; first | refine G_plain rfl rfl ?_) | (refine X_id ?_; first | refine X_yl (Yl_move rfl rfl) rfl rfl ?_ | refine X_yl (Yl_nilCheck rfl rfl) rfl rfl ?_ | refine X_yl (Yl_fieldAddr0 rfl rfl rfl) rfl rfl ?_) | (refine C_id ?_; first | refine C_seq ?_ | refine C_region ?_))
    refine X_yl (Yl_load rfl rfl (hS.total hok')) rfl rfl ?_
    repeat (first | (refine G_id ?_; first | refine G_nil ?_ | refine G_plain rfl rfl ?_) | (refine X_id ?_; first | refine X_yl (Yl_move rfl rfl) rfl rfl ?_ | refine X_yl (Yl_neq_f rfl rfl rfl (by omega)) rfl rfl ?_ | refine X_yl (Yl_remE rfl rfl rfl (by omega) (by omega)) rfl rfl ?_) | (refine C_id ?_; first | refine C_seq ?_ | refine C_region ?_ | refine C_block ?_ | refine C_exit ?_ | refine C_cond_f rfl ?_) | (refine E_id ?_; first | refine E_code ?_ | refine E_then_exit ?_ | refine E_blk_same ?_))
    rw [hSe] at hS
    clear hSe hok' hn' h56
    refine C_loop (α := Nat) (fun i => [(2, .pointer (some ⟨b2, 0, none⟩)), (3, .pointer (some ⟨p, 0, none⟩)), (4, .int .i64 (S.n : Nat)), (22, .int .i64 (i : Nat))])
      (fun i w => i ≤ 8 ∧ St W noF [pts p (.cells (S.more rd fs (128 :: List.replicate (gap S.n) 0 ++ lenB S.n i)).cells.toArray 416), pts b2 (.cells (bv (List.replicate 32 0)).toArray 250)] w) (fun i => 8 - i) 0 ⟨rfl, rfl, rfl, rfl, trivial⟩ ⟨Nat.zero_le _, by simpa [lenB] using hS⟩ ?_
    clear hS
    rintro i w ⟨hi, hS⟩
    have hlen : ∀ i, (lenB S.n i).length = i := fun i => by
      induction i with
      | zero => rfl
      | succ i ih => simp [lenB, ih]
    obtain ⟨S', hSe⟩ : ∃ S', S' = S.more rd fs (128 :: List.replicate (gap S.n) 0 ++ lenB S.n i) := ⟨_, rfl⟩
    have hok' : S'.ok := hSe ▸ StrM.more_ok hf hok
    have hn' : S'.n < 2305843009213693951 := by rw [hSe]; exact key _ (by simp [hlen]; omega)
    rw [← hSe] at hS
    by_cases h8 : i < 8
    · repeat (first | (refine G_id ?_; first | refine G_nil ?_ | refine G_plain rfl rfl ?_) | (refine X_id ?_; first | refine X_yl (Yl_move rfl rfl) rfl rfl ?_ | refine X_yl (Yl_assign rfl rfl) rfl rfl ?_ | refine X_yl (Yl_lss_t rfl rfl rfl (by omega)) rfl rfl ?_ | refine X_yl (Yl_sub rfl rfl rfl (w64 (by omega) (by omega))) rfl rfl ?_ | refine X_yl (Yl_mul rfl rfl rfl (w64 (by omega) (by omega))) rfl rfl ?_ | refine X_yl (Yl_mul rfl rfl rfl rfl) rfl rfl ?_ | refine X_yl (Yl_convU8 rfl rfl) rfl rfl ?_ | refine X_yl (Yl_convInt rfl rfl rfl) rfl rfl ?_ | refine X_yl (Yl_shr rfl rfl rfl (by omega)) rfl rfl ?_) | (refine C_id ?_; first | refine C_seq ?_ | refine C_region ?_ | refine C_block ?_ | refine C_skip ?_ | refine C_cond_t rfl ?_) | (refine E_id ?_; first | refine E_code ?_))
      obtain ⟨_, hc, hr, hw, hbk⟩ := hS.call [true, false]
      refine X_callg _ rfl rfl rfl rfl rfl (one_ p S' _ rd fs _ _ _ hok' hn' (hG.mono hw) hc) ?_
      rintro _ w ⟨_, hS⟩
      replace hS := hbk hS
      clear hc hr hw hbk
      repeat (first | (refine G_id ?_; first | refine G_nil ?_ | refine G_plain rfl rfl ?_) | (refine X_id ?_; first | refine X_yl (Yl_move rfl rfl) rfl rfl ?_ | refine X_yl (Yl_add rfl rfl rfl (w64 (by omega) (by omega))) rfl rfl ?_) | (refine C_id ?_; first | refine C_region ?_) | (refine E_id ?_; first | refine E_code ?_ | refine E_blk_n ?_))
      refine E_round (i + 1) ⟨rfl, rfl, rfl, rfl, trivial⟩ ⟨by omega, ?_⟩ (by omega)
      rw [hSe, StrM.more_one] at hS
      simp only [lenB, ← List.append_assoc]
      rw [show (8 * (7 - (i : Int))).toNat = 8 * (7 - i) by omega] at hS
      exact hS
    · obtain rfl : i = 8 := by omega
      have hlen32 : LenO (bv (outB S'.H)) 32 := ⟨by rw [bv_length]; exact outB_length _⟩
      repeat (first | (refine G_id ?_; first | refine G_nil ?_ | refine G_plain rfl rfl ?_) | (refine X_id ?_; first | (refine X_callq 303 rfl rfl rfl rfl rfl hS (bytes_ p S'.H _ 416 _ hok'.h8 (hS.rd (List.mem_cons_self ..))) ?_; rintro _ _ rfl hS) | refine X_yl (Yl_move rfl rfl) rfl rfl ?_ | refine X_yl (Yl_nilCheck rfl rfl) rfl rfl ?_ | refine X_yl (Yl_fieldAddr0 rfl rfl rfl) rfl rfl ?_ | refine X_yl (Yl_lss_f rfl rfl rfl (by omega)) rfl rfl ?_ | refine X_storeAll rfl rfl rfl rfl hS (fun _ hS => ?_)) | (refine C_id ?_; first | refine C_seq ?_ | refine C_region ?_ | refine C_ret ?_ | refine C_exit ?_ | refine C_cond_f rfl ?_) | (refine E_id ?_; first | refine E_code ?_ | refine E_then_exit ?_ | refine E_blk_same ?_ | refine E_ret1 rfl (by first | exact Rv_tmp rfl | exact Rv_cell rfl (run_load1 hS.cell) | exact Rv_cell rfl (run_loadN hS.cellsN)) (Ret.mk ?_)))
      refine ⟨?_, hS.drops⟩
      rw [hSe]
      rfl
end Cr
namespace Cr
open Go Go.Proofs
set_option maxRecDepth 100000
set_option maxHeartbeats 4000000
attribute [local irreducible] Calls

def frameAt (n : Nat) (i : Nat) : UInt8 := b8 (ishr .i64 n (8 * (3 - i)))
def frameTo (n : Nat) : Nat → List UInt8
  | 0 => List.replicate 4 0
  | i + 1 => (frameTo n i).set i (frameAt n i)
theorem frameTo_length (n : Nat) : ∀ i, (frameTo n i).length = 4
  | 0 => by simp [frameTo]
  | i + 1 => by simp [frameTo, frameTo_length n i]
def frameB (n : Nat) : List UInt8 := frameTo n 4
theorem frameB_length (n : Nat) : (frameB n).length = 4 := frameTo_length n 4
def framed (l : List (List UInt8)) : List UInt8 := l.flatMap fun s => frameB s.length ++ s
theorem framed_snoc {l : List (List UInt8)} {i : Nat} {x : List UInt8} (h : l[i]? = some x) : framed (l.take (i + 1)) = framed (l.take i) ++ (frameB x.length ++ x) := by
  obtain ⟨hi, rfl⟩ := List.getElem?_eq_some_iff.1 h
  rw [List.take_succ_eq_append_getElem hi]
  simp only [framed, List.flatMap_append, List.flatMap_cons, List.flatMap_nil, List.append_nil]
theorem framed_take_le (l : List (List UInt8)) (i : Nat) : (framed (l.take i)).length ≤ (framed l).length := by
  have : framed l = framed (l.take i) ++ framed (l.drop i) := by unfold framed; rw [← List.flatMap_append, List.take_append_drop]
  rw [this]; simp
/-- The digest of texts with their lengths. -/
def digest (rd fs : List Int) (l : List (List UInt8)) : List UInt8 := (StrM.init.more rd fs (framed l)).sum rd fs
theorem digest_length (rd fs : List Int) (l : List (List UInt8)) : (digest rd fs l).length = 32 := by unfold digest StrM.sum; exact outB_length _
attribute [irreducible] digest
def texts (l : List Bs) : List (List UInt8) := l.map Bs.s
theorem framed_ (a : Option Addr) (c : Nat) (l : List Bs) (rd fs : List Int) (W : World) (hn : (framed (texts l)).length < 1152921504606846976) (hl : l.length < 2305843009213693951) (hG : Gl W noF rd fs) (hB : Bss W noF a l) :
    Calls Tryz.prog 184 #[.slice a l.length c] W (Ret fun v w => v = .agg (bv (digest rd fs (texts l))).toArray ∧ St W noF [] w) := by
  have hS := St.start W
  have hf := hG.first8
  refine calls_C Tryz.func184 rfl Tryz.ntmps184 rfl ?_
  repeat (first | (refine G_id ?_; first | refine G_nil ?_ | refine G_plain rfl rfl ?_) | (refine X_id ?_; first | refine X_yl (Yl_move rfl rfl) rfl rfl ?_ | refine X_yl (Yl_assign rfl rfl) rfl rfl ?_ | refine X_yl (Yl_len rfl rfl) rfl rfl ?_ | refine X_yl (Yl_build rfl rfl rfl) rfl rfl ?_ | refine X_box rfl rfl rfl rfl hS (fun _ _ hS _ => ?_) | refine X_alloc rfl rfl rfl hS (fun _ _ hS _ => ?_)) | (refine C_id ?_; first | refine C_seq ?_ | refine C_region ?_ | refine C_block ?_) | (refine E_id ?_; first | refine E_code ?_))
  rename_i b2 _ _ _ p wp _
  rw [bv_rep] at hS
  replace hS : St W noF [pts p (.cells StrM.init.cells.toArray 416), pts b2 (.cells (bv (List.replicate 32 0)).toArray 250)] wp := hS
  refine C_loop (α := Nat) (fun i => [(2, .pointer (some ⟨b2, 0, none⟩)), (3, .pointer (some ⟨p, 0, none⟩)), (10, .slice a l.length c), (11, .int .i64 (l.length : Nat)), (12, .int .i64 (i : Nat))])
    (fun i w => i ≤ l.length ∧ St W noF [pts p (.cells (StrM.init.more rd fs (framed ((texts l).take i))).cells.toArray 416), pts b2 (.cells (bv (List.replicate 32 0)).toArray 250)] w) (fun i => l.length - i) 0 ⟨rfl, rfl, rfl, rfl, rfl, trivial⟩ ⟨Nat.zero_le _, hS⟩ ?_
  clear hS
  rintro i w ⟨hi, hS⟩
  have hle := framed_take_le (texts l) i
  obtain ⟨S', hSe⟩ : ∃ S', S' = StrM.init.more rd fs (framed ((texts l).take i)) := ⟨_, rfl⟩
  have hok' : S'.ok := hSe ▸ StrM.more_ok hf StrM.init_ok
  have hn' : S'.n = (framed ((texts l).take i)).length := by rw [hSe, StrM.more_n]; simp [StrM.init]
  rw [← hSe] at hS
  by_cases hlt : i < l.length
  · have hx0 : l[i]? = some l[i] := List.getElem?_eq_getElem hlt
    generalize l[i] = x at hx0
    have hxm := List.mem_of_getElem? hx0
    have hbx := hB.all x hxm
    have hj := framed_snoc (l := texts l) (i := i) (x := x.s) (by simp [texts, hx0])
    have hle1 := framed_take_le (texts l) (i + 1)
    rw [hj, List.length_append, List.length_append, frameB_length] at hle1
    obtain ⟨ab, ao, rfl⟩ := (hB.row.rd hS).base (by intro e; simp at e; subst e; simp at hlt)
    have hr := hB.row
    have hx : (l.map Bs.val)[i]? = some (.slice x.a x.s.length x.c) := by simp [hx0, Bs.val]
    repeat (first | (refine G_id ?_; first | refine G_nil ?_ | refine G_plain rfl rfl ?_) | (refine X_id ?_; first | refine X_yl (Yl_move rfl rfl) rfl rfl ?_ | refine X_yl (Yl_assign rfl rfl) rfl rfl ?_ | refine X_yl (Yl_lss_t rfl rfl rfl (by omega)) rfl rfl ?_ | refine X_yl (Yl_indexAddr rfl rfl rfl (by omega) (by omega) (by first | assumption | exact ⟨_, _, rfl⟩)) rfl rfl ?_ | refine X_yl (Yl_load rfl rfl ((hr.rd hS).cellX (by omega) hx)) rfl rfl ?_ | refine X_alloc rfl rfl rfl hS (fun _ _ hS _ => ?_)) | (refine C_id ?_; first | refine C_seq ?_ | refine C_region ?_ | refine C_block ?_ | refine C_skip ?_ | refine C_cond_t rfl ?_) | (refine E_id ?_; first | refine E_code ?_))
    rename_i b6 _ _
    refine C_loop (α := Nat) (fun j => [(2, .pointer (some ⟨b2, 0, none⟩)), (3, .pointer (some ⟨p, 0, none⟩)), (10, .slice (some ⟨ab, ao, none⟩) l.length c), (11, .int .i64 (l.length : Nat)), (12, .int .i64 (i : Nat)), (5, .slice x.a x.s.length x.c), (6, .pointer (some ⟨b6, 0, none⟩)), (16, .int .i64 (j : Nat))])
      (fun j w => j ≤ 4 ∧ St W noF [pts b6 (.cells (bv (frameTo x.s.length j)).toArray 417), pts p (.cells S'.cells.toArray 416), pts b2 (.cells (bv (List.replicate 32 0)).toArray 250)] w) (fun j => 4 - j) 0 ⟨rfl, rfl, rfl, rfl, rfl, rfl, rfl, rfl, trivial⟩ ⟨Nat.zero_le _, hS⟩ ?_
    clear hS
    rintro j w ⟨hj4, hS⟩
    obtain ⟨B, hBe⟩ : ∃ B, B = frameTo x.s.length j := ⟨_, rfl⟩
    have hBl : B.length = 4 := by rw [hBe]; exact frameTo_length _ _
    rw [← hBe] at hS
    by_cases hj : j < 4
    · repeat (first | (refine G_id ?_; first | refine G_nil ?_ | refine G_plain rfl rfl ?_) | (refine X_id ?_; first | refine X_yl (Yl_move rfl rfl) rfl rfl ?_ | refine X_yl (Yl_assign rfl rfl) rfl rfl ?_ | refine X_yl (Yl_len rfl rfl) rfl rfl ?_ | refine X_yl (Yl_lss_t rfl rfl rfl (by omega)) rfl rfl ?_ | refine X_yl (Yl_indexAddr_arr rfl rfl rfl (by omega) (by omega)) rfl rfl ?_ | refine X_yl (Yl_add rfl rfl rfl (w64 (by omega) (by omega))) rfl rfl ?_ | refine X_yl (Yl_sub rfl rfl rfl (w64 (by omega) (by omega))) rfl rfl ?_ | refine X_yl (Yl_mul rfl rfl rfl (w64 (by omega) (by omega))) rfl rfl ?_ | refine X_yl (Yl_convU8 rfl rfl) rfl rfl ?_ | refine X_yl (Yl_shr rfl rfl rfl (by omega)) rfl rfl ?_ | refine X_storeB rfl rfl rfl rfl hS (by omega) (fun _ hS => ?_)) | (refine C_id ?_; first | refine C_seq ?_ | refine C_region ?_ | refine C_block ?_ | refine C_skip ?_ | refine C_cond_t rfl ?_) | (refine E_id ?_; first | refine E_code ?_ | refine E_blk_n ?_))
      refine E_round (j + 1) ⟨rfl, rfl, rfl, rfl, rfl, rfl, rfl, rfl, trivial⟩ ⟨by omega, ?_⟩ (by omega)
      simp only [frameTo, frameAt]
      rw [← hBe]
      rw [show (8 * (3 - (j : Int))).toNat = 8 * (3 - j) by omega, show 0 + (j : Int).toNat * 1 = j by omega] at hS
      exact hS
    · obtain rfl : j = 4 := by omega
      repeat (first | (refine G_id ?_; first | refine G_nil ?_ | refine G_plain rfl rfl ?_) | (refine X_id ?_; first | refine X_yl (Yl_move rfl rfl) rfl rfl ?_ | refine X_yl (Yl_lss_f rfl rfl rfl (by omega)) rfl rfl ?_ | refine X_yl (Yl_slice_arr rfl rfl) rfl rfl ?_ | refine X_buildSlice rfl rfl rfl rfl rfl rfl rfl rfl hS (fun _ _ hS _ => ?_)) | (refine C_id ?_; first | refine C_seq ?_ | refine C_region ?_ | refine C_exit ?_ | refine C_cond_f rfl ?_) | (refine E_id ?_; first | refine E_code ?_ | refine E_then_exit ?_ | refine E_blk_same ?_))
      rename_i nb wb _
      obtain ⟨_, hc, hr, hw, hbk⟩ := hS.call [false, false, true]
      have hBs : Bss wb _ (some ⟨nb, 0, none⟩) [⟨some ⟨b6, 0, none⟩, 4, B⟩, x] := ⟨by
        have := (hr _ (List.mem_cons_self ..)).own_row
        simpa [Bs.val, hBl] using this, fun y hy => by
        simp only [List.mem_cons, List.not_mem_nil, or_false] at hy
        rcases hy with rfl | rfl
        · exact (hr _ (List.mem_cons_of_mem _ (List.mem_cons_self ..))).mono fun h hh => ⟨h, row_pts_at (n := 4) (by simp [← bv_length, ← hBl]) h hh, fun _ _ e => e⟩
        · exact hw _ hbx⟩
      refine X_callg _ rfl rfl rfl rfl rfl (dwrite_ p S' _ _ _ rd fs _ _ _ hok' (by simp [joined, hBl]; omega) (by simp) (hG.mono hw) hBs hc) ?_
      rintro _ w ⟨rfl, hS⟩
      replace hS := hbk hS
      clear hc hr hw hbk hBs
      repeat (first | (refine G_id ?_; first | refine G_nil ?_ | refine G_plain rfl rfl ?_) | (refine X_id ?_; first | refine X_yl (Yl_move rfl rfl) rfl rfl ?_ | refine X_yl (Yl_add rfl rfl rfl (w64 (by omega) (by omega))) rfl rfl ?_) | (refine C_id ?_; first | refine C_region ?_) | (refine E_id ?_; first | refine E_code ?_ | refine E_blk_n ?_))
      refine E_round (i + 1) ⟨rfl, rfl, rfl, rfl, rfl, trivial⟩ ⟨by omega, ?_⟩ (by omega)
      have hS := hS.pick [0, 2]
      rw [framed_snoc (x := x.s) (by simp [texts, hx0]), StrM.more_append, ← hSe]
      rw [show joined [⟨some ⟨b6, 0, none⟩, 4, B⟩, x] = frameB x.s.length ++ x.s by rw [hBe]; simp [joined, frameB]] at hS
      exact hS
  · obtain rfl : i = l.length := by omega
    have hlen32 : LenO (bv (S'.sum rd fs)) 32 := ⟨by rw [bv_length]; exact outB_length _⟩
    repeat (first | (refine G_id ?_; first | refine G_nil ?_ | refine G_plain rfl rfl ?_) | (refine X_id ?_; first | (refine X_callq 258 rfl rfl rfl rfl rfl hS (sum_ p S' rd fs 416 _ hok' (by omega) (hG.mono fun r hr => (hr.rd hS).ro) (hS.rd (List.mem_cons_self ..))) ?_; rintro _ _ rfl hS) | refine X_yl (Yl_move rfl rfl) rfl rfl ?_ | refine X_yl (Yl_lss_f rfl rfl rfl (by omega)) rfl rfl ?_ | refine X_storeAll rfl rfl rfl rfl hS (fun _ hS => ?_)) | (refine C_id ?_; first | refine C_seq ?_ | refine C_region ?_ | refine C_ret ?_ | refine C_exit ?_ | refine C_cond_f rfl ?_) | (refine E_id ?_; first | refine E_code ?_ | refine E_then_exit ?_ | refine E_blk_same ?_ | refine E_ret1 rfl (by first | exact Rv_tmp rfl | exact Rv_cell rfl (run_load1 hS.cell) | exact Rv_cell rfl (run_loadN hS.cellsN)) (Ret.mk ?_)))
    refine ⟨?_, hS.drops⟩
    rw [hSe, show (texts l).take l.length = texts l from List.take_of_length_le (by simp [texts])]
    unfold digest
    rfl
end Cr
namespace Cr
open Go Go.Proofs
theorem gl_of_laid {W : World} (h : laidMetH Tryz.prog Go.Proofs.YtfcnoebnnglfkaaGreatDoor.Rows.inodeNilRow.laid W) : Gl W noF roundL firstL := by
  have h1 : Lib.TabIs Tryz.prog W "creel/digest.round" .u32 roundL := Lib.tabIs_of_head (g := 2) (t := 504) (e := 230) (n := 64) (rest := [_]) (by kernel_rfl) (by kernel_rfl) Tryz.underlying504 Tryz.underlying230 (by kernel_rfl) (by kernel_rfl) h
  have h2 : Lib.TabIs Tryz.prog W "creel/digest.first" .u32 firstL := Lib.tabIs_of_head (g := 0) (t := 414) (e := 230) (n := 8) (rest := []) (by kernel_rfl) (by kernel_rfl) Tryz.underlying414 Tryz.underlying230 (by kernel_rfl) (by kernel_rfl) (laidMet.tail h)
  refine ⟨(Rd.ofCells (fun i v hv => ?_) (by simp [ints, roundL])).ro, (Rd.ofCells (fun i v hv => ?_) (by simp [ints, firstL])).ro, rfl, rfl⟩
  · have hi : i < roundL.length := by
      rcases Nat.lt_or_ge i roundL.length with h | h
      · exact h
      · rw [List.getElem?_eq_none (by rw [ints_length]; omega)] at hv; cases hv
    rw [ints_get hi] at hv
    rw [← Option.some.inj hv]
    exact h1.cell (by kernel_rfl) i hi
  · have hi : i < firstL.length := by
      rcases Nat.lt_or_ge i firstL.length with h | h
      · exact h
      · rw [List.getElem?_eq_none (by rw [ints_length]; omega)] at hv; cases hv
    rw [ints_get hi] at hv
    rw [← Option.some.inj hv]
    exact h2.cell (by kernel_rfl) i hi
end Cr
