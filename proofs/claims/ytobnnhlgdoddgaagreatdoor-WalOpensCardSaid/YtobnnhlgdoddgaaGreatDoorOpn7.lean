/-
  The document's digest: a block more.
  The document's table is the program's two.
  The two sides' rounds of the digest are the same, over natural numbers.
  The document's rounds, over natural numbers.
  A block more: the two sides' words are the same.
  Bytes told one by one are blocks told one by one.
  The document's digest of bytes: what Sum computes.
  The document's digest of bytes is the program's.
  The document's answers: Frame, a transaction's digest, heads, notes.
-/
import Derived.Test.YtobnnhlgdoddgaaGreatDoorOpn6
import Derived.Test.YtobnnhlgdoddgaaGreatDoorOpn3
import Derived.KernelRfl
import Derived.Test.YtobnnhlgdoddgaaGreatDoorOpn5
import Derived.Test.YtobnnhlgdoddgaaGreatDoorOpn4
namespace Cr
open Go Go.Proofs
set_option maxRecDepth 100000
set_option maxHeartbeats 8000000
attribute [local irreducible] Calls

theorem turned_ (x : Int) (n : Nat) (W : World) (hn : n ≤ 32) : Calls Tryz.prog 91 #[.int .i64 x, .int .i64 (n : Nat)] W (Ret fun v w => v = .int .i64 (turnI x n) ∧ St W noF [] w) := by
  have hS := St.start W
  have hb : ¬ ishl .i64 1 ((n : Int)).toNat = 0 := by
    rw [Int.toNat_natCast, ishl_one n hn]
    have := Int.pow_pos (n := 2) (m := n) (by omega)
    omega
  refine calls_C Tryz.func91 rfl Tryz.ntmps91 rfl ?_
  repeat (first | (refine G_id ?_; first | refine G_nil ?_ | refine G_plain rfl rfl ?_) | (refine X_id ?_; first | refine X_yl (Yl_assign rfl rfl) rfl rfl ?_) | (refine C_id ?_; first | refine C_seq ?_ | refine C_region ?_) | (refine E_id ?_; first | refine E_code ?_))
  refine C_ord (.s 0 (.s 1 (.s 2 (.s 3 (.s 4 (.s 5 (.s 6 (.s 7 (.s 8 (.s 9 (.s 10 (.s 11 .nil)))))))))))) mixed (by kernel_rfl) rfl ?_
  have hS := hS.drew
  repeat (first | (refine C_id ?_; first | refine C_ret ?_) | (refine E_id ?_; first | refine E_code ?_ | refine E_ret1 rfl (Rv_tmp rfl) (Ret.mk ?_)) | (refine GO_id ?_; first | refine GO_nil ?_ | refine GO_pure rfl rfl (fun _ => Yl_move rfl rfl) rfl rfl ?_ | refine GO_pure rfl rfl (fun _ => Yl_assign rfl rfl) rfl rfl ?_ | refine GO_pure rfl rfl (fun _ => Yl_sub rfl rfl rfl (w64 (by omega) (by omega))) rfl rfl ?_ | refine GO_pure rfl rfl (fun _ => Yl_add rfl rfl rfl rfl) rfl rfl ?_ | refine GO_pure rfl rfl (fun _ => Yl_shr rfl rfl rfl (by omega)) rfl rfl ?_ | refine GO_pure rfl rfl (fun _ => Yl_shl rfl rfl rfl (by omega)) rfl rfl ?_ | refine GO_pure rfl rfl (fun _ => Yl_rem rfl rfl rfl (by omega) rfl) rfl rfl ?_))
  refine ⟨?_, hS⟩
  rw [turnI, Int.toNat_natCast, show (32 - (n : Int)).toNat = 32 - n by omega]
abbrev two (p : Nat) (x y : Int) : Res := pts p (.cells #[.int .i64 x, .int .i64 y] 157)
theorem turn_ (T H : List Int) (hT : T.length = 72) (hH : H.length = 8) (a : Option Addr) (c : Nat) (b : List UInt8) (W : World) (hb : Rd W (bytes a b)) (h64 : b.length = 64) :
    Calls Tryz.prog 79 #[.agg (ints .i64 T).toArray, .agg (ints .i64 H).toArray, .slice a 64 c] W (Ret fun v w => v = .agg (ints .i64 (turnM T H b)).toArray ∧ St W noF [] w) := by
  have hS := St.start W
  have hbo := hb.ro
  obtain ⟨ab, ao, rfl⟩ := hb.base (by intro e; have := bv_length b; rw [e] at this; simp at this; omega)
  clear hb
  have hb := hbo
  have hl72 : LenO (ints .i64 T) 72 := ⟨by rw [ints_length, hT]⟩
  have hl8 : LenO (ints .i64 H) 8 := ⟨by rw [ints_length, hH]⟩
  refine calls_C Tryz.func79 rfl Tryz.ntmps79 rfl ?_
  repeat (first | (refine G_id ?_; first | refine G_nil ?_ | refine G_plain rfl rfl ?_) | (refine X_id ?_; first | refine X_yl (Yl_assign rfl rfl) rfl rfl ?_ | refine X_box rfl rfl rfl rfl hS (fun _ _ hS _ => ?_) | refine X_alloc rfl rfl rfl hS (fun _ _ hS _ => ?_)) | (refine C_id ?_; first | refine C_seq ?_ | refine C_region ?_ | refine C_block ?_) | (refine E_id ?_; first | refine E_code ?_))
  rename_i b3 _ _ _ b4 _ _ _ b6 _ _ _ b7 _ _
  rw [ints_rep] at hS
  refine C_joinB (α := Unit) (fun _ => [(3, .pointer (some ⟨b3, 0, none⟩)), (4, .pointer (some ⟨b4, 0, none⟩)), (6, .pointer (some ⟨b6, 0, none⟩)), (7, .pointer (some ⟨b7, 0, none⟩))])
    (fun _ w => St W noF [pts b7 (.cells (ints .i64 (wordsTo b 64)).toArray 36), pts b6 (.cells #[.int .i64 0, .int .i64 0, .int .i64 0, .int .i64 0, .int .i64 0, .int .i64 0, .int .i64 0, .int .i64 0] 35), pts b4 (.cells (ints .i64 H).toArray 35), pts b3 (.cells (ints .i64 T).toArray 38)] w) ?_ ?_
  · refine C_loop (α := Nat) (fun i => [(2, .slice (some ⟨ab, ao, none⟩) 64 c), (3, .pointer (some ⟨b3, 0, none⟩)), (4, .pointer (some ⟨b4, 0, none⟩)), (6, .pointer (some ⟨b6, 0, none⟩)), (7, .pointer (some ⟨b7, 0, none⟩)), (8, .int .i64 (i : Nat))])
      (fun i w => i ≤ 64 ∧ St W noF [pts b7 (.cells (ints .i64 (wordsTo b i)).toArray 36), pts b6 (.cells #[.int .i64 0, .int .i64 0, .int .i64 0, .int .i64 0, .int .i64 0, .int .i64 0, .int .i64 0, .int .i64 0] 35), pts b4 (.cells (ints .i64 H).toArray 35), pts b3 (.cells (ints .i64 T).toArray 38)] w) (fun i => 64 - i) 0 ⟨rfl, rfl, rfl, rfl, rfl, rfl, trivial⟩ ⟨Nat.zero_le _, hS⟩ ?_
    clear hS
    rintro i w ⟨hi, hS⟩
    obtain ⟨L, hLe⟩ : ∃ L, L = wordsTo b i := ⟨_, rfl⟩
    have hL : L.length = 64 := by rw [hLe]; exact wordsTo_length b i
    rw [← hLe] at hS
    by_cases h1 : i < 64
    · by_cases h16 : i < 16
      · repeat (first | (refine G_id ?_; first | refine G_nil ?_ | refine G_plain rfl rfl ?_) | (refine X_id ?_; first | refine X_yl (Yl_move rfl rfl) rfl rfl ?_ | refine X_yl (Yl_lss_t rfl rfl rfl (by omega)) rfl rfl ?_) | (refine C_id ?_; first | refine C_seq ?_ | refine C_region ?_ | refine C_block ?_ | refine C_skip ?_ | refine C_cond_t rfl ?_) | (refine E_id ?_; first | refine E_code ?_))
        refine C_ord (.s 0 (.s 1 (.s 2 (.s 3 (.s 4 (.s 5 (.s 6 (.s 7 (.s 8 (.s 9 (.s 10 (.s 11 (.s 12 (.s 13 (.s 14 (.s 15 (.s 16 (.s 17 (.s 18 (.s 19 (.s 20 (.s 21 (.s 22 (.s 23 (.s 24 (.s 25 (.s 26 (.s 27 (.s 28 (.s 29 (.s 30 (.s 31 (.s 32 (.s 33 (.s 34 (.h 35 .nil .no)))))))))))))))))))))))))))))))))))) mixed (by kernel_rfl) rfl ?_
        have hS := hS.drew
        repeat (first | (refine G_id ?_; first | refine G_nil ?_ | refine G_plain rfl rfl ?_) | (refine X_id ?_; first | refine X_yl (Yl_move rfl rfl) rfl rfl ?_ | refine X_yl (Yl_assign rfl rfl) rfl rfl ?_ | refine X_yl (Yl_add rfl rfl rfl (w64 (by omega) (by omega))) rfl rfl ?_ | refine X_storeI rfl rfl rfl rfl hS (by omega) (fun _ hS => ?_)) | (refine C_id ?_; first | refine C_region ?_ | refine C_exit ?_) | (refine E_id ?_; first | refine E_code ?_ | refine E_then_exit ?_ | refine E_blk_same ?_) | (refine GO_id ?_; first | refine GO_nil ?_ | refine GO_pure rfl rfl (fun _ => Yl_move rfl rfl) rfl rfl ?_ | refine GO_pure rfl rfl (fun _ => Yl_indexAddr_arr rfl rfl rfl (by omega) (by omega)) rfl rfl ?_ | refine GO_pure rfl rfl (fun _ => Yl_indexAddr rfl rfl rfl (by omega) (by omega) (by first | assumption | exact ⟨_, _, rfl⟩)) rfl rfl ?_ | refine GO_pure rfl rfl (fun _ => Yl_add rfl rfl rfl (w64 (by omega) (by omega))) rfl rfl ?_ | refine GO_pure rfl rfl (fun _ => Yl_mul rfl rfl rfl (w64 (by omega) (by omega))) rfl rfl ?_ | refine GO_pure rfl rfl (fun _ => Yl_add rfl rfl rfl rfl) rfl rfl ?_ | refine GO_pure rfl rfl (fun _ => Yl_convInt rfl rfl rfl) rfl rfl ?_ | refine GO_pure rfl rfl (fun _ => Yl_shl rfl rfl rfl (by omega)) rfl rfl ?_ | refine GO_read (fun w' => w'.cell? _ = some _) rfl rfl ((hb.rd hS).cellB' (by omega)) (fun _ hc => Yl_load rfl rfl hc) rfl rfl ?_ | refine GO_hard rfl rfl ?_) | (refine Keep_id ?_; first | refine And.intro (by repeat (first | exact trivial | refine And.intro (.inl (by decide +kernel)) ?_ | refine And.intro (.inr (by first | assumption | exact hS.cell | exact cell_at (by assumption) | exact hS.cellI (by omega) | exact hS.cellIP (by omega) | exact hS.cellsN | exact ((hr.rd hS).cellX (by omega) hx) | exact ((hr2.rd hS).cellX (by omega) hx2) | exact hS.cellB (by omega) | exact hS.cellBA (by omega) | exact (hb.rd hS).cellB' (by omega) | exact (hb2.rd hS).cellB' (by omega) | exact (hg.rd hS).cellI (by omega) | exact (hg2.rd hS).cellI (by omega) | exact ((hr.rd hS).cellF (by first | omega | (dsimp only; omega)) hx) | exact ((hr2.rd hS).cellF (by first | omega | (dsimp only; omega)) hx2) | exact hS.cellO 0 (by omega) | exact hS.cellO 1 (by omega) | exact hS.cellIA (by omega) | exact (hg.rd hS).cellIA (by omega) | exact (hg2.rd hS).cellIA (by omega))) ?_)) ?_))
        rw [show 0 + (i : Int).toNat * 1 = i by omega, show (4 * (i : Int)).toNat * 1 = 4 * i by omega, show (4 * (i : Int) + 1).toNat * 1 = 4 * i + 1 by omega, show (4 * (i : Int) + 2).toNat * 1 = 4 * i + 2 by omega, show (4 * (i : Int) + 3).toNat * 1 = 4 * i + 3 by omega] at hS
        exact E_round (i + 1) ⟨rfl, rfl, rfl, rfl, rfl, rfl, trivial⟩ ⟨by omega, by rw [wordsTo, if_pos h16, ← hLe]; exact hS⟩ (by omega)
      · repeat (first | (refine G_id ?_; first | refine G_nil ?_ | refine G_plain rfl rfl ?_) | (refine X_id ?_; first | refine X_yl (Yl_move rfl rfl) rfl rfl ?_ | refine X_yl (Yl_lss_t rfl rfl rfl (by omega)) rfl rfl ?_ | refine X_yl (Yl_lss_f rfl rfl rfl (by omega)) rfl rfl ?_) | (refine C_id ?_; first | refine C_seq ?_ | refine C_region ?_ | refine C_block ?_ | refine C_skip ?_ | refine C_cond_t rfl ?_ | refine C_cond_f rfl ?_) | (refine E_id ?_; first | refine E_code ?_))
        refine C_ord (.s 0 (.s 1 (.s 2 (.s 3 (.s 5 (.s 6 (.s 7 (.s 8 (.s 11 (.s 12 (.s 13 (.s 14 (.s 15 (.h 4 (.h 9 (.s 10 (.s 16 (.s 17 .nil))) .no) .no)))))))))))))) mixed (by kernel_rfl) rfl ?_
        have hS := hS.drew
        repeat (first | (refine X_id ?_; first | (refine X_callq 91 rfl rfl rfl rfl rfl hS (turned_ _ 7 _ (by omega)) ?_; rintro _ _ rfl hS) | (refine X_callq 91 rfl rfl rfl rfl rfl hS (turned_ _ 18 _ (by omega)) ?_; rintro _ _ rfl hS)) | (refine C_id ?_; first | refine C_seq ?_) | (refine E_id ?_; first | refine E_code ?_) | (refine GO_id ?_; first | refine GO_nil ?_ | refine GO_pure rfl rfl (fun _ => Yl_move rfl rfl) rfl rfl ?_ | refine GO_pure rfl rfl (fun _ => Yl_assign rfl rfl) rfl rfl ?_ | refine GO_pure rfl rfl (fun _ => Yl_indexAddr_arr rfl rfl rfl (by omega) (by omega)) rfl rfl ?_ | refine GO_pure rfl rfl (fun _ => Yl_sub rfl rfl rfl (w64 (by omega) (by omega))) rfl rfl ?_ | refine GO_pure rfl rfl (fun _ => Yl_xor rfl rfl rfl) rfl rfl ?_ | refine GO_pure rfl rfl (fun _ => Yl_shr rfl rfl rfl (by omega)) rfl rfl ?_ | refine GO_read (fun w' => w'.cell? _ = some _) rfl rfl (hS.cellI (by omega)) (fun _ hc => Yl_load rfl rfl hc) rfl rfl ?_ | refine GO_hard rfl rfl ?_) | (refine Keep_id ?_; first | refine And.intro (by repeat (first | exact trivial | refine And.intro (.inl (by decide +kernel)) ?_ | refine And.intro (.inr (by first | assumption | exact hS.cell | exact cell_at (by assumption) | exact hS.cellI (by omega) | exact hS.cellIP (by omega) | exact hS.cellsN | exact ((hr.rd hS).cellX (by omega) hx) | exact ((hr2.rd hS).cellX (by omega) hx2) | exact hS.cellB (by omega) | exact hS.cellBA (by omega) | exact (hb.rd hS).cellB' (by omega) | exact (hb2.rd hS).cellB' (by omega) | exact (hg.rd hS).cellI (by omega) | exact (hg2.rd hS).cellI (by omega) | exact ((hr.rd hS).cellF (by first | omega | (dsimp only; omega)) hx) | exact ((hr2.rd hS).cellF (by first | omega | (dsimp only; omega)) hx2) | exact hS.cellO 0 (by omega) | exact hS.cellO 1 (by omega) | exact hS.cellIA (by omega) | exact (hg.rd hS).cellIA (by omega) | exact (hg2.rd hS).cellIA (by omega))) ?_)) ?_))
        refine C_ord (.s 0 (.s 1 (.s 2 (.s 3 (.s 5 (.s 6 (.s 7 (.s 8 (.s 11 (.s 12 (.s 13 (.s 14 (.s 15 (.h 4 (.h 9 (.s 10 (.s 16 (.s 17 .nil))) .no) .no)))))))))))))) mixed (by kernel_rfl) rfl ?_
        have hS := hS.drew
        repeat (first | (refine X_id ?_; first | (refine X_callq 91 rfl rfl rfl rfl rfl hS (turned_ _ 17 _ (by omega)) ?_; rintro _ _ rfl hS) | (refine X_callq 91 rfl rfl rfl rfl rfl hS (turned_ _ 19 _ (by omega)) ?_; rintro _ _ rfl hS)) | (refine E_id ?_; first | refine E_code ?_) | (refine GO_id ?_; first | refine GO_nil ?_ | refine GO_pure rfl rfl (fun _ => Yl_move rfl rfl) rfl rfl ?_ | refine GO_pure rfl rfl (fun _ => Yl_assign rfl rfl) rfl rfl ?_ | refine GO_pure rfl rfl (fun _ => Yl_indexAddr_arr rfl rfl rfl (by omega) (by omega)) rfl rfl ?_ | refine GO_pure rfl rfl (fun _ => Yl_sub rfl rfl rfl (w64 (by omega) (by omega))) rfl rfl ?_ | refine GO_pure rfl rfl (fun _ => Yl_xor rfl rfl rfl) rfl rfl ?_ | refine GO_pure rfl rfl (fun _ => Yl_shr rfl rfl rfl (by omega)) rfl rfl ?_ | refine GO_read (fun w' => w'.cell? _ = some _) rfl rfl (hS.cellI (by omega)) (fun _ hc => Yl_load rfl rfl hc) rfl rfl ?_ | refine GO_hard rfl rfl ?_) | (refine Keep_id ?_; first | refine And.intro (by repeat (first | exact trivial | refine And.intro (.inl (by decide +kernel)) ?_ | refine And.intro (.inr (by first | assumption | exact hS.cell | exact cell_at (by assumption) | exact hS.cellI (by omega) | exact hS.cellIP (by omega) | exact hS.cellsN | exact ((hr.rd hS).cellX (by omega) hx) | exact ((hr2.rd hS).cellX (by omega) hx2) | exact hS.cellB (by omega) | exact hS.cellBA (by omega) | exact (hb.rd hS).cellB' (by omega) | exact (hb2.rd hS).cellB' (by omega) | exact (hg.rd hS).cellI (by omega) | exact (hg2.rd hS).cellI (by omega) | exact ((hr.rd hS).cellF (by first | omega | (dsimp only; omega)) hx) | exact ((hr2.rd hS).cellF (by first | omega | (dsimp only; omega)) hx2) | exact hS.cellO 0 (by omega) | exact hS.cellO 1 (by omega) | exact hS.cellIA (by omega) | exact (hg.rd hS).cellIA (by omega) | exact (hg2.rd hS).cellIA (by omega))) ?_)) ?_))
        refine C_ord (.s 0 (.s 1 (.s 2 (.s 3 (.s 4 (.s 5 (.s 6 (.s 7 (.s 8 (.s 9 (.s 10 (.s 11 (.s 12 (.s 13 (.s 14 (.s 15 (.h 16 .nil .no))))))))))))))))) mixed (by kernel_rfl) rfl ?_
        have hS := hS.drew
        repeat (first | (refine G_id ?_; first | refine G_nil ?_ | refine G_plain rfl rfl ?_) | (refine X_id ?_; first | refine X_yl (Yl_move rfl rfl) rfl rfl ?_ | refine X_yl (Yl_assign rfl rfl) rfl rfl ?_ | refine X_yl (Yl_add rfl rfl rfl (w64 (by omega) (by omega))) rfl rfl ?_ | refine X_storeI rfl rfl rfl rfl hS (by omega) (fun _ hS => ?_)) | (refine C_id ?_; first | refine C_region ?_) | (refine E_id ?_; first | refine E_code ?_ | refine E_blk_n ?_) | (refine GO_id ?_; first | refine GO_nil ?_ | refine GO_pure rfl rfl (fun _ => Yl_move rfl rfl) rfl rfl ?_ | refine GO_pure rfl rfl (fun _ => Yl_indexAddr_arr rfl rfl rfl (by omega) (by omega)) rfl rfl ?_ | refine GO_pure rfl rfl (fun _ => Yl_sub rfl rfl rfl (w64 (by omega) (by omega))) rfl rfl ?_ | refine GO_pure rfl rfl (fun _ => Yl_add rfl rfl rfl rfl) rfl rfl ?_ | refine GO_pure rfl rfl (fun _ => Yl_rem rfl rfl rfl (by omega) rfl) rfl rfl ?_ | refine GO_read (fun w' => w'.cell? _ = some _) rfl rfl (hS.cellI (by omega)) (fun _ hc => Yl_load rfl rfl hc) rfl rfl ?_ | refine GO_hard rfl rfl ?_) | (refine Keep_id ?_; first | refine And.intro (by repeat (first | exact trivial | refine And.intro (.inl (by decide +kernel)) ?_ | refine And.intro (.inr (by first | assumption | exact hS.cell | exact cell_at (by assumption) | exact hS.cellI (by omega) | exact hS.cellIP (by omega) | exact hS.cellsN | exact ((hr.rd hS).cellX (by omega) hx) | exact ((hr2.rd hS).cellX (by omega) hx2) | exact hS.cellB (by omega) | exact hS.cellBA (by omega) | exact (hb.rd hS).cellB' (by omega) | exact (hb2.rd hS).cellB' (by omega) | exact (hg.rd hS).cellI (by omega) | exact (hg2.rd hS).cellI (by omega) | exact ((hr.rd hS).cellF (by first | omega | (dsimp only; omega)) hx) | exact ((hr2.rd hS).cellF (by first | omega | (dsimp only; omega)) hx2) | exact hS.cellO 0 (by omega) | exact hS.cellO 1 (by omega) | exact hS.cellIA (by omega) | exact (hg.rd hS).cellIA (by omega) | exact (hg2.rd hS).cellIA (by omega))) ?_)) ?_))
        rw [show 0 + (i : Int).toNat * 1 = i by omega, show 0 + ((i : Int) - 16).toNat * 1 = i - 16 by omega, show 0 + ((i : Int) - 15).toNat * 1 = i - 15 by omega, show 0 + ((i : Int) - 7).toNat * 1 = i - 7 by omega, show 0 + ((i : Int) - 2).toNat * 1 = i - 2 by omega] at hS
        exact E_round (i + 1) ⟨rfl, rfl, rfl, rfl, rfl, rfl, trivial⟩ ⟨by omega, by rw [wordsTo, if_neg h16, ← hLe]; exact hS⟩ (by omega)
    · obtain rfl : i = 64 := by omega
      repeat (first | (refine G_id ?_; first | refine G_nil ?_ | refine G_plain rfl rfl ?_) | (refine X_id ?_; first | refine X_yl (Yl_move rfl rfl) rfl rfl ?_ | refine X_yl (Yl_lss_f rfl rfl rfl (by omega)) rfl rfl ?_) | (refine C_id ?_; first | refine C_seq ?_ | refine C_region ?_ | refine C_exit ?_ | refine C_cond_f rfl ?_) | (refine E_id ?_; first | refine E_code ?_ | refine E_then_exit ?_ | refine E_blk_same ?_))
      exact E_mid () ⟨rfl, rfl, rfl, rfl, trivial⟩ (by rw [← hLe]; exact hS)
  clear hS
  rintro _ w hS
  obtain ⟨X, hX⟩ : ∃ X, X = wordsTo b 64 := ⟨_, rfl⟩
  have hXl : X.length = 64 := by rw [hX]; exact wordsTo_length b 64
  rw [← hX] at hS
  repeat (first | (refine C_id ?_; first | refine C_seq ?_))
  refine C_join (α := Nat × Nat × Nat × Nat) (fun z => [(3, .pointer (some ⟨b3, 0, none⟩)), (4, .pointer (some ⟨b4, 0, none⟩)), (6, .pointer (some ⟨b6, 0, none⟩)), (7, .pointer (some ⟨b7, 0, none⟩)), (11, .pointer (some ⟨z.1, 0, none⟩)), (12, .pointer (some ⟨z.2.1, 0, none⟩)), (13, .pointer (some ⟨z.2.2.1, 0, none⟩)), (14, .pointer (some ⟨z.2.2.2, 0, none⟩))])
    (fun z w => St W noF [two z.1 (H.getD 0 0) (H.getD 1 0), two z.2.1 (H.getD 2 0) (H.getD 3 0), two z.2.2.1 (H.getD 4 0) (H.getD 5 0), two z.2.2.2 (H.getD 6 0) (H.getD 7 0), pts b7 (.cells (ints .i64 X).toArray 36), pts b6 (.cells #[.int .i64 0, .int .i64 0, .int .i64 0, .int .i64 0, .int .i64 0, .int .i64 0, .int .i64 0, .int .i64 0] 35), pts b4 (.cells (ints .i64 H).toArray 35), pts b3 (.cells (ints .i64 T).toArray 38)] w) ?_ ?_
  · skip
    refine C_ord (.s 0 (.s 1 (.s 2 (.s 3 (.s 4 (.s 5 (.s 6 (.s 7 (.s 8 (.s 9 (.s 10 (.s 11 (.s 12 (.s 13 (.s 14 (.s 15 (.s 16 (.s 17 (.s 18 (.s 19 (.h 20 (.h 21 (.h 22 (.h 23 (.h 24 (.h 25 (.h 26 (.h 27 .nil .no) .no) .no) .no) .no) (.h 23 (.h 22 (.h 24 (.h 25 (.h 26 (.h 27 .nil .no) .no) .no) .no) .no) .no)) (.h 22 (.h 21 (.h 23 (.h 24 (.h 25 (.h 26 (.h 27 .nil .no) .no) .no) .no) .no) (.h 23 (.h 21 (.h 24 (.h 25 (.h 26 (.h 27 .nil .no) .no) .no) .no) .no) .no)) (.h 23 (.h 21 (.h 22 (.h 24 (.h 25 (.h 26 (.h 27 .nil .no) .no) .no) .no) .no) (.h 22 (.h 21 (.h 24 (.h 25 (.h 26 (.h 27 .nil .no) .no) .no) .no) .no) .no)) .no))) (.h 21 (.h 20 (.h 22 (.h 23 (.h 24 (.h 25 (.h 26 (.h 27 .nil .no) .no) .no) .no) .no) (.h 23 (.h 22 (.h 24 (.h 25 (.h 26 (.h 27 .nil .no) .no) .no) .no) .no) .no)) (.h 22 (.h 20 (.h 23 (.h 24 (.h 25 (.h 26 (.h 27 .nil .no) .no) .no) .no) .no) (.h 23 (.h 20 (.h 24 (.h 25 (.h 26 (.h 27 .nil .no) .no) .no) .no) .no) .no)) (.h 23 (.h 20 (.h 22 (.h 24 (.h 25 (.h 26 (.h 27 .nil .no) .no) .no) .no) .no) (.h 22 (.h 20 (.h 24 (.h 25 (.h 26 (.h 27 .nil .no) .no) .no) .no) .no) .no)) .no))) (.h 22 (.h 20 (.h 21 (.h 23 (.h 24 (.h 25 (.h 26 (.h 27 .nil .no) .no) .no) .no) .no) (.h 23 (.h 21 (.h 24 (.h 25 (.h 26 (.h 27 .nil .no) .no) .no) .no) .no) .no)) (.h 21 (.h 20 (.h 23 (.h 24 (.h 25 (.h 26 (.h 27 .nil .no) .no) .no) .no) .no) (.h 23 (.h 20 (.h 24 (.h 25 (.h 26 (.h 27 .nil .no) .no) .no) .no) .no) .no)) (.h 23 (.h 20 (.h 21 (.h 24 (.h 25 (.h 26 (.h 27 .nil .no) .no) .no) .no) .no) (.h 21 (.h 20 (.h 24 (.h 25 (.h 26 (.h 27 .nil .no) .no) .no) .no) .no) .no)) .no))) (.h 23 (.h 20 (.h 21 (.h 22 (.h 24 (.h 25 (.h 26 (.h 27 .nil .no) .no) .no) .no) .no) (.h 22 (.h 21 (.h 24 (.h 25 (.h 26 (.h 27 .nil .no) .no) .no) .no) .no) .no)) (.h 21 (.h 20 (.h 22 (.h 24 (.h 25 (.h 26 (.h 27 .nil .no) .no) .no) .no) .no) (.h 22 (.h 20 (.h 24 (.h 25 (.h 26 (.h 27 .nil .no) .no) .no) .no) .no) .no)) (.h 22 (.h 20 (.h 21 (.h 24 (.h 25 (.h 26 (.h 27 .nil .no) .no) .no) .no) .no) (.h 21 (.h 20 (.h 24 (.h 25 (.h 26 (.h 27 .nil .no) .no) .no) .no) .no) .no)) .no))) .no)))))))))))))))))))))))) mixed (by kernel_rfl) rfl ?_
    have hS := hS.drew
    repeat' (first | refine GO_alt ?_ ?_ | (refine X_id ?_; first | refine X_store rfl rfl rfl rfl hS (fun _ hS _ => ?_) | refine X_alloc rfl rfl rfl hS (fun _ _ hS _ => ?_)) | (refine GO_id ?_; first | refine GO_nil ?_ | refine GO_pure rfl rfl (fun _ => Yl_indexAddr_arr rfl rfl rfl (by omega) (by omega)) rfl rfl ?_ | refine GO_read (fun w' => w'.cell? _ = some _) rfl rfl (hS.cellI (by omega)) (fun _ hc => Yl_load rfl rfl hc) rfl rfl ?_ | refine GO_hard rfl rfl ?_ | refine GO_pure rfl rfl (fun _ => Yl_buildArr rfl rfl rfl rfl rfl) rfl rfl ?_) | (refine Keep_id ?_; first | refine And.intro (by repeat (first | exact trivial | refine And.intro (.inl (by decide +kernel)) ?_ | refine And.intro (.inr (by first | assumption | exact hS.cell | exact cell_at (by assumption) | exact hS.cellI (by omega) | exact hS.cellIP (by omega) | exact hS.cellsN | exact ((hr.rd hS).cellX (by omega) hx) | exact ((hr2.rd hS).cellX (by omega) hx2) | exact hS.cellB (by omega) | exact hS.cellBA (by omega) | exact (hb.rd hS).cellB' (by omega) | exact (hb2.rd hS).cellB' (by omega) | exact (hg.rd hS).cellI (by omega) | exact (hg2.rd hS).cellI (by omega) | exact ((hr.rd hS).cellF (by first | omega | (dsimp only; omega)) hx) | exact ((hr2.rd hS).cellF (by first | omega | (dsimp only; omega)) hx2) | exact hS.cellO 0 (by omega) | exact hS.cellO 1 (by omega) | exact hS.cellIA (by omega) | exact (hg.rd hS).cellIA (by omega) | exact (hg2.rd hS).cellIA (by omega))) ?_)) ?_))
    all_goals
      simp only [Int.toNat_zero, Int.toNat_one, show Int.toNat 2 = 2 from rfl, show Int.toNat 3 = 3 from rfl, show Int.toNat 4 = 4 from rfl, show Int.toNat 5 = 5 from rfl, show Int.toNat 6 = 6 from rfl, show Int.toNat 7 = 7 from rfl, Nat.mul_one, Nat.zero_add] at hS
      exact E_mid (_, _, _, _) ⟨rfl, rfl, rfl, rfl, rfl, rfl, rfl, rfl, trivial⟩ hS.took
  clear hS
  rintro ⟨p1, p2, p3, p4⟩ w hS
  simp only at hS ⊢
  repeat (first | (refine G_id ?_; first | refine G_nil ?_ | refine G_plain rfl rfl ?_) | (refine X_id ?_; first | refine X_yl (Yl_assign rfl rfl) rfl rfl ?_) | (refine C_id ?_; first | refine C_seq ?_ | refine C_region ?_ | refine C_block ?_) | (refine E_id ?_; first | refine E_code ?_))
  refine C_joinB (α := Unit) (fun _ => [(4, .pointer (some ⟨b4, 0, none⟩)), (6, .pointer (some ⟨b6, 0, none⟩)), (11, .pointer (some ⟨p1, 0, none⟩)), (12, .pointer (some ⟨p2, 0, none⟩)), (13, .pointer (some ⟨p3, 0, none⟩)), (14, .pointer (some ⟨p4, 0, none⟩))])
    (fun _ w => St W noF [two p1 (turnTo T X H 64).a (turnTo T X H 64).b, two p2 (turnTo T X H 64).c (turnTo T X H 64).d, two p3 (turnTo T X H 64).e (turnTo T X H 64).f, two p4 (turnTo T X H 64).g (turnTo T X H 64).h, pts b7 (.cells (ints .i64 X).toArray 36), pts b6 (.cells #[.int .i64 0, .int .i64 0, .int .i64 0, .int .i64 0, .int .i64 0, .int .i64 0, .int .i64 0, .int .i64 0] 35), pts b4 (.cells (ints .i64 H).toArray 35), pts b3 (.cells (ints .i64 T).toArray 38)] w) ?_ ?_
  · refine C_loop (α := Nat) (fun i => [(3, .pointer (some ⟨b3, 0, none⟩)), (4, .pointer (some ⟨b4, 0, none⟩)), (6, .pointer (some ⟨b6, 0, none⟩)), (7, .pointer (some ⟨b7, 0, none⟩)), (11, .pointer (some ⟨p1, 0, none⟩)), (12, .pointer (some ⟨p2, 0, none⟩)), (13, .pointer (some ⟨p3, 0, none⟩)), (14, .pointer (some ⟨p4, 0, none⟩)), (15, .int .i64 (i : Nat))])
      (fun i w => i ≤ 64 ∧ St W noF [two p1 (turnTo T X H i).a (turnTo T X H i).b, two p2 (turnTo T X H i).c (turnTo T X H i).d, two p3 (turnTo T X H i).e (turnTo T X H i).f, two p4 (turnTo T X H i).g (turnTo T X H i).h, pts b7 (.cells (ints .i64 X).toArray 36), pts b6 (.cells #[.int .i64 0, .int .i64 0, .int .i64 0, .int .i64 0, .int .i64 0, .int .i64 0, .int .i64 0, .int .i64 0] 35), pts b4 (.cells (ints .i64 H).toArray 35), pts b3 (.cells (ints .i64 T).toArray 38)] w) (fun i => 64 - i) 0
      ⟨rfl, rfl, rfl, rfl, rfl, rfl, rfl, rfl, rfl, trivial⟩ ⟨Nat.zero_le _, hS⟩ ?_
    clear hS
    rintro i w ⟨hi, hS⟩
    obtain ⟨⟨A, B, Cc, D, E, F, G, K⟩, hs⟩ : ∃ s, s = turnTo T X H i := ⟨_, rfl⟩
    rw [← hs] at hS
    simp only at hS
    by_cases h1 : i < 64
    · repeat (first | (refine G_id ?_; first | refine G_nil ?_ | refine G_plain rfl rfl ?_) | (refine X_id ?_; first | refine X_yl (Yl_move rfl rfl) rfl rfl ?_ | refine X_yl (Yl_assign rfl rfl) rfl rfl ?_ | refine X_yl (Yl_lss_t rfl rfl rfl (by omega)) rfl rfl ?_ | refine X_yl (Yl_indexAddr_arr rfl rfl rfl (by omega) (by omega)) rfl rfl ?_ | refine X_yl (Yl_add rfl rfl rfl rfl) rfl rfl ?_ | refine X_yl (Yl_sub rfl rfl rfl rfl) rfl rfl ?_ | refine X_yl (Yl_and rfl rfl rfl) rfl rfl ?_ | refine X_yl (Yl_or rfl rfl rfl) rfl rfl ?_ | refine X_yl (Yl_load rfl rfl (hS.cellO 0 (by omega))) rfl rfl ?_ | refine X_yl (Yl_load rfl rfl (hS.cellO 1 (by omega))) rfl rfl ?_) | (refine C_id ?_; first | refine C_seq ?_ | refine C_region ?_ | refine C_block ?_ | refine C_skip ?_ | refine C_cond_t rfl ?_) | (refine E_id ?_; first | refine E_code ?_))
      refine C_ord (.s 0 (.s 1 (.s 2 (.s 3 (.s 5 (.s 6 (.s 9 (.s 10 (.s 14 (.s 16 (.s 17 (.s 18 (.s 19 (.s 21 (.s 22 (.s 23 (.h 4 (.h 7 (.s 8 (.h 11 (.s 12 (.s 13 (.s 15 (.s 20 (.s 24 (.s 25 .nil)))))) .no)) .no) .no))))))))))))))))) mixed (by kernel_rfl) rfl ?_
      have hS := hS.drew
      repeat (first | (refine X_id ?_; first | (refine X_callq 91 rfl rfl rfl rfl rfl hS (turned_ _ 6 _ (by omega)) ?_; rintro _ _ rfl hS) | (refine X_callq 91 rfl rfl rfl rfl rfl hS (turned_ _ 11 _ (by omega)) ?_; rintro _ _ rfl hS) | (refine X_callq 91 rfl rfl rfl rfl rfl hS (turned_ _ 25 _ (by omega)) ?_; rintro _ _ rfl hS)) | (refine C_id ?_; first | refine C_seq ?_) | (refine E_id ?_; first | refine E_code ?_) | (refine GO_id ?_; first | refine GO_nil ?_ | refine GO_pure rfl rfl (fun _ => Yl_move rfl rfl) rfl rfl ?_ | refine GO_pure rfl rfl (fun _ => Yl_assign rfl rfl) rfl rfl ?_ | refine GO_pure rfl rfl (fun _ => Yl_fieldAddr0 rfl rfl rfl) rfl rfl ?_ | refine GO_pure rfl rfl (fun _ => Yl_indexAddr_arr rfl rfl rfl (by omega) (by omega)) rfl rfl ?_ | refine GO_pure rfl rfl (fun _ => Yl_add rfl rfl rfl rfl) rfl rfl ?_ | refine GO_pure rfl rfl (fun _ => Yl_xor rfl rfl rfl) rfl rfl ?_ | refine GO_read (fun w' => w'.cell? _ = some _) rfl rfl (hS.cellI (by omega)) (fun _ hc => Yl_load rfl rfl hc) rfl rfl ?_ | refine GO_hard rfl rfl ?_ | refine GO_read (fun w' => w'.cell? _ = some _) rfl rfl (hS.cellO 0 (by omega)) (fun _ hc => Yl_load rfl rfl hc) rfl rfl ?_ | refine GO_read (fun w' => w'.cell? _ = some _) rfl rfl (hS.cellO 1 (by omega)) (fun _ hc => Yl_load rfl rfl hc) rfl rfl ?_) | (refine Keep_id ?_; first | refine And.intro (by repeat (first | exact trivial | refine And.intro (.inl (by decide +kernel)) ?_ | refine And.intro (.inr (by first | assumption | exact hS.cell | exact cell_at (by assumption) | exact hS.cellI (by omega) | exact hS.cellIP (by omega) | exact hS.cellsN | exact ((hr.rd hS).cellX (by omega) hx) | exact ((hr2.rd hS).cellX (by omega) hx2) | exact hS.cellB (by omega) | exact hS.cellBA (by omega) | exact (hb.rd hS).cellB' (by omega) | exact (hb2.rd hS).cellB' (by omega) | exact (hg.rd hS).cellI (by omega) | exact (hg2.rd hS).cellI (by omega) | exact ((hr.rd hS).cellF (by first | omega | (dsimp only; omega)) hx) | exact ((hr2.rd hS).cellF (by first | omega | (dsimp only; omega)) hx2) | exact hS.cellO 0 (by omega) | exact hS.cellO 1 (by omega) | exact hS.cellIA (by omega) | exact (hg.rd hS).cellIA (by omega) | exact (hg2.rd hS).cellIA (by omega))) ?_)) ?_))
      refine C_ord (.s 0 (.s 1 (.s 3 (.s 4 (.s 7 (.s 8 (.s 11 (.h 2 (.h 5 (.s 6 (.h 9 (.s 10 (.s 12 (.s 13 .nil))) .no)) .no) .no)))))))) mixed (by kernel_rfl) rfl ?_
      have hS := hS.drew
      repeat (first | (refine G_id ?_; first | refine G_nil ?_ | refine G_plain rfl rfl ?_) | (refine X_id ?_; first | (refine X_callq 91 rfl rfl rfl rfl rfl hS (turned_ _ 2 _ (by omega)) ?_; rintro _ _ rfl hS) | (refine X_callq 91 rfl rfl rfl rfl rfl hS (turned_ _ 13 _ (by omega)) ?_; rintro _ _ rfl hS) | (refine X_callq 91 rfl rfl rfl rfl rfl hS (turned_ _ 22 _ (by omega)) ?_; rintro _ _ rfl hS) | refine X_yl (Yl_move rfl rfl) rfl rfl ?_ | refine X_yl (Yl_assign rfl rfl) rfl rfl ?_ | refine X_yl (Yl_indexAddr_arr rfl rfl rfl (by omega) (by omega)) rfl rfl ?_ | refine X_yl (Yl_add rfl rfl rfl (w64 (by omega) (by omega))) rfl rfl ?_ | refine X_yl (Yl_add rfl rfl rfl rfl) rfl rfl ?_ | refine X_yl (Yl_rem rfl rfl rfl (by omega) rfl) rfl rfl ?_ | refine X_store rfl rfl rfl rfl hS (fun _ hS _ => ?_) | refine X_yl (Yl_buildArr rfl rfl rfl rfl rfl) rfl rfl ?_ | refine X_yl (Yl_load rfl rfl (hS.cellO 0 (by omega))) rfl rfl ?_ | refine X_yl (Yl_load rfl rfl (hS.cellO 1 (by omega))) rfl rfl ?_) | (refine C_id ?_; first | refine C_seq ?_ | refine C_region ?_) | (refine E_id ?_; first | refine E_code ?_ | refine E_blk_n ?_) | (refine GO_id ?_; first | refine GO_nil ?_ | refine GO_pure rfl rfl (fun _ => Yl_move rfl rfl) rfl rfl ?_ | refine GO_pure rfl rfl (fun _ => Yl_assign rfl rfl) rfl rfl ?_ | refine GO_pure rfl rfl (fun _ => Yl_indexAddr_arr rfl rfl rfl (by omega) (by omega)) rfl rfl ?_ | refine GO_pure rfl rfl (fun _ => Yl_add rfl rfl rfl rfl) rfl rfl ?_ | refine GO_pure rfl rfl (fun _ => Yl_xor rfl rfl rfl) rfl rfl ?_ | refine GO_hard rfl rfl ?_ | refine GO_read (fun w' => w'.cell? _ = some _) rfl rfl (hS.cellO 0 (by omega)) (fun _ hc => Yl_load rfl rfl hc) rfl rfl ?_) | (refine Keep_id ?_; first | refine And.intro (by repeat (first | exact trivial | refine And.intro (.inl (by decide +kernel)) ?_ | refine And.intro (.inr (by first | assumption | exact hS.cell | exact cell_at (by assumption) | exact hS.cellI (by omega) | exact hS.cellIP (by omega) | exact hS.cellsN | exact ((hr.rd hS).cellX (by omega) hx) | exact ((hr2.rd hS).cellX (by omega) hx2) | exact hS.cellB (by omega) | exact hS.cellBA (by omega) | exact (hb.rd hS).cellB' (by omega) | exact (hb2.rd hS).cellB' (by omega) | exact (hg.rd hS).cellI (by omega) | exact (hg2.rd hS).cellI (by omega) | exact ((hr.rd hS).cellF (by first | omega | (dsimp only; omega)) hx) | exact ((hr2.rd hS).cellF (by first | omega | (dsimp only; omega)) hx2) | exact hS.cellO 0 (by omega) | exact hS.cellO 1 (by omega) | exact hS.cellIA (by omega) | exact (hg.rd hS).cellIA (by omega) | exact (hg2.rd hS).cellIA (by omega))) ?_)) ?_))
      rw [show 8 + (i : Int).toNat * 1 = 8 + i by omega, show 0 + (i : Int).toNat * 1 = i by omega] at hS
      refine E_round (i + 1) ⟨rfl, rfl, rfl, rfl, rfl, rfl, rfl, rfl, rfl, trivial⟩ ⟨h1, ?_⟩ (by omega)
      rw [turnTo, ← hs]
      exact hS
    · obtain rfl : i = 64 := by omega
      repeat (first | (refine G_id ?_; first | refine G_nil ?_ | refine G_plain rfl rfl ?_) | (refine X_id ?_; first | refine X_yl (Yl_move rfl rfl) rfl rfl ?_ | refine X_yl (Yl_lss_f rfl rfl rfl (by omega)) rfl rfl ?_) | (refine C_id ?_; first | refine C_seq ?_ | refine C_region ?_ | refine C_exit ?_ | refine C_cond_f rfl ?_) | (refine E_id ?_; first | refine E_code ?_ | refine E_then_exit ?_ | refine E_blk_same ?_))
      exact E_mid () ⟨rfl, rfl, rfl, rfl, rfl, rfl, trivial⟩ (by rw [← hs]; exact hS)
  clear hS
  rintro _ w hS
  obtain ⟨s, hs⟩ : ∃ s, s = turnTo T X H 64 := ⟨_, rfl⟩
  rw [← hs] at hS
  repeat (first | (refine G_id ?_; first | refine G_nil ?_ | refine G_plain rfl rfl ?_) | (refine X_id ?_; first | refine X_yl (Yl_assign rfl rfl) rfl rfl ?_ | refine X_yl (Yl_indexAddr_arr rfl rfl rfl (by omega) (by omega)) rfl rfl ?_ | refine X_store rfl rfl rfl rfl hS (fun _ hS _ => ?_) | refine X_alloc rfl rfl rfl hS (fun _ _ hS _ => ?_) | refine X_yl (Yl_buildArr rfl rfl rfl rfl rfl) rfl rfl ?_ | refine X_yl (Yl_load rfl rfl (hS.cellO 0 (by omega))) rfl rfl ?_ | refine X_yl (Yl_load rfl rfl (hS.cellO 1 (by omega))) rfl rfl ?_) | (refine C_id ?_; first | refine C_seq ?_ | refine C_region ?_ | refine C_block ?_) | (refine E_id ?_; first | refine E_code ?_))
  rename_i b20 _ _ _ w20 _
  replace hS : St W noF [pts b20 (.cells (ints .i64 (sumI s.list H 0)).toArray 35), _, _, _, _, _, pts b6 _, pts b4 (.cells (ints .i64 H).toArray 35), _] w20 := hS
  have hS := hS.pick [0, 5, 5]
  refine C_loop (α := Nat) (fun i => [(4, .pointer (some ⟨b4, 0, none⟩)), (6, .pointer (some ⟨b6, 0, none⟩)), (20, .pointer (some ⟨b20, 0, none⟩)), (21, .int .i64 (i : Nat))])
    (fun i w => i ≤ 8 ∧ St W noF [pts b20 (.cells (ints .i64 (sumI s.list H i)).toArray 35), pts b6 (.cells #[.int .i64 0, .int .i64 0, .int .i64 0, .int .i64 0, .int .i64 0, .int .i64 0, .int .i64 0, .int .i64 0] 35), pts b4 (.cells (ints .i64 H).toArray 35)] w) (fun i => 8 - i) 0 ⟨rfl, rfl, rfl, rfl, trivial⟩ ⟨Nat.zero_le _, hS⟩ ?_
  clear hS
  rintro i w ⟨hi, hS⟩
  have hll : (sumI s.list H i).length = 8 := by rw [sumI_length]; rfl
  obtain ⟨L, hL⟩ : ∃ L, L = sumI s.list H i := ⟨_, rfl⟩
  rw [← hL] at hS hll
  by_cases h1 : i < 8
  · repeat (first | (refine G_id ?_; first | refine G_nil ?_ | refine G_plain rfl rfl ?_) | (refine X_id ?_; first | refine X_yl (Yl_move rfl rfl) rfl rfl ?_ | refine X_yl (Yl_lss_t rfl rfl rfl (by omega)) rfl rfl ?_) | (refine C_id ?_; first | refine C_seq ?_ | refine C_region ?_ | refine C_block ?_ | refine C_skip ?_ | refine C_cond_t rfl ?_) | (refine E_id ?_; first | refine E_code ?_))
    refine C_ord (.s 0 (.s 1 (.s 2 (.s 3 (.s 4 (.s 5 (.s 6 (.s 7 (.s 8 (.s 9 (.h 10 .nil .no))))))))))) mixed (by kernel_rfl) rfl ?_
    have hS := hS.drew
    repeat (first | (refine G_id ?_; first | refine G_nil ?_ | refine G_plain rfl rfl ?_) | (refine X_id ?_; first | refine X_yl (Yl_move rfl rfl) rfl rfl ?_ | refine X_yl (Yl_assign rfl rfl) rfl rfl ?_ | refine X_yl (Yl_add rfl rfl rfl (w64 (by omega) (by omega))) rfl rfl ?_ | refine X_storeI rfl rfl rfl rfl hS (by omega) (fun _ hS => ?_)) | (refine C_id ?_; first | refine C_region ?_) | (refine E_id ?_; first | refine E_code ?_ | refine E_blk_n ?_) | (refine GO_id ?_; first | refine GO_nil ?_ | refine GO_pure rfl rfl (fun _ => Yl_move rfl rfl) rfl rfl ?_ | refine GO_pure rfl rfl (fun _ => Yl_indexAddr_arr rfl rfl rfl (by omega) (by omega)) rfl rfl ?_ | refine GO_pure rfl rfl (fun _ => Yl_add rfl rfl rfl rfl) rfl rfl ?_ | refine GO_pure rfl rfl (fun _ => Yl_rem rfl rfl rfl (by omega) rfl) rfl rfl ?_ | refine GO_read (fun w' => w'.cell? _ = some _) rfl rfl (hS.cellI (by omega)) (fun _ hc => Yl_load rfl rfl hc) rfl rfl ?_ | refine GO_hard rfl rfl ?_) | (refine Keep_id ?_; first | refine And.intro (by repeat (first | exact trivial | refine And.intro (.inl (by decide +kernel)) ?_ | refine And.intro (.inr (by first | assumption | exact hS.cell | exact cell_at (by assumption) | exact hS.cellI (by omega) | exact hS.cellIP (by omega) | exact hS.cellsN | exact ((hr.rd hS).cellX (by omega) hx) | exact ((hr2.rd hS).cellX (by omega) hx2) | exact hS.cellB (by omega) | exact hS.cellBA (by omega) | exact (hb.rd hS).cellB' (by omega) | exact (hb2.rd hS).cellB' (by omega) | exact (hg.rd hS).cellI (by omega) | exact (hg2.rd hS).cellI (by omega) | exact ((hr.rd hS).cellF (by first | omega | (dsimp only; omega)) hx) | exact ((hr2.rd hS).cellF (by first | omega | (dsimp only; omega)) hx2) | exact hS.cellO 0 (by omega) | exact hS.cellO 1 (by omega) | exact hS.cellIA (by omega) | exact (hg.rd hS).cellIA (by omega) | exact (hg2.rd hS).cellIA (by omega))) ?_)) ?_))
    rw [show 0 + (i : Int).toNat * 1 = i by omega] at hS
    exact E_round (i + 1) ⟨rfl, rfl, rfl, rfl, trivial⟩ ⟨h1, by rw [sumI, ← hL]; exact hS⟩ (by omega)
  · obtain rfl : i = 8 := by omega
    have hlL : LenO (ints .i64 L) 8 := ⟨by rw [ints_length, hll]⟩
    repeat (first | (refine G_id ?_; first | refine G_nil ?_ | refine G_plain rfl rfl ?_) | (refine X_id ?_; first | refine X_yl (Yl_move rfl rfl) rfl rfl ?_ | refine X_yl (Yl_lss_f rfl rfl rfl (by omega)) rfl rfl ?_ | refine X_yl (Yl_loadN rfl rfl hS.cellsN) rfl rfl ?_ | refine X_storeAll rfl rfl rfl rfl hS (fun _ hS => ?_)) | (refine C_id ?_; first | refine C_seq ?_ | refine C_region ?_ | refine C_ret ?_ | refine C_exit ?_ | refine C_cond_f rfl ?_) | (refine E_id ?_; first | refine E_code ?_ | refine E_then_exit ?_ | refine E_blk_same ?_ | refine E_ret1 rfl (by first | exact Rv_tmp rfl | exact Rv_cell rfl (run_load1 hS.cell) | exact Rv_cell rfl (run_loadN hS.cellsN)) (Ret.mk ?_)))
    refine ⟨?_, hS.drops⟩
    rw [turnM, ← hX, ← hs, ← hL]
end Cr
namespace Cr
open Go Go.Proofs
set_option maxRecDepth 100000
theorem r2_2 : rootM ((2 : Nat) : Int) 2 = 1779033703 := by kernel_rfl
theorem r2_3 : rootM ((3 : Nat) : Int) 2 = 3144134277 := by kernel_rfl
theorem r2_5 : rootM ((5 : Nat) : Int) 2 = 1013904242 := by kernel_rfl
theorem r2_7 : rootM ((7 : Nat) : Int) 2 = 2773480762 := by kernel_rfl
theorem r2_11 : rootM ((11 : Nat) : Int) 2 = 1359893119 := by kernel_rfl
theorem r2_13 : rootM ((13 : Nat) : Int) 2 = 2600822924 := by kernel_rfl
theorem r2_17 : rootM ((17 : Nat) : Int) 2 = 528734635 := by kernel_rfl
theorem r2_19 : rootM ((19 : Nat) : Int) 2 = 1541459225 := by kernel_rfl
theorem r3_2 : rootM ((2 : Nat) : Int) 3 = 1116352408 := by kernel_rfl
theorem r3_3 : rootM ((3 : Nat) : Int) 3 = 1899447441 := by kernel_rfl
theorem r3_5 : rootM ((5 : Nat) : Int) 3 = 3049323471 := by kernel_rfl
theorem r3_7 : rootM ((7 : Nat) : Int) 3 = 3921009573 := by kernel_rfl
theorem r3_11 : rootM ((11 : Nat) : Int) 3 = 961987163 := by kernel_rfl
theorem r3_13 : rootM ((13 : Nat) : Int) 3 = 1508970993 := by kernel_rfl
theorem r3_17 : rootM ((17 : Nat) : Int) 3 = 2453635748 := by kernel_rfl
theorem r3_19 : rootM ((19 : Nat) : Int) 3 = 2870763221 := by kernel_rfl
theorem r3_23 : rootM ((23 : Nat) : Int) 3 = 3624381080 := by kernel_rfl
theorem r3_29 : rootM ((29 : Nat) : Int) 3 = 310598401 := by kernel_rfl
theorem r3_31 : rootM ((31 : Nat) : Int) 3 = 607225278 := by kernel_rfl
theorem r3_37 : rootM ((37 : Nat) : Int) 3 = 1426881987 := by kernel_rfl
theorem r3_41 : rootM ((41 : Nat) : Int) 3 = 1925078388 := by kernel_rfl
theorem r3_43 : rootM ((43 : Nat) : Int) 3 = 2162078206 := by kernel_rfl
theorem r3_47 : rootM ((47 : Nat) : Int) 3 = 2614888103 := by kernel_rfl
theorem r3_53 : rootM ((53 : Nat) : Int) 3 = 3248222580 := by kernel_rfl
theorem r3_59 : rootM ((59 : Nat) : Int) 3 = 3835390401 := by kernel_rfl
theorem r3_61 : rootM ((61 : Nat) : Int) 3 = 4022224774 := by kernel_rfl
theorem r3_67 : rootM ((67 : Nat) : Int) 3 = 264347078 := by kernel_rfl
theorem r3_71 : rootM ((71 : Nat) : Int) 3 = 604807628 := by kernel_rfl
theorem r3_73 : rootM ((73 : Nat) : Int) 3 = 770255983 := by kernel_rfl
theorem r3_79 : rootM ((79 : Nat) : Int) 3 = 1249150122 := by kernel_rfl
theorem r3_83 : rootM ((83 : Nat) : Int) 3 = 1555081692 := by kernel_rfl
theorem r3_89 : rootM ((89 : Nat) : Int) 3 = 1996064986 := by kernel_rfl
theorem r3_97 : rootM ((97 : Nat) : Int) 3 = 2554220882 := by kernel_rfl
theorem r3_101 : rootM ((101 : Nat) : Int) 3 = 2821834349 := by kernel_rfl
theorem r3_103 : rootM ((103 : Nat) : Int) 3 = 2952996808 := by kernel_rfl
theorem r3_107 : rootM ((107 : Nat) : Int) 3 = 3210313671 := by kernel_rfl
theorem r3_109 : rootM ((109 : Nat) : Int) 3 = 3336571891 := by kernel_rfl
theorem r3_113 : rootM ((113 : Nat) : Int) 3 = 3584528711 := by kernel_rfl
theorem r3_127 : rootM ((127 : Nat) : Int) 3 = 113926993 := by kernel_rfl
theorem r3_131 : rootM ((131 : Nat) : Int) 3 = 338241895 := by kernel_rfl
theorem r3_137 : rootM ((137 : Nat) : Int) 3 = 666307205 := by kernel_rfl
theorem r3_139 : rootM ((139 : Nat) : Int) 3 = 773529912 := by kernel_rfl
theorem r3_149 : rootM ((149 : Nat) : Int) 3 = 1294757372 := by kernel_rfl
theorem r3_151 : rootM ((151 : Nat) : Int) 3 = 1396182291 := by kernel_rfl
theorem r3_157 : rootM ((157 : Nat) : Int) 3 = 1695183700 := by kernel_rfl
theorem r3_163 : rootM ((163 : Nat) : Int) 3 = 1986661051 := by kernel_rfl
theorem r3_167 : rootM ((167 : Nat) : Int) 3 = 2177026350 := by kernel_rfl
theorem r3_173 : rootM ((173 : Nat) : Int) 3 = 2456956037 := by kernel_rfl
theorem r3_179 : rootM ((179 : Nat) : Int) 3 = 2730485921 := by kernel_rfl
theorem r3_181 : rootM ((181 : Nat) : Int) 3 = 2820302411 := by kernel_rfl
theorem r3_191 : rootM ((191 : Nat) : Int) 3 = 3259730800 := by kernel_rfl
theorem r3_193 : rootM ((193 : Nat) : Int) 3 = 3345764771 := by kernel_rfl
theorem r3_197 : rootM ((197 : Nat) : Int) 3 = 3516065817 := by kernel_rfl
theorem r3_199 : rootM ((199 : Nat) : Int) 3 = 3600352804 := by kernel_rfl
theorem r3_211 : rootM ((211 : Nat) : Int) 3 = 4094571909 := by kernel_rfl
theorem r3_223 : rootM ((223 : Nat) : Int) 3 = 275423344 := by kernel_rfl
theorem r3_227 : rootM ((227 : Nat) : Int) 3 = 430227734 := by kernel_rfl
theorem r3_229 : rootM ((229 : Nat) : Int) 3 = 506948616 := by kernel_rfl
theorem r3_233 : rootM ((233 : Nat) : Int) 3 = 659060556 := by kernel_rfl
theorem r3_239 : rootM ((239 : Nat) : Int) 3 = 883997877 := by kernel_rfl
theorem r3_241 : rootM ((241 : Nat) : Int) 3 = 958139571 := by kernel_rfl
theorem r3_251 : rootM ((251 : Nat) : Int) 3 = 1322822218 := by kernel_rfl
theorem r3_257 : rootM ((257 : Nat) : Int) 3 = 1537002063 := by kernel_rfl
theorem r3_263 : rootM ((263 : Nat) : Int) 3 = 1747873779 := by kernel_rfl
theorem r3_269 : rootM ((269 : Nat) : Int) 3 = 1955562222 := by kernel_rfl
theorem r3_271 : rootM ((271 : Nat) : Int) 3 = 2024104815 := by kernel_rfl
theorem r3_277 : rootM ((277 : Nat) : Int) 3 = 2227730452 := by kernel_rfl
theorem r3_281 : rootM ((281 : Nat) : Int) 3 = 2361852424 := by kernel_rfl
theorem r3_283 : rootM ((283 : Nat) : Int) 3 = 2428436474 := by kernel_rfl
theorem r3_293 : rootM ((293 : Nat) : Int) 3 = 2756734187 := by kernel_rfl
theorem r3_307 : rootM ((307 : Nat) : Int) 3 = 3204031479 := by kernel_rfl
theorem r3_311 : rootM ((311 : Nat) : Int) 3 = 3329325298 := by kernel_rfl
def primes : List Nat := [2, 3, 5, 7, 11, 13, 17, 19, 23, 29, 31, 37, 41, 43, 47, 53, 59, 61, 67, 71, 73, 79, 83, 89, 97, 101, 103, 107, 109, 113, 127, 131, 137, 139, 149, 151, 157, 163, 167, 173, 179, 181, 191, 193, 197, 199, 211, 223, 227, 229, 233, 239, 241, 251, 257, 263, 269, 271, 277, 281, 283, 293, 307, 311]
def nthOf (p : Nat) : List Nat → List Int → Int
  | q :: qs, x :: xs => if p = q then x else nthOf p qs xs
  | _, _ => 0
def tabWith (f g : Nat → Int) : Nat → List Int
  | 0 => List.replicate 72 0
  | m + 1 =>
    if divTo (2 + m) (2 + m) = 2 then (if nTo m < 8 then (tabWith f g m).set (nTo m) (f (2 + m)) else tabWith f g m).set (8 + nTo m) (g (2 + m)) else tabWith f g m
theorem tabTo_with {f g : Nat → Int} : ∀ m, (∀ k, k < m → divTo (2 + k) (2 + k) = 2 → (nTo k < 8 → rootM ((2 + k : Nat) : Int) 2 = f (2 + k)) ∧ rootM ((2 + k : Nat) : Int) 3 = g (2 + k)) → tabTo m = tabWith f g m
  | 0, _ => rfl
  | m + 1, h => by
    have ih := tabTo_with m fun k hk => h k (by omega)
    unfold tabTo tabWith
    rw [ih]
    by_cases h1 : divTo (2 + m) (2 + m) = 2
    · rw [if_pos h1, if_pos h1, (h m (by omega) h1).2]
      by_cases h2 : nTo m < 8
      · rw [if_pos h2, if_pos h2, (h m (by omega) h1).1 h2]
      · rw [if_neg h2, if_neg h2]
    · rw [if_neg h1, if_neg h1]
def primeAt (k : Nat) : Bool := !(decide (divTo (2 + k) (2 + k) = 2)) || primes.contains (2 + k)
def firstAt (k : Nat) : Bool := !(decide (divTo (2 + k) (2 + k) = 2)) || !(decide (nTo k < 8)) || (primes.take 8).contains (2 + k)
theorem primes_all : (List.range 310).all primeAt = true := by kernel_rfl
theorem first_all : (List.range 310).all firstAt = true := by kernel_rfl
theorem root3_is : ∀ p ∈ primes, rootM (p : Int) 3 = nthOf p primes roundL := by
  intro p hp
  simp only [primes, List.mem_cons, List.not_mem_nil, or_false] at hp
  rcases hp with rfl | rfl | rfl | rfl | rfl | rfl | rfl | rfl | rfl | rfl | rfl | rfl | rfl | rfl | rfl | rfl | rfl | rfl | rfl | rfl | rfl | rfl | rfl | rfl | rfl | rfl | rfl | rfl | rfl | rfl | rfl | rfl | rfl | rfl | rfl | rfl | rfl | rfl | rfl | rfl | rfl | rfl | rfl | rfl | rfl | rfl | rfl | rfl | rfl | rfl | rfl | rfl | rfl | rfl | rfl | rfl | rfl | rfl | rfl | rfl | rfl | rfl | rfl | rfl
  · exact r3_2
  · exact r3_3
  · exact r3_5
  · exact r3_7
  · exact r3_11
  · exact r3_13
  · exact r3_17
  · exact r3_19
  · exact r3_23
  · exact r3_29
  · exact r3_31
  · exact r3_37
  · exact r3_41
  · exact r3_43
  · exact r3_47
  · exact r3_53
  · exact r3_59
  · exact r3_61
  · exact r3_67
  · exact r3_71
  · exact r3_73
  · exact r3_79
  · exact r3_83
  · exact r3_89
  · exact r3_97
  · exact r3_101
  · exact r3_103
  · exact r3_107
  · exact r3_109
  · exact r3_113
  · exact r3_127
  · exact r3_131
  · exact r3_137
  · exact r3_139
  · exact r3_149
  · exact r3_151
  · exact r3_157
  · exact r3_163
  · exact r3_167
  · exact r3_173
  · exact r3_179
  · exact r3_181
  · exact r3_191
  · exact r3_193
  · exact r3_197
  · exact r3_199
  · exact r3_211
  · exact r3_223
  · exact r3_227
  · exact r3_229
  · exact r3_233
  · exact r3_239
  · exact r3_241
  · exact r3_251
  · exact r3_257
  · exact r3_263
  · exact r3_269
  · exact r3_271
  · exact r3_277
  · exact r3_281
  · exact r3_283
  · exact r3_293
  · exact r3_307
  · exact r3_311
theorem root2_is : ∀ p ∈ primes.take 8, rootM (p : Int) 2 = nthOf p primes firstL := by
  intro p hp
  simp only [primes, List.take_succ_cons, List.take_zero, List.mem_cons, List.not_mem_nil, or_false] at hp
  rcases hp with rfl | rfl | rfl | rfl | rfl | rfl | rfl | rfl
  · exact r2_2
  · exact r2_3
  · exact r2_5
  · exact r2_7
  · exact r2_11
  · exact r2_13
  · exact r2_17
  · exact r2_19
theorem with_is : tabWith (fun p => nthOf p primes firstL) (fun p => nthOf p primes roundL) 310 = firstL ++ roundL := by kernel_rfl
theorem table_is : tabTo 310 = firstL ++ roundL := by
  rw [← with_is]
  refine tabTo_with 310 fun k hk hd => ⟨fun hn => ?_, ?_⟩
  · have := List.all_eq_true.1 first_all k (List.mem_range.2 hk)
    unfold firstAt at this
    rw [decide_eq_true hd, decide_eq_true hn] at this
    exact root2_is _ (List.contains_iff_mem.1 (by simpa using this))
  · have := List.all_eq_true.1 primes_all k (List.mem_range.2 hk)
    unfold primeAt at this
    rw [decide_eq_true hd] at this
    exact root3_is _ (List.contains_iff_mem.1 (by simpa using this))
end Cr
namespace Cr
open Go
set_option maxRecDepth 10000
def m32 (n : Nat) : Nat := n % 4294967296
theorem m32_lt (n : Nat) : m32 n < 4294967296 := Nat.mod_lt _ (by omega)
theorem u32_n (n : Nat) : u32 (n : Int) = (m32 n : Nat) := by unfold u32 m32; exact wrap32_mod n
theorem u32_add {x y : Int} {a b : Nat} (hx : x = a) (hy : y = b) : u32 (x + y) = (m32 (a + b) : Nat) := by
  subst hx hy
  rw [show (a : Int) + (b : Int) = ((a + b : Nat) : Int) by omega]
  exact u32_n _
def s3 (x p q r : Nat) : Nat := rotr x p ^^^ rotr x q ^^^ rotr x r
def s2 (x p q r : Nat) : Nat := rotr x p ^^^ rotr x q ^^^ x / 2 ^ r
theorem s3_lt {x p q r : Nat} (hx : x < 4294967296) (hp : p ≤ 32) (hq : q ≤ 32) (hr : r ≤ 32) : s3 x p q r < 4294967296 :=
  Nat.xor_lt_two_pow (n := 32) (Nat.xor_lt_two_pow (n := 32) (rotr_lt hx hp) (rotr_lt hx hq)) (rotr_lt hx hr)
theorem s2_lt {x p q r : Nat} (hx : x < 4294967296) (hp : p ≤ 32) (hq : q ≤ 32) : s2 x p q r < 4294967296 :=
  Nat.xor_lt_two_pow (n := 32) (Nat.xor_lt_two_pow (n := 32) (rotr_lt hx hp) (rotr_lt hx hq)) (Nat.lt_of_le_of_lt (Nat.div_le_self _ _) hx)
theorem sig3_n {x p q r : Nat} (hx : x < 4294967296) (hp : p ≤ 32) (hq : q ≤ 32) (hr : r ≤ 32) : sig3 (x : Int) p q r = (s3 x p q r : Nat) := by
  unfold sig3
  rw [spin_n hx hp, spin_n hx hq, spin_n hx hr, ixor_u (rotr_lt hx hp) (rotr_lt hx hq), ixor_u (Nat.xor_lt_two_pow (n := 32) (rotr_lt hx hp) (rotr_lt hx hq)) (rotr_lt hx hr)]; rfl
theorem sig_n {x p q r : Nat} (hx : x < 4294967296) (hp : p ≤ 32) (hq : q ≤ 32) (hr : r ≤ 32) : sig (x : Int) p q r = (s2 x p q r : Nat) := by
  unfold sig
  rw [spin_n hx hp, spin_n hx hq, ishr_n (k := .u32) x r hr, ixor_u (rotr_lt hx hp) (rotr_lt hx hq), ixor_u (Nat.xor_lt_two_pow (n := 32) (rotr_lt hx hp) (rotr_lt hx hq)) (Nat.lt_of_le_of_lt (Nat.div_le_self _ _) hx)]; rfl
def ch (e f g : Nat) : Nat := g ^^^ (e &&& (f ^^^ g))
def mj (a b c : Nat) : Nat := (a &&& b) ||| (c &&& (a ||| b))
theorem ch_lt {e f g : Nat} (he : e < 4294967296) (hg : g < 4294967296) : ch e f g < 4294967296 := Nat.xor_lt_two_pow (n := 32) hg (Nat.lt_of_le_of_lt Nat.and_le_left he)
theorem mj_lt {a b c : Nat} (ha : a < 4294967296) (hc : c < 4294967296) : mj a b c < 4294967296 := Nat.or_lt_two_pow (n := 32) (Nat.lt_of_le_of_lt Nat.and_le_left ha) (Nat.lt_of_le_of_lt Nat.and_le_left hc)
structure N8 where
  a : Nat
  b : Nat
  c : Nat
  d : Nat
  e : Nat
  f : Nat
  g : Nat
  h : Nat
structure N8.ok (s : N8) : Prop where
  a : s.a < 4294967296
  b : s.b < 4294967296
  c : s.c < 4294967296
  d : s.d < 4294967296
  e : s.e < 4294967296
  f : s.f < 4294967296
  g : s.g < 4294967296
  h : s.h < 4294967296
def N8.x (s : N8) (k w : Nat) : Nat := s.h + s3 s.e 6 11 25 + ch s.e s.f s.g + k + w
def N8.y (s : N8) : Nat := s3 s.a 2 13 22 + mj s.a s.b s.c
def N8.next (s : N8) (k w : Nat) : N8 := ⟨m32 (s.x k w + s.y), s.a, s.b, s.c, m32 (s.d + s.x k w), s.e, s.f, s.g⟩
theorem N8.next_ok {s : N8} (h : s.ok) (k w : Nat) : (s.next k w).ok := ⟨m32_lt _, h.a, h.b, h.c, m32_lt _, h.e, h.f, h.g⟩
/-- The words where they lie at a step. -/
structure Sees (V : List Int) (i : Nat) (s : N8) : Prop where
  len : V.length = 8
  a : V.getD (spot 0 i) 0 = s.a
  b : V.getD (spot 1 i) 0 = s.b
  c : V.getD (spot 2 i) 0 = s.c
  d : V.getD (spot 3 i) 0 = s.d
  e : V.getD (spot 4 i) 0 = s.e
  f : V.getD (spot 5 i) 0 = s.f
  g : V.getD (spot 6 i) 0 = s.g
  h : V.getD (spot 7 i) 0 = s.h
theorem getD_set_self {V : List Int} {k : Nat} {x : Int} (h : k < V.length) : (V.set k x).getD k 0 = x := by simp [List.getD_eq_getElem?_getD, h]
theorem getD_set_other {V : List Int} {k m : Nat} {x : Int} (h : k ≠ m) : (V.set k x).getD m 0 = V.getD m 0 := by simp [List.getD_eq_getElem?_getD, h]
theorem spot_ne {k m : Int} (i : Nat) (hk : 0 ≤ k) (hm : 0 ≤ m) (hk' : k < 8) (hm' : m < 8) (h : k ≠ m) : spot k i ≠ spot m i := by unfold spot; omega
theorem spot_next (k : Int) (i : Nat) : spot (k + 1) (i + 1) = spot k i := by unfold spot; congr 2; omega
theorem spot_turn (i : Nat) : spot 0 (i + 1) = spot 7 i := by unfold spot; omega
theorem mixT_n {rd w V : List Int} {i k x : Nat} {s : N8} (hs : s.ok) (hv : Sees V i s) (hk : rd.getD i 0 = k) (hw : w.getD i 0 = x) : mixT rd w V i = (m32 (s.x k x) : Nat) := by
  unfold mixT
  simp only
  rw [show (i : Int).toNat * 1 = i by omega, show 0 + i = i by omega, hv.e, hv.f, hv.g, hv.h, hk, hw, sig3_n hs.e (by omega) (by omega) (by omega), ixor_u hs.f hs.g, iand_u hs.e (Nat.xor_lt_two_pow (n := 32) hs.f hs.g),
    ixor_u hs.g (Nat.lt_of_le_of_lt Nat.and_le_left hs.e), u32_add rfl rfl, u32_add rfl rfl, u32_add rfl rfl, u32_add rfl rfl]
  congr 1
  show m32 (m32 (m32 (m32 (s.h + s3 s.e 6 11 25) + ch s.e s.f s.g) + k) + x) = m32 (s.h + s3 s.e 6 11 25 + ch s.e s.f s.g + k + x)
  unfold m32
  omega
theorem mixStep_n {rd w V : List Int} {i k x : Nat} {s : N8} (hs : s.ok) (hv : Sees V i s) (hk : rd.getD i 0 = k) (hw : w.getD i 0 = x) : Sees (mixStep rd w V i) (i + 1) (s.next k x) := by
  have ht := mixT_n hs hv hk hw
  have hl : ∀ k, spot k i < V.length := fun k => by rw [hv.len]; exact spot_lt k i
  have hU : mixU rd w V i = V.set (spot 3 i) ((m32 (s.d + s.x k x) : Nat) : Int) := by
    unfold mixU
    rw [hv.d, ht, u32_add rfl rfl]
    congr 2
    unfold m32; omega
  have hS : mixStep rd w V i = (V.set (spot 3 i) ((m32 (s.d + s.x k x) : Nat) : Int)).set (spot 7 i) ((m32 (s.x k x + s.y) : Nat) : Int) := by
    unfold mixStep
    simp only
    rw [hU, getD_set_other (spot_ne i (by omega) (by omega) (by omega) (by omega) (by omega)), getD_set_other (spot_ne i (by omega) (by omega) (by omega) (by omega) (by omega)), hv.a, hv.b, hv.c, ht, sig3_n hs.a (by omega) (by omega) (by omega),
      iand_u hs.a hs.b, ior_u hs.a hs.b, iand_u hs.c (Nat.or_lt_two_pow (n := 32) hs.a hs.b), ior_u (Nat.lt_of_le_of_lt Nat.and_le_left hs.a) (Nat.lt_of_le_of_lt Nat.and_le_left hs.c), u32_add rfl rfl, u32_add rfl rfl]
    congr 2
    show m32 (m32 (m32 (s.x k x) + s3 s.a 2 13 22) + mj s.a s.b s.c) = m32 (s.x k x + (s3 s.a 2 13 22 + mj s.a s.b s.c))
    unfold m32; omega
  rw [hS]
  have hn : ∀ {p q : Int}, 0 ≤ p → 0 ≤ q → p < 8 → q < 8 → p ≠ q → spot p i ≠ spot q i := fun h1 h2 h3 h4 h5 => spot_ne i h1 h2 h3 h4 h5
  refine ⟨by simp [hv.len], ?_, ?_, ?_, ?_, ?_, ?_, ?_, ?_⟩
  · rw [spot_turn, getD_set_self (by rw [List.length_set]; exact hl 7)]; rfl
  · rw [show (1 : Int) = 0 + 1 from rfl, spot_next, getD_set_other (hn (by omega) (by omega) (by omega) (by omega) (by omega)), getD_set_other (hn (by omega) (by omega) (by omega) (by omega) (by omega)), hv.a]; rfl
  · rw [show (2 : Int) = 1 + 1 from rfl, spot_next, getD_set_other (hn (by omega) (by omega) (by omega) (by omega) (by omega)), getD_set_other (hn (by omega) (by omega) (by omega) (by omega) (by omega)), hv.b]; rfl
  · rw [show (3 : Int) = 2 + 1 from rfl, spot_next, getD_set_other (hn (by omega) (by omega) (by omega) (by omega) (by omega)), getD_set_other (hn (by omega) (by omega) (by omega) (by omega) (by omega)), hv.c]; rfl
  · rw [show (4 : Int) = 3 + 1 from rfl, spot_next, getD_set_other (hn (by omega) (by omega) (by omega) (by omega) (by omega)), getD_set_self (hl 3)]; rfl
  · rw [show (5 : Int) = 4 + 1 from rfl, spot_next, getD_set_other (hn (by omega) (by omega) (by omega) (by omega) (by omega)), getD_set_other (hn (by omega) (by omega) (by omega) (by omega) (by omega)), hv.e]; rfl
  · rw [show (6 : Int) = 5 + 1 from rfl, spot_next, getD_set_other (hn (by omega) (by omega) (by omega) (by omega) (by omega)), getD_set_other (hn (by omega) (by omega) (by omega) (by omega) (by omega)), hv.f]; rfl
  · rw [show (7 : Int) = 6 + 1 from rfl, spot_next, getD_set_other (hn (by omega) (by omega) (by omega) (by omega) (by omega)), getD_set_other (hn (by omega) (by omega) (by omega) (by omega) (by omega)), hv.g]; rfl
end Cr
namespace Cr
open Go
set_option maxRecDepth 10000
theorem iw_n {n : Nat} (h : n < 9223372036854775808) : iw (n : Int) = n := wrap64 h
theorem iw_add {x y : Int} {a b : Nat} (hx : x = a) (hy : y = b) (h : a + b < 9223372036854775808) : iw (x + y) = ((a + b : Nat) : Int) := by
  subst hx hy
  rw [show (a : Int) + (b : Int) = ((a + b : Nat) : Int) by omega]
  exact iw_n h
theorem turnI_n {x n : Nat} (hx : x < 4294967296) (hn : n ≤ 32) : turnI (x : Int) n = (rotr x n : Nat) := by
  have hp : 0 < 2 ^ n := Nat.two_pow_pos n
  have h1 : (x : Int).tmod (2 ^ n) = ((x % 2 ^ n : Nat) : Int) := by
    rw [Int.tmod_eq_emod_of_nonneg (by omega)]
    exact_mod_cast rfl
  have h2 : x % 2 ^ n * 2 ^ (32 - n) < 4294967296 := Nat.lt_of_le_of_lt (Nat.le_add_left _ _) (rotr_lt hx hn)
  unfold turnI
  rw [ishl_one n hn, h1, ishr_n (k := .i64) x n (by show n ≤ 64; omega), ishl_i (by omega) (by omega)]
  exact iw_add rfl rfl (by have := rotr_lt hx hn; unfold rotr at this; omega)
theorem sig3I_n {x p q r : Nat} (hx : x < 4294967296) (hp : p ≤ 32) (hq : q ≤ 32) (hr : r ≤ 32) : sig3I (x : Int) p q r = (s3 x p q r : Nat) := by
  unfold sig3I
  rw [turnI_n hx hp, turnI_n hx hq, turnI_n hx hr, ixor_i (rotr_lt hx hp) (rotr_lt hx hq), ixor_i (Nat.xor_lt_two_pow (n := 32) (rotr_lt hx hp) (rotr_lt hx hq)) (rotr_lt hx hr)]; rfl
theorem sigI_n {x p q r : Nat} (hx : x < 4294967296) (hp : p ≤ 32) (hq : q ≤ 32) (hr : r ≤ 32) : sigI (x : Int) p q r = (s2 x p q r : Nat) := by
  unfold sigI
  rw [turnI_n hx hp, turnI_n hx hq, ishr_n (k := .i64) x r (by show r ≤ 64; omega), ixor_i (rotr_lt hx hp) (rotr_lt hx hq), ixor_i (Nat.xor_lt_two_pow (n := 32) (rotr_lt hx hp) (rotr_lt hx hq)) (Nat.lt_of_le_of_lt (Nat.div_le_self _ _) hx)]; rfl
def N8.up (s : N8) : E8 := ⟨s.a, s.b, s.c, s.d, s.e, s.f, s.g, s.h⟩
theorem tmod_n (n : Nat) : (n : Int).tmod 4294967296 = (m32 n : Nat) := by rw [Int.tmod_eq_emod_of_nonneg (by omega)]; unfold m32; omega
theorem N8.x_lt {s : N8} (h : s.ok) {k w : Nat} (hk : k < 4294967296) (hw : w < 4294967296) : s.x k w < 21474836480 := by
  have h1 := s3_lt (x := s.e) (p := 6) (q := 11) (r := 25) h.e (by omega) (by omega) (by omega)
  have h2 := ch_lt (f := s.f) h.e h.g
  have h3 := h.h
  unfold N8.x; omega
theorem N8.y_lt {s : N8} (h : s.ok) : s.y < 8589934592 := by
  have h1 := s3_lt (x := s.a) (p := 2) (q := 13) (r := 22) h.a (by omega) (by omega) (by omega)
  have h2 := mj_lt (b := s.b) h.a h.c
  unfold N8.y; omega
theorem stepX_n {T X : List Int} {i k w : Nat} {s : N8} (hs : s.ok) (hk : T.getD (8 + i) 0 = k) (hw : X.getD i 0 = w) (hk' : k < 4294967296) (hw' : w < 4294967296) : stepX T X i s.up = (s.x k w : Nat) := by
  have hx := N8.x_lt hs hk' hw'
  have hc := choice_is hs.e hs.f hs.g
  have h2 := ch_lt (f := s.f) hs.e hs.g
  unfold N8.x at hx
  have e1 : iw (4294967295 - (s.e : Int)) = ((4294967295 - s.e : Nat) : Int) := by
    have := hs.e
    rw [show (4294967295 : Int) - (s.e : Int) = ((4294967295 - s.e : Nat) : Int) by omega]
    exact iw_n (by omega)
  have e2 : iw (iand .i64 (s.e : Int) (s.f : Int) + iand .i64 (iw (4294967295 - (s.e : Int))) (s.g : Int)) = (ch s.e s.f s.g : Nat) := by
    have a1 := hs.e
    have a2 := hs.f
    have a3 := hs.g
    rw [e1, iand_i (by omega) (by omega), iand_i (by omega) (by omega), iw_add rfl rfl (by rw [hc]; unfold ch at h2; omega), hc]; rfl
  show iw (iw (iw (iw ((s.h : Int) + sig3I (s.e : Int) 6 11 25) + iw (iand .i64 (s.e : Int) (s.f : Int) + iand .i64 (iw (4294967295 - (s.e : Int))) (s.g : Int))) + T.getD (8 + i) 0) + X.getD i 0) = _
  rw [e2, hk, hw, sig3I_n hs.e (by omega) (by omega) (by omega), iw_add rfl rfl (by omega), iw_add rfl rfl (by omega), iw_add rfl rfl (by omega), iw_add rfl rfl (by omega)]
  rfl
theorem stepY_n {s : N8} (hs : s.ok) : stepY s.up = (s.y : Nat) := by
  have hy := N8.y_lt hs
  have a1 := hs.a
  have a2 := hs.b
  have a3 := hs.c
  have l1 := Nat.and_le_left (n := s.a) (m := s.b)
  have l2 := Nat.and_le_left (n := s.a) (m := s.c)
  have l3 := Nat.and_le_left (n := s.b) (m := s.c)
  show iw (sig3I (s.a : Int) 2 13 22 + ior .i64 (ior .i64 (iand .i64 (s.a : Int) (s.b : Int)) (iand .i64 (s.a : Int) (s.c : Int))) (iand .i64 (s.b : Int) (s.c : Int))) = _
  rw [sig3I_n hs.a (by omega) (by omega) (by omega), iand_i (by omega) (by omega), iand_i (by omega) (by omega), iand_i (by omega) (by omega), ior_i (by omega) (by omega), ior_i (Nat.or_lt_two_pow (n := 32) (by omega) (by omega)) (by omega), most_is]
  have hy' : s3 s.a 2 13 22 + mj s.a s.b s.c < 8589934592 := hy
  exact iw_add (b := mj s.a s.b s.c) rfl rfl (by omega)
theorem turnStep_n {T X : List Int} {i k w : Nat} {s : N8} (hs : s.ok) (hk : T.getD (8 + i) 0 = k) (hw : X.getD i 0 = w) (hk' : k < 4294967296) (hw' : w < 4294967296) : turnStep T X i s.up = (s.next k w).up := by
  have h1 := N8.x_lt hs hk' hw'
  have h2 := N8.y_lt hs
  have h3 := hs.d
  unfold turnStep
  rw [stepX_n hs hk hw hk' hw', stepY_n hs, iw_add rfl rfl (by omega), tmod_n]
  have e : iw (s.up.d + ((s.x k w : Nat) : Int)) = ((s.d + s.x k w : Nat) : Int) := iw_add rfl rfl (by omega)
  rw [e, tmod_n]; rfl
/-! ### words -/
def wd (b : List UInt8) (i : Nat) : Nat := (b.getD (4 * i) 0).toNat * 16777216 + (b.getD (4 * i + 1) 0).toNat * 65536 + (b.getD (4 * i + 2) 0).toNat * 256 + (b.getD (4 * i + 3) 0).toNat
theorem wd_lt (b : List UInt8) (i : Nat) : wd b i < 4294967296 := by
  have h0 := UInt8.toNat_lt (b.getD (4 * i) 0)
  have h1 := UInt8.toNat_lt (b.getD (4 * i + 1) 0)
  have h2 := UInt8.toNat_lt (b.getD (4 * i + 2) 0)
  have h3 := UInt8.toNat_lt (b.getD (4 * i + 3) 0)
  unfold wd; omega
theorem w16_n (b : List UInt8) (i : Nat) : w16 b i = (wd b i : Nat) := by
  have h0 := UInt8.toNat_lt (b.getD (4 * i) 0)
  have h1 := UInt8.toNat_lt (b.getD (4 * i + 1) 0)
  have h2 := UInt8.toNat_lt (b.getD (4 * i + 2) 0)
  have h3 := UInt8.toNat_lt (b.getD (4 * i + 3) 0)
  unfold w16
  rw [iw_n (by omega), iw_n (by omega), iw_n (by omega), iw_n (by omega), ishl_i (n := 24) (by omega) (by omega), ishl_i (n := 16) (by omega) (by omega), ishl_i (n := 8) (by omega) (by omega), iw_add rfl rfl (by omega), iw_add rfl rfl (by omega), iw_add rfl rfl (by omega)]
  rfl
theorem or_add {x y k : Nat} (h : y < 2 ^ k) : x * 2 ^ k ||| y = x * 2 ^ k + y := by
  rw [Nat.mul_comm, Nat.two_pow_add_eq_or_of_lt h]
theorem word_n (b : List UInt8) (i : Nat) : word b i = (wd b i : Nat) := by
  have h0 := UInt8.toNat_lt (b.getD (4 * i) 0)
  have h1 := UInt8.toNat_lt (b.getD (4 * i + 1) 0)
  have h2 := UInt8.toNat_lt (b.getD (4 * i + 2) 0)
  have h3 := UInt8.toNat_lt (b.getD (4 * i + 3) 0)
  have hb : ∀ k, byteAt b k = ((b.getD k 0).toNat : Nat) := fun k => by
    have := UInt8.toNat_lt (b.getD k 0)
    exact wrap32 (by omega)
  unfold word wd
  rw [hb, hb, hb, hb]
  generalize (b.getD (4 * i) 0).toNat = x0 at *
  generalize (b.getD (4 * i + 1) 0).toNat = x1 at *
  generalize (b.getD (4 * i + 2) 0).toNat = x2 at *
  generalize (b.getD (4 * i + 3) 0).toNat = x3 at *
  have e0 : ishl .u32 (x0 : Int) 24 = ((x0 * 16777216 : Nat) : Int) := by rw [ishl_u (by omega), Nat.mod_eq_of_lt (by omega)]
  have e1 : ishl .u32 (x1 : Int) 16 = ((x1 * 65536 : Nat) : Int) := by rw [ishl_u (by omega), Nat.mod_eq_of_lt (by omega)]
  have e2 : ishl .u32 (x2 : Int) 8 = ((x2 * 256 : Nat) : Int) := by rw [ishl_u (by omega), Nat.mod_eq_of_lt (by omega)]
  have o1 : x0 * 16777216 ||| x1 * 65536 = x0 * 16777216 + x1 * 65536 := or_add (k := 24) (by omega)
  have o2 : x0 * 16777216 + x1 * 65536 ||| x2 * 256 = x0 * 16777216 + x1 * 65536 + x2 * 256 := by
    have := or_add (x := x0 * 256 + x1) (y := x2 * 256) (k := 16) (by omega)
    rw [show (x0 * 256 + x1) * 2 ^ 16 = x0 * 16777216 + x1 * 65536 by omega] at this; exact this
  have o3 : x0 * 16777216 + x1 * 65536 + x2 * 256 ||| x3 = x0 * 16777216 + x1 * 65536 + x2 * 256 + x3 := by
    have := or_add (x := x0 * 65536 + x1 * 256 + x2) (y := x3) (k := 8) (by omega)
    rw [show (x0 * 65536 + x1 * 256 + x2) * 2 ^ 8 = x0 * 16777216 + x1 * 65536 + x2 * 256 by omega] at this; exact this
  rw [e0, e1, e2, ior_u (by omega) (by omega), o1, ior_u (by omega) (by omega), o2, ior_u (by omega) (by omega), o3]
def wl (L : List Nat) (i : Nat) : Nat := m32 (L.getD (i - 16) 0 + s2 (L.getD (i - 15) 0) 7 18 3 + L.getD (i - 7) 0 + s2 (L.getD (i - 2) 0) 17 19 10)
def wN (b : List UInt8) : Nat → List Nat
  | 0 => List.replicate 64 0
  | i + 1 => (wN b i).set i (if i < 16 then wd b i else wl (wN b i) i)
theorem wN_lt (b : List UInt8) : ∀ i, ∀ k, (wN b i).getD k 0 < 4294967296
  | 0, k => by
    rw [wN, List.getD_eq_getElem?_getD, List.getElem?_replicate]; split <;> simp
  | i + 1, k => by
    rw [wN, List.getD_eq_getElem?_getD, List.getElem?_set]
    split
    · split
      · simp only [Option.getD_some]; split
        · exact wd_lt b i
        · exact m32_lt _
      · simp
    · rw [← List.getD_eq_getElem?_getD]; exact wN_lt b i k
def upL (L : List Nat) : List Int := L.map Int.ofNat
theorem upL_get (L : List Nat) (k : Nat) : (upL L).getD k 0 = ((L.getD k 0 : Nat) : Int) := by
  unfold upL
  rw [List.getD_eq_getElem?_getD, List.getD_eq_getElem?_getD, List.getElem?_map]
  cases L[k]? <;> rfl
theorem upL_set (L : List Nat) (k n : Nat) : (upL L).set k (n : Int) = upL (L.set k n) := by unfold upL; rw [List.map_set]; rfl
theorem spread_n (b : List UInt8) : ∀ i, spreadTo b i = upL (wN b i)
  | 0 => by rw [spreadTo, wN, upL, List.map_replicate]; rfl
  | i + 1 => by
    rw [spreadTo, wN, spread_n b i, ← upL_set]
    congr 1
    by_cases h : i < 16
    · rw [if_pos h, if_pos h]; exact word_n b i
    · rw [if_neg h, if_neg h]
      have hl := wN_lt b i
      unfold later
      rw [upL_get, upL_get, upL_get, upL_get, sig_n (hl _) (by omega) (by omega) (by omega), sig_n (hl _) (by omega) (by omega) (by omega), u32_add rfl rfl, u32_add rfl rfl, u32_add rfl rfl]
      congr 1
      unfold wl m32; omega
theorem words_n (b : List UInt8) : ∀ i, wordsTo b i = upL (wN b i)
  | 0 => by rw [wordsTo, wN, upL, List.map_replicate]; rfl
  | i + 1 => by
    rw [wordsTo, wN, words_n b i, ← upL_set]
    congr 1
    by_cases h : i < 16
    · rw [if_pos h, if_pos h]; exact w16_n b i
    · rw [if_neg h, if_neg h]
      have hl := wN_lt b i
      have a1 := hl (i - 16)
      have a2 := hl (i - 7)
      have a3 := s2_lt (r := 3) (hl (i - 15)) (p := 7) (q := 18) (by omega) (by omega)
      have a4 := s2_lt (r := 10) (hl (i - 2)) (p := 17) (q := 19) (by omega) (by omega)
      unfold laterI
      rw [upL_get, upL_get, upL_get, upL_get, sigI_n (hl _) (by omega) (by omega) (by omega), sigI_n (hl _) (by omega) (by omega) (by omega), iw_add rfl rfl (by omega), iw_add rfl rfl (by omega), iw_add rfl rfl (by omega), tmod_n]
      rfl
end Cr
namespace Cr
open Go
set_option maxRecDepth 10000
def rdN : List Nat := roundL.map Int.toNat
def fsN : List Nat := firstL.map Int.toNat
theorem rd_up : roundL = upL rdN := by decide +kernel
theorem fs_up : firstL = upL fsN := by decide +kernel
theorem rdN_lt : ∀ k, rdN.getD k 0 < 4294967296 := by
  have h : ∀ x ∈ rdN, x < 4294967296 := by decide +kernel
  intro k
  rw [List.getD_eq_getElem?_getD]
  cases e : rdN[k]? with
  | none => simp
  | some x => exact h x (List.mem_of_getElem? e)
/-- Eight words. -/
structure H8 (h : List Nat) : Prop where
  len : h.length = 8
  lt : ∀ x ∈ h, x < 4294967296
theorem H8.get {h : List Nat} (H : H8 h) (k : Nat) : h.getD k 0 < 4294967296 := by
  rw [List.getD_eq_getElem?_getD]
  cases e : h[k]? with
  | none => simp
  | some x => exact H.lt x (List.mem_of_getElem? e)
theorem fsN_8 : H8 fsN := ⟨by decide +kernel, by decide +kernel⟩
def st (h : List Nat) (b : List UInt8) : Nat → N8
  | 0 => ⟨h.getD 0 0, h.getD 1 0, h.getD 2 0, h.getD 3 0, h.getD 4 0, h.getD 5 0, h.getD 6 0, h.getD 7 0⟩
  | i + 1 => (st h b i).next (rdN.getD i 0) ((wN b 64).getD i 0)
theorem st_ok {h : List Nat} (H : H8 h) (b : List UInt8) : ∀ i, (st h b i).ok
  | 0 => ⟨H.get 0, H.get 1, H.get 2, H.get 3, H.get 4, H.get 5, H.get 6, H.get 7⟩
  | i + 1 => N8.next_ok (st_ok H b i) _ _
theorem turnTo_n {h : List Nat} (H : H8 h) (b : List UInt8) : ∀ i, i ≤ 64 → turnTo (firstL ++ roundL) (wordsTo b 64) (upL h) i = (st h b i).up
  | 0, _ => by
    unfold turnTo st N8.up
    simp only [upL_get]
  | i + 1, hi => by
    rw [turnTo, turnTo_n H b i (by omega)]
    have hk : (firstL ++ roundL).getD (8 + i) 0 = ((rdN.getD i 0 : Nat) : Int) := by
      rw [List.getD_eq_getElem?_getD, List.getElem?_append_right (by rw [firstL_length]; omega), firstL_length, show 8 + i - 8 = i by omega, ← List.getD_eq_getElem?_getD, ← upL_get, ← rd_up]
    have hw : (wordsTo b 64).getD i 0 = (((wN b 64).getD i 0 : Nat) : Int) := by rw [words_n, upL_get]
    exact turnStep_n (st_ok H b i) hk hw (rdN_lt i) (wN_lt b 64 i)
theorem mixTo_n {h : List Nat} (H : H8 h) (b : List UInt8) : ∀ i, i ≤ 64 → Sees (mixTo roundL (spreadTo b 64) (upL h) i) i (st h b i)
  | 0, _ => by
    refine ⟨by simp [mixTo, upL, H.len], ?_, ?_, ?_, ?_, ?_, ?_, ?_, ?_⟩ <;> exact upL_get h _
  | i + 1, hi => by
    have ih := mixTo_n H b i (by omega)
    rw [mixTo]
    exact mixStep_n (st_ok H b i) ih (by rw [rd_up, upL_get]) (by rw [spread_n, upL_get])
theorem list8 {V : List Int} (h : V.length = 8) : V = [V.getD 0 0, V.getD 1 0, V.getD 2 0, V.getD 3 0, V.getD 4 0, V.getD 5 0, V.getD 6 0, V.getD 7 0] := by
  match V, h with
  | [_, _, _, _, _, _, _, _], _ => rfl
theorem list8n {V : List Nat} (h : V.length = 8) : V = [V.getD 0 0, V.getD 1 0, V.getD 2 0, V.getD 3 0, V.getD 4 0, V.getD 5 0, V.getD 6 0, V.getD 7 0] := by
  match V, h with
  | [_, _, _, _, _, _, _, _], _ => rfl
def nextH (h : List Nat) (b : List UInt8) : List Nat :=
  let s := st h b 64
  [m32 (h.getD 0 0 + s.a), m32 (h.getD 1 0 + s.b), m32 (h.getD 2 0 + s.c), m32 (h.getD 3 0 + s.d), m32 (h.getD 4 0 + s.e), m32 (h.getD 5 0 + s.f), m32 (h.getD 6 0 + s.g), m32 (h.getD 7 0 + s.h)]
theorem nextH_8 (h : List Nat) (b : List UInt8) : H8 (nextH h b) := ⟨by unfold nextH; generalize st h b 64 = s; simp only [List.length_cons, List.length_nil], fun x hx => by
  unfold nextH at hx
  generalize st h b 64 = s at hx
  simp only [ List.mem_cons, List.not_mem_nil, or_false] at hx
  rcases hx with h | h | h | h | h | h | h | h <;> (rw [h]; exact m32_lt _)⟩
theorem addTo_8 (h0 h1 h2 h3 h4 h5 h6 h7 a b c d e f g k : Int) : addTo [h0, h1, h2, h3, h4, h5, h6, h7] [a, b, c, d, e, f, g, k] 8 = [u32 (h0 + a), u32 (h1 + b), u32 (h2 + c), u32 (h3 + d), u32 (h4 + e), u32 (h5 + f), u32 (h6 + g), u32 (h7 + k)] := rfl
theorem sumI_8 (h0 h1 h2 h3 h4 h5 h6 h7 a b c d e f g k : Int) : sumI [a, b, c, d, e, f, g, k] [h0, h1, h2, h3, h4, h5, h6, h7] 8 = [(iw (a + h0)).tmod 4294967296, (iw (b + h1)).tmod 4294967296, (iw (c + h2)).tmod 4294967296, (iw (d + h3)).tmod 4294967296, (iw (e + h4)).tmod 4294967296, (iw (f + h5)).tmod 4294967296, (iw (g + h6)).tmod 4294967296, (iw (k + h7)).tmod 4294967296] := rfl
theorem blend_n {h : List Nat} (H : H8 h) (b : List UInt8) : blend roundL (upL h) b = upL (nextH h b) := by
  have hv := mixTo_n H b 64 (Nat.le_refl _)
  have e0 : spot 0 64 = 0 := rfl
  have e1 : spot 1 64 = 1 := rfl
  have e2 : spot 2 64 = 2 := rfl
  have e3 : spot 3 64 = 3 := rfl
  have e4 : spot 4 64 = 4 := rfl
  have e5 : spot 5 64 = 5 := rfl
  have e6 : spot 6 64 = 6 := rfl
  have e7 : spot 7 64 = 7 := rfl
  unfold blend
  rw [list8 hv.len]
  have ha := hv.a
  have hb := hv.b
  have hc := hv.c
  have hd := hv.d
  have he := hv.e
  have hf := hv.f
  have hg := hv.g
  have hh := hv.h
  rw [e0] at ha
  rw [e1] at hb
  rw [e2] at hc
  rw [e3] at hd
  rw [e4] at he
  rw [e5] at hf
  rw [e6] at hg
  rw [e7] at hh
  rw [ha, hb, hc, hd, he, hf, hg, hh]
  have hu : upL h = [((h.getD 0 0 : Nat) : Int), ((h.getD 1 0 : Nat) : Int), ((h.getD 2 0 : Nat) : Int), ((h.getD 3 0 : Nat) : Int), ((h.getD 4 0 : Nat) : Int), ((h.getD 5 0 : Nat) : Int), ((h.getD 6 0 : Nat) : Int), ((h.getD 7 0 : Nat) : Int)] := by
    conv => lhs; rw [list8n H.len]
    rfl
  rw [hu, addTo_8, u32_add rfl rfl, u32_add rfl rfl, u32_add rfl rfl, u32_add rfl rfl, u32_add rfl rfl, u32_add rfl rfl, u32_add rfl rfl, u32_add rfl rfl]
  rfl
theorem turnM_n {h : List Nat} (H : H8 h) (b : List UInt8) : turnM (firstL ++ roundL) (upL h) b = upL (nextH h b) := by
  have hs := st_ok H b 64
  unfold turnM
  rw [turnTo_n H b 64 (Nat.le_refl _)]
  have hu : upL h = [((h.getD 0 0 : Nat) : Int), ((h.getD 1 0 : Nat) : Int), ((h.getD 2 0 : Nat) : Int), ((h.getD 3 0 : Nat) : Int), ((h.getD 4 0 : Nat) : Int), ((h.getD 5 0 : Nat) : Int), ((h.getD 6 0 : Nat) : Int), ((h.getD 7 0 : Nat) : Int)] := by
    conv => lhs; rw [list8n H.len]
    rfl
  have key : ∀ {x y : Nat}, x < 4294967296 → y < 4294967296 → (iw ((x : Int) + (y : Int))).tmod 4294967296 = ((m32 (y + x) : Nat) : Int) := fun {x y} hx hy => by
    rw [iw_add rfl rfl (by omega), tmod_n, Nat.add_comm]
  rw [hu]
  show sumI [((st h b 64).a : Int), ((st h b 64).b : Int), ((st h b 64).c : Int), ((st h b 64).d : Int), ((st h b 64).e : Int), ((st h b 64).f : Int), ((st h b 64).g : Int), ((st h b 64).h : Int)] _ 8 = _
  rw [sumI_8, key hs.a (H.get 0), key hs.b (H.get 1), key hs.c (H.get 2), key hs.d (H.get 3), key hs.e (H.get 4), key hs.f (H.get 5), key hs.g (H.get 6), key hs.h (H.get 7)]
  rfl
end Cr
namespace Cr
open Go
set_option maxRecDepth 10000
theorem one_part {rd fs : List Int} {S : StrM} {c : List UInt8} (hn : S.n % 64 = 0) (hR : S.R.length = 64) (hc : c.length = 64) : ∀ j, j ≤ 63 →
    S.more rd fs (c.take j) = ⟨if j = 0 then S.H else beginH fs S.H S.n, c.take j ++ S.R.drop j, S.n + j⟩
  | 0, _ => by simp [StrM.more]
  | j + 1, hj => by
    have ih := one_part (rd := rd) (fs := fs) hn hR hc j (by omega)
    rw [StrM.more_snoc (by omega), ih]
    have h1 : ¬ (S.n + j + 1) % 64 = 0 := by omega
    have h2 : (S.n + j) % 64 = j := by omega
    unfold StrM.one
    simp only
    rw [if_neg h1, h2]
    have e1 : beginH fs (if j = 0 then S.H else beginH fs S.H S.n) (S.n + j) = beginH fs S.H S.n := by
      unfold beginH
      by_cases h0 : j = 0
      · subst h0; simp
      · rw [if_neg (by omega), if_neg h0]
    have e2 : (c.take j ++ S.R.drop j).set j (c.getD j 0) = c.take (j + 1) ++ S.R.drop (j + 1) := by
      have e0 : (c.take j).length = j := by simp; omega
      have e3 : S.R.drop j = S.R[j]'(by omega) :: S.R.drop (j + 1) := List.drop_eq_getElem_cons (by omega)
      have e4 : c.take (j + 1) = c.take j ++ [c[j]'(by omega)] := List.take_succ_eq_append_getElem (by omega)
      have e5 : c.getD j 0 = c[j]'(by omega) := by simp [List.getD_eq_getElem?_getD, show j < c.length by omega]
      rw [List.set_append_right _ _ (by omega), e0, Nat.sub_self, e3, List.set_cons_zero, e4, e5, List.append_assoc]; rfl
    rw [e1, e2, if_neg (show ¬ j + 1 = 0 by omega)]; rfl
theorem block_more {rd fs : List Int} {S : StrM} {c : List UInt8} (hn : S.n % 64 = 0) (hR : S.R.length = 64) (hc : c.length = 64) : S.more rd fs c = ⟨blend rd (beginH fs S.H S.n) c, c, S.n + 64⟩ := by
  have h := one_part (rd := rd) (fs := fs) hn hR hc 63 (Nat.le_refl _)
  have e : c = c.take (63 + 1) := (List.take_of_length_le (by omega)).symm
  conv => lhs; rw [e, StrM.more_snoc (by omega), h]
  have h2 : (S.n + 63) % 64 = 63 := by omega
  have hset : (c.take 63 ++ S.R.drop 63).set 63 (c.getD 63 0) = c := by
    have e0 : (c.take 63).length = 63 := by simp; omega
    have e3 : S.R.drop 63 = S.R[63]'(by omega) :: S.R.drop 64 := List.drop_eq_getElem_cons (by omega)
    have e4 : S.R.drop 64 = [] := List.drop_of_length_le (by omega)
    have e5 : c.getD 63 0 = c[63]'(by omega) := by simp [List.getD_eq_getElem?_getD, show 63 < c.length by omega]
    rw [List.set_append_right _ _ (by omega), e0, Nat.sub_self, e3, e4, List.set_cons_zero, e5]
    have e6 : c.take (63 + 1) = c.take 63 ++ [c[63]'(by omega)] := List.take_succ_eq_append_getElem (by omega)
    rw [← e6, ← e]
  unfold StrM.one
  simp only
  rw [if_pos (by omega), h2, hset]
  have e1 : beginH fs (if (63 : Nat) = 0 then S.H else beginH fs S.H S.n) (S.n + 63) = beginH fs S.H S.n := by
    unfold beginH; simp
  rw [e1]
def blk (t : List UInt8) (k : Nat) : List UInt8 := (t.drop (64 * k)).take 64
def hAt (t : List UInt8) : Nat → List Nat
  | 0 => fsN
  | k + 1 => nextH (hAt t k) (blk t k)
theorem hAt_8 (t : List UInt8) : ∀ k, H8 (hAt t k)
  | 0 => fsN_8
  | _ + 1 => nextH_8 _ _
theorem blocks_more (t : List UInt8) : ∀ m, 64 * m ≤ t.length → (StrM.init.more roundL firstL (t.take (64 * m))).n = 64 * m ∧ (StrM.init.more roundL firstL (t.take (64 * m))).R.length = 64 ∧
    beginH firstL (StrM.init.more roundL firstL (t.take (64 * m))).H (64 * m) = upL (hAt t m) ∧ (0 < m → (StrM.init.more roundL firstL (t.take (64 * m))).H = upL (hAt t m))
  | 0, _ => by
    refine ⟨by simp [StrM.more, StrM.init], by simp [StrM.more, StrM.init], ?_, fun h => absurd h (by omega)⟩
    simp only [beginH, Nat.mul_zero, if_true]
    exact fs_up
  | m + 1, hm => by
    obtain ⟨h1, h2, h3, _⟩ := blocks_more t m (by omega)
    have e : t.take (64 * (m + 1)) = t.take (64 * m) ++ blk t m := by
      unfold blk
      rw [show 64 * (m + 1) = 64 * m + 64 by omega, List.take_add]
    have hb : (blk t m).length = 64 := by simp [blk]; omega
    rw [e, StrM.more_append]
    obtain ⟨S, hS⟩ : ∃ S, S = StrM.init.more roundL firstL (t.take (64 * m)) := ⟨_, rfl⟩
    rw [← hS] at h1 h2 h3 ⊢
    have hbm := block_more (rd := roundL) (fs := firstL) (S := S) (c := blk t m) (by omega) h2 hb
    rw [h1, h3, blend_n (hAt_8 t m)] at hbm
    rw [hbm]
    refine ⟨by simp only; omega, hb, ?_, fun _ => rfl⟩
    unfold beginH
    rw [if_neg (by omega)]; rfl
/-- The digest of bytes, by blocks. -/
def shaText (s : List UInt8) : List UInt8 := s ++ padB s.length
theorem gap_mod (n : Nat) : (n + 1 + gap n + 8) % 64 = 0 := by unfold gap; omega
theorem gap_before {n k : Nat} (h : k < gap n) : ¬ (n + 1 + k + 8) % 64 = 0 := by unfold gap at h; omega
theorem shaText_length (s : List UInt8) : (shaText s).length = s.length + 1 + gap s.length + 8 := by
  have : (lenB s.length 8).length = 8 := by simp [lenB]
  simp [shaText, padB, this]; omega
theorem sha_blocks (s : List UInt8) (m : Nat) (hm : (shaText s).length = 64 * m) : (StrM.init.more roundL firstL s).sum roundL firstL = outB (upL (hAt (shaText s) m)) := by
  unfold StrM.sum
  have hn : (StrM.init.more roundL firstL s).n = s.length := by rw [StrM.more_n]; simp [StrM.init]
  rw [hn, ← StrM.more_append]
  have hl := shaText_length s
  have h := (blocks_more (shaText s) m (by omega)).2.2.2 (by omega)
  rw [List.take_of_length_le (by omega)] at h
  show outB (StrM.init.more roundL firstL (shaText s)).H = _
  rw [h]
end Cr
namespace Cr
open Go Go.Proofs
set_option maxRecDepth 100000
set_option maxHeartbeats 8000000
attribute [local irreducible] Calls

abbrev tabV : Value := .agg (ints .i64 (tabTo 310)).toArray
theorem lenAt_is {n : Nat} (hn : n ≤ 1099511627776) (j : Nat) (hj : j < 8) : lenAt n j = b8 (ishr .i64 (8 * (n : Int)) (8 * (7 - j))) := by
  unfold lenAt
  have e1 : IntKind.u64.wrap (n : Int) = (n : Int) := by simp only [IntKind.wrap, IntKind.bits, IntKind.signed]; simp; omega
  have e2 : IntKind.u64.wrap ((n : Int) * 8) = ((8 * n : Nat) : Int) := by simp only [IntKind.wrap, IntKind.bits, IntKind.signed]; simp; omega
  rw [e1, e2, show 8 * (n : Int) = ((8 * n : Nat) : Int) by omega, ishr_n (k := .u64) _ _ (by show _ ≤ 64; omega), ishr_n (k := .i64) _ _ (by show _ ≤ 64; omega)]
theorem upL_length (h : List Nat) : (upL h).length = h.length := by simp [upL]
theorem outAt_is (H : List Int) (i k : Nat) (hk : k < 4) : outAt H (4 * i + k) = b8 (ishr .i64 (H.getD i 0) (24 - 8 * k)) := by
  unfold outAt
  rw [show (4 * i + k) / 4 = i by omega, show 24 - (4 * i + k) % 4 * 8 = 24 - 8 * k by omega]
  unfold ishr
  rw [show min (24 - 8 * k) IntKind.u32.bits = 24 - 8 * k from Nat.min_eq_left (by show _ ≤ 32; omega), show min (24 - 8 * k) IntKind.i64.bits = 24 - 8 * k from Nat.min_eq_left (by show _ ≤ 64; omega)]
def pre (s : List UInt8) (k : Nat) : List UInt8 := s ++ 128 :: List.replicate k 0
theorem pre_length (s : List UInt8) (k : Nat) : (pre s k).length = s.length + 1 + k := by simp [pre]; omega
theorem pre_succ (s : List UInt8) (k : Nat) : pre s (k + 1) = pre s k ++ [0] := by
  unfold pre
  rw [List.replicate_succ', List.append_assoc]; rfl
theorem lenB_length (n : Nat) : ∀ j, (lenB n j).length = j
  | 0 => rfl
  | j + 1 => by simp [lenB, lenB_length n j]
theorem shaText_is (s : List UInt8) : pre s (gap s.length) ++ lenB s.length 8 = shaText s := by simp [pre, shaText, padB]
theorem first_len : firstL.length = 8 := by decide +kernel
theorem round_len : roundL.length = 64 := by decide +kernel
theorem seg_first : Seg (ints .i64 (firstL ++ roundL)) 0 8 (ints .i64 firstL) := ⟨by
  refine ⟨?_, by rw [ints_length, first_len]⟩
  unfold ints
  rw [List.map_append, List.drop_zero, List.take_append_of_le_length (by simp [first_len]), List.take_of_length_le (by simp [first_len])]⟩
theorem rsumW_ (a : Option Addr) (c : Nat) (s : List UInt8) (W : World) (hs : Rd W (bytes a s)) (hl : s.length ≤ 1099511627776) (m : Nat) (hm : (shaText s).length = 64 * m) :
    Calls Tryz.prog 68 #[tabV, .slice a s.length c] W (Ret fun v w => v = .agg (bv (outB (upL (hAt (shaText s) m)))).toArray ∧ St W noF [] w) := by
  have hS := St.start W
  have hgl : gap s.length < 64 := by unfold gap; omega
  refine calls_C Tryz.func68 rfl Tryz.ntmps68 rfl ?_
  repeat (first | (refine G_id ?_; first | refine G_nil ?_ | refine G_plain rfl rfl ?_) | (refine X_id ?_; first | refine X_yl (Yl_move rfl rfl) rfl rfl ?_ | refine X_box rfl rfl rfl rfl hS (fun _ _ hS _ => ?_) | refine X_alloc rfl rfl rfl hS (fun _ _ hS _ => ?_) | refine X_buildSlice rfl rfl rfl rfl rfl rfl rfl rfl hS (fun _ _ hS _ => ?_)) | (refine C_id ?_; first | refine C_seq ?_ | refine C_region ?_) | (refine E_id ?_; first | refine E_code ?_))
  rename_i b2 _ _ _ b4 _ _ _ _ _ _
  refine X_append rfl rfl rfl rfl rfl hS rfl (Nat.le_refl _) (hs.ro.rd hS) (by simp) bv_one (by omega) (by simp only [maxLen]; omega) (fun p1 c1 w hS hc1 _ => ?_)
  rw [List.nil_append] at hS
  rw [Nat.zero_add] at hc1 ⊢
  repeat (first | (refine G_id ?_; first | refine G_nil ?_ | refine G_plain rfl rfl ?_) | (refine X_id ?_; first | refine X_yl (Yl_move rfl rfl) rfl rfl ?_ | refine X_yl (Yl_assign rfl rfl) rfl rfl ?_ | refine X_buildSlice rfl rfl rfl rfl rfl rfl rfl rfl hS (fun _ _ hS _ => ?_)) | (refine C_id ?_; first | refine C_seq ?_ | refine C_region ?_) | (refine E_id ?_; first | refine E_code ?_))
  refine X_append rfl rfl rfl rfl rfl hS (by simp) hc1 hS.ownRd rfl (fun u hu => by
    simp only [List.mem_cons, List.not_mem_nil, or_false] at hu
    subst hu; rfl) (by omega) (by simp only [maxLen]; omega) (fun p2 c2 w hS hc2 _ => ?_)
  have hS : St W noF [own 5 1 p2 c2 (bv s ++ [.int .u8 128]), pts b4 (.cells (List.replicate 32 (.int .u8 0)).toArray 105), pts b2 (.cells (ints .i64 (tabTo 310)).toArray 38)] w := hS.took
  rw [show bv s ++ [Value.int .u8 128] = bv (pre s 0) by simp [pre, bv]] at hS
  repeat (first | (refine G_id ?_; first | refine G_nil ?_ | refine G_plain rfl rfl ?_) | (refine X_id ?_; first | refine X_yl (Yl_assign rfl rfl) rfl rfl ?_) | (refine C_id ?_; first | refine C_seq ?_ | refine C_block ?_) | (refine E_id ?_; first | refine E_code ?_))
  refine C_joinB (α := Option Addr × Nat) (fun z => [(1, .slice a s.length c), (2, .pointer (some ⟨b2, 0, none⟩)), (4, .pointer (some ⟨b4, 0, none⟩)), (5, .slice z.1 (pre s (gap s.length)).length z.2)])
    (fun z w => (pre s (gap s.length)).length ≤ z.2 ∧ St W noF [own 5 1 z.1 z.2 (bv (pre s (gap s.length))), pts b4 (.cells (List.replicate 32 (.int .u8 0)).toArray 105), pts b2 (.cells (ints .i64 (tabTo 310)).toArray 38)] w) ?_ ?_
  · refine C_loop (α := Nat × Option Addr × Nat) (fun z => [(1, .slice a s.length c), (2, .pointer (some ⟨b2, 0, none⟩)), (4, .pointer (some ⟨b4, 0, none⟩)), (5, .slice z.2.1 (s.length + 1 + z.1) z.2.2)])
      (fun z w => z.1 ≤ gap s.length ∧ s.length + 1 + z.1 ≤ z.2.2 ∧ St W noF [own 5 1 z.2.1 z.2.2 (bv (pre s z.1)), pts b4 (.cells (List.replicate 32 (.int .u8 0)).toArray 105), pts b2 (.cells (ints .i64 (tabTo 310)).toArray 38)] w) (fun z => gap s.length - z.1) (0, p2, c2)
      ⟨rfl, rfl, rfl, rfl, trivial⟩ ⟨Nat.zero_le _, hc2, hS⟩ ?_
    clear hS
    rintro ⟨k, pk, ck⟩ w ⟨hk, hck, hS⟩
    simp only at hk hck hS ⊢
    by_cases h1 : k < gap s.length
    · have hgb := gap_before h1
      repeat (first | (refine G_id ?_; first | refine G_nil ?_ | refine G_plain rfl rfl ?_) | (refine X_id ?_; first | refine X_yl (Yl_move rfl rfl) rfl rfl ?_ | refine X_yl (Yl_len rfl rfl) rfl rfl ?_ | refine X_yl (Yl_neq_t rfl rfl rfl (by omega)) rfl rfl ?_ | refine X_yl (Yl_add rfl rfl rfl (w64 (by omega) (by omega))) rfl rfl ?_ | refine X_yl (Yl_remE rfl rfl rfl (by omega) (by omega)) rfl rfl ?_ | refine X_buildSlice rfl rfl rfl rfl rfl rfl rfl rfl hS (fun _ _ hS _ => ?_)) | (refine C_id ?_; first | refine C_seq ?_ | refine C_region ?_ | refine C_block ?_ | refine C_skip ?_ | refine C_cond_t rfl ?_) | (refine E_id ?_; first | refine E_code ?_))
      refine X_append rfl rfl rfl rfl rfl hS (by rw [bv_length, pre_length, Nat.mul_one]) hck (hS.rd (List.mem_cons_self ..)).own_row rfl (fun u hu => by
        simp only [List.mem_cons, List.not_mem_nil, or_false] at hu
        subst hu; rfl) (by omega) (by simp only [maxLen]; omega) (fun p' c' w hS hc' _ => ?_)
      rw [show bv (pre s k) ++ [Value.int .u8 0] = bv (pre s (k + 1)) by rw [pre_succ, bv_append]; rfl] at hS
      repeat (first | (refine G_id ?_; first | refine G_nil ?_ | refine G_plain rfl rfl ?_) | (refine X_id ?_; first | refine X_yl (Yl_assign rfl rfl) rfl rfl ?_) | (refine E_id ?_; first | refine E_blk_n ?_))
      exact E_round (z := (k, pk, ck)) (k + 1, p', c') ⟨rfl, rfl, rfl, rfl, trivial⟩ ⟨by simp only; omega, hc', hS.took⟩ (by simp only; omega)
    · obtain rfl : k = gap s.length := by omega
      have hgm := gap_mod s.length
      repeat (first | (refine G_id ?_; first | refine G_nil ?_ | refine G_plain rfl rfl ?_) | (refine X_id ?_; first | refine X_yl (Yl_move rfl rfl) rfl rfl ?_ | refine X_yl (Yl_len rfl rfl) rfl rfl ?_ | refine X_yl (Yl_neq_f rfl rfl rfl (by omega)) rfl rfl ?_ | refine X_yl (Yl_add rfl rfl rfl (w64 (by omega) (by omega))) rfl rfl ?_ | refine X_yl (Yl_remE rfl rfl rfl (by omega) (by omega)) rfl rfl ?_) | (refine C_id ?_; first | refine C_seq ?_ | refine C_region ?_ | refine C_exit ?_ | refine C_cond_f rfl ?_) | (refine E_id ?_; first | refine E_code ?_ | refine E_then_exit ?_ | refine E_blk_same ?_))
      refine E_mid (pk, ck) ⟨rfl, rfl, rfl, ?_, trivial⟩ ⟨by rw [pre_length]; exact hck, hS⟩
      simp only [pre_length]; rfl
  clear hS
  rintro ⟨pz, cz⟩ w ⟨hcz, hS⟩
  simp only at hcz hS ⊢
  obtain ⟨P, hP⟩ : ∃ P, P = pre s (gap s.length) := ⟨_, rfl⟩
  have hPl : P.length ≤ s.length + 65 := by rw [hP, pre_length]; omega
  rw [← hP] at hcz hS ⊢
  repeat (first | (refine G_id ?_; first | refine G_nil ?_ | refine G_plain rfl rfl ?_) | (refine X_id ?_; first | refine X_yl (Yl_assign rfl rfl) rfl rfl ?_) | (refine C_id ?_; first | refine C_seq ?_ | refine C_region ?_ | refine C_block ?_) | (refine E_id ?_; first | refine E_code ?_))
  refine C_joinB (α := Option Addr × Nat) (fun z => [(2, .pointer (some ⟨b2, 0, none⟩)), (4, .pointer (some ⟨b4, 0, none⟩)), (5, .slice z.1 (P ++ lenB s.length 8).length z.2)])
    (fun z w => (P ++ lenB s.length 8).length ≤ z.2 ∧ St W noF [own 5 1 z.1 z.2 (bv (P ++ lenB s.length 8)), pts b4 (.cells (List.replicate 32 (.int .u8 0)).toArray 105), pts b2 (.cells (ints .i64 (tabTo 310)).toArray 38)] w) ?_ ?_
  · refine C_loop (α := Nat × Option Addr × Nat) (fun z => [(1, .slice a s.length c), (2, .pointer (some ⟨b2, 0, none⟩)), (4, .pointer (some ⟨b4, 0, none⟩)), (5, .slice z.2.1 (P.length + z.1) z.2.2), (6, .int .i64 (7 - (z.1 : Nat)))])
      (fun z w => z.1 ≤ 8 ∧ P.length + z.1 ≤ z.2.2 ∧ St W noF [own 5 1 z.2.1 z.2.2 (bv (P ++ lenB s.length z.1)), pts b4 (.cells (List.replicate 32 (.int .u8 0)).toArray 105), pts b2 (.cells (ints .i64 (tabTo 310)).toArray 38)] w) (fun z => 8 - z.1) (0, pz, cz)
      ⟨rfl, rfl, rfl, rfl, rfl, trivial⟩ ⟨Nat.zero_le _, hcz, by simpa [lenB] using hS⟩ ?_
    clear hS
    rintro ⟨k, pk, ck⟩ w ⟨hk, hck, hS⟩
    simp only at hk hck hS ⊢
    by_cases h1 : k < 8
    · repeat (first | (refine G_id ?_; first | refine G_nil ?_ | refine G_plain rfl rfl ?_) | (refine X_id ?_; first | refine X_yl (Yl_move rfl rfl) rfl rfl ?_ | refine X_yl (Yl_len rfl rfl) rfl rfl ?_ | refine X_yl (Yl_geq_t rfl rfl rfl (by omega)) rfl rfl ?_ | refine X_yl (Yl_mul rfl rfl rfl (w64 (by omega) (by omega))) rfl rfl ?_ | refine X_yl (Yl_convU8 rfl rfl) rfl rfl ?_ | refine X_yl (Yl_shr rfl rfl rfl (by omega)) rfl rfl ?_ | refine X_buildSlice rfl rfl rfl rfl rfl rfl rfl rfl hS (fun _ _ hS _ => ?_)) | (refine C_id ?_; first | refine C_seq ?_ | refine C_region ?_ | refine C_block ?_ | refine C_skip ?_ | refine C_cond_t rfl ?_) | (refine E_id ?_; first | refine E_code ?_))
      refine X_append rfl rfl rfl rfl rfl hS (by rw [bv_length, List.length_append, lenB_length, Nat.mul_one]) hck (hS.rd (List.mem_cons_self ..)).own_row rfl (fun u hu => by
        simp only [List.mem_cons, List.not_mem_nil, or_false] at hu
        subst hu; rfl) (by omega) (by simp only [maxLen]; omega) (fun p' c' w hS hc' _ => ?_)
      rw [show (8 * (7 - (k : Int))).toNat = 8 * (7 - k) by omega, ← lenAt_is hl k h1, show bv (P ++ lenB s.length k) ++ [Value.int .u8 (lenAt s.length k).toNat] = bv (P ++ lenB s.length (k + 1)) by rw [lenB, ← List.append_assoc, bv_append _ [lenAt s.length k]]; rfl] at hS
      repeat (first | (refine G_id ?_; first | refine G_nil ?_ | refine G_plain rfl rfl ?_) | (refine X_id ?_; first | refine X_yl (Yl_move rfl rfl) rfl rfl ?_ | refine X_yl (Yl_assign rfl rfl) rfl rfl ?_ | refine X_yl (Yl_sub rfl rfl rfl (w64 (by omega) (by omega))) rfl rfl ?_) | (refine C_id ?_; first | refine C_region ?_) | (refine E_id ?_; first | refine E_code ?_ | refine E_blk_n ?_))
      exact E_round (z := (k, pk, ck)) (k + 1, p', c') ⟨rfl, rfl, rfl, rfl, (by show some _ = some _; congr 2; push_cast; omega), trivial⟩ ⟨by simp only; omega, hc', hS.took⟩ (by simp only; omega)
    · obtain rfl : k = 8 := by omega
      repeat (first | (refine G_id ?_; first | refine G_nil ?_ | refine G_plain rfl rfl ?_) | (refine X_id ?_; first | refine X_yl (Yl_move rfl rfl) rfl rfl ?_ | refine X_yl (Yl_geq_f rfl rfl rfl (by omega)) rfl rfl ?_) | (refine C_id ?_; first | refine C_seq ?_ | refine C_region ?_ | refine C_exit ?_ | refine C_cond_f rfl ?_) | (refine E_id ?_; first | refine E_code ?_ | refine E_then_exit ?_ | refine E_blk_same ?_))
      refine E_mid (pk, ck) ⟨rfl, rfl, ?_, trivial⟩ ⟨by rw [List.length_append, lenB_length]; exact hck, hS⟩
      simp only [List.length_append, lenB_length]; rfl
  clear hS hcz
  rintro ⟨py, cy⟩ w ⟨hcz, hS⟩
  simp only at hcz hS ⊢
  subst hP
  rw [shaText_is] at hcz hS ⊢
  clear hPl
  have hln : (shaText s).length ≤ 1099511627776 + 100 := by rw [shaText_length]; omega
  rw [hm] at hln hcz ⊢
  obtain ⟨T, hT⟩ : ∃ T, T = tabTo 310 := ⟨_, rfl⟩
  have hTs : T = firstL ++ roundL := hT.trans table_is
  have hT72 : T.length = 72 := by rw [hTs, List.length_append, first_len, round_len]
  have hl72 : LenO (ints .i64 T) 72 := ⟨by rw [ints_length, hT72]⟩
  have hsg : Seg (ints .i64 T) 0 8 (ints .i64 (upL (hAt (shaText s) 0))) := by
    show Seg _ 0 8 (ints .i64 (upL fsN))
    rw [← fs_up, hTs]; exact seg_first
  have hl8 : ∀ k, LenO (ints .i64 (upL (hAt (shaText s) k))) 8 := fun k => ⟨by rw [ints_length, upL_length, (hAt_8 _ k).len]⟩
  rw [← hT] at hS
  clear hT
  repeat (first | (refine G_id ?_; first | refine G_nil ?_ | refine G_plain rfl rfl ?_) | (refine X_id ?_; first | refine X_yl (Yl_assign rfl rfl) rfl rfl ?_ | refine X_yl (Yl_fieldAddr0 rfl rfl rfl) rfl rfl ?_ | refine X_yl (Yl_loadN rfl rfl hS.cellsN) rfl rfl ?_ | refine X_storeAll rfl rfl rfl rfl hS (fun _ hS => ?_) | refine X_alloc rfl rfl rfl hS (fun _ _ hS _ => ?_)) | (refine C_id ?_; first | refine C_seq ?_ | refine C_region ?_ | refine C_block ?_) | (refine E_id ?_; first | refine E_code ?_))
  rename_i b7 _ _ _ _
  refine C_joinB (α := Unit) (fun _ => [(4, .pointer (some ⟨b4, 0, none⟩)), (7, .pointer (some ⟨b7, 0, none⟩))])
    (fun _ w => St W noF [pts b7 (.cells (ints .i64 (upL (hAt (shaText s) m))).toArray 35), pts b4 (.cells (List.replicate 32 (.int .u8 0)).toArray 105)] w) ?_ ?_
  · refine C_loop (α := Nat) (fun k => [(2, .pointer (some ⟨b2, 0, none⟩)), (4, .pointer (some ⟨b4, 0, none⟩)), (5, .slice py (64 * m) cy), (7, .pointer (some ⟨b7, 0, none⟩)), (8, .int .i64 ((64 * k : Nat) : Int))])
      (fun k w => k ≤ m ∧ St W noF [pts b7 (.cells (ints .i64 (upL (hAt (shaText s) k))).toArray 35), own 5 1 py cy (bv (shaText s)), pts b4 (.cells (List.replicate 32 (.int .u8 0)).toArray 105), pts b2 (.cells (ints .i64 T).toArray 38)] w) (fun k => m - k) 0
      ⟨rfl, rfl, rfl, rfl, rfl, trivial⟩ ⟨Nat.zero_le _, hS⟩ ?_
    clear hS
    rintro k w ⟨hk, hS⟩
    have hlk := hl8 k
    have hlk1 := hl8 (k + 1)
    by_cases h1 : k < m
    · have hbl : (blk (shaText s) k).length = 64 := by unfold blk; simp; omega
      have htn : ∀ w, Rd w (bytes (sub py (64 * k) 1 cy) (blk (shaText s) k)) → Calls Tryz.prog 79 #[.agg (ints .i64 T).toArray, .agg (ints .i64 (upL (hAt (shaText s) k))).toArray, .slice (sub py (64 * k) 1 cy) 64 (cy - 64 * k)] w (Ret fun v w' => v = .agg (ints .i64 (upL (hAt (shaText s) (k + 1)))).toArray ∧ St w noF [] w') := fun w hr => by
        have h := turn_ T (upL (hAt (shaText s) k)) hT72 (by rw [upL_length, (hAt_8 _ k).len]) _ (cy - 64 * k) _ w hr hbl
        rw [hTs, turnM_n (hAt_8 _ _)] at h
        rw [hTs]
        exact h
      have hrd : ∀ {w : World} {rs : List Res}, St W noF rs w → own 5 1 py cy (bv (shaText s)) ∈ rs → Rd w (bytes (sub py (64 * k) 1 cy) (blk (shaText s) k)) := fun {w rs} h hm => by
        have := Rd.subBytes (w := w) (a := py) (s := shaText s) (l := 64 * k) (h := 64 * k + 64) (c := cy) ((h.rd hm).own_row) (by omega) (by omega)
        rw [show 64 * k + 64 - 64 * k = 64 by omega] at this
        exact this
      repeat (first | (refine G_id ?_; first | refine G_nil ?_ | refine G_plain rfl rfl ?_) | (refine X_id ?_; first | refine X_yl (Yl_move rfl rfl) rfl rfl ?_ | refine X_yl (Yl_len rfl rfl) rfl rfl ?_ | refine X_yl (Yl_lss_t rfl rfl rfl (by omega)) rfl rfl ?_) | (refine C_id ?_; first | refine C_seq ?_ | refine C_region ?_ | refine C_block ?_ | refine C_skip ?_ | refine C_cond_t rfl ?_) | (refine E_id ?_; first | refine E_code ?_))
      refine C_ord (.s 0 (.s 1 (.s 2 (.s 3 (.s 4 (.s 5 (.s 6 (.h 7 (.h 8 .nil .no) .no)))))))) mixed (by kernel_rfl) rfl ?_
      have hS := hS.drew
      repeat (first | (refine GO_id ?_; first | refine GO_pure rfl rfl (fun _ => Yl_move rfl rfl) rfl rfl ?_ | refine GO_pure rfl rfl (fun _ => Yl_add rfl rfl rfl (w64 (by omega) (by omega))) rfl rfl ?_ | refine GO_read (fun w' => CellsN w' _ _ _) rfl rfl hS.cellsN (fun _ hc => Yl_loadN rfl rfl hc) rfl rfl ?_))
      refine GO_pure rfl rfl (fun _ => Yl_slice (l := 64 * k) (h := 64 * k + 64) rfl rfl rfl rfl (.inr ⟨_, _, rfl, by omega, by omega, by omega⟩) (.inr ⟨_, _, rfl, by omega, by omega, by omega⟩)) rfl rfl ?_
      rw [show 64 * k + 64 - 64 * k = 64 by omega]
      repeat (first | (refine G_id ?_; first | refine G_nil ?_ | refine G_plain rfl rfl ?_) | (refine X_id ?_; first | (refine X_callq 79 rfl rfl rfl rfl rfl hS (htn _ (hrd hS (by simp))) ?_; rintro _ _ rfl hS) | refine X_yl (Yl_move rfl rfl) rfl rfl ?_ | refine X_yl (Yl_assign rfl rfl) rfl rfl ?_ | refine X_yl (Yl_add rfl rfl rfl (w64 (by omega) (by omega))) rfl rfl ?_ | refine X_storeAll rfl rfl rfl rfl hS (fun _ hS => ?_)) | (refine C_id ?_; first | refine C_region ?_) | (refine E_id ?_; first | refine E_code ?_ | refine E_blk_n ?_) | (refine GO_id ?_; first | refine GO_nil ?_ | refine GO_hard rfl rfl ?_) | (refine Keep_id ?_; first | refine And.intro (by repeat (first | exact trivial | refine And.intro (.inl (by decide +kernel)) ?_ | refine And.intro (.inr (by first | assumption | exact hS.cell | exact cell_at (by assumption) | exact hS.cellI (by omega) | exact hS.cellIP (by omega) | exact hS.cellsN | exact ((hr.rd hS).cellX (by omega) hx) | exact ((hr2.rd hS).cellX (by omega) hx2) | exact hS.cellB (by omega) | exact hS.cellBA (by omega) | exact (hb.rd hS).cellB' (by omega) | exact (hb2.rd hS).cellB' (by omega) | exact (hg.rd hS).cellI (by omega) | exact (hg2.rd hS).cellI (by omega) | exact ((hr.rd hS).cellF (by first | omega | (dsimp only; omega)) hx) | exact ((hr2.rd hS).cellF (by first | omega | (dsimp only; omega)) hx2) | exact hS.cellO 0 (by omega) | exact hS.cellO 1 (by omega) | exact hS.cellIA (by omega) | exact (hg.rd hS).cellIA (by omega) | exact (hg2.rd hS).cellIA (by omega))) ?_)) ?_))
      exact E_round (k + 1) ⟨rfl, rfl, rfl, rfl, (by show some _ = some _; congr 2; try (push_cast; omega)), trivial⟩ ⟨h1, hS.took⟩ (by omega)
    · obtain rfl : k = m := by omega
      repeat (first | (refine G_id ?_; first | refine G_nil ?_ | refine G_plain rfl rfl ?_) | (refine X_id ?_; first | refine X_yl (Yl_move rfl rfl) rfl rfl ?_ | refine X_yl (Yl_len rfl rfl) rfl rfl ?_ | refine X_yl (Yl_lss_f rfl rfl rfl (by omega)) rfl rfl ?_) | (refine C_id ?_; first | refine C_seq ?_ | refine C_region ?_ | refine C_exit ?_ | refine C_cond_f rfl ?_) | (refine E_id ?_; first | refine E_code ?_ | refine E_then_exit ?_ | refine E_blk_same ?_))
      exact E_mid () ⟨rfl, rfl, trivial⟩ hS.took
  clear hS
  rintro _ w hS
  obtain ⟨H, hH⟩ : ∃ H, H = upL (hAt (shaText s) m) := ⟨_, rfl⟩
  have hH8 : H.length = 8 := by rw [hH, upL_length, (hAt_8 _ m).len]
  rw [← hH] at hS ⊢
  repeat (first | (refine G_id ?_; first | refine G_nil ?_ | refine G_plain rfl rfl ?_) | (refine X_id ?_; first | refine X_yl (Yl_assign rfl rfl) rfl rfl ?_ | refine X_alloc rfl rfl rfl hS (fun _ _ hS _ => ?_)) | (refine C_id ?_; first | refine C_seq ?_ | refine C_region ?_ | refine C_block ?_) | (refine E_id ?_; first | refine E_code ?_))
  rename_i b9 _ _
  rw [bv_rep] at hS
  refine C_loop (α := Nat) (fun i => [(4, .pointer (some ⟨b4, 0, none⟩)), (7, .pointer (some ⟨b7, 0, none⟩)), (9, .pointer (some ⟨b9, 0, none⟩)), (10, .int .i64 (i : Nat))])
    (fun i w => i ≤ 8 ∧ St W noF [pts b9 (.cells (bv (outTo H (4 * i))).toArray 105), pts b7 (.cells (ints .i64 H).toArray 35), pts b4 (.cells (bv (List.replicate 32 0)).toArray 105)] w) (fun i => 8 - i) 0
    ⟨rfl, rfl, rfl, rfl, trivial⟩ ⟨Nat.zero_le _, hS⟩ ?_
  clear hS
  rintro i w ⟨hi, hS⟩
  by_cases h1 : i < 8
  · repeat (first | (refine G_id ?_; first | refine G_nil ?_ | refine G_plain rfl rfl ?_) | (refine X_id ?_; first | refine X_yl (Yl_move rfl rfl) rfl rfl ?_ | refine X_yl (Yl_assign rfl rfl) rfl rfl ?_ | refine X_yl (Yl_lss_t rfl rfl rfl (by omega)) rfl rfl ?_) | (refine C_id ?_; first | refine C_seq ?_ | refine C_region ?_ | refine C_block ?_ | refine C_skip ?_ | refine C_cond_t rfl ?_) | (refine E_id ?_; first | refine E_code ?_))
    refine C_loop (α := Nat) (fun k => [(4, .pointer (some ⟨b4, 0, none⟩)), (7, .pointer (some ⟨b7, 0, none⟩)), (9, .pointer (some ⟨b9, 0, none⟩)), (10, .int .i64 (i : Nat)), (11, .int .i64 (k : Nat))])
      (fun k w => k ≤ 4 ∧ St W noF [pts b9 (.cells (bv (outTo H (4 * i + k))).toArray 105), pts b7 (.cells (ints .i64 H).toArray 35), pts b4 (.cells (bv (List.replicate 32 0)).toArray 105)] w) (fun k => 4 - k) 0
      ⟨rfl, rfl, rfl, rfl, rfl, trivial⟩ ⟨Nat.zero_le _, by rw [Nat.add_zero]; exact hS⟩ ?_
    clear hS
    rintro k w ⟨hk, hS⟩
    obtain ⟨L, hLe⟩ : ∃ L, L = outTo H (4 * i + k) := ⟨_, rfl⟩
    have hL : L.length = 32 := by rw [hLe]; exact outTo_length H _
    rw [← hLe] at hS
    by_cases h2 : k < 4
    · repeat (first | (refine G_id ?_; first | refine G_nil ?_ | refine G_plain rfl rfl ?_) | (refine X_id ?_; first | refine X_yl (Yl_move rfl rfl) rfl rfl ?_ | refine X_yl (Yl_assign rfl rfl) rfl rfl ?_ | refine X_yl (Yl_lss_t rfl rfl rfl (by omega)) rfl rfl ?_ | refine X_yl (Yl_indexAddr_arr rfl rfl rfl (by omega) (by omega)) rfl rfl ?_ | refine X_yl (Yl_add rfl rfl rfl (w64 (by omega) (by omega))) rfl rfl ?_ | refine X_yl (Yl_sub rfl rfl rfl (w64 (by omega) (by omega))) rfl rfl ?_ | refine X_yl (Yl_mul rfl rfl rfl (w64 (by omega) (by omega))) rfl rfl ?_ | refine X_yl (Yl_convU8 rfl rfl) rfl rfl ?_ | refine X_yl (Yl_shr rfl rfl rfl (by omega)) rfl rfl ?_ | refine X_yl (Yl_load rfl rfl (hS.cellI (by omega))) rfl rfl ?_ | refine X_storeB rfl rfl rfl rfl hS (by omega) (fun _ hS => ?_)) | (refine C_id ?_; first | refine C_seq ?_ | refine C_region ?_ | refine C_block ?_ | refine C_skip ?_ | refine C_cond_t rfl ?_) | (refine E_id ?_; first | refine E_code ?_ | refine E_blk_n ?_))
      refine E_round (k + 1) ⟨rfl, rfl, rfl, rfl, rfl, trivial⟩ ⟨h2, ?_⟩ (by omega)
      rw [show 0 + (4 * (i : Int) + k).toNat * 1 = 4 * i + k by omega, show 0 + (i : Int).toNat * 1 = i by omega, show (24 - 8 * (k : Int)).toNat = 24 - 8 * k by omega, hLe, ← outAt_is H i k h2] at hS
      exact hS
    · obtain rfl : k = 4 := by omega
      repeat (first | (refine G_id ?_; first | refine G_nil ?_ | refine G_plain rfl rfl ?_) | (refine X_id ?_; first | refine X_yl (Yl_move rfl rfl) rfl rfl ?_ | refine X_yl (Yl_assign rfl rfl) rfl rfl ?_ | refine X_yl (Yl_lss_f rfl rfl rfl (by omega)) rfl rfl ?_ | refine X_yl (Yl_add rfl rfl rfl (w64 (by omega) (by omega))) rfl rfl ?_) | (refine C_id ?_; first | refine C_seq ?_ | refine C_region ?_ | refine C_exit ?_ | refine C_cond_f rfl ?_) | (refine E_id ?_; first | refine E_code ?_ | refine E_then_exit ?_ | refine E_blk_same ?_ | refine E_blk_n ?_))
      exact E_round (i + 1) ⟨rfl, rfl, rfl, rfl, trivial⟩ ⟨h1, by rw [show 4 * (i + 1) = 4 * i + 4 by omega, ← hLe]; exact hS⟩ (by omega)
  · obtain rfl : i = 8 := by omega
    rw [show 4 * 8 = 32 from rfl] at hS
    obtain ⟨L, hLe⟩ : ∃ L, L = outTo H 32 := ⟨_, rfl⟩
    rw [← hLe] at hS
    have hlen : LenO (bv L) 32 := ⟨by rw [bv_length, hLe, outTo_length]⟩
    repeat (first | (refine G_id ?_; first | refine G_nil ?_ | refine G_plain rfl rfl ?_) | (refine X_id ?_; first | refine X_yl (Yl_move rfl rfl) rfl rfl ?_ | refine X_yl (Yl_lss_f rfl rfl rfl (by omega)) rfl rfl ?_ | refine X_yl (Yl_loadN rfl rfl hS.cellsN) rfl rfl ?_ | refine X_storeAll rfl rfl rfl rfl hS (fun _ hS => ?_)) | (refine C_id ?_; first | refine C_seq ?_ | refine C_region ?_ | refine C_ret ?_ | refine C_exit ?_ | refine C_cond_f rfl ?_) | (refine E_id ?_; first | refine E_code ?_ | refine E_then_exit ?_ | refine E_blk_same ?_ | refine E_ret1 rfl (by first | exact Rv_tmp rfl | exact Rv_cell rfl (run_load1 hS.cell) | exact Rv_cell rfl (run_loadN hS.cellsN)) (Ret.mk ?_)))
    exact ⟨by rw [hLe]; rfl, hS.drops⟩
end Cr
namespace Cr
open Go Go.Proofs
/-- The digest of bytes. -/
def sha (s : List UInt8) : List UInt8 := (StrM.init.more roundL firstL s).sum roundL firstL
theorem sha_length (s : List UInt8) : (sha s).length = 32 := by unfold sha StrM.sum; exact outB_length _
theorem sha_is (s : List UInt8) (m : Nat) (hm : (shaText s).length = 64 * m) : sha s = outB (upL (hAt (shaText s) m)) := sha_blocks s m hm
attribute [irreducible] sha
theorem rsum_ (a : Option Addr) (c : Nat) (s : List UInt8) (W : World) (hs : Rd W (bytes a s)) (hl : s.length ≤ 1099511627776) :
    Calls Tryz.prog 68 #[tabV, .slice a s.length c] W (Ret fun v w => v = .agg (bv (sha s)).toArray ∧ St W noF [] w) := by
  obtain ⟨m, hm⟩ : ∃ m, (shaText s).length = 64 * m := ⟨(shaText s).length / 64, by
    have := gap_mod s.length
    rw [shaText_length]; omega⟩
  rw [sha_is s m hm]
  exact rsumW_ a c s W hs hl m hm
theorem digest_sha (l : List (List UInt8)) : digest roundL firstL l = sha (framed l) := by
  unfold digest sha; rfl
end Cr
namespace Cr
open Go Go.Proofs
set_option maxRecDepth 100000
set_option maxHeartbeats 8000000
attribute [local irreducible] Calls

theorem frameB_is (n : Nat) : frameB n = [b8 (ishr .i64 n 24), b8 (ishr .i64 n 16), b8 (ishr .i64 n 8), b8 n] := by
  have e : ishr .i64 (n : Int) 0 = n := by unfold ishr; simp
  show [frameAt n 0, frameAt n 1, frameAt n 2, frameAt n 3] = _
  unfold frameAt
  rw [show 8 * (3 - 3) = 0 from rfl, e]
theorem frame_ (a : Option Addr) (c : Nat) (l : List Bs) (W : World) (hB : Bss W noF a l) (hn : (framed (texts l)).length ≤ 1099511627776) :
    Calls Tryz.prog 69 #[.slice a l.length c] W (Ret fun v w => ∃ p k, v = .slice p (framed (texts l)).length k ∧ St W noF [bytes p (framed (texts l))] w) := by
  have hS := St.start W
  have hll : l.length * 4 ≤ (framed (texts l)).length := by
    clear hn hS hB
    induction l with
    | nil => simp
    | cons x l ih => simp only [texts, framed, List.map_cons, List.flatMap_cons, List.length_append, frameB_length, List.length_cons] at ih ⊢; omega
  refine calls_C Tryz.func69 rfl Tryz.ntmps69 rfl ?_
  repeat (first | (refine G_id ?_; first | refine G_nil ?_ | refine G_plain rfl rfl ?_) | (refine X_id ?_; first | refine X_yl (Yl_assign rfl rfl) rfl rfl ?_) | (refine C_id ?_; first | refine C_seq ?_ | refine C_region ?_ | refine C_block ?_) | (refine E_id ?_; first | refine E_code ?_))
  refine C_loop (α := Nat × Option Addr × Nat) (fun z => [(0, .slice a l.length c), (3, .slice z.2.1 (framed ((texts l).take z.1)).length z.2.2), (4, .int .i64 (z.1 : Nat))])
    (fun z w => z.1 ≤ l.length ∧ (framed ((texts l).take z.1)).length ≤ z.2.2 ∧ St W noF [own 5 1 z.2.1 z.2.2 (bv (framed ((texts l).take z.1)))] w) (fun z => l.length - z.1) (0, none, 0) ⟨rfl, rfl, rfl, trivial⟩ ⟨Nat.zero_le _, Nat.le_refl _, hS.own_none _ _ _⟩ ?_
  clear hS
  rintro ⟨i, pa, pc⟩ w ⟨hi, hc, hS⟩
  simp only at hi hc hS ⊢
  have hle := framed_take_le (texts l) i
  by_cases h1 : i < l.length
  · have hx0 : l[i]? = some l[i] := List.getElem?_eq_getElem h1
    generalize l[i] = x at hx0
    have hxb := hB.all x (List.mem_of_getElem? hx0)
    have hj := framed_snoc (l := texts l) (i := i) (x := x.s) (by simp [texts, hx0])
    have hle1 := framed_take_le (texts l) (i + 1)
    rw [hj, List.length_append, List.length_append, frameB_length] at hle1
    obtain ⟨F, hF⟩ : ∃ F, F = framed ((texts l).take i) := ⟨_, rfl⟩
    rw [← hF] at hS hc hle hle1 hj ⊢
    have hr := hB.row
    have hx : (l.map Bs.val)[i]? = some (.slice x.a x.s.length x.c) := by simp [hx0, Bs.val]
    obtain ⟨ab, ao, rfl⟩ := (hr.rd hS).base (by intro e; rw [e] at hx; simp at hx)
    repeat (first | (refine G_id ?_; first | refine G_nil ?_ | refine G_plain rfl rfl ?_) | (refine X_id ?_; first | refine X_yl (Yl_move rfl rfl) rfl rfl ?_ | refine X_yl (Yl_assign rfl rfl) rfl rfl ?_ | refine X_yl (Yl_len rfl rfl) rfl rfl ?_ | refine X_yl (Yl_lss_t rfl rfl rfl (by omega)) rfl rfl ?_ | refine X_yl (Yl_indexAddr rfl rfl rfl (by omega) (by omega) (by first | assumption | exact ⟨_, _, rfl⟩)) rfl rfl ?_ | refine X_yl (Yl_convU8 rfl rfl) rfl rfl ?_ | refine X_yl (Yl_shr rfl rfl rfl (by omega)) rfl rfl ?_ | refine X_yl (Yl_load rfl rfl ((hr.rd hS).cellX (by omega) hx)) rfl rfl ?_ | refine X_buildSlice rfl rfl rfl rfl rfl rfl rfl rfl hS (fun _ _ hS _ => ?_)) | (refine C_id ?_; first | refine C_seq ?_ | refine C_region ?_ | refine C_block ?_ | refine C_skip ?_ | refine C_cond_t rfl ?_) | (refine E_id ?_; first | refine E_code ?_))
    have hfb : [Value.int .u8 ((b8 (ishr .i64 (x.s.length : Int) 24)).toNat : Int), .int .u8 ((b8 (ishr .i64 (x.s.length : Int) 16)).toNat : Int), .int .u8 ((b8 (ishr .i64 (x.s.length : Int) 8)).toNat : Int), .int .u8 ((b8 (x.s.length : Int)).toNat : Int)] = bv (frameB x.s.length) := by rw [frameB_is]; rfl
    refine X_append rfl rfl rfl rfl rfl hS (by simp) hc (hS.rd (List.mem_cons_self ..)).own_row rfl (fun u hu => by
      simp only [List.mem_cons, List.not_mem_nil, or_false] at hu
      rcases hu with rfl | rfl | rfl | rfl <;> rfl) (by omega) (by simp only [maxLen]; omega) (fun a1 c1 w hS hc1 _ => ?_)
    repeat (first | (refine G_id ?_; first | refine G_nil ?_ | refine G_plain rfl rfl ?_) | (refine X_id ?_; first | refine X_yl (Yl_move rfl rfl) rfl rfl ?_ | refine X_yl (Yl_assign rfl rfl) rfl rfl ?_ | refine X_yl (Yl_indexAddr rfl rfl rfl (by omega) (by omega) (by first | assumption | exact ⟨_, _, rfl⟩)) rfl rfl ?_ | refine X_yl (Yl_load rfl rfl ((hr.rd hS).cellX (by omega) hx)) rfl rfl ?_) | (refine C_id ?_; first | refine C_region ?_) | (refine E_id ?_; first | refine E_code ?_))
    refine X_append rfl rfl rfl rfl rfl hS (by simp) hc1 (hxb.rd hS) (by simp) bv_one (by omega) (by simp only [maxLen]; omega) (fun a2 c2 w hS hc2 _ => ?_)
    repeat (first | (refine G_id ?_; first | refine G_nil ?_ | refine G_plain rfl rfl ?_) | (refine X_id ?_; first | refine X_yl (Yl_move rfl rfl) rfl rfl ?_ | refine X_yl (Yl_assign rfl rfl) rfl rfl ?_ | refine X_yl (Yl_add rfl rfl rfl (w64 (by omega) (by omega))) rfl rfl ?_) | (refine C_id ?_; first | refine C_region ?_) | (refine E_id ?_; first | refine E_code ?_ | refine E_blk_n ?_))
    refine E_round (z := (i, pa, pc)) (i + 1, a2, c2) ⟨rfl, ?_, rfl, trivial⟩ ⟨h1, ?_, ?_⟩ (by simp only; omega)
    · show some _ = some _
      rw [hj, List.length_append, List.length_append, frameB_length, Nat.add_assoc]
    · simp only; rw [hj, List.length_append, List.length_append, frameB_length]; omega
    · simp only
      rw [hj, bv_append, bv_append, ← hfb, ← List.append_assoc]
      exact hS.pick [0]
  · obtain rfl : i = l.length := by omega
    repeat (first | (refine G_id ?_; first | refine G_nil ?_ | refine G_plain rfl rfl ?_) | (refine X_id ?_; first | refine X_yl (Yl_move rfl rfl) rfl rfl ?_ | refine X_yl (Yl_assign rfl rfl) rfl rfl ?_ | refine X_yl (Yl_len rfl rfl) rfl rfl ?_ | refine X_yl (Yl_lss_f rfl rfl rfl (by omega)) rfl rfl ?_) | (refine C_id ?_; first | refine C_seq ?_ | refine C_region ?_ | refine C_ret ?_ | refine C_exit ?_ | refine C_cond_f rfl ?_) | (refine E_id ?_; first | refine E_code ?_ | refine E_then_exit ?_ | refine E_blk_same ?_ | refine E_ret1 rfl (Rv_tmp rfl) (Ret.mk ?_)))
    have e : (texts l).take l.length = texts l := by rw [show l.length = (texts l).length by simp [texts], List.take_length]
    rw [e] at hS ⊢
    exact ⟨pa, pc, rfl, hS.head fun _ h => h.row⟩
theorem rhead_ (n : Nat) (W : World) (hn : n < 9223372036854775808) :
    Calls Tryz.prog 43 #[tabV, .int .i64 (n : Nat)] W (Ret fun v w => ∃ p, v = .slice (some ⟨p, 0, none⟩) 64 64 ∧ St W noF [pts p (.cells (bv (frontB roundL firstL n)).toArray 5)] w) := by
  have hS := St.start W
  have hl72 : LenO (ints .i64 (tabTo 310)) 72 := ⟨by rw [ints_length]; exact tabTo_length 310⟩
  refine calls_C Tryz.func43 rfl Tryz.ntmps43 rfl ?_
  repeat (first | (refine G_id ?_; first | refine G_nil ?_ | refine G_plain rfl rfl ?_) | (refine X_id ?_; first | refine X_yl (Yl_move rfl rfl) rfl rfl ?_ | refine X_yl (Yl_assign rfl rfl) rfl rfl ?_ | refine X_box rfl rfl rfl rfl hS (fun _ _ hS _ => ?_)) | (refine C_id ?_; first | refine C_seq ?_ | refine C_region ?_) | (refine E_id ?_; first | refine E_code ?_))
  rename_i b2 _ _
  refine X_callg _ rfl rfl rfl rfl rfl (rbig_ n 8 _ hn (by omega)) ?_
  rintro _ w ⟨q, rfl, hS'⟩
  replace hS := hS.plus hS'
  clear hS'
  have e8 : (bigB (n : Int) 8).length = 8 := bigB_length _ _
  have hfr : framed (texts [(⟨some ⟨q, 0, none⟩, 8, bigB (n : Int) 8⟩ : Bs)]) = framed [bigB (n : Int) 8] := rfl
  have hfl : (framed [bigB (n : Int) 8]).length ≤ 1099511627776 := by simp [framed, frameB_length, e8]
  have hl32 : LenO (bv (sha (framed [bigB (n : Int) 8]))) 32 := ⟨by rw [bv_length]; exact sha_length _⟩
  have hrow : ∀ {w' : World} {a' : Option Addr}, Rd w' (row a' [.slice (some ⟨q, 0, none⟩) 8 8]) → Rd w' (row a' ([(⟨some ⟨q, 0, none⟩, 8, bigB (n : Int) 8⟩ : Bs)].map Bs.val)) := fun h => by simpa [Bs.val, e8] using h
  have hBs : ∀ (w' : World) (rs : List Res), St W noF rs w' → pts q (.cells (bv (bigB (n : Int) 8)).toArray 5) ∈ rs → ∀ x ∈ [(⟨some ⟨q, 0, none⟩, 8, bigB (n : Int) 8⟩ : Bs)], Rd w' (bytes x.a x.s) := fun w' rs h hm x hx => by
    rw [List.mem_singleton.1 hx]; exact (h.rd hm).ptsB
  repeat (first | (refine G_id ?_; first | refine G_nil ?_ | refine G_plain rfl rfl ?_) | (refine X_id ?_; first | refine X_yl (Yl_assign rfl rfl) rfl rfl ?_) | (refine C_id ?_; first | refine C_seq ?_) | (refine E_id ?_; first | refine E_code ?_))
  refine C_join (α := Nat) (fun z => [(5, .slice (some ⟨q, 0, none⟩) 8 8), (6, .pointer (some ⟨z, 0, none⟩))])
    (fun z w => St W noF [pts z (.cells (bv (sha (framed [bigB (n : Int) 8]))).toArray 105), pts q (.cells (bv (bigB (n : Int) 8)).toArray 5)] w) ?_ ?_
  · skip
    refine C_ord (.s 0 (.s 1 (.h 2 (.h 3 (.h 4 (.h 5 (.h 6 .nil .no) .no) (.h 5 (.h 4 (.h 6 .nil .no) .no) .no)) (.h 5 (.h 3 (.h 4 (.h 6 .nil .no) .no) .no) .no)) (.h 5 (.h 2 (.h 3 (.h 4 (.h 6 .nil .no) .no) .no) .no) .no)))) mixed (by kernel_rfl) rfl ?_
    have hS := hS.drew
    repeat' (first | (refine X_callg 69 rfl rfl rfl rfl rfl (frame_ _ _ [⟨some ⟨q, 0, none⟩, 8, bigB (n : Int) 8⟩] _ (Bss.ofRd (hrow hS.ownRd) (hBs _ _ hS (by simp))) hfl) ?_; rintro _ _ ⟨p, k, rfl, hS'⟩; rw [hfr] at hS'; replace hS := hS.plus hS'; clear hS') | (refine X_callq 68 rfl rfl rfl rfl rfl hS (rsum_ _ _ (framed [bigB (n : Int) 8]) _ (hS.rd (by simp)) hfl) ?_; rintro _ _ rfl hS) | refine GO_alt ?_ ?_ | (refine X_id ?_; first | refine X_store rfl rfl rfl rfl hS (fun _ hS _ => ?_) | refine X_alloc rfl rfl rfl hS (fun _ _ hS _ => ?_) | refine X_buildSlice rfl rfl rfl rfl rfl rfl rfl rfl hS (fun _ _ hS _ => ?_)) | (refine GO_id ?_; first | refine GO_nil ?_ | refine GO_pure rfl rfl (fun _ => Yl_move rfl rfl) rfl rfl ?_ | refine GO_read (fun w' => CellsN w' _ _ _) rfl rfl hS.cellsN (fun _ hc => Yl_loadN rfl rfl hc) rfl rfl ?_ | refine GO_hard rfl rfl ?_) | (refine Keep_id ?_; first | refine And.intro (by repeat (first | exact trivial | refine And.intro (.inl (by decide +kernel)) ?_ | refine And.intro (.inr (by first | assumption | exact hS.cell | exact cell_at (by assumption) | exact hS.cellI (by omega) | exact hS.cellIP (by omega) | exact hS.cellsN | exact ((hr.rd hS).cellX (by omega) hx) | exact ((hr2.rd hS).cellX (by omega) hx2) | exact hS.cellB (by omega) | exact hS.cellBA (by omega) | exact (hb.rd hS).cellB' (by omega) | exact (hb2.rd hS).cellB' (by omega) | exact (hg.rd hS).cellI (by omega) | exact (hg2.rd hS).cellI (by omega) | exact ((hr.rd hS).cellF (by first | omega | (dsimp only; omega)) hx) | exact ((hr2.rd hS).cellF (by first | omega | (dsimp only; omega)) hx2) | exact hS.cellO 0 (by omega) | exact hS.cellO 1 (by omega) | exact hS.cellIA (by omega) | exact (hg.rd hS).cellIA (by omega) | exact (hg2.rd hS).cellIA (by omega))) ?_)) ?_))
    all_goals exact E_mid _ ⟨rfl, rfl, trivial⟩ hS.took
  · clear hS
    rintro z w hS
    obtain ⟨dg, hdg⟩ : ∃ dg, dg = sha (framed [bigB (n : Int) 8]) := ⟨_, rfl⟩
    have hdl : dg.length = 32 := by rw [hdg]; exact sha_length _
    rw [← hdg] at hS
    repeat (first | (refine G_id ?_; first | refine G_plain rfl rfl ?_) | (refine X_id ?_; first | refine X_yl (Yl_move rfl rfl) rfl rfl ?_ | refine X_yl (Yl_slice_arr rfl rfl) rfl rfl ?_) | (refine C_id ?_; first | refine C_seq ?_ | refine C_region ?_))
    have hS := hS.pick [1, 0]
    replace hS := hS.head (own_of_pts (T := 5) (e := 1) (c := 8) (cs := bv (bigB (n : Int) 8)) (by rw [bv_length, e8]) (by simp only [maxLen]; omega) (by rw [List.take_length]))
    refine X_append rfl rfl rfl rfl rfl hS (by simp [e8]) (Nat.le_refl _) (hS.rd (r := pts z (.cells (bv dg).toArray 105)) (by simp)).ptsB (by simp [hdl]) bv_one (by omega) (by simp only [maxLen]; omega) (fun a1 c1 w hS hc1 _ => ?_)
    repeat (first | (refine G_id ?_; first | refine G_plain rfl rfl ?_))
    rw [← bv_append] at hS
    have hfl40 : (bigB (n : Int) 8 ++ dg).length = 8 + 32 := by rw [List.length_append, e8, hdl]
    rw [← hfl40]
    refine X_callg _ rfl rfl rfl rfl rfl (rfull_ a1 c1 (bigB (n : Int) 8 ++ dg) _ ((hS.rd (List.mem_cons_self ..)).own_row)) ?_
    rintro _ w ⟨r, rfl, hS'⟩
    replace hS := hS.plus hS'
    clear hS'
    repeat (first | (refine G_id ?_; first | refine G_nil ?_ | refine G_plain rfl rfl ?_) | (refine X_id ?_; first | refine X_yl (Yl_assign rfl rfl) rfl rfl ?_) | (refine C_id ?_; first | refine C_ret ?_) | (refine E_id ?_; first | refine E_code ?_ | refine E_ret1 rfl (Rv_tmp rfl) (Ret.mk ?_)))
    refine ⟨r, rfl, ?_⟩
    rw [frontB, digest_sha, ← hdg]
    exact hS.pick [0]
end Cr
