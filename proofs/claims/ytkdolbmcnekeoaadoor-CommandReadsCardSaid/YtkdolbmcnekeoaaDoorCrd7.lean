/-
  Package command: Encode, Decode.
  The laws' helper Same: are bytes the same?
  What is read is small: texts as long as the bytes at most, numbers ints.
  Layer 29's example (known).
  The document's words for layer 29, as far as CommandReads asks them: Sort, Check; the law's helper Of.
  The document's check of a command (layer 29).
  The law CommandReads: for every bytes it returns true.
  A law's arguments, opened: bytes, lists of writes. What is read of them, by the reading that the row gives.
  The law CommandReads holds: for every bytes it returns true, and what is handed reads as it did.
-/
import Derived.Test.YtkdolbmcnekeoaaDoorCrd6
import Derived.Test.YtkdolbmcnekeoaaDoorCrd4
import Derived.Test.YtkdolbmcnekeoaaDoorCrd5
import Derived.Test.YtkdolbmcnekeoaaDoorCrd3
import Derived.Deep.SlicePairs
import Derived.Carry
namespace Cr
open Go Go.Proofs
set_option maxRecDepth 100000
set_option maxHeartbeats 8000000
attribute [local irreducible] Calls

theorem encode_bad (c : Cmd) (aa : Option Addr) (cc : Nat) (W : World) (hb : Ro W noF (bytes aa c.arch)) (hs : c.small) (hbad : chk c ≠ 0) :
    Calls Tryd.prog 9 #[.agg (c.cells (.slice aa c.arch.length cc)).toArray] W (Ret fun v w => v = .tuple #[.slice none 0 0, .int .i64 (chk c : Nat)] ∧ St W noF [] w) := by
  have hS := St.start W
  have hC := fun W h => check_m c aa cc W h hs
  generalize chk c = n at hC hbad ⊢
  refine calls_C Tryd.func9 rfl Tryd.ntmps9 rfl ?_
  repeat (first | (refine G_id ?_; first | refine G_nil ?_ | refine G_plain rfl rfl ?_) | (refine X_id ?_; first | refine X_yl (Yl_assign rfl rfl) rfl rfl ?_ | refine X_yl (Yl_loadN rfl rfl hS.cellsN) rfl rfl ?_ | refine X_box rfl rfl rfl rfl hS (fun _ _ hS _ => ?_)) | (refine C_id ?_; first | refine C_seq ?_ | refine C_region ?_) | (refine E_id ?_; first | refine E_code ?_))
  refine X_callq 11 rfl rfl rfl rfl rfl hS (hC _ (hb.rd hS).ro) ?_
  rintro _ w rfl hS
  repeat (first | (refine G_id ?_; first | refine G_nil ?_ | refine G_plain rfl rfl ?_) | (refine X_id ?_; first | refine X_yl (Yl_move rfl rfl) rfl rfl ?_ | refine X_yl (Yl_assign rfl rfl) rfl rfl ?_ | refine X_yl (Yl_neq_t rfl rfl rfl (by omega)) rfl rfl ?_) | (refine C_id ?_; first | refine C_seq ?_ | refine C_region ?_ | refine C_ret ?_ | refine C_cond_t rfl ?_) | (refine E_id ?_; first | refine E_code ?_ | refine E_then_ret ?_ | refine E_ret2 rfl (Rv_tmp rfl) (Rv_tmp rfl) (Ret.mk ?_)))
  exact ⟨rfl, hS.drops⟩
theorem encode_ok (c : Cmd) (aa : Option Addr) (cc : Nat) (W : World) (hb : Ro W noF (bytes aa c.arch)) (hs : c.small) (hi : c.ints) (hok : chk c = 0) (hl : (encT c.leaves).length ≤ 65536) (hG : Lg W noF) :
    Calls Tryd.prog 9 #[.agg (c.cells (.slice aa c.arch.length cc)).toArray] W (Ret fun v w => ∃ b q, v = .tuple #[.slice b (encT c.leaves).length q, .int .i64 0] ∧ (encT c.leaves).length ≤ q ∧ St W noF [own 5 1 b q (bv (encT c.leaves))] w) := by
  have hS := St.start W
  have hC := fun W h => check_m c aa cc W h hs
  rw [hok] at hC
  have hV := fun W h => value_m c aa cc W h hs
  have hlen := leaves_len c
  refine calls_C Tryd.func9 rfl Tryd.ntmps9 rfl ?_
  repeat (first | (refine G_id ?_; first | refine G_nil ?_ | refine G_plain rfl rfl ?_) | (refine X_id ?_; first | refine X_yl (Yl_assign rfl rfl) rfl rfl ?_ | refine X_yl (Yl_loadN rfl rfl hS.cellsN) rfl rfl ?_ | refine X_box rfl rfl rfl rfl hS (fun _ _ hS _ => ?_)) | (refine C_id ?_; first | refine C_seq ?_ | refine C_region ?_) | (refine E_id ?_; first | refine E_code ?_))
  refine X_callq 11 rfl rfl rfl rfl rfl hS (hC _ (hb.rd hS).ro) ?_
  rintro _ w rfl hS
  repeat (first | (refine G_id ?_; first | refine G_nil ?_ | refine G_plain rfl rfl ?_) | (refine X_id ?_; first | refine X_yl (Yl_move rfl rfl) rfl rfl ?_ | refine X_yl (Yl_assign rfl rfl) rfl rfl ?_ | refine X_yl (Yl_neq_f rfl rfl rfl (by omega)) rfl rfl ?_ | refine X_yl (Yl_loadN rfl rfl hS.cellsN) rfl rfl ?_) | (refine C_id ?_; first | refine C_seq ?_ | refine C_region ?_ | refine C_skip ?_ | refine C_cond_f rfl ?_) | (refine E_id ?_; first | refine E_code ?_))
  refine X_callg _ rfl rfl rfl rfl rfl (hV _ (hb.rd hS).ro) ?_
  rintro _ w ⟨b, q, rfl, hS'⟩
  replace hS := hS.plus hS'
  clear hS' hV hC
  repeat (first | (refine G_id ?_; first | refine G_nil ?_ | refine G_plain rfl rfl ?_) | (refine X_id ?_; first | refine X_yl (Yl_move rfl rfl) rfl rfl ?_ | refine X_yl (Yl_assign rfl rfl) rfl rfl ?_ | refine X_yl (Yl_extract rfl rfl) rfl rfl ?_ | refine X_yl (Yl_loadN rfl rfl hS.cellsN) rfl rfl ?_ | refine X_store rfl rfl rfl rfl hS (fun _ hS _ => ?_) | refine X_alloc rfl rfl rfl hS (fun _ _ hS _ => ?_)) | (refine C_id ?_; first | refine C_seq ?_ | refine C_region ?_) | (refine E_id ?_; first | refine E_code ?_))
  obtain ⟨rows, hr1, hr2⟩ := (hS.rd (r := listR b c.leaves) (by simp)).ro.list
  refine X_callg _ rfl rfl rfl rfl rfl (encode_ b c.leaves q rows _ hr1 hr2 (leaves_fit hs hi) (by omega) (by omega) (hG.at_ hS)) ?_
  rintro _ w ⟨b2, q2, rfl, hq2, hS'⟩
  replace hS := hS.plus hS'
  clear hS' hr1 hr2
  repeat (first | (refine G_id ?_; first | refine G_nil ?_ | refine G_plain rfl rfl ?_ | refine G_yes rfl rfl rfl rfl ?_) | (refine X_id ?_; first | refine X_yl (Yl_move rfl rfl) rfl rfl ?_ | refine X_yl (Yl_assign rfl rfl) rfl rfl ?_ | refine X_yl (Yl_extract rfl rfl) rfl rfl ?_ | refine X_yl (Yl_pick_f rfl rfl rfl) rfl rfl ?_ | refine X_yl (Yl_len rfl rfl) rfl rfl ?_ | refine X_yl (Yl_neq_f rfl rfl rfl (by omega)) rfl rfl ?_ | refine X_yl (Yl_gtr_f rfl rfl rfl (by omega)) rfl rfl ?_) | (refine C_id ?_; first | refine C_seq ?_ | refine C_region ?_ | refine C_ret ?_ | refine C_skip ?_ | refine C_cond_f rfl ?_) | (refine E_id ?_; first | refine E_code ?_ | refine E_ret2 rfl (Rv_tmp rfl) (Rv_tmp rfl) (Ret.mk ?_)))
  exact ⟨b2, q2, rfl, hq2, hS.pick [0]⟩
/-- What Decode tells. -/
def CDRes (W : World) (r : Option Cmd) (v : Value) (w : World) : Prop :=
  match r with
  | some c => ∃ b q, v = .tuple #[.agg (c.cells (.slice b c.arch.length q)).toArray, .int .i64 0] ∧ St W noF [bytes b c.arch] w
  | none => v = .tuple #[.agg zC.toArray, .int .i64 3] ∧ St W noF [] w
theorem decode_m (a : Option Addr) (s : List UInt8) (c : Nat) (hsc : s.length ≤ c) (hl : s.length ≤ 65536) (W : World) (hG : Lg W noF) (hb : Ro W noF (bytes a s)) :
    Calls Tryd.prog 14 #[.slice a s.length c] W (Ret fun v w => CDRes W ((dec s).bind readT) v w) := by
  have hS := St.start W
  have hD := decode_ a s c hsc (by omega)
  have hcount := fun x h => dec_count (s := s) (x := x) h
  have hleaf := fun y h => dec_leaf (s := s) (y := y) h
  generalize dec s = res at hD hcount hleaf ⊢
  refine calls_C Tryd.func14 rfl Tryd.ntmps14 rfl ?_
  repeat (first | (refine G_id ?_; first | refine G_nil ?_ | refine G_plain rfl rfl ?_) | (refine X_id ?_; first | refine X_yl (Yl_move rfl rfl) rfl rfl ?_ | refine X_yl (Yl_assign rfl rfl) rfl rfl ?_ | refine X_alloc rfl rfl rfl hS (fun _ _ hS _ => ?_)) | (refine C_id ?_; first | refine C_seq ?_ | refine C_region ?_) | (refine E_id ?_; first | refine E_code ?_))
  refine X_callg _ rfl rfl rfl rfl rfl (hD _ (hG.at_ hS) (hb.rd hS).ro) ?_
  rintro v w hV
  cases res with
  | none =>
    obtain ⟨e, rfl, he, hS'⟩ := hV
    replace hS := hS.plus hS'
    clear hS'
    repeat (first | (refine G_id ?_; first | refine G_nil ?_ | refine G_plain rfl rfl ?_ | refine G_no rfl rfl rfl rfl rfl rfl ?_) | (refine X_id ?_; first | refine X_yl (Yl_move rfl rfl) rfl rfl ?_ | refine X_yl (Yl_assign rfl rfl) rfl rfl ?_ | refine X_yl (Yl_extract rfl rfl) rfl rfl ?_ | refine X_yl (Yl_pick_t rfl rfl rfl) rfl rfl ?_ | refine X_yl (Yl_neq_t rfl rfl rfl (by omega)) rfl rfl ?_ | refine X_yl (Yl_build rfl rfl rfl) rfl rfl ?_ | refine X_store rfl rfl rfl rfl hS (fun _ hS _ => ?_) | refine X_alloc rfl rfl rfl hS (fun _ _ hS _ => ?_)) | (refine C_id ?_; first | refine C_seq ?_ | refine C_region ?_ | refine C_ret ?_ | refine C_cond_t rfl ?_) | (refine E_id ?_; first | refine E_code ?_ | refine E_then_ret ?_ | refine E_ret2 rfl (by first | exact Rv_tmp rfl | exact Rv_cell rfl (run_load1 hS.cell) | exact Rv_cell rfl (run_loadN hS.cellsN)) (by first | exact Rv_tmp rfl | exact Rv_cell rfl (run_load1 hS.cell) | exact Rv_cell rfl (run_loadN hS.cellsN)) (Ret.mk ?_)))
    exact ⟨rfl, hS.drops⟩
  | some t =>
    obtain ⟨cs, rfl, hS'⟩ := hV
    replace hS := hS.plus hS'
    clear hS'
    obtain ⟨k, n, a1, n1, c1, a2, n2, c2, rfl⟩ := hS.top_cells
    have hR := fun W h => read_m t [.int .i64 k, .int .i64 n, .slice a1 n1 c1, .slice a2 n2 c2] W h (fun x hx => by have := hcount x (by rw [hx]); omega)
    simp only [Option.bind_some]
    generalize readT t = r at hR ⊢
    repeat (first | (refine G_id ?_; first | refine G_nil ?_ | refine G_plain rfl rfl ?_ | refine G_yes rfl rfl rfl rfl ?_) | (refine X_id ?_; first | refine X_yl (Yl_move rfl rfl) rfl rfl ?_ | refine X_yl (Yl_assign rfl rfl) rfl rfl ?_ | refine X_yl (Yl_extract rfl rfl) rfl rfl ?_ | refine X_yl (Yl_pick_f rfl rfl rfl) rfl rfl ?_ | refine X_yl (Yl_len rfl rfl) rfl rfl ?_ | refine X_yl (Yl_neq_f rfl rfl rfl (by omega)) rfl rfl ?_ | refine X_yl (Yl_gtr_f rfl rfl rfl (by omega)) rfl rfl ?_ | refine X_yl (Yl_loadN rfl rfl hS.cellsN) rfl rfl ?_ | refine X_store rfl rfl rfl rfl hS (fun _ hS _ => ?_) | refine X_alloc rfl rfl rfl hS (fun _ _ hS _ => ?_)) | (refine C_id ?_; first | refine C_seq ?_ | refine C_region ?_ | refine C_skip ?_ | refine C_cond_f rfl ?_) | (refine E_id ?_; first | refine E_code ?_))
    refine X_callg _ rfl rfl rfl rfl rfl (hR _ (topRo_of (hS.rd (r := topR t [.int .i64 k, .int .i64 n, .slice a1 n1 c1, .slice a2 n2 c2]) (by simp)).ro (fun y hy => hleaf y (by rw [hy])))) ?_
    rintro v w hV
    cases r with
    | none =>
      obtain ⟨rfl, hS'⟩ := hV
      replace hS := hS.plus hS'
      clear hS'
      repeat (first | (refine G_id ?_; first | refine G_nil ?_ | refine G_plain rfl rfl ?_) | (refine X_id ?_; first | refine X_yl (Yl_move rfl rfl) rfl rfl ?_ | refine X_yl (Yl_assign rfl rfl) rfl rfl ?_ | refine X_yl (Yl_extract rfl rfl) rfl rfl ?_ | refine X_yl (Yl_not_f rfl rfl) rfl rfl ?_ | refine X_yl (Yl_build rfl rfl rfl) rfl rfl ?_ | refine X_store rfl rfl rfl rfl hS (fun _ hS _ => ?_) | refine X_alloc rfl rfl rfl hS (fun _ _ hS _ => ?_)) | (refine C_id ?_; first | refine C_seq ?_ | refine C_region ?_ | refine C_ret ?_ | refine C_cond_t rfl ?_) | (refine E_id ?_; first | refine E_code ?_ | refine E_then_ret ?_ | refine E_ret2 rfl (by first | exact Rv_tmp rfl | exact Rv_cell rfl (run_load1 hS.cell) | exact Rv_cell rfl (run_loadN hS.cellsN)) (by first | exact Rv_tmp rfl | exact Rv_cell rfl (run_load1 hS.cell) | exact Rv_cell rfl (run_loadN hS.cellsN)) (Ret.mk ?_)))
      exact ⟨rfl, hS.drops⟩
    | some d =>
      obtain ⟨b, q, rfl, hS'⟩ := hV
      replace hS := hS.plus hS'
      clear hS'
      repeat (first | (refine G_id ?_; first | refine G_nil ?_ | refine G_plain rfl rfl ?_) | (refine X_id ?_; first | refine X_yl (Yl_move rfl rfl) rfl rfl ?_ | refine X_yl (Yl_assign rfl rfl) rfl rfl ?_ | refine X_yl (Yl_extract rfl rfl) rfl rfl ?_ | refine X_yl (Yl_not_t rfl rfl) rfl rfl ?_ | refine X_yl (Yl_loadN rfl rfl hS.cellsN) rfl rfl ?_ | refine X_store rfl rfl rfl rfl hS (fun _ hS _ => ?_) | refine X_alloc rfl rfl rfl hS (fun _ _ hS _ => ?_)) | (refine C_id ?_; first | refine C_seq ?_ | refine C_region ?_ | refine C_ret ?_ | refine C_skip ?_ | refine C_cond_f rfl ?_) | (refine E_id ?_; first | refine E_code ?_ | refine E_ret2 rfl (by first | exact Rv_tmp rfl | exact Rv_cell rfl (run_load1 hS.cell) | exact Rv_cell rfl (run_loadN hS.cellsN)) (by first | exact Rv_tmp rfl | exact Rv_cell rfl (run_load1 hS.cell) | exact Rv_cell rfl (run_loadN hS.cellsN)) (Ret.mk ?_)))
      exact ⟨b, q, rfl, hS.pick [1]⟩
end Cr
namespace Cr
open Go Go.Proofs
set_option maxRecDepth 100000
set_option maxHeartbeats 8000000
attribute [local irreducible] Calls

theorem same_ (a b : Option Addr) (c c' : Nat) (s t : List UInt8) (W : World) (ha : Rd W (bytes a s)) (hb : Rd W (bytes b t)) (hs : s.length ≤ 1099511627776) :
    Calls Tryd.prog 15 #[.slice a s.length c, .slice b t.length c'] W (Ret fun v w => v = .bool (decide (s = t)) ∧ St W noF [] w) := by
  have hS := St.start W
  by_cases hl : s.length = t.length
  · refine calls_C Tryd.func15 rfl Tryd.ntmps15 rfl ?_
    repeat (first | (refine G_id ?_; first | refine G_nil ?_ | refine G_plain rfl rfl ?_) | (refine X_id ?_; first | refine X_yl (Yl_move rfl rfl) rfl rfl ?_ | refine X_yl (Yl_assign rfl rfl) rfl rfl ?_ | refine X_yl (Yl_len rfl rfl) rfl rfl ?_ | refine X_yl (Yl_neq_f rfl rfl rfl (by omega)) rfl rfl ?_) | (refine C_id ?_; first | refine C_seq ?_ | refine C_region ?_ | refine C_block ?_ | refine C_skip ?_ | refine C_cond_f rfl ?_) | (refine E_id ?_; first | refine E_code ?_))
    refine C_loop (α := Nat) (fun i => [(0, .slice a s.length c), (1, .slice b t.length c'), (5, .int .i64 (i : Nat))])
      (fun i w => i ≤ s.length ∧ s.take i = t.take i ∧ St W noF [] w) (fun i => s.length - i) 0 ⟨rfl, rfl, rfl, trivial⟩ ⟨Nat.zero_le _, rfl, hS⟩ ?_
    clear hS
    rintro i w ⟨hi, htk, hS⟩
    by_cases hlt : i < s.length
    · obtain ⟨ab, ao, rfl⟩ := ha.base (by intro e; have := bv_length s; rw [e] at this; simp at this; omega)
      obtain ⟨bb, bo, rfl⟩ := hb.base (by intro e; have := bv_length t; rw [e] at this; simp at this; omega)
      have h1 := ha.ro
      have h2 := hb.ro
      clear ha hb
      have hb := h1
      have hb2 := h2
      have hlt2 : i < t.length := by omega
      have ei : (i : Int).toNat * 1 = i := by omega
      by_cases he : s.getD i 0 = t.getD i 0
      · have hq : ((s.getD ((i : Int).toNat * 1) 0).toNat : Int) = ((t.getD ((i : Int).toNat * 1) 0).toNat : Int) := by rw [ei, he]
        repeat (first | (refine G_id ?_; first | refine G_nil ?_ | refine G_plain rfl rfl ?_) | (refine X_id ?_; first | refine X_yl (Yl_move rfl rfl) rfl rfl ?_ | refine X_yl (Yl_len rfl rfl) rfl rfl ?_ | refine X_yl (Yl_lss_t rfl rfl rfl (by omega)) rfl rfl ?_) | (refine C_id ?_; first | refine C_seq ?_ | refine C_region ?_ | refine C_block ?_ | refine C_skip ?_ | refine C_cond_t rfl ?_) | (refine E_id ?_; first | refine E_code ?_))
        refine C_ord (.s 0 (.s 1 (.s 2 (.s 3 (.s 4 (.s 5 (.s 6 (.s 7 (.s 8 .nil))))))))) mixed (by kernel_rfl) rfl ?_
        have hS := hS.drew
        repeat (first | (refine G_id ?_; first | refine G_nil ?_ | refine G_plain rfl rfl ?_) | (refine X_id ?_; first | refine X_yl (Yl_move rfl rfl) rfl rfl ?_ | refine X_yl (Yl_assign rfl rfl) rfl rfl ?_ | refine X_yl (Yl_add rfl rfl rfl (w64 (by omega) (by omega))) rfl rfl ?_) | (refine C_id ?_; first | refine C_region ?_ | refine C_skip ?_ | refine C_cond_f rfl ?_) | (refine E_id ?_; first | refine E_code ?_ | refine E_blk_n ?_) | (refine GO_id ?_; first | refine GO_nil ?_ | refine GO_pure rfl rfl (fun _ => Yl_move rfl rfl) rfl rfl ?_ | refine GO_pure rfl rfl (fun _ => Yl_neq_f rfl rfl rfl (by omega)) rfl rfl ?_ | refine GO_pure rfl rfl (fun _ => Yl_indexAddr rfl rfl rfl (by omega) (by omega) (by first | assumption | exact ⟨_, _, rfl⟩)) rfl rfl ?_ | refine GO_read (fun w' => w'.cell? _ = some _) rfl rfl ((hb.rd hS).cellB' (by omega)) (fun _ hc => Yl_load rfl rfl hc) rfl rfl ?_ | refine GO_read (fun w' => w'.cell? _ = some _) rfl rfl ((hb2.rd hS).cellB' (by omega)) (fun _ hc => Yl_load rfl rfl hc) rfl rfl ?_))
        refine E_round (i + 1) ⟨rfl, rfl, rfl, trivial⟩ ⟨by omega, ?_, hS⟩ (by omega)
        rw [List.take_succ_eq_append_getElem hlt, List.take_succ_eq_append_getElem hlt2, htk]
        rw [List.getD_eq_getElem?_getD, List.getD_eq_getElem?_getD, List.getElem?_eq_getElem hlt, List.getElem?_eq_getElem hlt2] at he
        simp only [Option.getD_some] at he
        rw [he]
      · have hq : ¬ ((s.getD ((i : Int).toNat * 1) 0).toNat : Int) = ((t.getD ((i : Int).toNat * 1) 0).toNat : Int) := by
          rw [ei]; intro h; exact he (UInt8.toNat_inj.1 (by omega))
        repeat (first | (refine G_id ?_; first | refine G_nil ?_ | refine G_plain rfl rfl ?_) | (refine X_id ?_; first | refine X_yl (Yl_move rfl rfl) rfl rfl ?_ | refine X_yl (Yl_len rfl rfl) rfl rfl ?_ | refine X_yl (Yl_lss_t rfl rfl rfl (by omega)) rfl rfl ?_) | (refine C_id ?_; first | refine C_seq ?_ | refine C_region ?_ | refine C_block ?_ | refine C_skip ?_ | refine C_cond_t rfl ?_) | (refine E_id ?_; first | refine E_code ?_))
        refine C_ord (.s 0 (.s 1 (.s 2 (.s 3 (.s 4 (.s 5 (.s 6 (.s 7 (.s 8 .nil))))))))) mixed (by kernel_rfl) rfl ?_
        have hS := hS.drew
        repeat (first | (refine G_id ?_; first | refine G_nil ?_ | refine G_plain rfl rfl ?_) | (refine X_id ?_; first | refine X_yl (Yl_assign rfl rfl) rfl rfl ?_) | (refine C_id ?_; first | refine C_seq ?_ | refine C_region ?_ | refine C_ret ?_ | refine C_cond_t rfl ?_) | (refine E_id ?_; first | refine E_code ?_ | refine E_then_ret ?_ | refine E_blk_ret ?_ | refine E_ret1 rfl (Rv_tmp rfl) (Ret.mk ?_)) | (refine GO_id ?_; first | refine GO_nil ?_ | refine GO_pure rfl rfl (fun _ => Yl_move rfl rfl) rfl rfl ?_ | refine GO_pure rfl rfl (fun _ => Yl_neq_t rfl rfl rfl (by omega)) rfl rfl ?_ | refine GO_pure rfl rfl (fun _ => Yl_indexAddr rfl rfl rfl (by omega) (by omega) (by first | assumption | exact ⟨_, _, rfl⟩)) rfl rfl ?_ | refine GO_read (fun w' => w'.cell? _ = some _) rfl rfl ((hb.rd hS).cellB' (by omega)) (fun _ hc => Yl_load rfl rfl hc) rfl rfl ?_ | refine GO_read (fun w' => w'.cell? _ = some _) rfl rfl ((hb2.rd hS).cellB' (by omega)) (fun _ hc => Yl_load rfl rfl hc) rfl rfl ?_))
        refine ⟨?_, hS⟩
        rw [decide_eq_false (fun h => he (by rw [h]))]
    · obtain rfl : i = s.length := by omega
      repeat (first | (refine G_id ?_; first | refine G_nil ?_ | refine G_plain rfl rfl ?_) | (refine X_id ?_; first | refine X_yl (Yl_move rfl rfl) rfl rfl ?_ | refine X_yl (Yl_assign rfl rfl) rfl rfl ?_ | refine X_yl (Yl_len rfl rfl) rfl rfl ?_ | refine X_yl (Yl_lss_f rfl rfl rfl (by omega)) rfl rfl ?_) | (refine C_id ?_; first | refine C_seq ?_ | refine C_region ?_ | refine C_ret ?_ | refine C_exit ?_ | refine C_cond_f rfl ?_) | (refine E_id ?_; first | refine E_code ?_ | refine E_then_exit ?_ | refine E_blk_same ?_ | refine E_ret1 rfl (Rv_tmp rfl) (Ret.mk ?_)))
      refine ⟨?_, hS⟩
      rw [List.take_length, hl, List.take_length] at htk
      simp [htk]
  · refine calls_C Tryd.func15 rfl Tryd.ntmps15 rfl ?_
    repeat (first | (refine G_id ?_; first | refine G_nil ?_ | refine G_plain rfl rfl ?_) | (refine X_id ?_; first | refine X_yl (Yl_move rfl rfl) rfl rfl ?_ | refine X_yl (Yl_assign rfl rfl) rfl rfl ?_ | refine X_yl (Yl_len rfl rfl) rfl rfl ?_ | refine X_yl (Yl_neq_t rfl rfl rfl (by omega)) rfl rfl ?_) | (refine C_id ?_; first | refine C_seq ?_ | refine C_region ?_ | refine C_ret ?_ | refine C_cond_t rfl ?_) | (refine E_id ?_; first | refine E_code ?_ | refine E_then_ret ?_ | refine E_ret1 rfl (Rv_tmp rfl) (Ret.mk ?_)))
    exact ⟨by rw [decide_eq_false (fun h => hl (by rw [h]))], hS⟩
end Cr
namespace Cr
open Go

theorem atoi_range {l : List UInt8} {v : Int} (h : Lib.atoiAll l = .ok v) : -9223372036854775808 ≤ v ∧ v ≤ 9223372036854775807 := by
  unfold Lib.atoiAll at h
  split at h
  · cases h
  · simp only at h
    split at h
    · cases h
    · cases h
    · rename_i u hu
      split at h
      · cases h
      · rename_i h1
        split at h
        · cases h
        · rename_i h2
          injection h with h
          split at h
          · rename_i hneg
            have : ¬ (9223372036854775808 < u) := fun q => h2 ⟨hneg, q⟩
            omega
          · rename_i hneg
            have : ¬ (9223372036854775808 ≤ u) := fun q => h1 ⟨hneg, q⟩
            omega
theorem pv_fits {f deep : Nat} {l r : List UInt8} {y : Leaf} (h : pv f deep l = some (.leaf y, r)) : (∀ n, y = .num n → -9223372036854775808 ≤ n ∧ n ≤ 9223372036854775807) ∧ ∀ b, y = .txt b → b.length ≤ l.length := by
  have hc := (pv_canon h).1
  refine ⟨fun n hn => ?_, fun b hb => ?_⟩
  · subst hn
    cases f with
    | zero => simp [pv] at h
    | succ f =>
      cases l with
      | nil => simp [pv] at h
      | cons c l =>
        rw [pv] at h
        split at h
        · split at h
          · cases h
          · split at h
            · simp at h
            · cases h
        · split at h
          · split at h
            · rename_i v r' hp
              obtain ⟨h1, _⟩ : v = n ∧ r' = r := by simpa using h
              rw [← h1]
              exact atoi_range (num_split hp).2.2
            · cases h
          · split at h
            · split at h
              · simp at h
              · cases h
            · cases h
  · subst hb
    rw [hc]
    simp [encL]; omega
theorem pl_fits : ∀ {f deep : Nat} {l r : List UInt8} {x : List Leaf}, pl f deep l = some (x, r) → ∀ y ∈ x, (∀ n, y = .num n → -9223372036854775808 ≤ n ∧ n ≤ 9223372036854775807) ∧ ∀ b, y = .txt b → b.length ≤ l.length
  | 0, _, _, _, _, h => by simp [pl] at h
  | f + 1, deep, [], _, _, h => by simp [pl] at h
  | f + 1, deep, c :: l, r, x, h => by
    rw [pl] at h
    split at h
    · obtain ⟨h1, _⟩ : [] = x ∧ l = r := by simpa using h
      subst h1
      intro y hy
      cases hy
    · split at h
      · cases h
      · rename_i t r' hp
        split at h
        · cases h
        · rename_i x' r'' hp'
          obtain ⟨h1, _⟩ : t.shut :: x' = x ∧ r'' = r := by simpa using h
          subst h1
          intro y hy
          rcases List.mem_cons.1 hy with rfl | hy
          · cases t with
            | leaf z => exact pv_fits hp
            | list z => exact ⟨fun n hn => (by cases hn), fun b hb => (by cases hb)⟩
          · have h2 := pl_fits hp' y hy
            have h3 := (p_len f).1 _ _ _ _ hp
            exact ⟨h2.1, fun b hb => by have := h2.2 b hb; omega⟩
theorem dec_fits {s : List UInt8} {x : List Leaf} (h : dec s = some (.list x)) : ∀ y ∈ x, (∀ n, y = .num n → -9223372036854775808 ≤ n ∧ n ≤ 9223372036854775807) ∧ ∀ b, y = .txt b → b.length ≤ s.length := by
  unfold dec at h
  split at h
  · rename_i t hp
    injection h with h
    subst h
    cases s with
    | nil => simp [pv] at hp
    | cons c l =>
      rw [pv] at hp
      split at hp
      · split at hp
        · cases hp
        · split at hp
          · rename_i x' r' hp'
            obtain ⟨rfl, rfl⟩ : x' = x ∧ r' = [] := by simpa using hp
            intro y hy
            have h2 := pl_fits hp' y hy
            exact ⟨h2.1, fun b hb => by have := h2.2 b hb; simp; omega⟩
          · cases hp
      · split at hp
        · split at hp
          · simp at hp
          · cases hp
        · split at hp
          · split at hp
            · simp at hp
            · cases hp
          · cases hp
  · cases h
theorem chk_own {c : Cmd} (h : chk c = 0) : ∃ k, k ≤ 5 ∧ sort c.word = some k ∧ c = c.own k := by
  unfold chk at h
  split at h
  · cases h
  · rename_i k hk
    refine ⟨k, sort_lt hk, hk, ?_⟩
    split at h
    · assumption
    · cases h
/-- A right command's texts and numbers stand among its leaves, or are nothing. -/
theorem own_leaf {c : Cmd} (h : chk c = 0) : (∀ o, c.s o = [] ∨ .txt (c.s o) ∈ c.leaves) ∧ (c.arch = [] ∨ .txt c.arch ∈ c.leaves) ∧ ∀ o, c.n o = 0 ∨ .num (c.n o) ∈ c.leaves := by
  obtain ⟨k, hk5, hk, hc⟩ := chk_own h
  have hl : c.leaves = .txt c.word :: (parts k).map c.leaf := by unfold Cmd.leaves partsW; rw [hk]
  rw [hl]
  have e1 : ∀ o, c.s o = (c.own k).s o := fun o => congrArg (fun d => d.s o) hc
  have e2 : c.arch = (c.own k).arch := congrArg Cmd.arch hc
  have e3 : ∀ o, c.n o = (c.own k).n o := fun o => congrArg (fun d => d.n o) hc
  match k, hk5 with
  | 0, _ | 1, _ | 2, _ | 3, _ | 4, _ | 5, _ =>
    refine ⟨fun o => ?_, ?_, fun o => ?_⟩
    · have e := e1 o
      unfold Cmd.s at e ⊢
      split at e <;> first | exact .inl e | exact .inr (by simp [parts, Cmd.leaf, Cmd.s])
    · first | exact .inl e2 | exact .inr (by simp [parts, Cmd.leaf])
    · have e := e3 o
      unfold Cmd.n at e ⊢
      split at e <;> first | exact .inl e | exact .inr (by simp [parts, Cmd.leaf, Cmd.n])
theorem read_small {s : List UInt8} {x : List Leaf} {c : Cmd} (hd : dec s = some (.list x)) (hc : readC x = some c) (hs : s.length ≤ 1073741824) : c.small ∧ c.ints := by
  obtain ⟨hl, hok, _⟩ := readC_spec hc
  obtain ⟨o1, o2, o3⟩ := own_leaf hok
  have hf := dec_fits hd
  rw [← hl] at hf
  have ht : ∀ b, .txt b ∈ c.leaves → b.length ≤ 1073741824 := fun b hb => by have := (hf _ hb).2 b rfl; omega
  refine ⟨⟨ht _ (by unfold Cmd.leaves; exact List.mem_cons_self ..), ?_, fun o => ?_⟩, fun o => ?_⟩
  · rcases o2 with h | h
    · rw [h]; simp
    · exact ht _ h
  · rcases o1 o with h | h
    · rw [h]; simp
    · exact ht _ h
  · rcases o3 o with h | h
    · rw [h]; omega
    · exact (hf _ h).1 _ rfl
end Cr
namespace Cr
open Go Go.Proofs
set_option maxRecDepth 100000
set_option maxHeartbeats 8000000
attribute [local irreducible] Calls

theorem itoa_dig {k : Nat} (h : k < 10) : Lib.itoa (k : Int) = [UInt8.ofNat (48 + k)] := by
  rw [itoa_nat, Lib.decDigits_one h]
def vW : List UInt8 := [118, 101, 114, 105, 102, 121]
def rW : List UInt8 := [114, 101, 109, 111, 118, 101]
def tW : List UInt8 := [116, 111, 111, 108]
def kV : Cmd := Cmd.blank vW
def kR : Cmd := { Cmd.blank rW with name := tW, fuel := 5 }
theorem enc_kV : encT kV.leaves = [40, 54, 58, 118, 101, 114, 105, 102, 121, 41] := by
  have e : kV.leaves = [.txt vW] := rfl
  rw [e]
  have h6 : Lib.itoa ((6 : Nat) : Int) = [54] := itoa_dig (k := 6) (by decide)
  have h : encL (.txt vW) = [54, 58, 118, 101, 114, 105, 102, 121] := by
    show Lib.itoa ((6 : Nat) : Int) ++ 58 :: vW = _
    rw [h6]; rfl
  simp [encT, encs, h]
theorem enc_kR : encT kR.leaves = [40, 54, 58, 114, 101, 109, 111, 118, 101, 52, 58, 116, 111, 111, 108, 105, 53, 59, 41] := by
  have e : kR.leaves = [.txt rW, .txt tW, .num 5] := rfl
  rw [e]
  have h6 : Lib.itoa ((6 : Nat) : Int) = [54] := itoa_dig (k := 6) (by decide)
  have h4 : Lib.itoa ((4 : Nat) : Int) = [52] := itoa_dig (k := 4) (by decide)
  have h5 : Lib.itoa ((5 : Nat) : Int) = [53] := itoa_dig (k := 5) (by decide)
  have a1 : encL (.txt rW) = [54, 58, 114, 101, 109, 111, 118, 101] := by
    show Lib.itoa ((6 : Nat) : Int) ++ 58 :: rW = _
    rw [h6]; rfl
  have a2 : encL (.txt tW) = [52, 58, 116, 111, 111, 108] := by
    show Lib.itoa ((4 : Nat) : Int) ++ 58 :: tW = _
    rw [h4]; rfl
  have a3 : encL (.num 5) = [105, 53, 59] := by
    show 105 :: Lib.itoa ((5 : Nat) : Int) ++ [59] = _
    rw [h5]; rfl
  simp [encT, encs, a1, a2, a3]
theorem small_blank {w n : List UInt8} {k : Int} (hw : w.length ≤ 1073741824) (hn : n.length ≤ 1073741824) : ({ Cmd.blank w with name := n, fuel := k } : Cmd).small := by
  refine ⟨hw, by simp [Cmd.blank], fun o => ?_⟩
  unfold Cmd.s
  split <;> first | exact hn | simp [Cmd.blank]
theorem ints_blank {w n : List UInt8} {k : Int} (hk : 0 ≤ k ∧ k ≤ 100) : ({ Cmd.blank w with name := n, fuel := k } : Cmd).ints := by
  intro o
  unfold Cmd.n
  split
  · simp [Cmd.blank]
  · simp only; omega
  · omega
theorem ok_kV : chk kV = 0 := by
  unfold chk
  rw [show sort kV.word = some 5 from rfl]
  exact if_pos rfl
theorem ok_kR : chk kR = 0 := by
  unfold chk
  rw [show sort kR.word = some 1 from rfl]
  exact if_pos rfl
theorem known29_ (W : World) (hG : Lg W noF) : Calls Tryd.prog 13 #[] W (Ret fun v w => v = .bool true ∧ St W noF [] w) := by
  have hS := St.start W
  have h1 := fun W h => encode_ok kV none 0 W (Ro_nil _ _ _) (small_blank (w := vW) (n := []) (k := 0) (by decide) (by decide)) (ints_blank (by decide)) ok_kV (by rw [enc_kV]; decide) h
  have h2 := fun W h => encode_ok kR none 0 W (Ro_nil _ _ _) (small_blank (w := rW) (n := tW) (k := 5) (by decide) (by decide)) (ints_blank (by decide)) ok_kR (by rw [enc_kR]; decide) h
  rw [enc_kV] at h1
  rw [enc_kR] at h2
  refine calls_C Tryd.func13 rfl Tryd.ntmps13 rfl ?_
  repeat (first | (refine G_id ?_; first | refine G_nil ?_ | refine G_plain rfl rfl ?_) | (refine X_id ?_; first | refine X_yl (Yl_assign rfl rfl) rfl rfl ?_ | refine X_yl (Yl_build rfl rfl rfl) rfl rfl ?_) | (refine C_id ?_; first | refine C_seq ?_ | refine C_region ?_) | (refine E_id ?_; first | refine E_code ?_))
  refine X_callg _ rfl rfl rfl rfl rfl (h1 _ (hG.at_ hS)) ?_
  rintro _ w ⟨b1, q1, rfl, _, hS'⟩
  replace hS := hS.plus hS'
  clear hS'
  repeat (first | (refine G_id ?_; first | refine G_nil ?_ | refine G_plain rfl rfl ?_) | (refine X_id ?_; first | refine X_yl (Yl_move rfl rfl) rfl rfl ?_ | refine X_yl (Yl_assign rfl rfl) rfl rfl ?_ | refine X_yl (Yl_extract rfl rfl) rfl rfl ?_ | refine X_yl (Yl_build rfl rfl rfl) rfl rfl ?_) | (refine C_id ?_; first | refine C_seq ?_ | refine C_region ?_) | (refine E_id ?_; first | refine E_code ?_))
  refine X_callg _ rfl rfl rfl rfl rfl (h2 _ (hG.at_ hS)) ?_
  rintro _ w ⟨b2, q2, rfl, _, hS'⟩
  replace hS := hS.plus hS'
  clear hS'
  have hy2 := (hS.rd (List.mem_cons_self ..)).own_row
  have hy1 := (hS.rd (List.mem_cons_of_mem _ (List.mem_cons_self ..))).own_row
  repeat (first | (refine G_id ?_; first | refine G_nil ?_ | refine G_plain rfl rfl ?_ | refine G_yes rfl rfl rfl rfl ?_) | (refine X_id ?_; first | refine X_yl (Yl_move rfl rfl) rfl rfl ?_ | refine X_yl (Yl_assign rfl rfl) rfl rfl ?_ | refine X_yl (Yl_extract rfl rfl) rfl rfl ?_ | refine X_yl (Yl_eql_t rfl rfl rfl (by omega)) rfl rfl ?_) | (refine C_id ?_; first | refine C_seq ?_ | refine C_region ?_) | (refine E_id ?_; first | refine E_code ?_))
  refine X_yl (Yl_bytesStr rfl rfl hy1 rfl) rfl rfl ?_
  repeat (first | (refine G_id ?_; first | refine G_plain rfl rfl ?_ | refine G_yes rfl rfl rfl rfl ?_) | (refine X_id ?_; first | refine X_yl (Yl_move rfl rfl) rfl rfl ?_ | refine X_yl (Yl_pick_t rfl rfl rfl) rfl rfl ?_ | refine X_yl (Yl_eql_t rfl rfl rfl (by omega)) rfl rfl ?_ | refine X_yl (Yl_eqlStr rfl rfl rfl) rfl rfl ?_))
  refine X_yl (Yl_bytesStr rfl rfl hy2 rfl) rfl rfl ?_
  repeat (first | (refine G_id ?_; first | refine G_nil ?_ | refine G_plain rfl rfl ?_ | refine G_yes rfl rfl rfl rfl ?_) | (refine X_id ?_; first | refine X_yl (Yl_assign rfl rfl) rfl rfl ?_ | refine X_yl (Yl_pick_t rfl rfl rfl) rfl rfl ?_ | refine X_yl (Yl_eqlStr rfl rfl rfl) rfl rfl ?_) | (refine C_id ?_; first | refine C_ret ?_) | (refine E_id ?_; first | refine E_code ?_ | refine E_ret1 rfl (Rv_tmp rfl) (Ret.mk ?_)))
  exact ⟨rfl, hS.drops⟩
end Cr
namespace Cr
open Go Go.Proofs
set_option maxRecDepth 100000
set_option maxHeartbeats 2000000
attribute [local irreducible] Calls

theorem of_m (c : Cmd) (ab : Option Addr) (n q : Nat) (W : World) : Calls Tryd.prog 8 #[.agg (c.cells (.slice ab n q)).toArray] W (Ret fun v w => v = .agg (c.cells (.slice ab n q)).toArray ∧ St W noF [] w) := by
  have hS := St.start W
  refine calls_C Tryd.func8 rfl Tryd.ntmps8 rfl ?_
  repeat (first | (refine G_id ?_; first | refine G_nil ?_ | refine G_plain rfl rfl ?_) | (refine X_id ?_; first | refine X_yl (Yl_fieldAddr0 rfl rfl rfl) rfl rfl ?_ | refine X_yl (Yl_fieldAddr rfl rfl rfl) rfl rfl ?_ | refine X_yl (Yl_load rfl rfl hS.cell) rfl rfl ?_ | refine X_yl (Yl_loadN rfl rfl hS.cellsN) rfl rfl ?_ | refine X_box rfl rfl rfl rfl hS (fun _ _ hS _ => ?_) | refine X_alloc rfl rfl rfl hS (fun _ _ hS _ => ?_) | refine X_yl (Yl_buildArr rfl rfl rfl rfl rfl) rfl rfl ?_) | (refine C_id ?_; first | refine C_seq ?_ | refine C_region ?_) | (refine E_id ?_; first | refine E_code ?_))
  have tail : Lay [(0, 1), (1, 1), (2, 1), (3, 1), (4, 2), (6, 2), (8, 3), (11, 1), (12, 1), (13, 1)]
      [.string (str c.word), .string (str c.text), .string (str c.name), .slice ab n q, .string (str c.p0), .string (str c.p1), .string ⟨#[]⟩, .string ⟨#[]⟩, .string ⟨#[]⟩, .string ⟨#[]⟩, .string ⟨#[]⟩, .int .i64 0, .int .i64 0, .int .i64 0]
      [(5, .agg (List.toArray [.string (str c.s0), .string (str c.s1)])), (6, .agg (List.toArray [.string (str c.q0), .string (str c.q1), .string (str c.q2)])), (7, .int .i64 c.rev), (8, .int .i64 c.out), (9, .int .i64 c.fuel)] (c.cells (.slice ab n q)) := inferInstance
  refine X_yl (Yl_build rfl rfl rfl) rfl rfl ?_
  repeat (first | (refine G_id ?_; first | refine G_nil ?_ | refine G_plain rfl rfl ?_) | (refine X_id ?_; first | refine X_store rfl rfl rfl rfl hS (fun _ hS _ => ?_)) | (refine C_id ?_; first | refine C_ret ?_) | (refine E_id ?_; first | refine E_code ?_ | refine E_ret1 rfl (by first | exact Rv_tmp rfl | exact Rv_cell rfl (run_load1 hS.cell) | exact Rv_cell rfl (run_loadN hS.cellsN)) (Ret.mk ?_)))
  exact ⟨rfl, hS.drops⟩
theorem sort_ (s : List UInt8) (W : World) : Calls Tryd.prog 29 #[.string (str s)] W (Ret fun v w => v = .int .i64 (sortN s) ∧ St W noF [] w) := by
  have hS := St.start W
  refine calls_C Tryd.func29 rfl Tryd.ntmps29 rfl ?_
  repeat (first | (refine G_id ?_; first | refine G_nil ?_ | refine G_plain rfl rfl ?_) | (refine X_id ?_; first | refine X_yl (Yl_assign rfl rfl) rfl rfl ?_ | refine X_store rfl rfl rfl rfl hS (fun _ hS _ => ?_) | refine X_alloc rfl rfl rfl hS (fun _ _ hS _ => ?_) | refine X_yl (Yl_buildArr rfl rfl rfl rfl rfl) rfl rfl ?_) | (refine C_id ?_; first | refine C_seq ?_ | refine C_region ?_ | refine C_block ?_) | (refine E_id ?_; first | refine E_code ?_))
  rename_i t3 _ _ _ _ _ _ t4 _ _ _ _ _
  replace hS : St W noF [pts t4 (.cells (List.toArray [.int .i64 0, .int .i64 0, .int .i64 1, .int .i64 1, .int .i64 2, .int .i64 2, .int .i64 3, .int .i64 3, .int .i64 4, .int .i64 5, .int .i64 5]) 100 (0, 0)), pts t3 (.cells (List.toArray [.string (str [105, 110, 115, 116, 97, 108, 108]), .string (str [114, 101, 102, 114, 101, 115, 104]), .string (str [114, 101, 118, 101, 114, 116]), .string (str [114, 101, 109, 111, 118, 101]), .string (str [99, 111, 110, 110, 101, 99, 116]), .string (str [100, 105, 115, 99, 111, 110, 110, 101, 99, 116]), .string (str [105, 110, 102, 111]), .string (str [99, 111, 110, 110, 115]), .string (str [97, 117, 100, 105, 116]), .string (str [108, 105, 115, 116]), .string (str [118, 101, 114, 105, 102, 121])]) 99 (0, 0))] _ := hS
  refine C_loop (α := Nat) (fun i => [(0, .string (str s)), (3, .pointer (some ⟨t3, 0, none⟩)), (4, .pointer (some ⟨t4, 0, none⟩)), (5, .int .i64 (i : Nat))])
    (fun i w => i ≤ 11 ∧ (∀ p ∈ sorts.take i, p.1 ≠ s) ∧ St W noF [pts t4 (.cells (List.toArray [.int .i64 0, .int .i64 0, .int .i64 1, .int .i64 1, .int .i64 2, .int .i64 2, .int .i64 3, .int .i64 3, .int .i64 4, .int .i64 5, .int .i64 5]) 100 (0, 0)), pts t3 (.cells (List.toArray [.string (str [105, 110, 115, 116, 97, 108, 108]), .string (str [114, 101, 102, 114, 101, 115, 104]), .string (str [114, 101, 118, 101, 114, 116]), .string (str [114, 101, 109, 111, 118, 101]), .string (str [99, 111, 110, 110, 101, 99, 116]), .string (str [100, 105, 115, 99, 111, 110, 110, 101, 99, 116]), .string (str [105, 110, 102, 111]), .string (str [99, 111, 110, 110, 115]), .string (str [97, 117, 100, 105, 116]), .string (str [108, 105, 115, 116]), .string (str [118, 101, 114, 105, 102, 121])]) 99 (0, 0))] w) (fun i => 11 - i) 0 ⟨rfl, rfl, rfl, rfl, trivial⟩ ⟨by omega, fun p hp => by simp at hp, hS⟩ ?_
  clear hS
  rintro i w ⟨hi, hno, hS⟩
  have hcase : i = 0 ∨ i = 1 ∨ i = 2 ∨ i = 3 ∨ i = 4 ∨ i = 5 ∨ i = 6 ∨ i = 7 ∨ i = 8 ∨ i = 9 ∨ i = 10 ∨ i = 11 := by omega
  rcases hcase with rfl | rfl | rfl | rfl | rfl | rfl | rfl | rfl | rfl | rfl | rfl | rfl
  · by_cases h : [105, 110, 115, 116, 97, 108, 108] = s
    · repeat (first | (refine G_id ?_; first | refine G_nil ?_ | refine G_plain rfl rfl ?_) | (refine X_id ?_; first | refine X_yl (Yl_move rfl rfl) rfl rfl ?_ | refine X_yl (Yl_assign rfl rfl) rfl rfl ?_ | refine X_yl (Yl_lss_t rfl rfl rfl (by omega)) rfl rfl ?_ | refine X_yl (Yl_indexAddr_arr rfl rfl rfl (by omega) (by omega)) rfl rfl ?_ | refine X_yl (Yl_load rfl rfl (hS.cellO 0 (by omega))) rfl rfl ?_ | refine X_yl (Yl_eqlStrT rfl rfl rfl (by assumption)) rfl rfl ?_) | (refine C_id ?_; first | refine C_seq ?_ | refine C_region ?_ | refine C_block ?_ | refine C_ret ?_ | refine C_skip ?_ | refine C_cond_t rfl ?_) | (refine E_id ?_; first | refine E_code ?_ | refine E_then_ret ?_ | refine E_blk_ret ?_ | refine E_ret1 rfl (Rv_tmp rfl) (Ret.mk ?_)))
      exact ⟨by rw [← h]; rfl, hS.drops⟩
    · repeat (first | (refine G_id ?_; first | refine G_nil ?_ | refine G_plain rfl rfl ?_) | (refine X_id ?_; first | refine X_yl (Yl_move rfl rfl) rfl rfl ?_ | refine X_yl (Yl_assign rfl rfl) rfl rfl ?_ | refine X_yl (Yl_lss_t rfl rfl rfl (by omega)) rfl rfl ?_ | refine X_yl (Yl_indexAddr_arr rfl rfl rfl (by omega) (by omega)) rfl rfl ?_ | refine X_yl (Yl_add rfl rfl rfl (w64 (by omega) (by omega))) rfl rfl ?_ | refine X_yl (Yl_load rfl rfl (hS.cellO 0 (by omega))) rfl rfl ?_ | refine X_yl (Yl_eqlStrF rfl rfl rfl (by assumption)) rfl rfl ?_) | (refine C_id ?_; first | refine C_seq ?_ | refine C_region ?_ | refine C_block ?_ | refine C_skip ?_ | refine C_cond_t rfl ?_ | refine C_cond_f rfl ?_) | (refine E_id ?_; first | refine E_code ?_ | refine E_blk_n ?_))
      refine E_round 1 ⟨rfl, rfl, rfl, rfl, trivial⟩ ⟨by omega, fun p hp => ?_, hS⟩ (by omega)
      have hp : p ∈ sorts.take 0 ++ [([105, 110, 115, 116, 97, 108, 108], 0)] := hp
      rcases List.mem_append.1 hp with hp | hp
      · exact hno p hp
      · rw [List.mem_singleton.1 hp]; exact h
  · by_cases h : [114, 101, 102, 114, 101, 115, 104] = s
    · repeat (first | (refine G_id ?_; first | refine G_nil ?_ | refine G_plain rfl rfl ?_) | (refine X_id ?_; first | refine X_yl (Yl_move rfl rfl) rfl rfl ?_ | refine X_yl (Yl_assign rfl rfl) rfl rfl ?_ | refine X_yl (Yl_lss_t rfl rfl rfl (by omega)) rfl rfl ?_ | refine X_yl (Yl_indexAddr_arr rfl rfl rfl (by omega) (by omega)) rfl rfl ?_ | refine X_yl (Yl_load rfl rfl (hS.cellO 1 (by omega))) rfl rfl ?_ | refine X_yl (Yl_eqlStrT rfl rfl rfl (by assumption)) rfl rfl ?_) | (refine C_id ?_; first | refine C_seq ?_ | refine C_region ?_ | refine C_block ?_ | refine C_ret ?_ | refine C_skip ?_ | refine C_cond_t rfl ?_) | (refine E_id ?_; first | refine E_code ?_ | refine E_then_ret ?_ | refine E_blk_ret ?_ | refine E_ret1 rfl (Rv_tmp rfl) (Ret.mk ?_)))
      exact ⟨by rw [← h]; rfl, hS.drops⟩
    · repeat (first | (refine G_id ?_; first | refine G_nil ?_ | refine G_plain rfl rfl ?_) | (refine X_id ?_; first | refine X_yl (Yl_move rfl rfl) rfl rfl ?_ | refine X_yl (Yl_assign rfl rfl) rfl rfl ?_ | refine X_yl (Yl_lss_t rfl rfl rfl (by omega)) rfl rfl ?_ | refine X_yl (Yl_indexAddr_arr rfl rfl rfl (by omega) (by omega)) rfl rfl ?_ | refine X_yl (Yl_add rfl rfl rfl (w64 (by omega) (by omega))) rfl rfl ?_ | refine X_yl (Yl_load rfl rfl (hS.cellO 1 (by omega))) rfl rfl ?_ | refine X_yl (Yl_eqlStrF rfl rfl rfl (by assumption)) rfl rfl ?_) | (refine C_id ?_; first | refine C_seq ?_ | refine C_region ?_ | refine C_block ?_ | refine C_skip ?_ | refine C_cond_t rfl ?_ | refine C_cond_f rfl ?_) | (refine E_id ?_; first | refine E_code ?_ | refine E_blk_n ?_))
      refine E_round 2 ⟨rfl, rfl, rfl, rfl, trivial⟩ ⟨by omega, fun p hp => ?_, hS⟩ (by omega)
      have hp : p ∈ sorts.take 1 ++ [([114, 101, 102, 114, 101, 115, 104], 0)] := hp
      rcases List.mem_append.1 hp with hp | hp
      · exact hno p hp
      · rw [List.mem_singleton.1 hp]; exact h
  · by_cases h : [114, 101, 118, 101, 114, 116] = s
    · repeat (first | (refine G_id ?_; first | refine G_nil ?_ | refine G_plain rfl rfl ?_) | (refine X_id ?_; first | refine X_yl (Yl_move rfl rfl) rfl rfl ?_ | refine X_yl (Yl_assign rfl rfl) rfl rfl ?_ | refine X_yl (Yl_lss_t rfl rfl rfl (by omega)) rfl rfl ?_ | refine X_yl (Yl_indexAddr_arr rfl rfl rfl (by omega) (by omega)) rfl rfl ?_ | refine X_yl (Yl_load rfl rfl (hS.cellO 2 (by omega))) rfl rfl ?_ | refine X_yl (Yl_eqlStrT rfl rfl rfl (by assumption)) rfl rfl ?_) | (refine C_id ?_; first | refine C_seq ?_ | refine C_region ?_ | refine C_block ?_ | refine C_ret ?_ | refine C_skip ?_ | refine C_cond_t rfl ?_) | (refine E_id ?_; first | refine E_code ?_ | refine E_then_ret ?_ | refine E_blk_ret ?_ | refine E_ret1 rfl (Rv_tmp rfl) (Ret.mk ?_)))
      exact ⟨by rw [← h]; rfl, hS.drops⟩
    · repeat (first | (refine G_id ?_; first | refine G_nil ?_ | refine G_plain rfl rfl ?_) | (refine X_id ?_; first | refine X_yl (Yl_move rfl rfl) rfl rfl ?_ | refine X_yl (Yl_assign rfl rfl) rfl rfl ?_ | refine X_yl (Yl_lss_t rfl rfl rfl (by omega)) rfl rfl ?_ | refine X_yl (Yl_indexAddr_arr rfl rfl rfl (by omega) (by omega)) rfl rfl ?_ | refine X_yl (Yl_add rfl rfl rfl (w64 (by omega) (by omega))) rfl rfl ?_ | refine X_yl (Yl_load rfl rfl (hS.cellO 2 (by omega))) rfl rfl ?_ | refine X_yl (Yl_eqlStrF rfl rfl rfl (by assumption)) rfl rfl ?_) | (refine C_id ?_; first | refine C_seq ?_ | refine C_region ?_ | refine C_block ?_ | refine C_skip ?_ | refine C_cond_t rfl ?_ | refine C_cond_f rfl ?_) | (refine E_id ?_; first | refine E_code ?_ | refine E_blk_n ?_))
      refine E_round 3 ⟨rfl, rfl, rfl, rfl, trivial⟩ ⟨by omega, fun p hp => ?_, hS⟩ (by omega)
      have hp : p ∈ sorts.take 2 ++ [([114, 101, 118, 101, 114, 116], 1)] := hp
      rcases List.mem_append.1 hp with hp | hp
      · exact hno p hp
      · rw [List.mem_singleton.1 hp]; exact h
  · by_cases h : [114, 101, 109, 111, 118, 101] = s
    · repeat (first | (refine G_id ?_; first | refine G_nil ?_ | refine G_plain rfl rfl ?_) | (refine X_id ?_; first | refine X_yl (Yl_move rfl rfl) rfl rfl ?_ | refine X_yl (Yl_assign rfl rfl) rfl rfl ?_ | refine X_yl (Yl_lss_t rfl rfl rfl (by omega)) rfl rfl ?_ | refine X_yl (Yl_indexAddr_arr rfl rfl rfl (by omega) (by omega)) rfl rfl ?_ | refine X_yl (Yl_load rfl rfl (hS.cellO 3 (by omega))) rfl rfl ?_ | refine X_yl (Yl_eqlStrT rfl rfl rfl (by assumption)) rfl rfl ?_) | (refine C_id ?_; first | refine C_seq ?_ | refine C_region ?_ | refine C_block ?_ | refine C_ret ?_ | refine C_skip ?_ | refine C_cond_t rfl ?_) | (refine E_id ?_; first | refine E_code ?_ | refine E_then_ret ?_ | refine E_blk_ret ?_ | refine E_ret1 rfl (Rv_tmp rfl) (Ret.mk ?_)))
      exact ⟨by rw [← h]; rfl, hS.drops⟩
    · repeat (first | (refine G_id ?_; first | refine G_nil ?_ | refine G_plain rfl rfl ?_) | (refine X_id ?_; first | refine X_yl (Yl_move rfl rfl) rfl rfl ?_ | refine X_yl (Yl_assign rfl rfl) rfl rfl ?_ | refine X_yl (Yl_lss_t rfl rfl rfl (by omega)) rfl rfl ?_ | refine X_yl (Yl_indexAddr_arr rfl rfl rfl (by omega) (by omega)) rfl rfl ?_ | refine X_yl (Yl_add rfl rfl rfl (w64 (by omega) (by omega))) rfl rfl ?_ | refine X_yl (Yl_load rfl rfl (hS.cellO 3 (by omega))) rfl rfl ?_ | refine X_yl (Yl_eqlStrF rfl rfl rfl (by assumption)) rfl rfl ?_) | (refine C_id ?_; first | refine C_seq ?_ | refine C_region ?_ | refine C_block ?_ | refine C_skip ?_ | refine C_cond_t rfl ?_ | refine C_cond_f rfl ?_) | (refine E_id ?_; first | refine E_code ?_ | refine E_blk_n ?_))
      refine E_round 4 ⟨rfl, rfl, rfl, rfl, trivial⟩ ⟨by omega, fun p hp => ?_, hS⟩ (by omega)
      have hp : p ∈ sorts.take 3 ++ [([114, 101, 109, 111, 118, 101], 1)] := hp
      rcases List.mem_append.1 hp with hp | hp
      · exact hno p hp
      · rw [List.mem_singleton.1 hp]; exact h
  · by_cases h : [99, 111, 110, 110, 101, 99, 116] = s
    · repeat (first | (refine G_id ?_; first | refine G_nil ?_ | refine G_plain rfl rfl ?_) | (refine X_id ?_; first | refine X_yl (Yl_move rfl rfl) rfl rfl ?_ | refine X_yl (Yl_assign rfl rfl) rfl rfl ?_ | refine X_yl (Yl_lss_t rfl rfl rfl (by omega)) rfl rfl ?_ | refine X_yl (Yl_indexAddr_arr rfl rfl rfl (by omega) (by omega)) rfl rfl ?_ | refine X_yl (Yl_eqlStrT rfl rfl rfl (by assumption)) rfl rfl ?_ | refine X_yl (Yl_load rfl rfl (hS.cellO 4 (by omega))) rfl rfl ?_) | (refine C_id ?_; first | refine C_seq ?_ | refine C_region ?_ | refine C_block ?_ | refine C_ret ?_ | refine C_skip ?_ | refine C_cond_t rfl ?_) | (refine E_id ?_; first | refine E_code ?_ | refine E_then_ret ?_ | refine E_blk_ret ?_ | refine E_ret1 rfl (Rv_tmp rfl) (Ret.mk ?_)))
      exact ⟨by rw [← h]; rfl, hS.drops⟩
    · repeat (first | (refine G_id ?_; first | refine G_nil ?_ | refine G_plain rfl rfl ?_) | (refine X_id ?_; first | refine X_yl (Yl_move rfl rfl) rfl rfl ?_ | refine X_yl (Yl_assign rfl rfl) rfl rfl ?_ | refine X_yl (Yl_lss_t rfl rfl rfl (by omega)) rfl rfl ?_ | refine X_yl (Yl_indexAddr_arr rfl rfl rfl (by omega) (by omega)) rfl rfl ?_ | refine X_yl (Yl_add rfl rfl rfl (w64 (by omega) (by omega))) rfl rfl ?_ | refine X_yl (Yl_eqlStrF rfl rfl rfl (by assumption)) rfl rfl ?_ | refine X_yl (Yl_load rfl rfl (hS.cellO 4 (by omega))) rfl rfl ?_) | (refine C_id ?_; first | refine C_seq ?_ | refine C_region ?_ | refine C_block ?_ | refine C_skip ?_ | refine C_cond_t rfl ?_ | refine C_cond_f rfl ?_) | (refine E_id ?_; first | refine E_code ?_ | refine E_blk_n ?_))
      refine E_round 5 ⟨rfl, rfl, rfl, rfl, trivial⟩ ⟨by omega, fun p hp => ?_, hS⟩ (by omega)
      have hp : p ∈ sorts.take 4 ++ [([99, 111, 110, 110, 101, 99, 116], 2)] := hp
      rcases List.mem_append.1 hp with hp | hp
      · exact hno p hp
      · rw [List.mem_singleton.1 hp]; exact h
  · by_cases h : [100, 105, 115, 99, 111, 110, 110, 101, 99, 116] = s
    · repeat (first | (refine G_id ?_; first | refine G_nil ?_ | refine G_plain rfl rfl ?_) | (refine X_id ?_; first | refine X_yl (Yl_move rfl rfl) rfl rfl ?_ | refine X_yl (Yl_assign rfl rfl) rfl rfl ?_ | refine X_yl (Yl_lss_t rfl rfl rfl (by omega)) rfl rfl ?_ | refine X_yl (Yl_indexAddr_arr rfl rfl rfl (by omega) (by omega)) rfl rfl ?_ | refine X_yl (Yl_eqlStrT rfl rfl rfl (by assumption)) rfl rfl ?_ | refine X_yl (Yl_load rfl rfl (hS.cellO 5 (by omega))) rfl rfl ?_) | (refine C_id ?_; first | refine C_seq ?_ | refine C_region ?_ | refine C_block ?_ | refine C_ret ?_ | refine C_skip ?_ | refine C_cond_t rfl ?_) | (refine E_id ?_; first | refine E_code ?_ | refine E_then_ret ?_ | refine E_blk_ret ?_ | refine E_ret1 rfl (Rv_tmp rfl) (Ret.mk ?_)))
      exact ⟨by rw [← h]; rfl, hS.drops⟩
    · repeat (first | (refine G_id ?_; first | refine G_nil ?_ | refine G_plain rfl rfl ?_) | (refine X_id ?_; first | refine X_yl (Yl_move rfl rfl) rfl rfl ?_ | refine X_yl (Yl_assign rfl rfl) rfl rfl ?_ | refine X_yl (Yl_lss_t rfl rfl rfl (by omega)) rfl rfl ?_ | refine X_yl (Yl_indexAddr_arr rfl rfl rfl (by omega) (by omega)) rfl rfl ?_ | refine X_yl (Yl_add rfl rfl rfl (w64 (by omega) (by omega))) rfl rfl ?_ | refine X_yl (Yl_eqlStrF rfl rfl rfl (by assumption)) rfl rfl ?_ | refine X_yl (Yl_load rfl rfl (hS.cellO 5 (by omega))) rfl rfl ?_) | (refine C_id ?_; first | refine C_seq ?_ | refine C_region ?_ | refine C_block ?_ | refine C_skip ?_ | refine C_cond_t rfl ?_ | refine C_cond_f rfl ?_) | (refine E_id ?_; first | refine E_code ?_ | refine E_blk_n ?_))
      refine E_round 6 ⟨rfl, rfl, rfl, rfl, trivial⟩ ⟨by omega, fun p hp => ?_, hS⟩ (by omega)
      have hp : p ∈ sorts.take 5 ++ [([100, 105, 115, 99, 111, 110, 110, 101, 99, 116], 2)] := hp
      rcases List.mem_append.1 hp with hp | hp
      · exact hno p hp
      · rw [List.mem_singleton.1 hp]; exact h
  · by_cases h : [105, 110, 102, 111] = s
    · repeat (first | (refine G_id ?_; first | refine G_nil ?_ | refine G_plain rfl rfl ?_) | (refine X_id ?_; first | refine X_yl (Yl_move rfl rfl) rfl rfl ?_ | refine X_yl (Yl_assign rfl rfl) rfl rfl ?_ | refine X_yl (Yl_lss_t rfl rfl rfl (by omega)) rfl rfl ?_ | refine X_yl (Yl_indexAddr_arr rfl rfl rfl (by omega) (by omega)) rfl rfl ?_ | refine X_yl (Yl_eqlStrT rfl rfl rfl (by assumption)) rfl rfl ?_ | refine X_yl (Yl_load rfl rfl (hS.cellO 6 (by omega))) rfl rfl ?_) | (refine C_id ?_; first | refine C_seq ?_ | refine C_region ?_ | refine C_block ?_ | refine C_ret ?_ | refine C_skip ?_ | refine C_cond_t rfl ?_) | (refine E_id ?_; first | refine E_code ?_ | refine E_then_ret ?_ | refine E_blk_ret ?_ | refine E_ret1 rfl (Rv_tmp rfl) (Ret.mk ?_)))
      exact ⟨by rw [← h]; rfl, hS.drops⟩
    · repeat (first | (refine G_id ?_; first | refine G_nil ?_ | refine G_plain rfl rfl ?_) | (refine X_id ?_; first | refine X_yl (Yl_move rfl rfl) rfl rfl ?_ | refine X_yl (Yl_assign rfl rfl) rfl rfl ?_ | refine X_yl (Yl_lss_t rfl rfl rfl (by omega)) rfl rfl ?_ | refine X_yl (Yl_indexAddr_arr rfl rfl rfl (by omega) (by omega)) rfl rfl ?_ | refine X_yl (Yl_add rfl rfl rfl (w64 (by omega) (by omega))) rfl rfl ?_ | refine X_yl (Yl_eqlStrF rfl rfl rfl (by assumption)) rfl rfl ?_ | refine X_yl (Yl_load rfl rfl (hS.cellO 6 (by omega))) rfl rfl ?_) | (refine C_id ?_; first | refine C_seq ?_ | refine C_region ?_ | refine C_block ?_ | refine C_skip ?_ | refine C_cond_t rfl ?_ | refine C_cond_f rfl ?_) | (refine E_id ?_; first | refine E_code ?_ | refine E_blk_n ?_))
      refine E_round 7 ⟨rfl, rfl, rfl, rfl, trivial⟩ ⟨by omega, fun p hp => ?_, hS⟩ (by omega)
      have hp : p ∈ sorts.take 6 ++ [([105, 110, 102, 111], 3)] := hp
      rcases List.mem_append.1 hp with hp | hp
      · exact hno p hp
      · rw [List.mem_singleton.1 hp]; exact h
  · by_cases h : [99, 111, 110, 110, 115] = s
    · repeat (first | (refine G_id ?_; first | refine G_nil ?_ | refine G_plain rfl rfl ?_) | (refine X_id ?_; first | refine X_yl (Yl_move rfl rfl) rfl rfl ?_ | refine X_yl (Yl_assign rfl rfl) rfl rfl ?_ | refine X_yl (Yl_lss_t rfl rfl rfl (by omega)) rfl rfl ?_ | refine X_yl (Yl_indexAddr_arr rfl rfl rfl (by omega) (by omega)) rfl rfl ?_ | refine X_yl (Yl_eqlStrT rfl rfl rfl (by assumption)) rfl rfl ?_ | refine X_yl (Yl_load rfl rfl (hS.cellO 7 (by omega))) rfl rfl ?_) | (refine C_id ?_; first | refine C_seq ?_ | refine C_region ?_ | refine C_block ?_ | refine C_ret ?_ | refine C_skip ?_ | refine C_cond_t rfl ?_) | (refine E_id ?_; first | refine E_code ?_ | refine E_then_ret ?_ | refine E_blk_ret ?_ | refine E_ret1 rfl (Rv_tmp rfl) (Ret.mk ?_)))
      exact ⟨by rw [← h]; rfl, hS.drops⟩
    · repeat (first | (refine G_id ?_; first | refine G_nil ?_ | refine G_plain rfl rfl ?_) | (refine X_id ?_; first | refine X_yl (Yl_move rfl rfl) rfl rfl ?_ | refine X_yl (Yl_assign rfl rfl) rfl rfl ?_ | refine X_yl (Yl_lss_t rfl rfl rfl (by omega)) rfl rfl ?_ | refine X_yl (Yl_indexAddr_arr rfl rfl rfl (by omega) (by omega)) rfl rfl ?_ | refine X_yl (Yl_add rfl rfl rfl (w64 (by omega) (by omega))) rfl rfl ?_ | refine X_yl (Yl_eqlStrF rfl rfl rfl (by assumption)) rfl rfl ?_ | refine X_yl (Yl_load rfl rfl (hS.cellO 7 (by omega))) rfl rfl ?_) | (refine C_id ?_; first | refine C_seq ?_ | refine C_region ?_ | refine C_block ?_ | refine C_skip ?_ | refine C_cond_t rfl ?_ | refine C_cond_f rfl ?_) | (refine E_id ?_; first | refine E_code ?_ | refine E_blk_n ?_))
      refine E_round 8 ⟨rfl, rfl, rfl, rfl, trivial⟩ ⟨by omega, fun p hp => ?_, hS⟩ (by omega)
      have hp : p ∈ sorts.take 7 ++ [([99, 111, 110, 110, 115], 3)] := hp
      rcases List.mem_append.1 hp with hp | hp
      · exact hno p hp
      · rw [List.mem_singleton.1 hp]; exact h
  · by_cases h : [97, 117, 100, 105, 116] = s
    · repeat (first | (refine G_id ?_; first | refine G_nil ?_ | refine G_plain rfl rfl ?_) | (refine X_id ?_; first | refine X_yl (Yl_move rfl rfl) rfl rfl ?_ | refine X_yl (Yl_assign rfl rfl) rfl rfl ?_ | refine X_yl (Yl_lss_t rfl rfl rfl (by omega)) rfl rfl ?_ | refine X_yl (Yl_indexAddr_arr rfl rfl rfl (by omega) (by omega)) rfl rfl ?_ | refine X_yl (Yl_eqlStrT rfl rfl rfl (by assumption)) rfl rfl ?_ | refine X_yl (Yl_load rfl rfl (hS.cellO 8 (by omega))) rfl rfl ?_) | (refine C_id ?_; first | refine C_seq ?_ | refine C_region ?_ | refine C_block ?_ | refine C_ret ?_ | refine C_skip ?_ | refine C_cond_t rfl ?_) | (refine E_id ?_; first | refine E_code ?_ | refine E_then_ret ?_ | refine E_blk_ret ?_ | refine E_ret1 rfl (Rv_tmp rfl) (Ret.mk ?_)))
      exact ⟨by rw [← h]; rfl, hS.drops⟩
    · repeat (first | (refine G_id ?_; first | refine G_nil ?_ | refine G_plain rfl rfl ?_) | (refine X_id ?_; first | refine X_yl (Yl_move rfl rfl) rfl rfl ?_ | refine X_yl (Yl_assign rfl rfl) rfl rfl ?_ | refine X_yl (Yl_lss_t rfl rfl rfl (by omega)) rfl rfl ?_ | refine X_yl (Yl_indexAddr_arr rfl rfl rfl (by omega) (by omega)) rfl rfl ?_ | refine X_yl (Yl_add rfl rfl rfl (w64 (by omega) (by omega))) rfl rfl ?_ | refine X_yl (Yl_eqlStrF rfl rfl rfl (by assumption)) rfl rfl ?_ | refine X_yl (Yl_load rfl rfl (hS.cellO 8 (by omega))) rfl rfl ?_) | (refine C_id ?_; first | refine C_seq ?_ | refine C_region ?_ | refine C_block ?_ | refine C_skip ?_ | refine C_cond_t rfl ?_ | refine C_cond_f rfl ?_) | (refine E_id ?_; first | refine E_code ?_ | refine E_blk_n ?_))
      refine E_round 9 ⟨rfl, rfl, rfl, rfl, trivial⟩ ⟨by omega, fun p hp => ?_, hS⟩ (by omega)
      have hp : p ∈ sorts.take 8 ++ [([97, 117, 100, 105, 116], 4)] := hp
      rcases List.mem_append.1 hp with hp | hp
      · exact hno p hp
      · rw [List.mem_singleton.1 hp]; exact h
  · by_cases h : [108, 105, 115, 116] = s
    · repeat (first | (refine G_id ?_; first | refine G_nil ?_ | refine G_plain rfl rfl ?_) | (refine X_id ?_; first | refine X_yl (Yl_move rfl rfl) rfl rfl ?_ | refine X_yl (Yl_assign rfl rfl) rfl rfl ?_ | refine X_yl (Yl_lss_t rfl rfl rfl (by omega)) rfl rfl ?_ | refine X_yl (Yl_indexAddr_arr rfl rfl rfl (by omega) (by omega)) rfl rfl ?_ | refine X_yl (Yl_eqlStrT rfl rfl rfl (by assumption)) rfl rfl ?_ | refine X_yl (Yl_load rfl rfl (hS.cellO 9 (by omega))) rfl rfl ?_) | (refine C_id ?_; first | refine C_seq ?_ | refine C_region ?_ | refine C_block ?_ | refine C_ret ?_ | refine C_skip ?_ | refine C_cond_t rfl ?_) | (refine E_id ?_; first | refine E_code ?_ | refine E_then_ret ?_ | refine E_blk_ret ?_ | refine E_ret1 rfl (Rv_tmp rfl) (Ret.mk ?_)))
      exact ⟨by rw [← h]; rfl, hS.drops⟩
    · repeat (first | (refine G_id ?_; first | refine G_nil ?_ | refine G_plain rfl rfl ?_) | (refine X_id ?_; first | refine X_yl (Yl_move rfl rfl) rfl rfl ?_ | refine X_yl (Yl_assign rfl rfl) rfl rfl ?_ | refine X_yl (Yl_lss_t rfl rfl rfl (by omega)) rfl rfl ?_ | refine X_yl (Yl_indexAddr_arr rfl rfl rfl (by omega) (by omega)) rfl rfl ?_ | refine X_yl (Yl_add rfl rfl rfl (w64 (by omega) (by omega))) rfl rfl ?_ | refine X_yl (Yl_eqlStrF rfl rfl rfl (by assumption)) rfl rfl ?_ | refine X_yl (Yl_load rfl rfl (hS.cellO 9 (by omega))) rfl rfl ?_) | (refine C_id ?_; first | refine C_seq ?_ | refine C_region ?_ | refine C_block ?_ | refine C_skip ?_ | refine C_cond_t rfl ?_ | refine C_cond_f rfl ?_) | (refine E_id ?_; first | refine E_code ?_ | refine E_blk_n ?_))
      refine E_round 10 ⟨rfl, rfl, rfl, rfl, trivial⟩ ⟨by omega, fun p hp => ?_, hS⟩ (by omega)
      have hp : p ∈ sorts.take 9 ++ [([108, 105, 115, 116], 5)] := hp
      rcases List.mem_append.1 hp with hp | hp
      · exact hno p hp
      · rw [List.mem_singleton.1 hp]; exact h
  · by_cases h : [118, 101, 114, 105, 102, 121] = s
    · repeat (first | (refine G_id ?_; first | refine G_nil ?_ | refine G_plain rfl rfl ?_) | (refine X_id ?_; first | refine X_yl (Yl_move rfl rfl) rfl rfl ?_ | refine X_yl (Yl_assign rfl rfl) rfl rfl ?_ | refine X_yl (Yl_lss_t rfl rfl rfl (by omega)) rfl rfl ?_ | refine X_yl (Yl_indexAddr_arr rfl rfl rfl (by omega) (by omega)) rfl rfl ?_ | refine X_yl (Yl_eqlStrT rfl rfl rfl (by assumption)) rfl rfl ?_ | refine X_yl (Yl_load rfl rfl (hS.cellO 10 (by omega))) rfl rfl ?_) | (refine C_id ?_; first | refine C_seq ?_ | refine C_region ?_ | refine C_block ?_ | refine C_ret ?_ | refine C_skip ?_ | refine C_cond_t rfl ?_) | (refine E_id ?_; first | refine E_code ?_ | refine E_then_ret ?_ | refine E_blk_ret ?_ | refine E_ret1 rfl (Rv_tmp rfl) (Ret.mk ?_)))
      exact ⟨by rw [← h]; rfl, hS.drops⟩
    · repeat (first | (refine G_id ?_; first | refine G_nil ?_ | refine G_plain rfl rfl ?_) | (refine X_id ?_; first | refine X_yl (Yl_move rfl rfl) rfl rfl ?_ | refine X_yl (Yl_assign rfl rfl) rfl rfl ?_ | refine X_yl (Yl_lss_t rfl rfl rfl (by omega)) rfl rfl ?_ | refine X_yl (Yl_indexAddr_arr rfl rfl rfl (by omega) (by omega)) rfl rfl ?_ | refine X_yl (Yl_add rfl rfl rfl (w64 (by omega) (by omega))) rfl rfl ?_ | refine X_yl (Yl_eqlStrF rfl rfl rfl (by assumption)) rfl rfl ?_ | refine X_yl (Yl_load rfl rfl (hS.cellO 10 (by omega))) rfl rfl ?_) | (refine C_id ?_; first | refine C_seq ?_ | refine C_region ?_ | refine C_block ?_ | refine C_skip ?_ | refine C_cond_t rfl ?_ | refine C_cond_f rfl ?_) | (refine E_id ?_; first | refine E_code ?_ | refine E_blk_n ?_))
      refine E_round 11 ⟨rfl, rfl, rfl, rfl, trivial⟩ ⟨by omega, fun p hp => ?_, hS⟩ (by omega)
      have hp : p ∈ sorts.take 10 ++ [([118, 101, 114, 105, 102, 121], 5)] := hp
      rcases List.mem_append.1 hp with hp | hp
      · exact hno p hp
      · rw [List.mem_singleton.1 hp]; exact h
  · repeat (first | (refine G_id ?_; first | refine G_nil ?_ | refine G_plain rfl rfl ?_) | (refine X_id ?_; first | refine X_yl (Yl_move rfl rfl) rfl rfl ?_ | refine X_yl (Yl_assign rfl rfl) rfl rfl ?_ | refine X_yl (Yl_lss_f rfl rfl rfl (by omega)) rfl rfl ?_) | (refine C_id ?_; first | refine C_seq ?_ | refine C_region ?_ | refine C_ret ?_ | refine C_exit ?_ | refine C_cond_f rfl ?_) | (refine E_id ?_; first | refine E_code ?_ | refine E_then_exit ?_ | refine E_blk_same ?_ | refine E_ret1 rfl (Rv_tmp rfl) (Ret.mk ?_)))
    refine ⟨?_, hS.drops⟩
    have hn : sort s = none := by
      unfold sort
      rw [List.find?_eq_none.2 (fun p hp => by simpa using hno p hp)]
      rfl
    unfold sortN
    rw [hn]
end Cr
namespace Cr
open Go Go.Proofs
set_option maxRecDepth 100000
set_option maxHeartbeats 2000000
attribute [local irreducible] Calls

/-- An array of zeros. -/
theorem Yl_buildArr0 {P : Program} {o : Oper} {σ : Env} {w : World} {t e : TypeId} {z : Value} {n size N m : Nat} (ho : o.op = .build t #[]) [h : Und P t (.array n e)] [hs : Siz P e size] [hi : Inf P t z N m] : Yl P o σ w (.agg z.cells) := ⟨fun N' ds a ha => by
  obtain ⟨i, hi', hz', hsz, _⟩ := info_parts hi.inf
  have hze : (zeroValue t).run P w = .ok z w := by simp [zeroValue, typeInfo, hi', hz']
  have hb : (Instr.build t #[]).run P w = .ok (.agg z.cells) w := by
    unfold Instr.build
    rw [Sem.run_bind, hze]
    show (underlying t >>= _ : Sem _).run P w = _
    rw [Sem.run_bind, run_underlying h.und]
    show (Go.sizeOf _ >>= _ : Sem _).run P w = _
    rw [Sem.run_bind, run_sizeOf]
    simp [Result.andThen, Instr.fill]
  simp [execOp, ho, hb]⟩
theorem refcheck_ (c : Cmd) (ab : Option Addr) (q : Nat) (W : World) : Calls Tryd.prog 10 #[.agg (c.cells (.slice ab c.arch.length q)).toArray] W (Ret fun v w => v = .int .i64 (chk c : Nat) ∧ St W noF [] w) := by
  have hS := St.start W
  have hsrt := sort_ c.word
  refine calls_C Tryd.func10 rfl Tryd.ntmps10 rfl ?_
  cases hk : sort c.word with
  | none =>
    have e1 : sortN c.word = -1 := by unfold sortN; rw [hk]
    have e3 : chk c = 1 := by unfold chk; rw [hk]
    rw [e1] at hsrt
    rw [e3]
    repeat (first | (refine G_id ?_; first | refine G_nil ?_ | refine G_plain rfl rfl ?_) | (refine X_id ?_; first | (refine X_callq 29 rfl rfl rfl rfl rfl hS (hsrt _) ?_; rintro _ _ rfl hS) | refine X_yl (Yl_move rfl rfl) rfl rfl ?_ | refine X_yl (Yl_assign rfl rfl) rfl rfl ?_ | refine X_yl (Yl_fieldAddr0 rfl rfl rfl) rfl rfl ?_ | refine X_yl (Yl_lss_t rfl rfl rfl (by omega)) rfl rfl ?_ | refine X_yl (Yl_load rfl rfl hS.cell) rfl rfl ?_ | refine X_box rfl rfl rfl rfl hS (fun _ _ hS _ => ?_)) | (refine C_id ?_; first | refine C_seq ?_ | refine C_region ?_ | refine C_ret ?_ | refine C_cond_t rfl ?_) | (refine E_id ?_; first | refine E_code ?_ | refine E_then_ret ?_ | refine E_ret1 rfl (Rv_tmp rfl) (Ret.mk ?_)))
    exact ⟨rfl, hS.drops⟩
  | some k =>
    have e1 : sortN c.word = (k : Int) := by unfold sortN; rw [hk]
    rw [e1] at hsrt
    have hk5 := sort_lt hk
    repeat (first | (refine G_id ?_; first | refine G_nil ?_ | refine G_plain rfl rfl ?_) | (refine X_id ?_; first | refine X_yl (Yl_assign rfl rfl) rfl rfl ?_ | refine X_yl (Yl_fieldAddr0 rfl rfl rfl) rfl rfl ?_ | refine X_yl (Yl_load rfl rfl hS.cell) rfl rfl ?_ | refine X_box rfl rfl rfl rfl hS (fun _ _ hS _ => ?_)) | (refine C_id ?_; first | refine C_seq ?_ | refine C_region ?_) | (refine E_id ?_; first | refine E_code ?_))
    refine X_callq 29 rfl rfl rfl rfl rfl hS (hsrt _) ?_
    rintro _ w rfl hS
    have hfin : ∀ r : Int, r = refChk c → Value.int .i64 r = .int .i64 (chk c : Nat) := fun r h => by rw [h, refChk_eq]
    unfold refChk at hfin
    rw [e1] at hfin
    have hk6 : k = 0 ∨ k = 1 ∨ k = 2 ∨ k = 3 ∨ k = 4 ∨ k = 5 := by omega
    clear hsrt e1 hk hk5
    rcases hk6 with rfl | rfl | rfl | rfl | rfl | rfl
    all_goals
      repeat' (first | (refine X_yl (Yl_buildArr0 rfl) rfl rfl ?_) | (refine X_yl (Yl_neq2 rfl rfl rfl) rfl rfl ?_) | (refine X_yl (Yl_neq3 rfl rfl rfl) rfl rfl ?_) | (refine G_id ?_; first | refine G_nil ?_ | refine G_plain rfl rfl ?_ | refine G_yes rfl rfl rfl rfl ?_ | refine G_no rfl rfl rfl rfl rfl rfl ?_ | refine G_no_undef rfl rfl rfl rfl rfl ?_) | (refine X_id ?_; first | refine X_yl (Yl_move rfl rfl) rfl rfl ?_ | refine X_yl (Yl_assign rfl rfl) rfl rfl ?_ | refine X_yl (Yl_fieldAddr0 rfl rfl rfl) rfl rfl ?_ | refine X_yl (Yl_pick_t rfl rfl rfl) rfl rfl ?_ | refine X_yl (Yl_pick_f rfl rfl rfl) rfl rfl ?_ | refine X_yl (Yl_len rfl rfl) rfl rfl ?_ | refine X_yl (Yl_neq_t rfl rfl rfl (by omega)) rfl rfl ?_ | refine X_yl (Yl_neq_f rfl rfl rfl (by omega)) rfl rfl ?_ | refine X_yl (Yl_lss_f rfl rfl rfl (by omega)) rfl rfl ?_ | refine X_yl (Yl_gtr_t rfl rfl rfl (by omega)) rfl rfl ?_ | refine X_yl (Yl_gtr_f rfl rfl rfl (by omega)) rfl rfl ?_ | refine X_yl (Yl_neq rfl rfl rfl) rfl rfl ?_ | refine X_yl (Yl_gtr rfl rfl rfl) rfl rfl ?_ | refine X_yl (Yl_load rfl rfl hS.cell) rfl rfl ?_ | refine X_yl (Yl_loadN rfl rfl hS.cellsN) rfl rfl ?_ | refine X_yl (Yl_neqStr rfl rfl rfl) rfl rfl ?_) | (refine C_id ?_; first | refine C_seq ?_ | refine C_region ?_ | refine C_ret ?_ | refine C_skip ?_ | refine C_cond_t rfl ?_ | refine C_cond_f rfl ?_) | (refine E_id ?_; first | refine E_code ?_ | refine E_then_ret ?_ | refine E_ret1 rfl (Rv_tmp rfl) (Ret.mk ?_)) | (refine G_split (d := 11) rfl ?_ ?_ <;> intro hd) | (refine G_split (d := 15) rfl ?_ ?_ <;> intro hd) | (refine G_split (d := 22) rfl ?_ ?_ <;> intro hd) | (refine G_split (d := 25) rfl ?_ ?_ <;> intro hd) | (refine G_split (d := 29) rfl ?_ ?_ <;> intro hd) | (refine G_split (d := 35) rfl ?_ ?_ <;> intro hd) | (refine G_split (d := 38) rfl ?_ ?_ <;> intro hd) | (refine G_split (d := 44) rfl ?_ ?_ <;> intro hd) | (refine G_split (d := 51) rfl ?_ ?_ <;> intro hd) | (refine G_split (d := 56) rfl ?_ ?_ <;> intro hd) | (refine G_split (d := 63) rfl ?_ ?_ <;> intro hd) | (refine G_split (d := 66) rfl ?_ ?_ <;> intro hd) | (refine G_split (d := 71) rfl ?_ ?_ <;> intro hd) | (refine C_cond_dec rfl ?_ ?_ <;> intro hd))
      all_goals
        refine ⟨hfin _ ?_, hS.drops⟩
        clear hfin
        simp_all
end Cr
namespace Cr
open Go Go.Proofs
set_option maxRecDepth 100000
set_option maxHeartbeats 8000000
attribute [local irreducible] Calls

theorem Yl_minN {P : Program} {o : Oper} {σ : Env} {w : World} {x y : Operand} {ts : Array TypeId} {m n T : Nat} (ho : o.op = .call { callee := .builtin .min, args := #[x, y], argTypes := ts }) (hx : ev σ x = some (.int .i64 (m : Nat))) (hy : ev σ y = some (.int .i64 (n : Nat))) (hT : min m n = T) : Yl P o σ w (.int .i64 (T : Nat)) := ⟨fun N ds a ha => by
  simp [execOp, ho, resolve, invoke, builtin, ha.eval hx, ha.eval hy, Builtin.min_, Builtin.min2]
  rw [← hT]
  split <;> omega⟩
theorem creads_ (a : Option Addr) (s0 : List UInt8) (c0 : Nat) (W : World) (hsc : s0.length ≤ c0) (hb0 : Ro W noF (bytes a s0)) (hG : Lg W noF) :
    Calls Tryd.prog 4 #[.slice a s0.length c0] W (Ret fun v w => v = .bool true ∧ St W noF [] w) := by
  have hS := St.start W
  obtain ⟨T, hT⟩ : ∃ T, min s0.length 600 = T := ⟨_, rfl⟩
  have hb := hb0.subBytes (l := 0) (h := T) (c := c0) (by omega) (by omega)
  obtain ⟨s, hs⟩ : ∃ s, s = (s0.drop 0).take (T - 0) := ⟨_, rfl⟩
  rw [← hs, sub_zero] at hb
  have hsl : T = s.length := by rw [hs]; simp; omega
  have hsb : s.length ≤ 600 := by omega
  have hK := fun W h => known29_ W h
  have hD := decode_m a s c0 (by omega) (by omega)
  refine calls_C Tryd.func4 rfl Tryd.ntmps4 rfl ?_
  repeat (first | (refine G_id ?_; first | refine G_nil ?_ | refine G_plain rfl rfl ?_) | (refine X_id ?_; first | refine X_yl (Yl_move rfl rfl) rfl rfl ?_ | refine X_yl (Yl_assign rfl rfl) rfl rfl ?_ | refine X_yl (Yl_len rfl rfl) rfl rfl ?_) | (refine C_id ?_; first | refine C_seq ?_ | refine C_region ?_) | (refine E_id ?_; first | refine E_code ?_))
  refine X_yl (Yl_minN (m := s0.length) (n := 600) rfl rfl rfl hT) rfl rfl ?_
  refine G_plain rfl rfl ?_
  refine X_yl (Yl_slice (l := 0) (h := T) rfl rfl rfl rfl (.inr ⟨_, _, rfl, by omega, by omega, by omega⟩) (.inl ⟨rfl, rfl⟩)) rfl rfl ?_
  rw [sub_zero, Nat.sub_zero, Nat.sub_zero, hsl]
  clear hs hsl hT
  repeat (first | (refine G_id ?_; first | refine G_nil ?_ | refine G_plain rfl rfl ?_) | (refine X_id ?_; first | refine X_yl (Yl_move rfl rfl) rfl rfl ?_ | refine X_yl (Yl_assign rfl rfl) rfl rfl ?_) | (refine C_id ?_; first | refine C_seq ?_ | refine C_region ?_) | (refine E_id ?_; first | refine E_code ?_))
  cases hr : (dec s).bind readT with
  | none =>
    rw [hr] at hD
    refine X_callg _ rfl rfl rfl rfl rfl (hD _ (hG.at_ hS) (hb.rd hS).ro) ?_
    rintro _ w ⟨rfl, hS'⟩
    replace hS := hS.plus hS'
    clear hS'
    have hsm := fun W => same_m (Cmd.blank []) (Cmd.blank []) none none 0 0 W (Ro_nil _ _ _) (Ro_nil _ _ _)
    simp only [decide_true] at hsm
    repeat (first | (refine G_id ?_; first | refine G_nil ?_ | refine G_plain rfl rfl ?_ | refine G_yes rfl rfl rfl rfl ?_) | (refine X_id ?_; first | (refine X_callq 13 rfl rfl rfl rfl rfl hS (hK _ (hG.at_ hS)) ?_; rintro _ _ rfl hS) | (refine X_callq 12 rfl rfl rfl rfl rfl hS (hsm _) ?_; rintro _ _ rfl hS) | refine X_yl (Yl_move rfl rfl) rfl rfl ?_ | refine X_yl (Yl_assign rfl rfl) rfl rfl ?_ | refine X_yl (Yl_extract rfl rfl) rfl rfl ?_ | refine X_yl (Yl_pick_t rfl rfl rfl) rfl rfl ?_ | refine X_yl (Yl_eql_t rfl rfl rfl (by omega)) rfl rfl ?_ | refine X_yl (Yl_neq_t rfl rfl rfl (by omega)) rfl rfl ?_ | refine X_yl (Yl_build rfl rfl rfl) rfl rfl ?_ | refine X_yl (Yl_loadN rfl rfl hS.cellsN) rfl rfl ?_ | refine X_store rfl rfl rfl rfl hS (fun _ hS _ => ?_) | refine X_alloc rfl rfl rfl hS (fun _ _ hS _ => ?_)) | (refine C_id ?_; first | refine C_seq ?_ | refine C_region ?_ | refine C_ret ?_ | refine C_cond_t rfl ?_) | (refine E_id ?_; first | refine E_code ?_ | refine E_then_ret ?_ | refine E_ret1 rfl (Rv_tmp rfl) (Ret.mk ?_)))
    exact ⟨rfl, hS.drops⟩
  | some d =>
    rw [hr] at hD
    obtain ⟨t, ht, htr⟩ : ∃ t, dec s = some t ∧ readT t = some d := by
      cases h : dec s with
      | none => rw [h] at hr; cases hr
      | some t => rw [h] at hr; exact ⟨t, rfl, hr⟩
    obtain ⟨x, rfl⟩ : ∃ x, t = .list x := by
      cases t with
      | leaf y => cases htr
      | list x => exact ⟨x, rfl⟩
    have hrc : readC x = some d := htr
    obtain ⟨hlx, hok, _⟩ := readC_spec hrc
    have henc : s = encT d.leaves := by rw [hlx]; exact dec_canon ht (readC_fits_ne hrc)
    obtain ⟨hsmall, hints⟩ := read_small ht hrc (by omega)
    have hsame := fun (b : Option Addr) (q : Nat) => same_ a b c0 q s s
    simp only [decide_true] at hsame
    refine X_callg _ rfl rfl rfl rfl rfl (hD _ (hG.at_ hS) (hb.rd hS).ro) ?_
    rintro _ w ⟨b, q, rfl, hS'⟩
    replace hS := hS.plus hS'
    clear hS' hD
    have hE := fun W h1 h2 => encode_ok d b q W h1 hsmall hints hok (by rw [← henc]; omega) h2
    rw [← henc] at hE
    have hC := fun W h1 => check_m d b q W h1 hsmall
    rw [hok] at hC
    have hO := fun W => of_m d b d.arch.length q W
    have hR := fun W => refcheck_ d b q W
    rw [hok] at hR
    repeat (first | (refine G_id ?_; first | refine G_nil ?_ | refine G_plain rfl rfl ?_) | (refine X_id ?_; first | refine X_yl (Yl_move rfl rfl) rfl rfl ?_ | refine X_yl (Yl_assign rfl rfl) rfl rfl ?_ | refine X_yl (Yl_extract rfl rfl) rfl rfl ?_ | refine X_yl (Yl_neq_f rfl rfl rfl (by omega)) rfl rfl ?_ | refine X_yl (Yl_loadN rfl rfl hS.cellsN) rfl rfl ?_ | refine X_store rfl rfl rfl rfl hS (fun _ hS _ => ?_) | refine X_alloc rfl rfl rfl hS (fun _ _ hS _ => ?_)) | (refine C_id ?_; first | refine C_seq ?_ | refine C_region ?_ | refine C_skip ?_ | refine C_cond_f rfl ?_) | (refine E_id ?_; first | refine E_code ?_))
    refine X_callg _ rfl rfl rfl rfl rfl (hE _ (hS.rd (r := bytes b d.arch) (by simp)).ro (hG.at_ hS)) ?_
    rintro _ w ⟨b2, q2, rfl, hq2, hS'⟩
    replace hS := hS.plus hS'
    clear hS' hE
    repeat (first | (refine G_id ?_; first | refine G_nil ?_ | refine G_plain rfl rfl ?_ | refine G_yes rfl rfl rfl rfl ?_) | (refine X_id ?_; first | (refine X_callq 13 rfl rfl rfl rfl rfl hS (hK _ (hG.at_ hS)) ?_; rintro _ _ rfl hS) | (refine X_callq 11 rfl rfl rfl rfl rfl hS (hC _ (hS.rd (r := bytes b d.arch) (by simp)).ro) ?_; rintro _ _ rfl hS) | (refine X_callq 8 rfl rfl rfl rfl rfl hS (hO _) ?_; rintro _ _ rfl hS) | (refine X_callq 10 rfl rfl rfl rfl rfl hS (hR _) ?_; rintro _ _ rfl hS) | (refine X_callq 15 rfl rfl rfl rfl rfl hS (hsame b2 q2 _ (hb.rd hS) (hS.rd (List.mem_cons_self ..)).own_row (by omega)) ?_; rintro _ _ rfl hS) | refine X_yl (Yl_move rfl rfl) rfl rfl ?_ | refine X_yl (Yl_assign rfl rfl) rfl rfl ?_ | refine X_yl (Yl_extract rfl rfl) rfl rfl ?_ | refine X_yl (Yl_pick_t rfl rfl rfl) rfl rfl ?_ | refine X_yl (Yl_eql_t rfl rfl rfl (by omega)) rfl rfl ?_ | refine X_yl (Yl_loadN rfl rfl hS.cellsN) rfl rfl ?_) | (refine C_id ?_; first | refine C_seq ?_ | refine C_region ?_ | refine C_ret ?_) | (refine E_id ?_; first | refine E_code ?_ | refine E_ret1 rfl (Rv_tmp rfl) (Ret.mk ?_)))
    exact ⟨rfl, hS.drops⟩
end Cr
namespace Cr
open Go Go.Proofs Go.ChangeShapes Go.WideShapes Go.Deep
section
variable {H : Type} {enc : TypeId × Value → H} {P : Program} {w : World} {base : Nat} {sp : Nat → Bool} {held : Bool}
theorem Rd.ofCellsA {a : Addr} {l : List Value} (h : ∀ i v, l[i]? = some v → w.cell? (a.add i) = some v) : Rd w (row (some a) l) := by
  cases l with
  | nil => exact Rd_nil w _
  | cons x r =>
    have h0 := h 0 x rfl
    have hsp : a.spot = none := by
      have := World.cell?_spot h0
      simpa [Addr.add] using this
    obtain ⟨b, off, spot⟩ := a
    obtain rfl : spot = none := hsp
    unfold World.cell? at h0
    split at h0
    · rename_i c t fz hb
      have hb : w.heap[b]? = some (.cells c t fz) := by simpa [Addr.add] using hb
      refine ⟨single b (.cells c t fz), .inr ⟨b, off, c, t, fz, rfl, rfl, fun i v hv => ?_⟩, fun k o e => ?_⟩
      · have := h i v hv
        have e : (⟨b, off, none⟩ : Addr).add i = ⟨b, off + i, none⟩ := by
          unfold Addr.add; split
          · rename_i h; subst h; rfl
          · rfl
        rw [e, cell_of_row w b (off + i) c t fz hb] at this
        exact this
      · obtain ⟨rfl, rfl⟩ := of_single e
        exact hb
    · cases h0
theorem u8_back {n : Int} (h : (Lit.int .u8 n).wf = true) : Value.int .u8 n = .int .u8 ((UInt8.ofNat n.toNat).toNat : Int) := by
  simp only [Lit.wf, Bool.and_eq_true, decide_eq_true_eq] at h
  have h1 : 0 ≤ n := h.1
  have h2 : n ≤ 255 := h.2
  congr 1
  have : (UInt8.ofNat n.toNat).toNat = n.toNat := by rw [UInt8.toNat_ofNat']; omega
  rw [this]; omega
/-- A slice of bytes. -/
theorem open_bytes {t e : TypeId} {fuel : Nat} {cs : List Value} {x : DataW H × List MemPlace} (ht : P.underlying t = some (.slice e)) (he : P.underlying e = some (.int .u8)) (hc : P.cellsOf e = 1)
    (h : DataW.trod enc P w base sp held fuel t cs = some x) : ∃ a s c, cs = [.slice a s.length c] ∧ s.length ≤ c ∧ c ≤ maxLen ∧ Rd w (bytes a s) := by
  rcases open_ints ht he hc h with ⟨rfl, _⟩ | ⟨a, len, cap, zs, rfl, _, hl, hm, hz, _, hcell, hwf⟩
  · exact ⟨none, [], 0, rfl, Nat.le_refl _, Nat.zero_le _, Rd_nil w _⟩
  · have hlz : len ≤ zs.length := by rw [hz]; split <;> omega
    have e1 : bv ((zs.take len).map fun n => UInt8.ofNat n.toNat) = (zs.take len).map fun n => Value.int .u8 n := by
      unfold bv
      rw [List.map_map]
      refine List.map_congr_left fun n hn => ?_
      exact (u8_back (hwf n (List.mem_of_mem_take hn))).symm
    have e2 : ((zs.take len).map fun n => UInt8.ofNat n.toNat).length = len := by simp; omega
    refine ⟨some a, (zs.take len).map fun n => UInt8.ofNat n.toNat, cap, by rw [e2], by rw [e2]; exact hl, hm, ?_⟩
    unfold bytes
    rw [e1]
    refine Rd.ofCellsA fun i v hv => ?_
    rw [List.getElem?_map, List.getElem?_take] at hv
    split at hv
    · rename_i hi
      rw [hcell i (by omega)]
      have h3 : zs[i]? = some zs[i] := List.getElem?_eq_getElem (by omega)
      rw [h3] at hv
      rw [List.getD_eq_getElem?_getD, h3]
      exact hv
    · cases hv
end
end Cr
namespace Go.Proofs.YtkdolbmcnekeoaaDoor
open Go.ChangeShapes Go.WideShapes Go.ChangeAt Go.RowKit
set_option maxRecDepth 100000

theorem arg_bytes {H : Type} {enc : TypeId × Value → H} {W : World} {base : Nat} {v : Value} {d : DataW H} {p : List MemPlace} (hval : Value.okWide Tryd.prog W .any base 22 v) (h : DataW.Trod enc Tryd.prog W 0 (fun _ => true) true 22 v d p) :
    ∃ a s c, v = .slice a s.length c ∧ s.length ≤ c ∧ Cr.Ro W Cr.noF (Cr.bytes a s) := by
  obtain ⟨a, n, c, rfl⟩ := okWide_slice Tryd.underlying22 hval
  obtain ⟨fuel, hf⟩ := h
  obtain ⟨a', l, c', e, hl, _, hw⟩ := Cr.open_bytes Tryd.underlying22 Tryd.underlying5 (by kernel_rfl) hf
  have e : [Value.slice a n c] = [.slice a' l.length c'] := e
  simp only [List.cons.injEq, Value.slice.injEq, and_true] at e
  obtain ⟨rfl, rfl, rfl⟩ := e
  exact ⟨a, l, c, rfl, hl, hw.ro⟩
theorem commandReads_contract (H : Type) (enc : TypeId × Value → H) (W : World) (base : Nat) (args : Array Value) (ds gs : List (DataW H)) (before : List MemPlace)
    (hval : ∀ (j : Nat) t v, Tryd.f4.params[j]? = some t → args[j]? = some v → Value.okWide Tryd.prog W .any base t v)
    (hW : DataW.Whole enc Tryd.prog Tryd.f4.params.toList Rows.commandReadsSpec.vars false W args.toList ds gs before) (hL : laidMetH Tryd.prog Rows.commandReadsRow.laid W) :
    Calls Tryd.prog 4 args W fun e W' => ∃ v, e = .returned v ∧ Rows.commandReadsSpec.post enc Tryd.prog Tryd.f4 false true false false W args v W' := by
  have hW' := hW
  obtain ⟨p, q, hA0, hV, rfl, hfz, hnd⟩ := hW
  have hA : DataW.TrodAll enc Tryd.prog W 0 (fun _ => true) true Tryd.f4.params.toList args.toList ds p := hA0
  rw [Tryd.params4] at hA hval
  obtain ⟨rfl, rfl⟩ := trodVars_none hV
  have hAk := hA
  obtain ⟨v0, vs0, d0, ds0, p0, q0, hargs, rfl, rfl, h0, r0⟩ := trodAll_cons hA
  obtain ⟨rfl, rfl, rfl⟩ := trodAll_nil r0
  obtain rfl : args = #[v0] := by cases args; simp_all
  obtain ⟨a, b, ca, rfl, hbl, hb0⟩ := arg_bytes (hval 0 22 v0 rfl rfl) h0
  clear hA0
  simp only [List.append_nil] at hW' hAk
  refine (Cr.creads_ a b ca W hbl hb0 (lg_of_laid hL)).mono fun e W' ⟨v, he, hv, hS⟩ => ?_
  subst he hv
  have hb := hS.toBelow
  exact ⟨_, rfl, post_of_law (pa := p0) (pv := []) hW' (fun _ _ _ => trodAll_cons_mk (shut_bool Tryd.underlying4 _) trodAll_mk0)
    (fun sp hsp => trodAll_stays lawLaid hb (fun t ht => by
      have ht : t ∈ [22] := ht
      simp only [List.mem_cons, List.not_mem_nil, or_false] at ht
      rcases ht with rfl
      exact ⟨by kernel_rfl, of_decide_eq_true (by kernel_rfl)⟩) hAk hW'.lt hsp) (fun _ _ => rfl) (by simp)
    (hb.frame _) (fun _ h => hb.frozen h) (ok_one (by kernel_rfl) rfl (okWide_bool_mk Tryd.underlying4 _))⟩
theorem commandReads_laid (os : Os) : laidMet Tryd.prog Rows.commandReadsRow.laid ((lawWorld os).forCall (fun _ _ => 0) ⟨#[], #[.slice none 0 0], []⟩).memory :=
  laidMet_of_run' 8 (by kernel_rfl) (by kernel_rfl)
theorem commandReads_reads (os : Os) {H : Type} (enc : TypeId × Value → H) : ∃ places, DataW.whole enc Tryd.prog ((lawWorld os).forCall (fun _ _ => 0) ⟨#[], #[.slice none 0 0], []⟩).memory Tryd.f4.params.toList Rows.commandReadsSpec.vars false #[Value.slice none 0 0].toList 8 = some ([.nil], [], places) :=
  ⟨[], by kernel_rfl⟩
theorem commandReads_lifted (os : Os) (started : os.Started) (H : Type) (enc : TypeId × Value → H) (F : Stop.Interp) :
    ReturnsInHanded {} Tryd.checked os 4 .any ((OpenSpec.ofChange Rows.commandReadsSpec).preRow enc Tryd.prog Tryd.f4 Rows.commandReadsRow.domain false Rows.commandReadsRow.laid) (((OpenSpec.ofChange Rows.commandReadsSpec).at F).post enc Tryd.prog Tryd.f4 false true false false) := by
  obtain ⟨places, hx⟩ := commandReads_reads os enc
  refine returnsInHanded_of_row (C := Tryd.checked) (s := OpenSpec.ofChange Rows.commandReadsSpec) lawOwn started (by kernel_rfl) Tryd.func4
    (witness_row_at (enc := enc) (C := Tryd.checked) false (lawWorld os) #[.slice none 0 0] rfl (by kernel_rfl) (by kernel_rfl) (by kernel_rfl)
      (OpenSpec.preRow_of_cond 8 hx (by kernel_rfl) (fun k hk => by cases hk) (by kernel_rfl) (commandReads_laid os))) ?_
  intro W base args ds gs before hval hW _ _ _ hL _ _
  exact commandReads_contract H enc W base args ds gs before hval hW hL
theorem commandReads_said : Rows.CommandReadsSaid :=
  OpenClaim.holds_of_cond 4 Tryd.f4 rfl rfl rfl rfl rfl rfl rfl ⟨rfl, rfl, rfl, rfl, rfl⟩ rfl rfl rfl rfl rfl (by kernel_rfl) Tryd.func4 (by kernel_rfl)
    (of_decide_eq_true (by kernel_rfl)) (by unfold Func.isWrapper; first | (rw [if_pos (by decide +kernel)]; kernel_rfl) | (rw [if_neg (by decide +kernel)]; exact ⟨rfl, rfl⟩))
    (fun os started H enc _ F => by rw [OpenClaim.pre_eq_preRow]; exact commandReads_lifted os started H enc F)
theorem commandReads_plain (f : FuncId) (fn : Func) (hf : Tryd.pinned.checked.prog.funcNamed Rows.commandReadsRow.func = some f) (hfn : Tryd.pinned.checked.prog.funcs[f]? = some fn) :
    true = Tryd.pinned.checked.prog.looks [] ∧ ∀ (j : Nat) t, fn.params[j]? = some t → Tryd.pinned.checked.prog.wantsStandIn t = false := by
  obtain rfl : f = 4 := Option.some.inj ((show Tryd.prog.funcNamed Rows.commandReadsRow.func = some 4 by kernel_rfl).symm.trans hf) |>.symm
  obtain rfl : fn = Tryd.f4 := (Option.some.inj (Tryd.func4.symm.trans hfn)).symm
  refine ⟨by kernel_rfl, fun j t ht => ?_⟩
  rw [Tryd.params4] at ht
  have ht : t = 22 := by simpa using Array.mem_of_getElem? ht
  rcases ht with rfl
  exact (show Tryd.prog.wantsStandIn 22 = false by kernel_rfl)
theorem commandReads_card : Rows.CommandReadsCardSaid :=
  Claim7.holds_tied_plain_at .later [] _ _ _ _ commandReads_said (fun _ h => by cases h) (by kernel_rfl) (fun _ h => by cases h) commandReads_row_tie rfl ⟨rfl, rfl⟩ (by kernel_rfl) rfl commandReads_plain (by kernel_rfl)
end Go.Proofs.YtkdolbmcnekeoaaDoor
