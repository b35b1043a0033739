/-
  Package command: Encode, Decode.
  The laws' helper Same: are bytes the same?
  What is read is small: texts as long as the bytes at most, numbers ints.
  Layer 29's example (known).
  The document's words for layer 29, as far as CommandReads asks them: Sort, Check; the law's helper Of.
  The document's check of a command (layer 29).
  The law CommandReads: for every bytes it returns true.
  The document's numbers as text (creelref03.Number); a text and a number of layer 29; the law's cut.
  Layer 29's text and number (the document's), and the law's cut.
  The document's bytes of a command (layer 29).
  The law's helper To: a command with its texts cut.
-/
import Derived.Test.YtkdolbmcnekeoaaDoorCrd6
import Derived.Test.YtkdolbmcnekeoaaDoorCrd4
import Derived.Test.YtkdolbmcnekeoaaDoorCrd5
import Derived.Test.YtkdolbmcnekeoaaDoorCrd3
namespace Cr
open Go Go.Proofs
set_option maxRecDepth 100000
set_option maxHeartbeats 8000000
attribute [local irreducible] Calls

theorem encode_bad (c : Cmd) (aa : Option Addr) (cc : Nat) (W : World) (hb : Ro W noF (bytes aa c.arch)) (hs : c.small) (hbad : chk c ≠ 0) :
    Calls Tryd.prog 9 #[.agg (c.cells (.slice aa c.arch.length cc)).toArray] W (Ret fun v w => v = .tuple #[.slice none 0 0, .int .i64 (chk c : Nat)] ∧ St W noF [] w) := by
  have hS := St.start W
  have hC := fun W h => check_m c aa cc W h hs
  generalize chk c = n at hC hbad ⊢
  refine calls_C Tryd.func9 rfl Tryd.ntmps9 rfl ?_
  repeat (first | (refine G_id ?_; first | refine G_nil ?_ | refine G_plain rfl rfl ?_) | (refine X_id ?_; first | refine X_yl (Yl_assign rfl rfl) rfl rfl ?_ | refine X_yl (Yl_loadN rfl rfl hS.cellsN) rfl rfl ?_ | refine X_box rfl rfl rfl rfl hS (fun _ _ hS _ => ?_)) | (refine C_id ?_; first | refine C_seq ?_ | refine C_region ?_) | (refine E_id ?_; first | refine E_code ?_))
  refine X_callq 11 rfl rfl rfl rfl rfl hS (hC _ (hb.rd hS).ro) ?_
  rintro _ w rfl hS
  repeat (first | (refine G_id ?_; first | refine G_nil ?_ | refine G_plain rfl rfl ?_) | (refine X_id ?_; first | refine X_yl (Yl_move rfl rfl) rfl rfl ?_ | refine X_yl (Yl_assign rfl rfl) rfl rfl ?_ | refine X_yl (Yl_neq_t rfl rfl rfl (by omega)) rfl rfl ?_) | (refine C_id ?_; first | refine C_seq ?_ | refine C_region ?_ | refine C_ret ?_ | refine C_cond_t rfl ?_) | (refine E_id ?_; first | refine E_code ?_ | refine E_then_ret ?_ | refine E_ret2 rfl (Rv_tmp rfl) (Rv_tmp rfl) (Ret.mk ?_)))
  exact ⟨rfl, hS.drops⟩
theorem encode_ok (c : Cmd) (aa : Option Addr) (cc : Nat) (W : World) (hb : Ro W noF (bytes aa c.arch)) (hs : c.small) (hi : c.ints) (hok : chk c = 0) (hl : (encT c.leaves).length ≤ 65536) (hG : Lg W noF) :
    Calls Tryd.prog 9 #[.agg (c.cells (.slice aa c.arch.length cc)).toArray] W (Ret fun v w => ∃ b q, v = .tuple #[.slice b (encT c.leaves).length q, .int .i64 0] ∧ (encT c.leaves).length ≤ q ∧ St W noF [own 5 1 b q (bv (encT c.leaves))] w) := by
  have hS := St.start W
  have hC := fun W h => check_m c aa cc W h hs
  rw [hok] at hC
  have hV := fun W h => value_m c aa cc W h hs
  have hlen := leaves_len c
  refine calls_C Tryd.func9 rfl Tryd.ntmps9 rfl ?_
  repeat (first | (refine G_id ?_; first | refine G_nil ?_ | refine G_plain rfl rfl ?_) | (refine X_id ?_; first | refine X_yl (Yl_assign rfl rfl) rfl rfl ?_ | refine X_yl (Yl_loadN rfl rfl hS.cellsN) rfl rfl ?_ | refine X_box rfl rfl rfl rfl hS (fun _ _ hS _ => ?_)) | (refine C_id ?_; first | refine C_seq ?_ | refine C_region ?_) | (refine E_id ?_; first | refine E_code ?_))
  refine X_callq 11 rfl rfl rfl rfl rfl hS (hC _ (hb.rd hS).ro) ?_
  rintro _ w rfl hS
  repeat (first | (refine G_id ?_; first | refine G_nil ?_ | refine G_plain rfl rfl ?_) | (refine X_id ?_; first | refine X_yl (Yl_move rfl rfl) rfl rfl ?_ | refine X_yl (Yl_assign rfl rfl) rfl rfl ?_ | refine X_yl (Yl_neq_f rfl rfl rfl (by omega)) rfl rfl ?_ | refine X_yl (Yl_loadN rfl rfl hS.cellsN) rfl rfl ?_) | (refine C_id ?_; first | refine C_seq ?_ | refine C_region ?_ | refine C_skip ?_ | refine C_cond_f rfl ?_) | (refine E_id ?_; first | refine E_code ?_))
  refine X_callg _ rfl rfl rfl rfl rfl (hV _ (hb.rd hS).ro) ?_
  rintro _ w ⟨b, q, rfl, hS'⟩
  replace hS := hS.plus hS'
  clear hS' hV hC
  repeat (first | (refine G_id ?_; first | refine G_nil ?_ | refine G_plain rfl rfl ?_) | (refine X_id ?_; first | refine X_yl (Yl_move rfl rfl) rfl rfl ?_ | refine X_yl (Yl_assign rfl rfl) rfl rfl ?_ | refine X_yl (Yl_extract rfl rfl) rfl rfl ?_ | refine X_yl (Yl_loadN rfl rfl hS.cellsN) rfl rfl ?_ | refine X_store rfl rfl rfl rfl hS (fun _ hS _ => ?_) | refine X_alloc rfl rfl rfl hS (fun _ _ hS _ => ?_)) | (refine C_id ?_; first | refine C_seq ?_ | refine C_region ?_) | (refine E_id ?_; first | refine E_code ?_))
  obtain ⟨rows, hr1, hr2⟩ := (hS.rd (r := listR b c.leaves) (by simp)).ro.list
  refine X_callg _ rfl rfl rfl rfl rfl (encode_ b c.leaves q rows _ hr1 hr2 (leaves_fit hs hi) (by omega) (by omega) (hG.at_ hS)) ?_
  rintro _ w ⟨b2, q2, rfl, hq2, hS'⟩
  replace hS := hS.plus hS'
  clear hS' hr1 hr2
  repeat (first | (refine G_id ?_; first | refine G_nil ?_ | refine G_plain rfl rfl ?_ | refine G_yes rfl rfl rfl rfl ?_) | (refine X_id ?_; first | refine X_yl (Yl_move rfl rfl) rfl rfl ?_ | refine X_yl (Yl_assign rfl rfl) rfl rfl ?_ | refine X_yl (Yl_extract rfl rfl) rfl rfl ?_ | refine X_yl (Yl_pick_f rfl rfl rfl) rfl rfl ?_ | refine X_yl (Yl_len rfl rfl) rfl rfl ?_ | refine X_yl (Yl_neq_f rfl rfl rfl (by omega)) rfl rfl ?_ | refine X_yl (Yl_gtr_f rfl rfl rfl (by omega)) rfl rfl ?_) | (refine C_id ?_; first | refine C_seq ?_ | refine C_region ?_ | refine C_ret ?_ | refine C_skip ?_ | refine C_cond_f rfl ?_) | (refine E_id ?_; first | refine E_code ?_ | refine E_ret2 rfl (Rv_tmp rfl) (Rv_tmp rfl) (Ret.mk ?_)))
  exact ⟨b2, q2, rfl, hq2, hS.pick [0]⟩
/-- What Decode tells. -/
def CDRes (W : World) (r : Option Cmd) (v : Value) (w : World) : Prop :=
  match r with
  | some c => ∃ b q, v = .tuple #[.agg (c.cells (.slice b c.arch.length q)).toArray, .int .i64 0] ∧ St W noF [bytes b c.arch] w
  | none => v = .tuple #[.agg zC.toArray, .int .i64 3] ∧ St W noF [] w
theorem decode_m (a : Option Addr) (s : List UInt8) (c : Nat) (hsc : s.length ≤ c) (hl : s.length ≤ 65536) (W : World) (hG : Lg W noF) (hb : Ro W noF (bytes a s)) :
    Calls Tryd.prog 14 #[.slice a s.length c] W (Ret fun v w => CDRes W ((dec s).bind readT) v w) := by
  have hS := St.start W
  have hD := decode_ a s c hsc (by omega)
  have hcount := fun x h => dec_count (s := s) (x := x) h
  have hleaf := fun y h => dec_leaf (s := s) (y := y) h
  generalize dec s = res at hD hcount hleaf ⊢
  refine calls_C Tryd.func14 rfl Tryd.ntmps14 rfl ?_
  repeat (first | (refine G_id ?_; first | refine G_nil ?_ | refine G_plain rfl rfl ?_) | (refine X_id ?_; first | refine X_yl (Yl_move rfl rfl) rfl rfl ?_ | refine X_yl (Yl_assign rfl rfl) rfl rfl ?_ | refine X_alloc rfl rfl rfl hS (fun _ _ hS _ => ?_)) | (refine C_id ?_; first | refine C_seq ?_ | refine C_region ?_) | (refine E_id ?_; first | refine E_code ?_))
  refine X_callg _ rfl rfl rfl rfl rfl (hD _ (hG.at_ hS) (hb.rd hS).ro) ?_
  rintro v w hV
  cases res with
  | none =>
    obtain ⟨e, rfl, he, hS'⟩ := hV
    replace hS := hS.plus hS'
    clear hS'
    repeat (first | (refine G_id ?_; first | refine G_nil ?_ | refine G_plain rfl rfl ?_ | refine G_no rfl rfl rfl rfl rfl rfl ?_) | (refine X_id ?_; first | refine X_yl (Yl_move rfl rfl) rfl rfl ?_ | refine X_yl (Yl_assign rfl rfl) rfl rfl ?_ | refine X_yl (Yl_extract rfl rfl) rfl rfl ?_ | refine X_yl (Yl_pick_t rfl rfl rfl) rfl rfl ?_ | refine X_yl (Yl_neq_t rfl rfl rfl (by omega)) rfl rfl ?_ | refine X_yl (Yl_build rfl rfl rfl) rfl rfl ?_ | refine X_store rfl rfl rfl rfl hS (fun _ hS _ => ?_) | refine X_alloc rfl rfl rfl hS (fun _ _ hS _ => ?_)) | (refine C_id ?_; first | refine C_seq ?_ | refine C_region ?_ | refine C_ret ?_ | refine C_cond_t rfl ?_) | (refine E_id ?_; first | refine E_code ?_ | refine E_then_ret ?_ | refine E_ret2 rfl (by first | exact Rv_tmp rfl | exact Rv_cell rfl (run_load1 hS.cell) | exact Rv_cell rfl (run_loadN hS.cellsN)) (by first | exact Rv_tmp rfl | exact Rv_cell rfl (run_load1 hS.cell) | exact Rv_cell rfl (run_loadN hS.cellsN)) (Ret.mk ?_)))
    exact ⟨rfl, hS.drops⟩
  | some t =>
    obtain ⟨cs, rfl, hS'⟩ := hV
    replace hS := hS.plus hS'
    clear hS'
    obtain ⟨k, n, a1, n1, c1, a2, n2, c2, rfl⟩ := hS.top_cells
    have hR := fun W h => read_m t [.int .i64 k, .int .i64 n, .slice a1 n1 c1, .slice a2 n2 c2] W h (fun x hx => by have := hcount x (by rw [hx]); omega)
    simp only [Option.bind_some]
    generalize readT t = r at hR ⊢
    repeat (first | (refine G_id ?_; first | refine G_nil ?_ | refine G_plain rfl rfl ?_ | refine G_yes rfl rfl rfl rfl ?_) | (refine X_id ?_; first | refine X_yl (Yl_move rfl rfl) rfl rfl ?_ | refine X_yl (Yl_assign rfl rfl) rfl rfl ?_ | refine X_yl (Yl_extract rfl rfl) rfl rfl ?_ | refine X_yl (Yl_pick_f rfl rfl rfl) rfl rfl ?_ | refine X_yl (Yl_len rfl rfl) rfl rfl ?_ | refine X_yl (Yl_neq_f rfl rfl rfl (by omega)) rfl rfl ?_ | refine X_yl (Yl_gtr_f rfl rfl rfl (by omega)) rfl rfl ?_ | refine X_yl (Yl_loadN rfl rfl hS.cellsN) rfl rfl ?_ | refine X_store rfl rfl rfl rfl hS (fun _ hS _ => ?_) | refine X_alloc rfl rfl rfl hS (fun _ _ hS _ => ?_)) | (refine C_id ?_; first | refine C_seq ?_ | refine C_region ?_ | refine C_skip ?_ | refine C_cond_f rfl ?_) | (refine E_id ?_; first | refine E_code ?_))
    refine X_callg _ rfl rfl rfl rfl rfl (hR _ (topRo_of (hS.rd (r := topR t [.int .i64 k, .int .i64 n, .slice a1 n1 c1, .slice a2 n2 c2]) (by simp)).ro (fun y hy => hleaf y (by rw [hy])))) ?_
    rintro v w hV
    cases r with
    | none =>
      obtain ⟨rfl, hS'⟩ := hV
      replace hS := hS.plus hS'
      clear hS'
      repeat (first | (refine G_id ?_; first | refine G_nil ?_ | refine G_plain rfl rfl ?_) | (refine X_id ?_; first | refine X_yl (Yl_move rfl rfl) rfl rfl ?_ | refine X_yl (Yl_assign rfl rfl) rfl rfl ?_ | refine X_yl (Yl_extract rfl rfl) rfl rfl ?_ | refine X_yl (Yl_not_f rfl rfl) rfl rfl ?_ | refine X_yl (Yl_build rfl rfl rfl) rfl rfl ?_ | refine X_store rfl rfl rfl rfl hS (fun _ hS _ => ?_) | refine X_alloc rfl rfl rfl hS (fun _ _ hS _ => ?_)) | (refine C_id ?_; first | refine C_seq ?_ | refine C_region ?_ | refine C_ret ?_ | refine C_cond_t rfl ?_) | (refine E_id ?_; first | refine E_code ?_ | refine E_then_ret ?_ | refine E_ret2 rfl (by first | exact Rv_tmp rfl | exact Rv_cell rfl (run_load1 hS.cell) | exact Rv_cell rfl (run_loadN hS.cellsN)) (by first | exact Rv_tmp rfl | exact Rv_cell rfl (run_load1 hS.cell) | exact Rv_cell rfl (run_loadN hS.cellsN)) (Ret.mk ?_)))
      exact ⟨rfl, hS.drops⟩
    | some d =>
      obtain ⟨b, q, rfl, hS'⟩ := hV
      replace hS := hS.plus hS'
      clear hS'
      repeat (first | (refine G_id ?_; first | refine G_nil ?_ | refine G_plain rfl rfl ?_) | (refine X_id ?_; first | refine X_yl (Yl_move rfl rfl) rfl rfl ?_ | refine X_yl (Yl_assign rfl rfl) rfl rfl ?_ | refine X_yl (Yl_extract rfl rfl) rfl rfl ?_ | refine X_yl (Yl_not_t rfl rfl) rfl rfl ?_ | refine X_yl (Yl_loadN rfl rfl hS.cellsN) rfl rfl ?_ | refine X_store rfl rfl rfl rfl hS (fun _ hS _ => ?_) | refine X_alloc rfl rfl rfl hS (fun _ _ hS _ => ?_)) | (refine C_id ?_; first | refine C_seq ?_ | refine C_region ?_ | refine C_ret ?_ | refine C_skip ?_ | refine C_cond_f rfl ?_) | (refine E_id ?_; first | refine E_code ?_ | refine E_ret2 rfl (by first | exact Rv_tmp rfl | exact Rv_cell rfl (run_load1 hS.cell) | exact Rv_cell rfl (run_loadN hS.cellsN)) (by first | exact Rv_tmp rfl | exact Rv_cell rfl (run_load1 hS.cell) | exact Rv_cell rfl (run_loadN hS.cellsN)) (Ret.mk ?_)))
      exact ⟨b, q, rfl, hS.pick [1]⟩
end Cr
namespace Cr
open Go Go.Proofs
set_option maxRecDepth 100000
set_option maxHeartbeats 8000000
attribute [local irreducible] Calls

theorem same_ (a b : Option Addr) (c c' : Nat) (s t : List UInt8) (W : World) (ha : Rd W (bytes a s)) (hb : Rd W (bytes b t)) (hs : s.length ≤ 1099511627776) :
    Calls Tryd.prog 15 #[.slice a s.length c, .slice b t.length c'] W (Ret fun v w => v = .bool (decide (s = t)) ∧ St W noF [] w) := by
  have hS := St.start W
  by_cases hl : s.length = t.length
  · refine calls_C Tryd.func15 rfl Tryd.ntmps15 rfl ?_
    repeat (first | (refine G_id ?_; first | refine G_nil ?_ | refine G_plain rfl rfl ?_) | (refine X_id ?_; first | refine X_yl (Yl_move rfl rfl) rfl rfl ?_ | refine X_yl (Yl_assign rfl rfl) rfl rfl ?_ | refine X_yl (Yl_len rfl rfl) rfl rfl ?_ | refine X_yl (Yl_neq_f rfl rfl rfl (by omega)) rfl rfl ?_) | (refine C_id ?_; first | refine C_seq ?_ | refine C_region ?_ | refine C_block ?_ | refine C_skip ?_ | refine C_cond_f rfl ?_) | (refine E_id ?_; first | refine E_code ?_))
    refine C_loop (α := Nat) (fun i => [(0, .slice a s.length c), (1, .slice b t.length c'), (5, .int .i64 (i : Nat))])
      (fun i w => i ≤ s.length ∧ s.take i = t.take i ∧ St W noF [] w) (fun i => s.length - i) 0 ⟨rfl, rfl, rfl, trivial⟩ ⟨Nat.zero_le _, rfl, hS⟩ ?_
    clear hS
    rintro i w ⟨hi, htk, hS⟩
    by_cases hlt : i < s.length
    · obtain ⟨ab, ao, rfl⟩ := ha.base (by intro e; have := bv_length s; rw [e] at this; simp at this; omega)
      obtain ⟨bb, bo, rfl⟩ := hb.base (by intro e; have := bv_length t; rw [e] at this; simp at this; omega)
      have h1 := ha.ro
      have h2 := hb.ro
      clear ha hb
      have hb := h1
      have hb2 := h2
      have hlt2 : i < t.length := by omega
      have ei : (i : Int).toNat * 1 = i := by omega
      by_cases he : s.getD i 0 = t.getD i 0
      · have hq : ((s.getD ((i : Int).toNat * 1) 0).toNat : Int) = ((t.getD ((i : Int).toNat * 1) 0).toNat : Int) := by rw [ei, he]
        repeat (first | (refine G_id ?_; first | refine G_nil ?_ | refine G_plain rfl rfl ?_) | (refine X_id ?_; first | refine X_yl (Yl_move rfl rfl) rfl rfl ?_ | refine X_yl (Yl_len rfl rfl) rfl rfl ?_ | refine X_yl (Yl_lss_t rfl rfl rfl (by omega)) rfl rfl ?_) | (refine C_id ?_; first | refine C_seq ?_ | refine C_region ?_ | refine C_block ?_ | refine C_skip ?_ | refine C_cond_t rfl ?_) | (refine E_id ?_; first | refine E_code ?_))
        refine C_ord (.s 0 (.s 1 (.s 2 (.s 3 (.s 4 (.s 5 (.s 6 (.s 7 (.s 8 .nil))))))))) mixed (by kernel_rfl) rfl ?_
        have hS := hS.drew
        repeat (first | (refine G_id ?_; first | refine G_nil ?_ | refine G_plain rfl rfl ?_) | (refine X_id ?_; first | refine X_yl (Yl_move rfl rfl) rfl rfl ?_ | refine X_yl (Yl_assign rfl rfl) rfl rfl ?_ | refine X_yl (Yl_add rfl rfl rfl (w64 (by omega) (by omega))) rfl rfl ?_) | (refine C_id ?_; first | refine C_region ?_ | refine C_skip ?_ | refine C_cond_f rfl ?_) | (refine E_id ?_; first | refine E_code ?_ | refine E_blk_n ?_) | (refine GO_id ?_; first | refine GO_nil ?_ | refine GO_pure rfl rfl (fun _ => Yl_move rfl rfl) rfl rfl ?_ | refine GO_pure rfl rfl (fun _ => Yl_neq_f rfl rfl rfl (by omega)) rfl rfl ?_ | refine GO_pure rfl rfl (fun _ => Yl_indexAddr rfl rfl rfl (by omega) (by omega) (by first | assumption | exact ⟨_, _, rfl⟩)) rfl rfl ?_ | refine GO_read (fun w' => w'.cell? _ = some _) rfl rfl ((hb.rd hS).cellB' (by omega)) (fun _ hc => Yl_load rfl rfl hc) rfl rfl ?_ | refine GO_read (fun w' => w'.cell? _ = some _) rfl rfl ((hb2.rd hS).cellB' (by omega)) (fun _ hc => Yl_load rfl rfl hc) rfl rfl ?_))
        refine E_round (i + 1) ⟨rfl, rfl, rfl, trivial⟩ ⟨by omega, ?_, hS⟩ (by omega)
        rw [List.take_succ_eq_append_getElem hlt, List.take_succ_eq_append_getElem hlt2, htk]
        rw [List.getD_eq_getElem?_getD, List.getD_eq_getElem?_getD, List.getElem?_eq_getElem hlt, List.getElem?_eq_getElem hlt2] at he
        simp only [Option.getD_some] at he
        rw [he]
      · have hq : ¬ ((s.getD ((i : Int).toNat * 1) 0).toNat : Int) = ((t.getD ((i : Int).toNat * 1) 0).toNat : Int) := by
          rw [ei]; intro h; exact he (UInt8.toNat_inj.1 (by omega))
        repeat (first | (refine G_id ?_; first | refine G_nil ?_ | refine G_plain rfl rfl ?_) | (refine X_id ?_; first | refine X_yl (Yl_move rfl rfl) rfl rfl ?_ | refine X_yl (Yl_len rfl rfl) rfl rfl ?_ | refine X_yl (Yl_lss_t rfl rfl rfl (by omega)) rfl rfl ?_) | (refine C_id ?_; first | refine C_seq ?_ | refine C_region ?_ | refine C_block ?_ | refine C_skip ?_ | refine C_cond_t rfl ?_) | (refine E_id ?_; first | refine E_code ?_))
        refine C_ord (.s 0 (.s 1 (.s 2 (.s 3 (.s 4 (.s 5 (.s 6 (.s 7 (.s 8 .nil))))))))) mixed (by kernel_rfl) rfl ?_
        have hS := hS.drew
        repeat (first | (refine G_id ?_; first | refine G_nil ?_ | refine G_plain rfl rfl ?_) | (refine X_id ?_; first | refine X_yl (Yl_assign rfl rfl) rfl rfl ?_) | (refine C_id ?_; first | refine C_seq ?_ | refine C_region ?_ | refine C_ret ?_ | refine C_cond_t rfl ?_) | (refine E_id ?_; first | refine E_code ?_ | refine E_then_ret ?_ | refine E_blk_ret ?_ | refine E_ret1 rfl (Rv_tmp rfl) (Ret.mk ?_)) | (refine GO_id ?_; first | refine GO_nil ?_ | refine GO_pure rfl rfl (fun _ => Yl_move rfl rfl) rfl rfl ?_ | refine GO_pure rfl rfl (fun _ => Yl_neq_t rfl rfl rfl (by omega)) rfl rfl ?_ | refine GO_pure rfl rfl (fun _ => Yl_indexAddr rfl rfl rfl (by omega) (by omega) (by first | assumption | exact ⟨_, _, rfl⟩)) rfl rfl ?_ | refine GO_read (fun w' => w'.cell? _ = some _) rfl rfl ((hb.rd hS).cellB' (by omega)) (fun _ hc => Yl_load rfl rfl hc) rfl rfl ?_ | refine GO_read (fun w' => w'.cell? _ = some _) rfl rfl ((hb2.rd hS).cellB' (by omega)) (fun _ hc => Yl_load rfl rfl hc) rfl rfl ?_))
        refine ⟨?_, hS⟩
        rw [decide_eq_false (fun h => he (by rw [h]))]
    · obtain rfl : i = s.length := by omega
      repeat (first | (refine G_id ?_; first | refine G_nil ?_ | refine G_plain rfl rfl ?_) | (refine X_id ?_; first | refine X_yl (Yl_move rfl rfl) rfl rfl ?_ | refine X_yl (Yl_assign rfl rfl) rfl rfl ?_ | refine X_yl (Yl_len rfl rfl) rfl rfl ?_ | refine X_yl (Yl_lss_f rfl rfl rfl (by omega)) rfl rfl ?_) | (refine C_id ?_; first | refine C_seq ?_ | refine C_region ?_ | refine C_ret ?_ | refine C_exit ?_ | refine C_cond_f rfl ?_) | (refine E_id ?_; first | refine E_code ?_ | refine E_then_exit ?_ | refine E_blk_same ?_ | refine E_ret1 rfl (Rv_tmp rfl) (Ret.mk ?_)))
      refine ⟨?_, hS⟩
      rw [List.take_length, hl, List.take_length] at htk
      simp [htk]
  · refine calls_C Tryd.func15 rfl Tryd.ntmps15 rfl ?_
    repeat (first | (refine G_id ?_; first | refine G_nil ?_ | refine G_plain rfl rfl ?_) | (refine X_id ?_; first | refine X_yl (Yl_move rfl rfl) rfl rfl ?_ | refine X_yl (Yl_assign rfl rfl) rfl rfl ?_ | refine X_yl (Yl_len rfl rfl) rfl rfl ?_ | refine X_yl (Yl_neq_t rfl rfl rfl (by omega)) rfl rfl ?_) | (refine C_id ?_; first | refine C_seq ?_ | refine C_region ?_ | refine C_ret ?_ | refine C_cond_t rfl ?_) | (refine E_id ?_; first | refine E_code ?_ | refine E_then_ret ?_ | refine E_ret1 rfl (Rv_tmp rfl) (Ret.mk ?_)))
    exact ⟨by rw [decide_eq_false (fun h => hl (by rw [h]))], hS⟩
end Cr
namespace Cr
open Go

theorem atoi_range {l : List UInt8} {v : Int} (h : Lib.atoiAll l = .ok v) : -9223372036854775808 ≤ v ∧ v ≤ 9223372036854775807 := by
  unfold Lib.atoiAll at h
  split at h
  · cases h
  · simp only at h
    split at h
    · cases h
    · cases h
    · rename_i u hu
      split at h
      · cases h
      · rename_i h1
        split at h
        · cases h
        · rename_i h2
          injection h with h
          split at h
          · rename_i hneg
            have : ¬ (9223372036854775808 < u) := fun q => h2 ⟨hneg, q⟩
            omega
          · rename_i hneg
            have : ¬ (9223372036854775808 ≤ u) := fun q => h1 ⟨hneg, q⟩
            omega
theorem pv_fits {f deep : Nat} {l r : List UInt8} {y : Leaf} (h : pv f deep l = some (.leaf y, r)) : (∀ n, y = .num n → -9223372036854775808 ≤ n ∧ n ≤ 9223372036854775807) ∧ ∀ b, y = .txt b → b.length ≤ l.length := by
  have hc := (pv_canon h).1
  refine ⟨fun n hn => ?_, fun b hb => ?_⟩
  · subst hn
    cases f with
    | zero => simp [pv] at h
    | succ f =>
      cases l with
      | nil => simp [pv] at h
      | cons c l =>
        rw [pv] at h
        split at h
        · split at h
          · cases h
          · split at h
            · simp at h
            · cases h
        · split at h
          · split at h
            · rename_i v r' hp
              obtain ⟨h1, _⟩ : v = n ∧ r' = r := by simpa using h
              rw [← h1]
              exact atoi_range (num_split hp).2.2
            · cases h
          · split at h
            · split at h
              · simp at h
              · cases h
            · cases h
  · subst hb
    rw [hc]
    simp [encL]; omega
theorem pl_fits : ∀ {f deep : Nat} {l r : List UInt8} {x : List Leaf}, pl f deep l = some (x, r) → ∀ y ∈ x, (∀ n, y = .num n → -9223372036854775808 ≤ n ∧ n ≤ 9223372036854775807) ∧ ∀ b, y = .txt b → b.length ≤ l.length
  | 0, _, _, _, _, h => by simp [pl] at h
  | f + 1, deep, [], _, _, h => by simp [pl] at h
  | f + 1, deep, c :: l, r, x, h => by
    rw [pl] at h
    split at h
    · obtain ⟨h1, _⟩ : [] = x ∧ l = r := by simpa using h
      subst h1
      intro y hy
      cases hy
    · split at h
      · cases h
      · rename_i t r' hp
        split at h
        · cases h
        · rename_i x' r'' hp'
          obtain ⟨h1, _⟩ : t.shut :: x' = x ∧ r'' = r := by simpa using h
          subst h1
          intro y hy
          rcases List.mem_cons.1 hy with rfl | hy
          · cases t with
            | leaf z => exact pv_fits hp
            | list z => exact ⟨fun n hn => (by cases hn), fun b hb => (by cases hb)⟩
          · have h2 := pl_fits hp' y hy
            have h3 := (p_len f).1 _ _ _ _ hp
            exact ⟨h2.1, fun b hb => by have := h2.2 b hb; omega⟩
theorem dec_fits {s : List UInt8} {x : List Leaf} (h : dec s = some (.list x)) : ∀ y ∈ x, (∀ n, y = .num n → -9223372036854775808 ≤ n ∧ n ≤ 9223372036854775807) ∧ ∀ b, y = .txt b → b.length ≤ s.length := by
  unfold dec at h
  split at h
  · rename_i t hp
    injection h with h
    subst h
    cases s with
    | nil => simp [pv] at hp
    | cons c l =>
      rw [pv] at hp
      split at hp
      · split at hp
        · cases hp
        · split at hp
          · rename_i x' r' hp'
            obtain ⟨rfl, rfl⟩ : x' = x ∧ r' = [] := by simpa using hp
            intro y hy
            have h2 := pl_fits hp' y hy
            exact ⟨h2.1, fun b hb => by have := h2.2 b hb; simp; omega⟩
          · cases hp
      · split at hp
        · split at hp
          · simp at hp
          · cases hp
        · split at hp
          · split at hp
            · simp at hp
            · cases hp
          · cases hp
  · cases h
theorem chk_own {c : Cmd} (h : chk c = 0) : ∃ k, k ≤ 5 ∧ sort c.word = some k ∧ c = c.own k := by
  unfold chk at h
  split at h
  · cases h
  · rename_i k hk
    refine ⟨k, sort_lt hk, hk, ?_⟩
    split at h
    · assumption
    · cases h
/-- A right command's texts and numbers stand among its leaves, or are nothing. -/
theorem own_leaf {c : Cmd} (h : chk c = 0) : (∀ o, c.s o = [] ∨ .txt (c.s o) ∈ c.leaves) ∧ (c.arch = [] ∨ .txt c.arch ∈ c.leaves) ∧ ∀ o, c.n o = 0 ∨ .num (c.n o) ∈ c.leaves := by
  obtain ⟨k, hk5, hk, hc⟩ := chk_own h
  have hl : c.leaves = .txt c.word :: (parts k).map c.leaf := by unfold Cmd.leaves partsW; rw [hk]
  rw [hl]
  have e1 : ∀ o, c.s o = (c.own k).s o := fun o => congrArg (fun d => d.s o) hc
  have e2 : c.arch = (c.own k).arch := congrArg Cmd.arch hc
  have e3 : ∀ o, c.n o = (c.own k).n o := fun o => congrArg (fun d => d.n o) hc
  match k, hk5 with
  | 0, _ | 1, _ | 2, _ | 3, _ | 4, _ | 5, _ =>
    refine ⟨fun o => ?_, ?_, fun o => ?_⟩
    · have e := e1 o
      unfold Cmd.s at e ⊢
      split at e <;> first | exact .inl e | exact .inr (by simp [parts, Cmd.leaf, Cmd.s])
    · first | exact .inl e2 | exact .inr (by simp [parts, Cmd.leaf])
    · have e := e3 o
      unfold Cmd.n at e ⊢
      split at e <;> first | exact .inl e | exact .inr (by simp [parts, Cmd.leaf, Cmd.n])
theorem read_small {s : List UInt8} {x : List Leaf} {c : Cmd} (hd : dec s = some (.list x)) (hc : readC x = some c) (hs : s.length ≤ 1073741824) : c.small ∧ c.ints := by
  obtain ⟨hl, hok, _⟩ := readC_spec hc
  obtain ⟨o1, o2, o3⟩ := own_leaf hok
  have hf := dec_fits hd
  rw [← hl] at hf
  have ht : ∀ b, .txt b ∈ c.leaves → b.length ≤ 1073741824 := fun b hb => by have := (hf _ hb).2 b rfl; omega
  refine ⟨⟨ht _ (by unfold Cmd.leaves; exact List.mem_cons_self ..), ?_, fun o => ?_⟩, fun o => ?_⟩
  · rcases o2 with h | h
    · rw [h]; simp
    · exact ht _ h
  · rcases o1 o with h | h
    · rw [h]; simp
    · exact ht _ h
  · rcases o3 o with h | h
    · rw [h]; omega
    · exact (hf _ h).1 _ rfl
end Cr
namespace Cr
open Go Go.Proofs
set_option maxRecDepth 100000
set_option maxHeartbeats 8000000
attribute [local irreducible] Calls

theorem itoa_dig {k : Nat} (h : k < 10) : Lib.itoa (k : Int) = [UInt8.ofNat (48 + k)] := by
  rw [itoa_nat, Lib.decDigits_one h]
def vW : List UInt8 := [118, 101, 114, 105, 102, 121]
def rW : List UInt8 := [114, 101, 109, 111, 118, 101]
def tW : List UInt8 := [116, 111, 111, 108]
def kV : Cmd := Cmd.blank vW
def kR : Cmd := { Cmd.blank rW with name := tW, fuel := 5 }
theorem enc_kV : encT kV.leaves = [40, 54, 58, 118, 101, 114, 105, 102, 121, 41] := by
  have e : kV.leaves = [.txt vW] := rfl
  rw [e]
  have h6 : Lib.itoa ((6 : Nat) : Int) = [54] := itoa_dig (k := 6) (by decide)
  have h : encL (.txt vW) = [54, 58, 118, 101, 114, 105, 102, 121] := by
    show Lib.itoa ((6 : Nat) : Int) ++ 58 :: vW = _
    rw [h6]; rfl
  simp [encT, encs, h]
theorem enc_kR : encT kR.leaves = [40, 54, 58, 114, 101, 109, 111, 118, 101, 52, 58, 116, 111, 111, 108, 105, 53, 59, 41] := by
  have e : kR.leaves = [.txt rW, .txt tW, .num 5] := rfl
  rw [e]
  have h6 : Lib.itoa ((6 : Nat) : Int) = [54] := itoa_dig (k := 6) (by decide)
  have h4 : Lib.itoa ((4 : Nat) : Int) = [52] := itoa_dig (k := 4) (by decide)
  have h5 : Lib.itoa ((5 : Nat) : Int) = [53] := itoa_dig (k := 5) (by decide)
  have a1 : encL (.txt rW) = [54, 58, 114, 101, 109, 111, 118, 101] := by
    show Lib.itoa ((6 : Nat) : Int) ++ 58 :: rW = _
    rw [h6]; rfl
  have a2 : encL (.txt tW) = [52, 58, 116, 111, 111, 108] := by
    show Lib.itoa ((4 : Nat) : Int) ++ 58 :: tW = _
    rw [h4]; rfl
  have a3 : encL (.num 5) = [105, 53, 59] := by
    show 105 :: Lib.itoa ((5 : Nat) : Int) ++ [59] = _
    rw [h5]; rfl
  simp [encT, encs, a1, a2, a3]
theorem small_blank {w n : List UInt8} {k : Int} (hw : w.length ≤ 1073741824) (hn : n.length ≤ 1073741824) : ({ Cmd.blank w with name := n, fuel := k } : Cmd).small := by
  refine ⟨hw, by simp [Cmd.blank], fun o => ?_⟩
  unfold Cmd.s
  split <;> first | exact hn | simp [Cmd.blank]
theorem ints_blank {w n : List UInt8} {k : Int} (hk : 0 ≤ k ∧ k ≤ 100) : ({ Cmd.blank w with name := n, fuel := k } : Cmd).ints := by
  intro o
  unfold Cmd.n
  split
  · simp [Cmd.blank]
  · simp only; omega
  · omega
theorem ok_kV : chk kV = 0 := by
  unfold chk
  rw [show sort kV.word = some 5 from rfl]
  exact if_pos rfl
theorem ok_kR : chk kR = 0 := by
  unfold chk
  rw [show sort kR.word = some 1 from rfl]
  exact if_pos rfl
theorem known29_ (W : World) (hG : Lg W noF) : Calls Tryd.prog 13 #[] W (Ret fun v w => v = .bool true ∧ St W noF [] w) := by
  have hS := St.start W
  have h1 := fun W h => encode_ok kV none 0 W (Ro_nil _ _ _) (small_blank (w := vW) (n := []) (k := 0) (by decide) (by decide)) (ints_blank (by decide)) ok_kV (by rw [enc_kV]; decide) h
  have h2 := fun W h => encode_ok kR none 0 W (Ro_nil _ _ _) (small_blank (w := rW) (n := tW) (k := 5) (by decide) (by decide)) (ints_blank (by decide)) ok_kR (by rw [enc_kR]; decide) h
  rw [enc_kV] at h1
  rw [enc_kR] at h2
  refine calls_C Tryd.func13 rfl Tryd.ntmps13 rfl ?_
  repeat (first | (refine G_id ?_; first | refine G_nil ?_ | refine G_plain rfl rfl ?_) | (refine X_id ?_; first | refine X_yl (Yl_assign rfl rfl) rfl rfl ?_ | refine X_yl (Yl_build rfl rfl rfl) rfl rfl ?_) | (refine C_id ?_; first | refine C_seq ?_ | refine C_region ?_) | (refine E_id ?_; first | refine E_code ?_))
  refine X_callg _ rfl rfl rfl rfl rfl (h1 _ (hG.at_ hS)) ?_
  rintro _ w ⟨b1, q1, rfl, _, hS'⟩
  replace hS := hS.plus hS'
  clear hS'
  repeat (first | (refine G_id ?_; first | refine G_nil ?_ | refine G_plain rfl rfl ?_) | (refine X_id ?_; first | refine X_yl (Yl_move rfl rfl) rfl rfl ?_ | refine X_yl (Yl_assign rfl rfl) rfl rfl ?_ | refine X_yl (Yl_extract rfl rfl) rfl rfl ?_ | refine X_yl (Yl_build rfl rfl rfl) rfl rfl ?_) | (refine C_id ?_; first | refine C_seq ?_ | refine C_region ?_) | (refine E_id ?_; first | refine E_code ?_))
  refine X_callg _ rfl rfl rfl rfl rfl (h2 _ (hG.at_ hS)) ?_
  rintro _ w ⟨b2, q2, rfl, _, hS'⟩
  replace hS := hS.plus hS'
  clear hS'
  have hy2 := (hS.rd (List.mem_cons_self ..)).own_row
  have hy1 := (hS.rd (List.mem_cons_of_mem _ (List.mem_cons_self ..))).own_row
  repeat (first | (refine G_id ?_; first | refine G_nil ?_ | refine G_plain rfl rfl ?_ | refine G_yes rfl rfl rfl rfl ?_) | (refine X_id ?_; first | refine X_yl (Yl_move rfl rfl) rfl rfl ?_ | refine X_yl (Yl_assign rfl rfl) rfl rfl ?_ | refine X_yl (Yl_extract rfl rfl) rfl rfl ?_ | refine X_yl (Yl_eql_t rfl rfl rfl (by omega)) rfl rfl ?_) | (refine C_id ?_; first | refine C_seq ?_ | refine C_region ?_) | (refine E_id ?_; first | refine E_code ?_))
  refine X_yl (Yl_bytesStr rfl rfl hy1 rfl) rfl rfl ?_
  repeat (first | (refine G_id ?_; first | refine G_plain rfl rfl ?_ | refine G_yes rfl rfl rfl rfl ?_) | (refine X_id ?_; first | refine X_yl (Yl_move rfl rfl) rfl rfl ?_ | refine X_yl (Yl_pick_t rfl rfl rfl) rfl rfl ?_ | refine X_yl (Yl_eql_t rfl rfl rfl (by omega)) rfl rfl ?_ | refine X_yl (Yl_eqlStr rfl rfl rfl) rfl rfl ?_))
  refine X_yl (Yl_bytesStr rfl rfl hy2 rfl) rfl rfl ?_
  repeat (first | (refine G_id ?_; first | refine G_nil ?_ | refine G_plain rfl rfl ?_ | refine G_yes rfl rfl rfl rfl ?_) | (refine X_id ?_; first | refine X_yl (Yl_assign rfl rfl) rfl rfl ?_ | refine X_yl (Yl_pick_t rfl rfl rfl) rfl rfl ?_ | refine X_yl (Yl_eqlStr rfl rfl rfl) rfl rfl ?_) | (refine C_id ?_; first | refine C_ret ?_) | (refine E_id ?_; first | refine E_code ?_ | refine E_ret1 rfl (Rv_tmp rfl) (Ret.mk ?_)))
  exact ⟨rfl, hS.drops⟩
end Cr
namespace Cr
open Go Go.Proofs
set_option maxRecDepth 100000
set_option maxHeartbeats 2000000
attribute [local irreducible] Calls

theorem of_m (c : Cmd) (ab : Option Addr) (n q : Nat) (W : World) : Calls Tryd.prog 8 #[.agg (c.cells (.slice ab n q)).toArray] W (Ret fun v w => v = .agg (c.cells (.slice ab n q)).toArray ∧ St W noF [] w) := by
  have hS := St.start W
  refine calls_C Tryd.func8 rfl Tryd.ntmps8 rfl ?_
  repeat (first | (refine G_id ?_; first | refine G_nil ?_ | refine G_plain rfl rfl ?_) | (refine X_id ?_; first | refine X_yl (Yl_fieldAddr0 rfl rfl rfl) rfl rfl ?_ | refine X_yl (Yl_fieldAddr rfl rfl rfl) rfl rfl ?_ | refine X_yl (Yl_load rfl rfl hS.cell) rfl rfl ?_ | refine X_yl (Yl_loadN rfl rfl hS.cellsN) rfl rfl ?_ | refine X_box rfl rfl rfl rfl hS (fun _ _ hS _ => ?_) | refine X_alloc rfl rfl rfl hS (fun _ _ hS _ => ?_) | refine X_yl (Yl_buildArr rfl rfl rfl rfl rfl) rfl rfl ?_) | (refine C_id ?_; first | refine C_seq ?_ | refine C_region ?_) | (refine E_id ?_; first | refine E_code ?_))
  have tail : Lay [(0, 1), (1, 1), (2, 1), (3, 1), (4, 2), (6, 2), (8, 3), (11, 1), (12, 1), (13, 1)]
      [.string (str c.word), .string (str c.text), .string (str c.name), .slice ab n q, .string (str c.p0), .string (str c.p1), .string ⟨#[]⟩, .string ⟨#[]⟩, .string ⟨#[]⟩, .string ⟨#[]⟩, .string ⟨#[]⟩, .int .i64 0, .int .i64 0, .int .i64 0]
      [(5, .agg (List.toArray [.string (str c.s0), .string (str c.s1)])), (6, .agg (List.toArray [.string (str c.q0), .string (str c.q1), .string (str c.q2)])), (7, .int .i64 c.rev), (8, .int .i64 c.out), (9, .int .i64 c.fuel)] (c.cells (.slice ab n q)) := inferInstance
  refine X_yl (Yl_build rfl rfl rfl) rfl rfl ?_
  repeat (first | (refine G_id ?_; first | refine G_nil ?_ | refine G_plain rfl rfl ?_) | (refine X_id ?_; first | refine X_store rfl rfl rfl rfl hS (fun _ hS _ => ?_)) | (refine C_id ?_; first | refine C_ret ?_) | (refine E_id ?_; first | refine E_code ?_ | refine E_ret1 rfl (by first | exact Rv_tmp rfl | exact Rv_cell rfl (run_load1 hS.cell) | exact Rv_cell rfl (run_loadN hS.cellsN)) (Ret.mk ?_)))
  exact ⟨rfl, hS.drops⟩
theorem sort_ (s : List UInt8) (W : World) : Calls Tryd.prog 29 #[.string (str s)] W (Ret fun v w => v = .int .i64 (sortN s) ∧ St W noF [] w) := by
  have hS := St.start W
  refine calls_C Tryd.func29 rfl Tryd.ntmps29 rfl ?_
  repeat (first | (refine G_id ?_; first | refine G_nil ?_ | refine G_plain rfl rfl ?_) | (refine X_id ?_; first | refine X_yl (Yl_assign rfl rfl) rfl rfl ?_ | refine X_store rfl rfl rfl rfl hS (fun _ hS _ => ?_) | refine X_alloc rfl rfl rfl hS (fun _ _ hS _ => ?_) | refine X_yl (Yl_buildArr rfl rfl rfl rfl rfl) rfl rfl ?_) | (refine C_id ?_; first | refine C_seq ?_ | refine C_region ?_ | refine C_block ?_) | (refine E_id ?_; first | refine E_code ?_))
  rename_i t3 _ _ _ _ _ _ t4 _ _ _ _ _
  replace hS : St W noF [pts t4 (.cells (List.toArray [.int .i64 0, .int .i64 0, .int .i64 1, .int .i64 1, .int .i64 2, .int .i64 2, .int .i64 3, .int .i64 3, .int .i64 4, .int .i64 5, .int .i64 5]) 100 (0, 0)), pts t3 (.cells (List.toArray [.string (str [105, 110, 115, 116, 97, 108, 108]), .string (str [114, 101, 102, 114, 101, 115, 104]), .string (str [114, 101, 118, 101, 114, 116]), .string (str [114, 101, 109, 111, 118, 101]), .string (str [99, 111, 110, 110, 101, 99, 116]), .string (str [100, 105, 115, 99, 111, 110, 110, 101, 99, 116]), .string (str [105, 110, 102, 111]), .string (str [99, 111, 110, 110, 115]), .string (str [97, 117, 100, 105, 116]), .string (str [108, 105, 115, 116]), .string (str [118, 101, 114, 105, 102, 121])]) 99 (0, 0))] _ := hS
  refine C_loop (α := Nat) (fun i => [(0, .string (str s)), (3, .pointer (some ⟨t3, 0, none⟩)), (4, .pointer (some ⟨t4, 0, none⟩)), (5, .int .i64 (i : Nat))])
    (fun i w => i ≤ 11 ∧ (∀ p ∈ sorts.take i, p.1 ≠ s) ∧ St W noF [pts t4 (.cells (List.toArray [.int .i64 0, .int .i64 0, .int .i64 1, .int .i64 1, .int .i64 2, .int .i64 2, .int .i64 3, .int .i64 3, .int .i64 4, .int .i64 5, .int .i64 5]) 100 (0, 0)), pts t3 (.cells (List.toArray [.string (str [105, 110, 115, 116, 97, 108, 108]), .string (str [114, 101, 102, 114, 101, 115, 104]), .string (str [114, 101, 118, 101, 114, 116]), .string (str [114, 101, 109, 111, 118, 101]), .string (str [99, 111, 110, 110, 101, 99, 116]), .string (str [100, 105, 115, 99, 111, 110, 110, 101, 99, 116]), .string (str [105, 110, 102, 111]), .string (str [99, 111, 110, 110, 115]), .string (str [97, 117, 100, 105, 116]), .string (str [108, 105, 115, 116]), .string (str [118, 101, 114, 105, 102, 121])]) 99 (0, 0))] w) (fun i => 11 - i) 0 ⟨rfl, rfl, rfl, rfl, trivial⟩ ⟨by omega, fun p hp => by simp at hp, hS⟩ ?_
  clear hS
  rintro i w ⟨hi, hno, hS⟩
  have hcase : i = 0 ∨ i = 1 ∨ i = 2 ∨ i = 3 ∨ i = 4 ∨ i = 5 ∨ i = 6 ∨ i = 7 ∨ i = 8 ∨ i = 9 ∨ i = 10 ∨ i = 11 := by omega
  rcases hcase with rfl | rfl | rfl | rfl | rfl | rfl | rfl | rfl | rfl | rfl | rfl | rfl
  · by_cases h : [105, 110, 115, 116, 97, 108, 108] = s
    · repeat (first | (refine G_id ?_; first | refine G_nil ?_ | refine G_plain rfl rfl ?_) | (refine X_id ?_; first | refine X_yl (Yl_move rfl rfl) rfl rfl ?_ | refine X_yl (Yl_assign rfl rfl) rfl rfl ?_ | refine X_yl (Yl_lss_t rfl rfl rfl (by omega)) rfl rfl ?_ | refine X_yl (Yl_indexAddr_arr rfl rfl rfl (by omega) (by omega)) rfl rfl ?_ | refine X_yl (Yl_load rfl rfl (hS.cellO 0 (by omega))) rfl rfl ?_ | refine X_yl (Yl_eqlStrT rfl rfl rfl (by assumption)) rfl rfl ?_) | (refine C_id ?_; first | refine C_seq ?_ | refine C_region ?_ | refine C_block ?_ | refine C_ret ?_ | refine C_skip ?_ | refine C_cond_t rfl ?_) | (refine E_id ?_; first | refine E_code ?_ | refine E_then_ret ?_ | refine E_blk_ret ?_ | refine E_ret1 rfl (Rv_tmp rfl) (Ret.mk ?_)))
      exact ⟨by rw [← h]; rfl, hS.drops⟩
    · repeat (first | (refine G_id ?_; first | refine G_nil ?_ | refine G_plain rfl rfl ?_) | (refine X_id ?_; first | refine X_yl (Yl_move rfl rfl) rfl rfl ?_ | refine X_yl (Yl_assign rfl rfl) rfl rfl ?_ | refine X_yl (Yl_lss_t rfl rfl rfl (by omega)) rfl rfl ?_ | refine X_yl (Yl_indexAddr_arr rfl rfl rfl (by omega) (by omega)) rfl rfl ?_ | refine X_yl (Yl_add rfl rfl rfl (w64 (by omega) (by omega))) rfl rfl ?_ | refine X_yl (Yl_load rfl rfl (hS.cellO 0 (by omega))) rfl rfl ?_ | refine X_yl (Yl_eqlStrF rfl rfl rfl (by assumption)) rfl rfl ?_) | (refine C_id ?_; first | refine C_seq ?_ | refine C_region ?_ | refine C_block ?_ | refine C_skip ?_ | refine C_cond_t rfl ?_ | refine C_cond_f rfl ?_) | (refine E_id ?_; first | refine E_code ?_ | refine E_blk_n ?_))
      refine E_round 1 ⟨rfl, rfl, rfl, rfl, trivial⟩ ⟨by omega, fun p hp => ?_, hS⟩ (by omega)
      have hp : p ∈ sorts.take 0 ++ [([105, 110, 115, 116, 97, 108, 108], 0)] := hp
      rcases List.mem_append.1 hp with hp | hp
      · exact hno p hp
      · rw [List.mem_singleton.1 hp]; exact h
  · by_cases h : [114, 101, 102, 114, 101, 115, 104] = s
    · repeat (first | (refine G_id ?_; first | refine G_nil ?_ | refine G_plain rfl rfl ?_) | (refine X_id ?_; first | refine X_yl (Yl_move rfl rfl) rfl rfl ?_ | refine X_yl (Yl_assign rfl rfl) rfl rfl ?_ | refine X_yl (Yl_lss_t rfl rfl rfl (by omega)) rfl rfl ?_ | refine X_yl (Yl_indexAddr_arr rfl rfl rfl (by omega) (by omega)) rfl rfl ?_ | refine X_yl (Yl_load rfl rfl (hS.cellO 1 (by omega))) rfl rfl ?_ | refine X_yl (Yl_eqlStrT rfl rfl rfl (by assumption)) rfl rfl ?_) | (refine C_id ?_; first | refine C_seq ?_ | refine C_region ?_ | refine C_block ?_ | refine C_ret ?_ | refine C_skip ?_ | refine C_cond_t rfl ?_) | (refine E_id ?_; first | refine E_code ?_ | refine E_then_ret ?_ | refine E_blk_ret ?_ | refine E_ret1 rfl (Rv_tmp rfl) (Ret.mk ?_)))
      exact ⟨by rw [← h]; rfl, hS.drops⟩
    · repeat (first | (refine G_id ?_; first | refine G_nil ?_ | refine G_plain rfl rfl ?_) | (refine X_id ?_; first | refine X_yl (Yl_move rfl rfl) rfl rfl ?_ | refine X_yl (Yl_assign rfl rfl) rfl rfl ?_ | refine X_yl (Yl_lss_t rfl rfl rfl (by omega)) rfl rfl ?_ | refine X_yl (Yl_indexAddr_arr rfl rfl rfl (by omega) (by omega)) rfl rfl ?_ | refine X_yl (Yl_add rfl rfl rfl (w64 (by omega) (by omega))) rfl rfl ?_ | refine X_yl (Yl_load rfl rfl (hS.cellO 1 (by omega))) rfl rfl ?_ | refine X_yl (Yl_eqlStrF rfl rfl rfl (by assumption)) rfl rfl ?_) | (refine C_id ?_; first | refine C_seq ?_ | refine C_region ?_ | refine C_block ?_ | refine C_skip ?_ | refine C_cond_t rfl ?_ | refine C_cond_f rfl ?_) | (refine E_id ?_; first | refine E_code ?_ | refine E_blk_n ?_))
      refine E_round 2 ⟨rfl, rfl, rfl, rfl, trivial⟩ ⟨by omega, fun p hp => ?_, hS⟩ (by omega)
      have hp : p ∈ sorts.take 1 ++ [([114, 101, 102, 114, 101, 115, 104], 0)] := hp
      rcases List.mem_append.1 hp with hp | hp
      · exact hno p hp
      · rw [List.mem_singleton.1 hp]; exact h
  · by_cases h : [114, 101, 118, 101, 114, 116] = s
    · repeat (first | (refine G_id ?_; first | refine G_nil ?_ | refine G_plain rfl rfl ?_) | (refine X_id ?_; first | refine X_yl (Yl_move rfl rfl) rfl rfl ?_ | refine X_yl (Yl_assign rfl rfl) rfl rfl ?_ | refine X_yl (Yl_lss_t rfl rfl rfl (by omega)) rfl rfl ?_ | refine X_yl (Yl_indexAddr_arr rfl rfl rfl (by omega) (by omega)) rfl rfl ?_ | refine X_yl (Yl_load rfl rfl (hS.cellO 2 (by omega))) rfl rfl ?_ | refine X_yl (Yl_eqlStrT rfl rfl rfl (by assumption)) rfl rfl ?_) | (refine C_id ?_; first | refine C_seq ?_ | refine C_region ?_ | refine C_block ?_ | refine C_ret ?_ | refine C_skip ?_ | refine C_cond_t rfl ?_) | (refine E_id ?_; first | refine E_code ?_ | refine E_then_ret ?_ | refine E_blk_ret ?_ | refine E_ret1 rfl (Rv_tmp rfl) (Ret.mk ?_)))
      exact ⟨by rw [← h]; rfl, hS.drops⟩
    · repeat (first | (refine G_id ?_; first | refine G_nil ?_ | refine G_plain rfl rfl ?_) | (refine X_id ?_; first | refine X_yl (Yl_move rfl rfl) rfl rfl ?_ | refine X_yl (Yl_assign rfl rfl) rfl rfl ?_ | refine X_yl (Yl_lss_t rfl rfl rfl (by omega)) rfl rfl ?_ | refine X_yl (Yl_indexAddr_arr rfl rfl rfl (by omega) (by omega)) rfl rfl ?_ | refine X_yl (Yl_add rfl rfl rfl (w64 (by omega) (by omega))) rfl rfl ?_ | refine X_yl (Yl_load rfl rfl (hS.cellO 2 (by omega))) rfl rfl ?_ | refine X_yl (Yl_eqlStrF rfl rfl rfl (by assumption)) rfl rfl ?_) | (refine C_id ?_; first | refine C_seq ?_ | refine C_region ?_ | refine C_block ?_ | refine C_skip ?_ | refine C_cond_t rfl ?_ | refine C_cond_f rfl ?_) | (refine E_id ?_; first | refine E_code ?_ | refine E_blk_n ?_))
      refine E_round 3 ⟨rfl, rfl, rfl, rfl, trivial⟩ ⟨by omega, fun p hp => ?_, hS⟩ (by omega)
      have hp : p ∈ sorts.take 2 ++ [([114, 101, 118, 101, 114, 116], 1)] := hp
      rcases List.mem_append.1 hp with hp | hp
      · exact hno p hp
      · rw [List.mem_singleton.1 hp]; exact h
  · by_cases h : [114, 101, 109, 111, 118, 101] = s
    · repeat (first | (refine G_id ?_; first | refine G_nil ?_ | refine G_plain rfl rfl ?_) | (refine X_id ?_; first | refine X_yl (Yl_move rfl rfl) rfl rfl ?_ | refine X_yl (Yl_assign rfl rfl) rfl rfl ?_ | refine X_yl (Yl_lss_t rfl rfl rfl (by omega)) rfl rfl ?_ | refine X_yl (Yl_indexAddr_arr rfl rfl rfl (by omega) (by omega)) rfl rfl ?_ | refine X_yl (Yl_load rfl rfl (hS.cellO 3 (by omega))) rfl rfl ?_ | refine X_yl (Yl_eqlStrT rfl rfl rfl (by assumption)) rfl rfl ?_) | (refine C_id ?_; first | refine C_seq ?_ | refine C_region ?_ | refine C_block ?_ | refine C_ret ?_ | refine C_skip ?_ | refine C_cond_t rfl ?_) | (refine E_id ?_; first | refine E_code ?_ | refine E_then_ret ?_ | refine E_blk_ret ?_ | refine E_ret1 rfl (Rv_tmp rfl) (Ret.mk ?_)))
      exact ⟨by rw [← h]; rfl, hS.drops⟩
    · repeat (first | (refine G_id ?_; first | refine G_nil ?_ | refine G_plain rfl rfl ?_) | (refine X_id ?_; first | refine X_yl (Yl_move rfl rfl) rfl rfl ?_ | refine X_yl (Yl_assign rfl rfl) rfl rfl ?_ | refine X_yl (Yl_lss_t rfl rfl rfl (by omega)) rfl rfl ?_ | refine X_yl (Yl_indexAddr_arr rfl rfl rfl (by omega) (by omega)) rfl rfl ?_ | refine X_yl (Yl_add rfl rfl rfl (w64 (by omega) (by omega))) rfl rfl ?_ | refine X_yl (Yl_load rfl rfl (hS.cellO 3 (by omega))) rfl rfl ?_ | refine X_yl (Yl_eqlStrF rfl rfl rfl (by assumption)) rfl rfl ?_) | (refine C_id ?_; first | refine C_seq ?_ | refine C_region ?_ | refine C_block ?_ | refine C_skip ?_ | refine C_cond_t rfl ?_ | refine C_cond_f rfl ?_) | (refine E_id ?_; first | refine E_code ?_ | refine E_blk_n ?_))
      refine E_round 4 ⟨rfl, rfl, rfl, rfl, trivial⟩ ⟨by omega, fun p hp => ?_, hS⟩ (by omega)
      have hp : p ∈ sorts.take 3 ++ [([114, 101, 109, 111, 118, 101], 1)] := hp
      rcases List.mem_append.1 hp with hp | hp
      · exact hno p hp
      · rw [List.mem_singleton.1 hp]; exact h
  · by_cases h : [99, 111, 110, 110, 101, 99, 116] = s
    · repeat (first | (refine G_id ?_; first | refine G_nil ?_ | refine G_plain rfl rfl ?_) | (refine X_id ?_; first | refine X_yl (Yl_move rfl rfl) rfl rfl ?_ | refine X_yl (Yl_assign rfl rfl) rfl rfl ?_ | refine X_yl (Yl_lss_t rfl rfl rfl (by omega)) rfl rfl ?_ | refine X_yl (Yl_indexAddr_arr rfl rfl rfl (by omega) (by omega)) rfl rfl ?_ | refine X_yl (Yl_eqlStrT rfl rfl rfl (by assumption)) rfl rfl ?_ | refine X_yl (Yl_load rfl rfl (hS.cellO 4 (by omega))) rfl rfl ?_) | (refine C_id ?_; first | refine C_seq ?_ | refine C_region ?_ | refine C_block ?_ | refine C_ret ?_ | refine C_skip ?_ | refine C_cond_t rfl ?_) | (refine E_id ?_; first | refine E_code ?_ | refine E_then_ret ?_ | refine E_blk_ret ?_ | refine E_ret1 rfl (Rv_tmp rfl) (Ret.mk ?_)))
      exact ⟨by rw [← h]; rfl, hS.drops⟩
    · repeat (first | (refine G_id ?_; first | refine G_nil ?_ | refine G_plain rfl rfl ?_) | (refine X_id ?_; first | refine X_yl (Yl_move rfl rfl) rfl rfl ?_ | refine X_yl (Yl_assign rfl rfl) rfl rfl ?_ | refine X_yl (Yl_lss_t rfl rfl rfl (by omega)) rfl rfl ?_ | refine X_yl (Yl_indexAddr_arr rfl rfl rfl (by omega) (by omega)) rfl rfl ?_ | refine X_yl (Yl_add rfl rfl rfl (w64 (by omega) (by omega))) rfl rfl ?_ | refine X_yl (Yl_eqlStrF rfl rfl rfl (by assumption)) rfl rfl ?_ | refine X_yl (Yl_load rfl rfl (hS.cellO 4 (by omega))) rfl rfl ?_) | (refine C_id ?_; first | refine C_seq ?_ | refine C_region ?_ | refine C_block ?_ | refine C_skip ?_ | refine C_cond_t rfl ?_ | refine C_cond_f rfl ?_) | (refine E_id ?_; first | refine E_code ?_ | refine E_blk_n ?_))
      refine E_round 5 ⟨rfl, rfl, rfl, rfl, trivial⟩ ⟨by omega, fun p hp => ?_, hS⟩ (by omega)
      have hp : p ∈ sorts.take 4 ++ [([99, 111, 110, 110, 101, 99, 116], 2)] := hp
      rcases List.mem_append.1 hp with hp | hp
      · exact hno p hp
      · rw [List.mem_singleton.1 hp]; exact h
  · by_cases h : [100, 105, 115, 99, 111, 110, 110, 101, 99, 116] = s
    · repeat (first | (refine G_id ?_; first | refine G_nil ?_ | refine G_plain rfl rfl ?_) | (refine X_id ?_; first | refine X_yl (Yl_move rfl rfl) rfl rfl ?_ | refine X_yl (Yl_assign rfl rfl) rfl rfl ?_ | refine X_yl (Yl_lss_t rfl rfl rfl (by omega)) rfl rfl ?_ | refine X_yl (Yl_indexAddr_arr rfl rfl rfl (by omega) (by omega)) rfl rfl ?_ | refine X_yl (Yl_eqlStrT rfl rfl rfl (by assumption)) rfl rfl ?_ | refine X_yl (Yl_load rfl rfl (hS.cellO 5 (by omega))) rfl rfl ?_) | (refine C_id ?_; first | refine C_seq ?_ | refine C_region ?_ | refine C_block ?_ | refine C_ret ?_ | refine C_skip ?_ | refine C_cond_t rfl ?_) | (refine E_id ?_; first | refine E_code ?_ | refine E_then_ret ?_ | refine E_blk_ret ?_ | refine E_ret1 rfl (Rv_tmp rfl) (Ret.mk ?_)))
      exact ⟨by rw [← h]; rfl, hS.drops⟩
    · repeat (first | (refine G_id ?_; first | refine G_nil ?_ | refine G_plain rfl rfl ?_) | (refine X_id ?_; first | refine X_yl (Yl_move rfl rfl) rfl rfl ?_ | refine X_yl (Yl_assign rfl rfl) rfl rfl ?_ | refine X_yl (Yl_lss_t rfl rfl rfl (by omega)) rfl rfl ?_ | refine X_yl (Yl_indexAddr_arr rfl rfl rfl (by omega) (by omega)) rfl rfl ?_ | refine X_yl (Yl_add rfl rfl rfl (w64 (by omega) (by omega))) rfl rfl ?_ | refine X_yl (Yl_eqlStrF rfl rfl rfl (by assumption)) rfl rfl ?_ | refine X_yl (Yl_load rfl rfl (hS.cellO 5 (by omega))) rfl rfl ?_) | (refine C_id ?_; first | refine C_seq ?_ | refine C_region ?_ | refine C_block ?_ | refine C_skip ?_ | refine C_cond_t rfl ?_ | refine C_cond_f rfl ?_) | (refine E_id ?_; first | refine E_code ?_ | refine E_blk_n ?_))
      refine E_round 6 ⟨rfl, rfl, rfl, rfl, trivial⟩ ⟨by omega, fun p hp => ?_, hS⟩ (by omega)
      have hp : p ∈ sorts.take 5 ++ [([100, 105, 115, 99, 111, 110, 110, 101, 99, 116], 2)] := hp
      rcases List.mem_append.1 hp with hp | hp
      · exact hno p hp
      · rw [List.mem_singleton.1 hp]; exact h
  · by_cases h : [105, 110, 102, 111] = s
    · repeat (first | (refine G_id ?_; first | refine G_nil ?_ | refine G_plain rfl rfl ?_) | (refine X_id ?_; first | refine X_yl (Yl_move rfl rfl) rfl rfl ?_ | refine X_yl (Yl_assign rfl rfl) rfl rfl ?_ | refine X_yl (Yl_lss_t rfl rfl rfl (by omega)) rfl rfl ?_ | refine X_yl (Yl_indexAddr_arr rfl rfl rfl (by omega) (by omega)) rfl rfl ?_ | refine X_yl (Yl_eqlStrT rfl rfl rfl (by assumption)) rfl rfl ?_ | refine X_yl (Yl_load rfl rfl (hS.cellO 6 (by omega))) rfl rfl ?_) | (refine C_id ?_; first | refine C_seq ?_ | refine C_region ?_ | refine C_block ?_ | refine C_ret ?_ | refine C_skip ?_ | refine C_cond_t rfl ?_) | (refine E_id ?_; first | refine E_code ?_ | refine E_then_ret ?_ | refine E_blk_ret ?_ | refine E_ret1 rfl (Rv_tmp rfl) (Ret.mk ?_)))
      exact ⟨by rw [← h]; rfl, hS.drops⟩
    · repeat (first | (refine G_id ?_; first | refine G_nil ?_ | refine G_plain rfl rfl ?_) | (refine X_id ?_; first | refine X_yl (Yl_move rfl rfl) rfl rfl ?_ | refine X_yl (Yl_assign rfl rfl) rfl rfl ?_ | refine X_yl (Yl_lss_t rfl rfl rfl (by omega)) rfl rfl ?_ | refine X_yl (Yl_indexAddr_arr rfl rfl rfl (by omega) (by omega)) rfl rfl ?_ | refine X_yl (Yl_add rfl rfl rfl (w64 (by omega) (by omega))) rfl rfl ?_ | refine X_yl (Yl_eqlStrF rfl rfl rfl (by assumption)) rfl rfl ?_ | refine X_yl (Yl_load rfl rfl (hS.cellO 6 (by omega))) rfl rfl ?_) | (refine C_id ?_; first | refine C_seq ?_ | refine C_region ?_ | refine C_block ?_ | refine C_skip ?_ | refine C_cond_t rfl ?_ | refine C_cond_f rfl ?_) | (refine E_id ?_; first | refine E_code ?_ | refine E_blk_n ?_))
      refine E_round 7 ⟨rfl, rfl, rfl, rfl, trivial⟩ ⟨by omega, fun p hp => ?_, hS⟩ (by omega)
      have hp : p ∈ sorts.take 6 ++ [([105, 110, 102, 111], 3)] := hp
      rcases List.mem_append.1 hp with hp | hp
      · exact hno p hp
      · rw [List.mem_singleton.1 hp]; exact h
  · by_cases h : [99, 111, 110, 110, 115] = s
    · repeat (first | (refine G_id ?_; first | refine G_nil ?_ | refine G_plain rfl rfl ?_) | (refine X_id ?_; first | refine X_yl (Yl_move rfl rfl) rfl rfl ?_ | refine X_yl (Yl_assign rfl rfl) rfl rfl ?_ | refine X_yl (Yl_lss_t rfl rfl rfl (by omega)) rfl rfl ?_ | refine X_yl (Yl_indexAddr_arr rfl rfl rfl (by omega) (by omega)) rfl rfl ?_ | refine X_yl (Yl_eqlStrT rfl rfl rfl (by assumption)) rfl rfl ?_ | refine X_yl (Yl_load rfl rfl (hS.cellO 7 (by omega))) rfl rfl ?_) | (refine C_id ?_; first | refine C_seq ?_ | refine C_region ?_ | refine C_block ?_ | refine C_ret ?_ | refine C_skip ?_ | refine C_cond_t rfl ?_) | (refine E_id ?_; first | refine E_code ?_ | refine E_then_ret ?_ | refine E_blk_ret ?_ | refine E_ret1 rfl (Rv_tmp rfl) (Ret.mk ?_)))
      exact ⟨by rw [← h]; rfl, hS.drops⟩
    · repeat (first | (refine G_id ?_; first | refine G_nil ?_ | refine G_plain rfl rfl ?_) | (refine X_id ?_; first | refine X_yl (Yl_move rfl rfl) rfl rfl ?_ | refine X_yl (Yl_assign rfl rfl) rfl rfl ?_ | refine X_yl (Yl_lss_t rfl rfl rfl (by omega)) rfl rfl ?_ | refine X_yl (Yl_indexAddr_arr rfl rfl rfl (by omega) (by omega)) rfl rfl ?_ | refine X_yl (Yl_add rfl rfl rfl (w64 (by omega) (by omega))) rfl rfl ?_ | refine X_yl (Yl_eqlStrF rfl rfl rfl (by assumption)) rfl rfl ?_ | refine X_yl (Yl_load rfl rfl (hS.cellO 7 (by omega))) rfl rfl ?_) | (refine C_id ?_; first | refine C_seq ?_ | refine C_region ?_ | refine C_block ?_ | refine C_skip ?_ | refine C_cond_t rfl ?_ | refine C_cond_f rfl ?_) | (refine E_id ?_; first | refine E_code ?_ | refine E_blk_n ?_))
      refine E_round 8 ⟨rfl, rfl, rfl, rfl, trivial⟩ ⟨by omega, fun p hp => ?_, hS⟩ (by omega)
      have hp : p ∈ sorts.take 7 ++ [([99, 111, 110, 110, 115], 3)] := hp
      rcases List.mem_append.1 hp with hp | hp
      · exact hno p hp
      · rw [List.mem_singleton.1 hp]; exact h
  · by_cases h : [97, 117, 100, 105, 116] = s
    · repeat (first | (refine G_id ?_; first | refine G_nil ?_ | refine G_plain rfl rfl ?_) | (refine X_id ?_; first | refine X_yl (Yl_move rfl rfl) rfl rfl ?_ | refine X_yl (Yl_assign rfl rfl) rfl rfl ?_ | refine X_yl (Yl_lss_t rfl rfl rfl (by omega)) rfl rfl ?_ | refine X_yl (Yl_indexAddr_arr rfl rfl rfl (by omega) (by omega)) rfl rfl ?_ | refine X_yl (Yl_eqlStrT rfl rfl rfl (by assumption)) rfl rfl ?_ | refine X_yl (Yl_load rfl rfl (hS.cellO 8 (by omega))) rfl rfl ?_) | (refine C_id ?_; first | refine C_seq ?_ | refine C_region ?_ | refine C_block ?_ | refine C_ret ?_ | refine C_skip ?_ | refine C_cond_t rfl ?_) | (refine E_id ?_; first | refine E_code ?_ | refine E_then_ret ?_ | refine E_blk_ret ?_ | refine E_ret1 rfl (Rv_tmp rfl) (Ret.mk ?_)))
      exact ⟨by rw [← h]; rfl, hS.drops⟩
    · repeat (first | (refine G_id ?_; first | refine G_nil ?_ | refine G_plain rfl rfl ?_) | (refine X_id ?_; first | refine X_yl (Yl_move rfl rfl) rfl rfl ?_ | refine X_yl (Yl_assign rfl rfl) rfl rfl ?_ | refine X_yl (Yl_lss_t rfl rfl rfl (by omega)) rfl rfl ?_ | refine X_yl (Yl_indexAddr_arr rfl rfl rfl (by omega) (by omega)) rfl rfl ?_ | refine X_yl (Yl_add rfl rfl rfl (w64 (by omega) (by omega))) rfl rfl ?_ | refine X_yl (Yl_eqlStrF rfl rfl rfl (by assumption)) rfl rfl ?_ | refine X_yl (Yl_load rfl rfl (hS.cellO 8 (by omega))) rfl rfl ?_) | (refine C_id ?_; first | refine C_seq ?_ | refine C_region ?_ | refine C_block ?_ | refine C_skip ?_ | refine C_cond_t rfl ?_ | refine C_cond_f rfl ?_) | (refine E_id ?_; first | refine E_code ?_ | refine E_blk_n ?_))
      refine E_round 9 ⟨rfl, rfl, rfl, rfl, trivial⟩ ⟨by omega, fun p hp => ?_, hS⟩ (by omega)
      have hp : p ∈ sorts.take 8 ++ [([97, 117, 100, 105, 116], 4)] := hp
      rcases List.mem_append.1 hp with hp | hp
      · exact hno p hp
      · rw [List.mem_singleton.1 hp]; exact h
  · by_cases h : [108, 105, 115, 116] = s
    · repeat (first | (refine G_id ?_; first | refine G_nil ?_ | refine G_plain rfl rfl ?_) | (refine X_id ?_; first | refine X_yl (Yl_move rfl rfl) rfl rfl ?_ | refine X_yl (Yl_assign rfl rfl) rfl rfl ?_ | refine X_yl (Yl_lss_t rfl rfl rfl (by omega)) rfl rfl ?_ | refine X_yl (Yl_indexAddr_arr rfl rfl rfl (by omega) (by omega)) rfl rfl ?_ | refine X_yl (Yl_eqlStrT rfl rfl rfl (by assumption)) rfl rfl ?_ | refine X_yl (Yl_load rfl rfl (hS.cellO 9 (by omega))) rfl rfl ?_) | (refine C_id ?_; first | refine C_seq ?_ | refine C_region ?_ | refine C_block ?_ | refine C_ret ?_ | refine C_skip ?_ | refine C_cond_t rfl ?_) | (refine E_id ?_; first | refine E_code ?_ | refine E_then_ret ?_ | refine E_blk_ret ?_ | refine E_ret1 rfl (Rv_tmp rfl) (Ret.mk ?_)))
      exact ⟨by rw [← h]; rfl, hS.drops⟩
    · repeat (first | (refine G_id ?_; first | refine G_nil ?_ | refine G_plain rfl rfl ?_) | (refine X_id ?_; first | refine X_yl (Yl_move rfl rfl) rfl rfl ?_ | refine X_yl (Yl_assign rfl rfl) rfl rfl ?_ | refine X_yl (Yl_lss_t rfl rfl rfl (by omega)) rfl rfl ?_ | refine X_yl (Yl_indexAddr_arr rfl rfl rfl (by omega) (by omega)) rfl rfl ?_ | refine X_yl (Yl_add rfl rfl rfl (w64 (by omega) (by omega))) rfl rfl ?_ | refine X_yl (Yl_eqlStrF rfl rfl rfl (by assumption)) rfl rfl ?_ | refine X_yl (Yl_load rfl rfl (hS.cellO 9 (by omega))) rfl rfl ?_) | (refine C_id ?_; first | refine C_seq ?_ | refine C_region ?_ | refine C_block ?_ | refine C_skip ?_ | refine C_cond_t rfl ?_ | refine C_cond_f rfl ?_) | (refine E_id ?_; first | refine E_code ?_ | refine E_blk_n ?_))
      refine E_round 10 ⟨rfl, rfl, rfl, rfl, trivial⟩ ⟨by omega, fun p hp => ?_, hS⟩ (by omega)
      have hp : p ∈ sorts.take 9 ++ [([108, 105, 115, 116], 5)] := hp
      rcases List.mem_append.1 hp with hp | hp
      · exact hno p hp
      · rw [List.mem_singleton.1 hp]; exact h
  · by_cases h : [118, 101, 114, 105, 102, 121] = s
    · repeat (first | (refine G_id ?_; first | refine G_nil ?_ | refine G_plain rfl rfl ?_) | (refine X_id ?_; first | refine X_yl (Yl_move rfl rfl) rfl rfl ?_ | refine X_yl (Yl_assign rfl rfl) rfl rfl ?_ | refine X_yl (Yl_lss_t rfl rfl rfl (by omega)) rfl rfl ?_ | refine X_yl (Yl_indexAddr_arr rfl rfl rfl (by omega) (by omega)) rfl rfl ?_ | refine X_yl (Yl_eqlStrT rfl rfl rfl (by assumption)) rfl rfl ?_ | refine X_yl (Yl_load rfl rfl (hS.cellO 10 (by omega))) rfl rfl ?_) | (refine C_id ?_; first | refine C_seq ?_ | refine C_region ?_ | refine C_block ?_ | refine C_ret ?_ | refine C_skip ?_ | refine C_cond_t rfl ?_) | (refine E_id ?_; first | refine E_code ?_ | refine E_then_ret ?_ | refine E_blk_ret ?_ | refine E_ret1 rfl (Rv_tmp rfl) (Ret.mk ?_)))
      exact ⟨by rw [← h]; rfl, hS.drops⟩
    · repeat (first | (refine G_id ?_; first | refine G_nil ?_ | refine G_plain rfl rfl ?_) | (refine X_id ?_; first | refine X_yl (Yl_move rfl rfl) rfl rfl ?_ | refine X_yl (Yl_assign rfl rfl) rfl rfl ?_ | refine X_yl (Yl_lss_t rfl rfl rfl (by omega)) rfl rfl ?_ | refine X_yl (Yl_indexAddr_arr rfl rfl rfl (by omega) (by omega)) rfl rfl ?_ | refine X_yl (Yl_add rfl rfl rfl (w64 (by omega) (by omega))) rfl rfl ?_ | refine X_yl (Yl_eqlStrF rfl rfl rfl (by assumption)) rfl rfl ?_ | refine X_yl (Yl_load rfl rfl (hS.cellO 10 (by omega))) rfl rfl ?_) | (refine C_id ?_; first | refine C_seq ?_ | refine C_region ?_ | refine C_block ?_ | refine C_skip ?_ | refine C_cond_t rfl ?_ | refine C_cond_f rfl ?_) | (refine E_id ?_; first | refine E_code ?_ | refine E_blk_n ?_))
      refine E_round 11 ⟨rfl, rfl, rfl, rfl, trivial⟩ ⟨by omega, fun p hp => ?_, hS⟩ (by omega)
      have hp : p ∈ sorts.take 10 ++ [([118, 101, 114, 105, 102, 121], 5)] := hp
      rcases List.mem_append.1 hp with hp | hp
      · exact hno p hp
      · rw [List.mem_singleton.1 hp]; exact h
  · repeat (first | (refine G_id ?_; first | refine G_nil ?_ | refine G_plain rfl rfl ?_) | (refine X_id ?_; first | refine X_yl (Yl_move rfl rfl) rfl rfl ?_ | refine X_yl (Yl_assign rfl rfl) rfl rfl ?_ | refine X_yl (Yl_lss_f rfl rfl rfl (by omega)) rfl rfl ?_) | (refine C_id ?_; first | refine C_seq ?_ | refine C_region ?_ | refine C_ret ?_ | refine C_exit ?_ | refine C_cond_f rfl ?_) | (refine E_id ?_; first | refine E_code ?_ | refine E_then_exit ?_ | refine E_blk_same ?_ | refine E_ret1 rfl (Rv_tmp rfl) (Ret.mk ?_)))
    refine ⟨?_, hS.drops⟩
    have hn : sort s = none := by
      unfold sort
      rw [List.find?_eq_none.2 (fun p hp => by simpa using hno p hp)]
      rfl
    unfold sortN
    rw [hn]
end Cr
namespace Cr
open Go Go.Proofs
set_option maxRecDepth 100000
set_option maxHeartbeats 2000000
attribute [local irreducible] Calls

/-- An array of zeros. -/
theorem Yl_buildArr0 {P : Program} {o : Oper} {σ : Env} {w : World} {t e : TypeId} {z : Value} {n size N m : Nat} (ho : o.op = .build t #[]) [h : Und P t (.array n e)] [hs : Siz P e size] [hi : Inf P t z N m] : Yl P o σ w (.agg z.cells) := ⟨fun N' ds a ha => by
  obtain ⟨i, hi', hz', hsz, _⟩ := info_parts hi.inf
  have hze : (zeroValue t).run P w = .ok z w := by simp [zeroValue, typeInfo, hi', hz']
  have hb : (Instr.build t #[]).run P w = .ok (.agg z.cells) w := by
    unfold Instr.build
    rw [Sem.run_bind, hze]
    show (underlying t >>= _ : Sem _).run P w = _
    rw [Sem.run_bind, run_underlying h.und]
    show (Go.sizeOf _ >>= _ : Sem _).run P w = _
    rw [Sem.run_bind, run_sizeOf]
    simp [Result.andThen, Instr.fill]
  simp [execOp, ho, hb]⟩
theorem refcheck_ (c : Cmd) (ab : Option Addr) (q : Nat) (W : World) : Calls Tryd.prog 10 #[.agg (c.cells (.slice ab c.arch.length q)).toArray] W (Ret fun v w => v = .int .i64 (chk c : Nat) ∧ St W noF [] w) := by
  have hS := St.start W
  have hsrt := sort_ c.word
  refine calls_C Tryd.func10 rfl Tryd.ntmps10 rfl ?_
  cases hk : sort c.word with
  | none =>
    have e1 : sortN c.word = -1 := by unfold sortN; rw [hk]
    have e3 : chk c = 1 := by unfold chk; rw [hk]
    rw [e1] at hsrt
    rw [e3]
    repeat (first | (refine G_id ?_; first | refine G_nil ?_ | refine G_plain rfl rfl ?_) | (refine X_id ?_; first | (refine X_callq 29 rfl rfl rfl rfl rfl hS (hsrt _) ?_; rintro _ _ rfl hS) | refine X_yl (Yl_move rfl rfl) rfl rfl ?_ | refine X_yl (Yl_assign rfl rfl) rfl rfl ?_ | refine X_yl (Yl_fieldAddr0 rfl rfl rfl) rfl rfl ?_ | refine X_yl (Yl_lss_t rfl rfl rfl (by omega)) rfl rfl ?_ | refine X_yl (Yl_load rfl rfl hS.cell) rfl rfl ?_ | refine X_box rfl rfl rfl rfl hS (fun _ _ hS _ => ?_)) | (refine C_id ?_; first | refine C_seq ?_ | refine C_region ?_ | refine C_ret ?_ | refine C_cond_t rfl ?_) | (refine E_id ?_; first | refine E_code ?_ | refine E_then_ret ?_ | refine E_ret1 rfl (Rv_tmp rfl) (Ret.mk ?_)))
    exact ⟨rfl, hS.drops⟩
  | some k =>
    have e1 : sortN c.word = (k : Int) := by unfold sortN; rw [hk]
    rw [e1] at hsrt
    have hk5 := sort_lt hk
    repeat (first | (refine G_id ?_; first | refine G_nil ?_ | refine G_plain rfl rfl ?_) | (refine X_id ?_; first | refine X_yl (Yl_assign rfl rfl) rfl rfl ?_ | refine X_yl (Yl_fieldAddr0 rfl rfl rfl) rfl rfl ?_ | refine X_yl (Yl_load rfl rfl hS.cell) rfl rfl ?_ | refine X_box rfl rfl rfl rfl hS (fun _ _ hS _ => ?_)) | (refine C_id ?_; first | refine C_seq ?_ | refine C_region ?_) | (refine E_id ?_; first | refine E_code ?_))
    refine X_callq 29 rfl rfl rfl rfl rfl hS (hsrt _) ?_
    rintro _ w rfl hS
    have hfin : ∀ r : Int, r = refChk c → Value.int .i64 r = .int .i64 (chk c : Nat) := fun r h => by rw [h, refChk_eq]
    unfold refChk at hfin
    rw [e1] at hfin
    have hk6 : k = 0 ∨ k = 1 ∨ k = 2 ∨ k = 3 ∨ k = 4 ∨ k = 5 := by omega
    clear hsrt e1 hk hk5
    rcases hk6 with rfl | rfl | rfl | rfl | rfl | rfl
    all_goals
      repeat' (first | (refine X_yl (Yl_buildArr0 rfl) rfl rfl ?_) | (refine X_yl (Yl_neq2 rfl rfl rfl) rfl rfl ?_) | (refine X_yl (Yl_neq3 rfl rfl rfl) rfl rfl ?_) | (refine G_id ?_; first | refine G_nil ?_ | refine G_plain rfl rfl ?_ | refine G_yes rfl rfl rfl rfl ?_ | refine G_no rfl rfl rfl rfl rfl rfl ?_ | refine G_no_undef rfl rfl rfl rfl rfl ?_) | (refine X_id ?_; first | refine X_yl (Yl_move rfl rfl) rfl rfl ?_ | refine X_yl (Yl_assign rfl rfl) rfl rfl ?_ | refine X_yl (Yl_fieldAddr0 rfl rfl rfl) rfl rfl ?_ | refine X_yl (Yl_pick_t rfl rfl rfl) rfl rfl ?_ | refine X_yl (Yl_pick_f rfl rfl rfl) rfl rfl ?_ | refine X_yl (Yl_len rfl rfl) rfl rfl ?_ | refine X_yl (Yl_neq_t rfl rfl rfl (by omega)) rfl rfl ?_ | refine X_yl (Yl_neq_f rfl rfl rfl (by omega)) rfl rfl ?_ | refine X_yl (Yl_lss_f rfl rfl rfl (by omega)) rfl rfl ?_ | refine X_yl (Yl_gtr_t rfl rfl rfl (by omega)) rfl rfl ?_ | refine X_yl (Yl_gtr_f rfl rfl rfl (by omega)) rfl rfl ?_ | refine X_yl (Yl_neq rfl rfl rfl) rfl rfl ?_ | refine X_yl (Yl_gtr rfl rfl rfl) rfl rfl ?_ | refine X_yl (Yl_load rfl rfl hS.cell) rfl rfl ?_ | refine X_yl (Yl_loadN rfl rfl hS.cellsN) rfl rfl ?_ | refine X_yl (Yl_neqStr rfl rfl rfl) rfl rfl ?_) | (refine C_id ?_; first | refine C_seq ?_ | refine C_region ?_ | refine C_ret ?_ | refine C_skip ?_ | refine C_cond_t rfl ?_ | refine C_cond_f rfl ?_) | (refine E_id ?_; first | refine E_code ?_ | refine E_then_ret ?_ | refine E_ret1 rfl (Rv_tmp rfl) (Ret.mk ?_)) | (refine G_split (d := 11) rfl ?_ ?_ <;> intro hd) | (refine G_split (d := 15) rfl ?_ ?_ <;> intro hd) | (refine G_split (d := 22) rfl ?_ ?_ <;> intro hd) | (refine G_split (d := 25) rfl ?_ ?_ <;> intro hd) | (refine G_split (d := 29) rfl ?_ ?_ <;> intro hd) | (refine G_split (d := 35) rfl ?_ ?_ <;> intro hd) | (refine G_split (d := 38) rfl ?_ ?_ <;> intro hd) | (refine G_split (d := 44) rfl ?_ ?_ <;> intro hd) | (refine G_split (d := 51) rfl ?_ ?_ <;> intro hd) | (refine G_split (d := 56) rfl ?_ ?_ <;> intro hd) | (refine G_split (d := 63) rfl ?_ ?_ <;> intro hd) | (refine G_split (d := 66) rfl ?_ ?_ <;> intro hd) | (refine G_split (d := 71) rfl ?_ ?_ <;> intro hd) | (refine C_cond_dec rfl ?_ ?_ <;> intro hd))
      all_goals
        refine ⟨hfin _ ?_, hS.drops⟩
        clear hfin
        simp_all
end Cr
namespace Cr
open Go Go.Proofs
set_option maxRecDepth 100000
set_option maxHeartbeats 8000000
attribute [local irreducible] Calls

theorem Yl_minN {P : Program} {o : Oper} {σ : Env} {w : World} {x y : Operand} {ts : Array TypeId} {m n T : Nat} (ho : o.op = .call { callee := .builtin .min, args := #[x, y], argTypes := ts }) (hx : ev σ x = some (.int .i64 (m : Nat))) (hy : ev σ y = some (.int .i64 (n : Nat))) (hT : min m n = T) : Yl P o σ w (.int .i64 (T : Nat)) := ⟨fun N ds a ha => by
  simp [execOp, ho, resolve, invoke, builtin, ha.eval hx, ha.eval hy, Builtin.min_, Builtin.min2]
  rw [← hT]
  split <;> omega⟩
theorem creads_ (a : Option Addr) (s0 : List UInt8) (c0 : Nat) (W : World) (hsc : s0.length ≤ c0) (hb0 : Ro W noF (bytes a s0)) (hG : Lg W noF) :
    Calls Tryd.prog 4 #[.slice a s0.length c0] W (Ret fun v w => v = .bool true ∧ St W noF [] w) := by
  have hS := St.start W
  obtain ⟨T, hT⟩ : ∃ T, min s0.length 600 = T := ⟨_, rfl⟩
  have hb := hb0.subBytes (l := 0) (h := T) (c := c0) (by omega) (by omega)
  obtain ⟨s, hs⟩ : ∃ s, s = (s0.drop 0).take (T - 0) := ⟨_, rfl⟩
  rw [← hs, sub_zero] at hb
  have hsl : T = s.length := by rw [hs]; simp; omega
  have hsb : s.length ≤ 600 := by omega
  have hK := fun W h => known29_ W h
  have hD := decode_m a s c0 (by omega) (by omega)
  refine calls_C Tryd.func4 rfl Tryd.ntmps4 rfl ?_
  repeat (first | (refine G_id ?_; first | refine G_nil ?_ | refine G_plain rfl rfl ?_) | (refine X_id ?_; first | refine X_yl (Yl_move rfl rfl) rfl rfl ?_ | refine X_yl (Yl_assign rfl rfl) rfl rfl ?_ | refine X_yl (Yl_len rfl rfl) rfl rfl ?_) | (refine C_id ?_; first | refine C_seq ?_ | refine C_region ?_) | (refine E_id ?_; first | refine E_code ?_))
  refine X_yl (Yl_minN (m := s0.length) (n := 600) rfl rfl rfl hT) rfl rfl ?_
  refine G_plain rfl rfl ?_
  refine X_yl (Yl_slice (l := 0) (h := T) rfl rfl rfl rfl (.inr ⟨_, _, rfl, by omega, by omega, by omega⟩) (.inl ⟨rfl, rfl⟩)) rfl rfl ?_
  rw [sub_zero, Nat.sub_zero, Nat.sub_zero, hsl]
  clear hs hsl hT
  repeat (first | (refine G_id ?_; first | refine G_nil ?_ | refine G_plain rfl rfl ?_) | (refine X_id ?_; first | refine X_yl (Yl_move rfl rfl) rfl rfl ?_ | refine X_yl (Yl_assign rfl rfl) rfl rfl ?_) | (refine C_id ?_; first | refine C_seq ?_ | refine C_region ?_) | (refine E_id ?_; first | refine E_code ?_))
  cases hr : (dec s).bind readT with
  | none =>
    rw [hr] at hD
    refine X_callg _ rfl rfl rfl rfl rfl (hD _ (hG.at_ hS) (hb.rd hS).ro) ?_
    rintro _ w ⟨rfl, hS'⟩
    replace hS := hS.plus hS'
    clear hS'
    have hsm := fun W => same_m (Cmd.blank []) (Cmd.blank []) none none 0 0 W (Ro_nil _ _ _) (Ro_nil _ _ _)
    simp only [decide_true] at hsm
    repeat (first | (refine G_id ?_; first | refine G_nil ?_ | refine G_plain rfl rfl ?_ | refine G_yes rfl rfl rfl rfl ?_) | (refine X_id ?_; first | (refine X_callq 13 rfl rfl rfl rfl rfl hS (hK _ (hG.at_ hS)) ?_; rintro _ _ rfl hS) | (refine X_callq 12 rfl rfl rfl rfl rfl hS (hsm _) ?_; rintro _ _ rfl hS) | refine X_yl (Yl_move rfl rfl) rfl rfl ?_ | refine X_yl (Yl_assign rfl rfl) rfl rfl ?_ | refine X_yl (Yl_extract rfl rfl) rfl rfl ?_ | refine X_yl (Yl_pick_t rfl rfl rfl) rfl rfl ?_ | refine X_yl (Yl_eql_t rfl rfl rfl (by omega)) rfl rfl ?_ | refine X_yl (Yl_neq_t rfl rfl rfl (by omega)) rfl rfl ?_ | refine X_yl (Yl_build rfl rfl rfl) rfl rfl ?_ | refine X_yl (Yl_loadN rfl rfl hS.cellsN) rfl rfl ?_ | refine X_store rfl rfl rfl rfl hS (fun _ hS _ => ?_) | refine X_alloc rfl rfl rfl hS (fun _ _ hS _ => ?_)) | (refine C_id ?_; first | refine C_seq ?_ | refine C_region ?_ | refine C_ret ?_ | refine C_cond_t rfl ?_) | (refine E_id ?_; first | refine E_code ?_ | refine E_then_ret ?_ | refine E_ret1 rfl (Rv_tmp rfl) (Ret.mk ?_)))
    exact ⟨rfl, hS.drops⟩
  | some d =>
    rw [hr] at hD
    obtain ⟨t, ht, htr⟩ : ∃ t, dec s = some t ∧ readT t = some d := by
      cases h : dec s with
      | none => rw [h] at hr; cases hr
      | some t => rw [h] at hr; exact ⟨t, rfl, hr⟩
    obtain ⟨x, rfl⟩ : ∃ x, t = .list x := by
      cases t with
      | leaf y => cases htr
      | list x => exact ⟨x, rfl⟩
    have hrc : readC x = some d := htr
    obtain ⟨hlx, hok, _⟩ := readC_spec hrc
    have henc : s = encT d.leaves := by rw [hlx]; exact dec_canon ht (readC_fits_ne hrc)
    obtain ⟨hsmall, hints⟩ := read_small ht hrc (by omega)
    have hsame := fun (b : Option Addr) (q : Nat) => same_ a b c0 q s s
    simp only [decide_true] at hsame
    refine X_callg _ rfl rfl rfl rfl rfl (hD _ (hG.at_ hS) (hb.rd hS).ro) ?_
    rintro _ w ⟨b, q, rfl, hS'⟩
    replace hS := hS.plus hS'
    clear hS' hD
    have hE := fun W h1 h2 => encode_ok d b q W h1 hsmall hints hok (by rw [← henc]; omega) h2
    rw [← henc] at hE
    have hC := fun W h1 => check_m d b q W h1 hsmall
    rw [hok] at hC
    have hO := fun W => of_m d b d.arch.length q W
    have hR := fun W => refcheck_ d b q W
    rw [hok] at hR
    repeat (first | (refine G_id ?_; first | refine G_nil ?_ | refine G_plain rfl rfl ?_) | (refine X_id ?_; first | refine X_yl (Yl_move rfl rfl) rfl rfl ?_ | refine X_yl (Yl_assign rfl rfl) rfl rfl ?_ | refine X_yl (Yl_extract rfl rfl) rfl rfl ?_ | refine X_yl (Yl_neq_f rfl rfl rfl (by omega)) rfl rfl ?_ | refine X_yl (Yl_loadN rfl rfl hS.cellsN) rfl rfl ?_ | refine X_store rfl rfl rfl rfl hS (fun _ hS _ => ?_) | refine X_alloc rfl rfl rfl hS (fun _ _ hS _ => ?_)) | (refine C_id ?_; first | refine C_seq ?_ | refine C_region ?_ | refine C_skip ?_ | refine C_cond_f rfl ?_) | (refine E_id ?_; first | refine E_code ?_))
    refine X_callg _ rfl rfl rfl rfl rfl (hE _ (hS.rd (r := bytes b d.arch) (by simp)).ro (hG.at_ hS)) ?_
    rintro _ w ⟨b2, q2, rfl, hq2, hS'⟩
    replace hS := hS.plus hS'
    clear hS' hE
    repeat (first | (refine G_id ?_; first | refine G_nil ?_ | refine G_plain rfl rfl ?_ | refine G_yes rfl rfl rfl rfl ?_) | (refine X_id ?_; first | (refine X_callq 13 rfl rfl rfl rfl rfl hS (hK _ (hG.at_ hS)) ?_; rintro _ _ rfl hS) | (refine X_callq 11 rfl rfl rfl rfl rfl hS (hC _ (hS.rd (r := bytes b d.arch) (by simp)).ro) ?_; rintro _ _ rfl hS) | (refine X_callq 8 rfl rfl rfl rfl rfl hS (hO _) ?_; rintro _ _ rfl hS) | (refine X_callq 10 rfl rfl rfl rfl rfl hS (hR _) ?_; rintro _ _ rfl hS) | (refine X_callq 15 rfl rfl rfl rfl rfl hS (hsame b2 q2 _ (hb.rd hS) (hS.rd (List.mem_cons_self ..)).own_row (by omega)) ?_; rintro _ _ rfl hS) | refine X_yl (Yl_move rfl rfl) rfl rfl ?_ | refine X_yl (Yl_assign rfl rfl) rfl rfl ?_ | refine X_yl (Yl_extract rfl rfl) rfl rfl ?_ | refine X_yl (Yl_pick_t rfl rfl rfl) rfl rfl ?_ | refine X_yl (Yl_eql_t rfl rfl rfl (by omega)) rfl rfl ?_ | refine X_yl (Yl_loadN rfl rfl hS.cellsN) rfl rfl ?_) | (refine C_id ?_; first | refine C_seq ?_ | refine C_region ?_ | refine C_ret ?_) | (refine E_id ?_; first | refine E_code ?_ | refine E_ret1 rfl (Rv_tmp rfl) (Ret.mk ?_)))
    exact ⟨rfl, hS.drops⟩
end Cr
namespace Cr
open Go Go.Proofs
set_option maxRecDepth 100000
set_option maxHeartbeats 2000000
attribute [local irreducible] Calls

def tens : List UInt8 := [48, 49, 50, 51, 52, 53, 54, 55, 56, 57]
theorem tens_at : ∀ d : Fin 10, (tens.drop d.val).take (d.val + 1 - d.val) = [UInt8.ofNat (48 + d.val)] := by decide
theorem tens_at' {d : Nat} (h : d < 10) : (tens.drop d).take (d + 1 - d) = [UInt8.ofNat (48 + d)] := tens_at ⟨d, h⟩
theorem tmod_neg (m : Nat) : (-(m : Int)).tmod 10 = -((m % 10 : Nat) : Int) := by
  rw [Int.neg_tmod, Int.tmod_eq_emod_of_nonneg (by omega)]; omega
theorem tdiv_neg (m : Nat) : (-(m : Int)).tdiv 10 = -((m / 10 : Nat) : Int) := by
  rw [Int.neg_tdiv, Int.tdiv_eq_ediv_of_nonneg (by omega)]; omega
theorem dec_big {m : Nat} (h : ¬ m < 10) : Lib.decDigits m = Lib.decDigits (m / 10) ++ [UInt8.ofNat (48 + m % 10)] := by
  rw [Lib.decDigits, dif_neg h]
theorem dec_len (k : Nat) : ∀ m, m < 10 ^ (k + 1) → (Lib.decDigits m).length ≤ k + 1 := by
  induction k with
  | zero => intro m h; rw [Lib.decDigits_one (by omega)]; simp
  | succ k ih =>
    intro m h
    by_cases h10 : m < 10
    · rw [Lib.decDigits_one h10]; simp
    · rw [dec_big h10]
      have := ih (m / 10) (by rw [Nat.pow_succ] at h; omega)
      simp; omega
theorem itoa_len {n : Int} (h0 : -9223372036854775808 ≤ n) (h1 : n ≤ 9223372036854775807) : (Lib.itoa n).length ≤ 20 := by
  unfold Lib.itoa
  split
  · have := dec_len 18 n.natAbs (by rw [show (10 : Nat) ^ (18 + 1) = 10000000000000000000 from rfl]; omega)
    simp; omega
  · have := dec_len 18 n.toNat (by rw [show (10 : Nat) ^ (18 + 1) = 10000000000000000000 from rfl]; omega)
    omega
theorem Number_ (n : Int) (W : World) (h0 : -9223372036854775808 ≤ n) (h1 : n ≤ 9223372036854775807) : Calls Tryd.prog 44 #[.int .i64 n] W (Ret fun v w => v = .string (str (Lib.itoa n)) ∧ St W noF [] w) := by
  have hS := St.start W
  by_cases hn : n < 0
  · obtain ⟨M, hM⟩ : ∃ M : Nat, n = -(M : Int) := ⟨n.natAbs, by omega⟩
    have hM1 : 1 ≤ M := by omega
    have hfin : Lib.itoa n = [45] ++ Lib.decDigits M := by rw [hM, itoa_neg hM1]; rfl
    rw [hfin]
    have hlen : (Lib.decDigits M).length ≤ 19 := dec_len 18 M (by rw [show (10 : Nat) ^ (18 + 1) = 10000000000000000000 from rfl]; omega)
    subst hM
    refine calls_C Tryd.func44 rfl Tryd.ntmps44 rfl ?_
    repeat (first | (refine G_id ?_; first | refine G_nil ?_ | refine G_plain rfl rfl ?_) | (refine X_id ?_; first | refine X_yl (Yl_move rfl rfl) rfl rfl ?_ | refine X_yl (Yl_assign rfl rfl) rfl rfl ?_ | refine X_yl (Yl_lss_t rfl rfl rfl (by omega)) rfl rfl ?_) | (refine C_id ?_; first | refine C_seq ?_ | refine C_region ?_ | refine C_block ?_) | (refine E_id ?_; first | refine E_code ?_))
    refine C_joinB (α := Unit) (fun _ => [(3, .string (str (Lib.decDigits M))), (4, .bool true)]) (fun _ w => St W noF [] w) ?_ ?_
    · refine C_loop (α := Nat × List UInt8) (fun z => [(0, .int .i64 (-(z.1 : Nat) : Int)), (3, .string (str z.2)), (4, .bool true)])
        (fun z w => 1 ≤ z.1 ∧ z.1 ≤ M ∧ Lib.decDigits M = Lib.decDigits z.1 ++ z.2 ∧ St W noF [] w) (fun z => z.1) (M, []) ⟨rfl, rfl, rfl, trivial⟩ ⟨hM1, Nat.le_refl _, by simp, hS⟩ ?_
      clear hS
      rintro ⟨m, s⟩ w ⟨hm1, hmM, hs, hS⟩
      simp only at hm1 hmM hs hS
      have em := tmod_neg m
      have ed : IntKind.i64.wrap ((-(m : Int)).tdiv 10) = -((m / 10 : Nat) : Int) := by rw [tdiv_neg]; exact w64 (by omega) (by omega)
      have en : IntKind.i64.wrap (0 - -((m % 10 : Nat) : Int)) = ((m % 10 : Nat) : Int) := by rw [w64 (by omega) (by omega)]; omega
      have hsl := congrArg List.length hs
      rw [List.length_append] at hsl
      have ht := tens_at' (d := m % 10) (by omega)
      have hnew : Lib.decDigits M = (if m < 10 then [] else Lib.decDigits (m / 10)) ++ ([UInt8.ofNat (48 + m % 10)] ++ s) := by
        rw [hs]
        by_cases h : m < 10
        · rw [if_pos h, Lib.decDigits_one h, Nat.mod_eq_of_lt h]; rfl
        · rw [if_neg h, dec_big h, List.append_assoc]
      by_cases hz : m % 10 = 0
      case' pos =>
        repeat' (first | (refine X_yl (Yl_rem (v := -((m % 10 : Nat) : Int)) rfl rfl rfl (by omega) em) rfl rfl ?_) | (refine X_yl (Yl_neg (v := ((m % 10 : Nat) : Int)) rfl rfl en) rfl rfl ?_) | (refine X_yl (Yl_quo (v := -((m / 10 : Nat) : Int)) rfl rfl rfl (by omega) ed) rfl rfl ?_) | refine GO_alt ?_ ?_ | (refine G_id ?_; first | refine G_nil ?_ | refine G_plain rfl rfl ?_) | (refine X_id ?_; first | refine X_yl (Yl_move rfl rfl) rfl rfl ?_ | refine X_yl (Yl_assign rfl rfl) rfl rfl ?_ | refine X_yl (Yl_lss_f rfl rfl rfl (by omega)) rfl rfl ?_ | refine X_yl (Yl_add rfl rfl rfl (w64 (by omega) (by omega))) rfl rfl ?_) | (refine C_id ?_; first | refine C_seq ?_ | refine C_region ?_ | refine C_block ?_ | refine C_skip ?_ | refine C_cond_f rfl ?_) | (refine E_id ?_; first | refine E_code ?_))
        refine X_yl (Yl_sliceStr (s := tens) (l := m % 10) (h := m % 10 + 1) rfl rfl rfl rfl (.inr ⟨_, _, rfl, by omega, by omega, by show _ ≤ 10; omega⟩) (.inr ⟨_, _, rfl, by omega, by omega, by omega⟩)) rfl rfl ?_
        rw [ht]
      case' neg =>
        repeat' (first | (refine X_yl (Yl_rem (v := -((m % 10 : Nat) : Int)) rfl rfl rfl (by omega) em) rfl rfl ?_) | (refine X_yl (Yl_neg (v := ((m % 10 : Nat) : Int)) rfl rfl en) rfl rfl ?_) | (refine X_yl (Yl_quo (v := -((m / 10 : Nat) : Int)) rfl rfl rfl (by omega) ed) rfl rfl ?_) | refine GO_alt ?_ ?_ | (refine G_id ?_; first | refine G_nil ?_ | refine G_plain rfl rfl ?_) | (refine X_id ?_; first | refine X_yl (Yl_move rfl rfl) rfl rfl ?_ | refine X_yl (Yl_assign rfl rfl) rfl rfl ?_ | refine X_yl (Yl_lss_t rfl rfl rfl (by omega)) rfl rfl ?_ | refine X_yl (Yl_add rfl rfl rfl (w64 (by omega) (by omega))) rfl rfl ?_) | (refine C_id ?_; first | refine C_seq ?_ | refine C_region ?_ | refine C_block ?_ | refine C_cond_t rfl ?_) | (refine E_id ?_; first | refine E_code ?_))
        refine X_yl (Yl_sliceStr (s := tens) (l := m % 10) (h := m % 10 + 1) rfl rfl rfl rfl (.inr ⟨_, _, rfl, by omega, by omega, by show _ ≤ 10; omega⟩) (.inr ⟨_, _, rfl, by omega, by omega, by omega⟩)) rfl rfl ?_
        rw [ht]
      all_goals
        by_cases h : m < 10
        · rw [if_pos h] at hnew
          repeat' (first | (refine X_yl (Yl_rem (v := -((m % 10 : Nat) : Int)) rfl rfl rfl (by omega) em) rfl rfl ?_) | (refine X_yl (Yl_neg (v := ((m % 10 : Nat) : Int)) rfl rfl en) rfl rfl ?_) | (refine X_yl (Yl_quo (v := -((m / 10 : Nat) : Int)) rfl rfl rfl (by omega) ed) rfl rfl ?_) | refine GO_alt ?_ ?_ | (refine G_id ?_; first | refine G_nil ?_ | refine G_plain rfl rfl ?_) | (refine X_id ?_; first | refine X_yl (Yl_move rfl rfl) rfl rfl ?_ | refine X_yl (Yl_assign rfl rfl) rfl rfl ?_ | refine X_yl (Yl_eql_t rfl rfl rfl (by omega)) rfl rfl ?_ | refine X_yl (Yl_addStr rfl rfl rfl (by first | omega | (simp; omega))) rfl rfl ?_) | (refine C_id ?_; first | refine C_seq ?_ | refine C_region ?_ | refine C_exit ?_ | refine C_cond_t rfl ?_) | (refine E_id ?_; first | refine E_code ?_ | refine E_then_exit ?_ | refine E_blk_same ?_ | refine E_blk_ne rfl ?_))
          rw [List.nil_append] at hnew
          exact E_mid () ⟨by rw [hnew]; rfl, rfl, trivial⟩ hS
        · rw [if_neg h] at hnew
          repeat' (first | (refine X_yl (Yl_rem (v := -((m % 10 : Nat) : Int)) rfl rfl rfl (by omega) em) rfl rfl ?_) | (refine X_yl (Yl_neg (v := ((m % 10 : Nat) : Int)) rfl rfl en) rfl rfl ?_) | (refine X_yl (Yl_quo (v := -((m / 10 : Nat) : Int)) rfl rfl rfl (by omega) ed) rfl rfl ?_) | refine GO_alt ?_ ?_ | (refine G_id ?_; first | refine G_nil ?_ | refine G_plain rfl rfl ?_) | (refine X_id ?_; first | refine X_yl (Yl_move rfl rfl) rfl rfl ?_ | refine X_yl (Yl_assign rfl rfl) rfl rfl ?_ | refine X_yl (Yl_eql_f rfl rfl rfl (by omega)) rfl rfl ?_ | refine X_yl (Yl_addStr rfl rfl rfl (by first | omega | (simp; omega))) rfl rfl ?_) | (refine C_id ?_; first | refine C_seq ?_ | refine C_region ?_ | refine C_skip ?_ | refine C_cond_f rfl ?_) | (refine E_id ?_; first | refine E_code ?_ | refine E_blk_n ?_))
          exact E_round (z := (m, s)) (m / 10, [UInt8.ofNat (48 + m % 10)] ++ s) ⟨rfl, rfl, rfl, trivial⟩ ⟨by omega, by omega, hnew, hS⟩ (by dsimp only; omega)
    · clear hS
      rintro _ w hS
      repeat (first | (refine G_id ?_; first | refine G_nil ?_ | refine G_plain rfl rfl ?_) | (refine X_id ?_; first | refine X_yl (Yl_move rfl rfl) rfl rfl ?_ | refine X_yl (Yl_assign rfl rfl) rfl rfl ?_ | refine X_yl (Yl_addStr rfl rfl rfl (by first | omega | (simp; omega))) rfl rfl ?_) | (refine C_id ?_; first | refine C_seq ?_ | refine C_region ?_ | refine C_ret ?_ | refine C_cond_t rfl ?_) | (refine E_id ?_; first | refine E_code ?_ | refine E_ret1 rfl (Rv_tmp rfl) (Ret.mk ?_)))
      exact ⟨rfl, hS⟩
  · obtain ⟨M, hM⟩ : ∃ M : Nat, n = (M : Int) := ⟨n.toNat, by omega⟩
    have hfin : Lib.itoa n = Lib.decDigits M := by rw [hM, itoa_nat]
    rw [hfin]
    have hlen : (Lib.decDigits M).length ≤ 19 := dec_len 18 M (by rw [show (10 : Nat) ^ (18 + 1) = 10000000000000000000 from rfl]; omega)
    subst hM
    refine calls_C Tryd.func44 rfl Tryd.ntmps44 rfl ?_
    repeat (first | (refine G_id ?_; first | refine G_nil ?_ | refine G_plain rfl rfl ?_) | (refine X_id ?_; first | refine X_yl (Yl_move rfl rfl) rfl rfl ?_ | refine X_yl (Yl_assign rfl rfl) rfl rfl ?_ | refine X_yl (Yl_lss_f rfl rfl rfl (by omega)) rfl rfl ?_) | (refine C_id ?_; first | refine C_seq ?_ | refine C_region ?_ | refine C_block ?_) | (refine E_id ?_; first | refine E_code ?_))
    refine C_joinB (α := Unit) (fun _ => [(3, .string (str (Lib.decDigits M))), (4, .bool false)]) (fun _ w => St W noF [] w) ?_ ?_
    · refine C_loop (α := Nat × List UInt8) (fun z => [(0, .int .i64 (z.1 : Nat)), (3, .string (str z.2)), (4, .bool false)])
        (fun z w => z.1 ≤ M ∧ Lib.decDigits M = Lib.decDigits z.1 ++ z.2 ∧ St W noF [] w) (fun z => z.1) (M, []) ⟨rfl, rfl, rfl, trivial⟩ ⟨Nat.le_refl _, by simp, hS⟩ ?_
      clear hS
      rintro ⟨m, s⟩ w ⟨hmM, hs, hS⟩
      simp only at hmM hs hS
      have em : ((m : Nat) : Int).tmod 10 = ((m % 10 : Nat) : Int) := by rw [Int.tmod_eq_emod_of_nonneg (by omega)]; omega
      have ed : IntKind.i64.wrap (((m : Nat) : Int).tdiv 10) = ((m / 10 : Nat) : Int) := by
        rw [Int.tdiv_eq_ediv_of_nonneg (by omega), show ((m : Nat) : Int) / 10 = ((m / 10 : Nat) : Int) by omega]
        exact w64 (by omega) (by omega)
      have hsl := congrArg List.length hs
      rw [List.length_append] at hsl
      have ht := tens_at' (d := m % 10) (by omega)
      have hnew : Lib.decDigits M = (if m < 10 then [] else Lib.decDigits (m / 10)) ++ ([UInt8.ofNat (48 + m % 10)] ++ s) := by
        rw [hs]
        by_cases h : m < 10
        · rw [if_pos h, Lib.decDigits_one h, Nat.mod_eq_of_lt h]; rfl
        · rw [if_neg h, dec_big h, List.append_assoc]
      repeat' (first | (refine X_yl (Yl_rem (v := ((m % 10 : Nat) : Int)) rfl rfl rfl (by omega) em) rfl rfl ?_) | (refine X_yl (Yl_quo (v := ((m / 10 : Nat) : Int)) rfl rfl rfl (by omega) ed) rfl rfl ?_) | refine GO_alt ?_ ?_ | (refine G_id ?_; first | refine G_nil ?_ | refine G_plain rfl rfl ?_) | (refine X_id ?_; first | refine X_yl (Yl_move rfl rfl) rfl rfl ?_ | refine X_yl (Yl_assign rfl rfl) rfl rfl ?_ | refine X_yl (Yl_lss_f rfl rfl rfl (by omega)) rfl rfl ?_ | refine X_yl (Yl_add rfl rfl rfl (w64 (by omega) (by omega))) rfl rfl ?_) | (refine C_id ?_; first | refine C_seq ?_ | refine C_region ?_ | refine C_block ?_ | refine C_skip ?_ | refine C_cond_f rfl ?_) | (refine E_id ?_; first | refine E_code ?_))
      refine X_yl (Yl_sliceStr (s := tens) (l := m % 10) (h := m % 10 + 1) rfl rfl rfl rfl (.inr ⟨_, _, rfl, by omega, by omega, by show _ ≤ 10; omega⟩) (.inr ⟨_, _, rfl, by omega, by omega, by omega⟩)) rfl rfl ?_
      rw [ht]
      by_cases h : m < 10
      · rw [if_pos h] at hnew
        repeat' (first | (refine X_yl (Yl_rem (v := ((m % 10 : Nat) : Int)) rfl rfl rfl (by omega) em) rfl rfl ?_) | (refine X_yl (Yl_quo (v := ((m / 10 : Nat) : Int)) rfl rfl rfl (by omega) ed) rfl rfl ?_) | refine GO_alt ?_ ?_ | (refine G_id ?_; first | refine G_nil ?_ | refine G_plain rfl rfl ?_) | (refine X_id ?_; first | refine X_yl (Yl_move rfl rfl) rfl rfl ?_ | refine X_yl (Yl_assign rfl rfl) rfl rfl ?_ | refine X_yl (Yl_eql_t rfl rfl rfl (by omega)) rfl rfl ?_ | refine X_yl (Yl_addStr rfl rfl rfl (by first | omega | (simp; omega))) rfl rfl ?_) | (refine C_id ?_; first | refine C_seq ?_ | refine C_region ?_ | refine C_exit ?_ | refine C_cond_t rfl ?_) | (refine E_id ?_; first | refine E_code ?_ | refine E_then_exit ?_ | refine E_blk_same ?_ | refine E_blk_ne rfl ?_))
        rw [List.nil_append] at hnew
        exact E_mid () ⟨by rw [hnew]; rfl, rfl, trivial⟩ hS
      · rw [if_neg h] at hnew
        repeat' (first | (refine X_yl (Yl_rem (v := ((m % 10 : Nat) : Int)) rfl rfl rfl (by omega) em) rfl rfl ?_) | (refine X_yl (Yl_quo (v := ((m / 10 : Nat) : Int)) rfl rfl rfl (by omega) ed) rfl rfl ?_) | refine GO_alt ?_ ?_ | (refine G_id ?_; first | refine G_nil ?_ | refine G_plain rfl rfl ?_) | (refine X_id ?_; first | refine X_yl (Yl_move rfl rfl) rfl rfl ?_ | refine X_yl (Yl_assign rfl rfl) rfl rfl ?_ | refine X_yl (Yl_eql_f rfl rfl rfl (by omega)) rfl rfl ?_ | refine X_yl (Yl_addStr rfl rfl rfl (by first | omega | (simp; omega))) rfl rfl ?_) | (refine C_id ?_; first | refine C_seq ?_ | refine C_region ?_ | refine C_skip ?_ | refine C_cond_f rfl ?_) | (refine E_id ?_; first | refine E_code ?_ | refine E_blk_n ?_))
        exact E_round (z := (m, s)) (m / 10, [UInt8.ofNat (48 + m % 10)] ++ s) ⟨rfl, rfl, rfl, trivial⟩ ⟨by omega, hnew, hS⟩ (by dsimp only; omega)
    · clear hS
      rintro _ w hS
      repeat (first | (refine G_id ?_; first | refine G_nil ?_ | refine G_plain rfl rfl ?_) | (refine X_id ?_; first | refine X_yl (Yl_move rfl rfl) rfl rfl ?_ | refine X_yl (Yl_assign rfl rfl) rfl rfl ?_) | (refine C_id ?_; first | refine C_seq ?_ | refine C_region ?_ | refine C_ret ?_ | refine C_skip ?_ | refine C_cond_f rfl ?_) | (refine E_id ?_; first | refine E_code ?_ | refine E_ret1 rfl (Rv_tmp rfl) (Ret.mk ?_)))
      exact ⟨rfl, hS⟩
end Cr
namespace Cr
open Go Go.Proofs
set_option maxRecDepth 100000
set_option maxHeartbeats 2000000
attribute [local irreducible] Calls

theorem Yl_minC {P : Program} {o : Oper} {σ : Env} {w : World} {x y : Operand} {ts : Array TypeId} {m n T : Nat} (ho : o.op = .call { callee := .builtin .min, args := #[x, y], argTypes := ts }) (hx : ev σ x = some (.int .i64 (m : Nat))) (hy : ev σ y = some (.int .i64 (n : Nat))) (hT : min m n = T) : Yl P o σ w (.int .i64 (T : Nat)) := ⟨fun N ds a ha => by
  simp [execOp, ho, resolve, invoke, builtin, ha.eval hx, ha.eval hy, Builtin.min_, Builtin.min2]
  rw [← hT]
  split <;> omega⟩
theorem cut_ (s : List UInt8) (n : Nat) (W : World) : Calls Tryd.prog 26 #[.string (str s), .int .i64 (n : Nat)] W (Ret fun v w => v = .string (str (s.take n)) ∧ W = w) := by
  obtain ⟨T, hT⟩ : ∃ T, min s.length n = T := ⟨_, rfl⟩
  have hz := str_size s
  have hS := St.start W
  refine calls_C Tryd.func26 rfl Tryd.ntmps26 rfl ?_
  repeat (first | (refine G_id ?_; first | refine G_nil ?_ | refine G_plain rfl rfl ?_) | (refine X_id ?_; first | refine X_yl (Yl_move rfl rfl) rfl rfl ?_ | refine X_yl (Yl_assign rfl rfl) rfl rfl ?_ | refine X_yl (Yl_len_str rfl rfl) rfl rfl ?_) | (refine C_id ?_; first | refine C_seq ?_ | refine C_region ?_) | (refine E_id ?_; first | refine E_code ?_))
  refine X_yl (Yl_minC (m := (str s).size) (n := n) (T := T) rfl rfl rfl (by rw [hz]; exact hT)) rfl rfl ?_
  repeat (first | (refine G_id ?_; first | refine G_nil ?_ | refine G_plain rfl rfl ?_) | (refine X_id ?_; first | refine X_yl (Yl_assign rfl rfl) rfl rfl ?_ | refine X_yl (Yl_sliceStr rfl rfl rfl rfl (.inr ⟨_, _, rfl, by omega, rfl, by omega⟩) (.inl ⟨rfl, rfl⟩)) rfl rfl ?_) | (refine C_id ?_; first | refine C_ret ?_) | (refine E_id ?_; first | refine E_code ?_ | refine E_ret1 rfl (Rv_tmp rfl) (Ret.mk ?_)))
  refine ⟨?_, rfl⟩
  rw [List.drop_zero, Nat.sub_zero, Int.toNat_natCast, ← hT]
  congr 2
  rw [Nat.min_comm, ← List.take_eq_take_min]
theorem text29_ (s : List UInt8) (W : World) (hl : s.length ≤ 1099511627776) : Calls Tryd.prog 33 #[.string (str s)] W (Ret fun v w => v = .string (str (encL (.txt s))) ∧ St W noF [] w) := by
  have hS := St.start W
  have hz := str_size s
  have hi := itoa_len (n := (s.length : Nat)) (by omega) (by omega)
  have hN := fun W => Number_ (s.length : Nat) W (by omega) (by omega)
  refine calls_C Tryd.func33 rfl Tryd.ntmps33 rfl ?_
  repeat (first | (refine G_id ?_; first | refine G_nil ?_ | refine G_plain rfl rfl ?_) | (refine X_id ?_; first | refine X_yl (Yl_move rfl rfl) rfl rfl ?_ | refine X_yl (Yl_assign rfl rfl) rfl rfl ?_ | refine X_yl (Yl_len_str rfl rfl) rfl rfl ?_) | (refine C_id ?_; first | refine C_seq ?_ | refine C_region ?_) | (refine E_id ?_; first | refine E_code ?_))
  rw [hz]
  refine X_callq 44 rfl rfl rfl rfl rfl hS (hN _) ?_
  rintro _ w rfl hS
  repeat (first | (refine G_id ?_; first | refine G_nil ?_ | refine G_plain rfl rfl ?_) | (refine X_id ?_; first | refine X_yl (Yl_move rfl rfl) rfl rfl ?_ | refine X_yl (Yl_assign rfl rfl) rfl rfl ?_ | refine X_yl (Yl_addStr rfl rfl rfl (by first | omega | (simp; omega))) rfl rfl ?_) | (refine C_id ?_; first | refine C_ret ?_) | (refine E_id ?_; first | refine E_code ?_ | refine E_ret1 rfl (Rv_tmp rfl) (Ret.mk ?_)))
  refine ⟨?_, hS⟩
  simp [encL]
theorem number29_ (n : Int) (W : World) (h0 : -9223372036854775808 ≤ n) (h1 : n ≤ 9223372036854775807) : Calls Tryd.prog 34 #[.int .i64 n] W (Ret fun v w => v = .string (str (encL (.num n))) ∧ St W noF [] w) := by
  have hS := St.start W
  have hi := itoa_len h0 h1
  have hN := fun W => Number_ n W h0 h1
  refine calls_C Tryd.func34 rfl Tryd.ntmps34 rfl ?_
  repeat (first | (refine G_id ?_; first | refine G_nil ?_ | refine G_plain rfl rfl ?_) | (refine X_id ?_; first | (refine X_callq 44 rfl rfl rfl rfl rfl hS (hN _) ?_; rintro _ _ rfl hS) | refine X_yl (Yl_move rfl rfl) rfl rfl ?_ | refine X_yl (Yl_assign rfl rfl) rfl rfl ?_ | refine X_yl (Yl_addStr rfl rfl rfl (by first | omega | (simp; omega))) rfl rfl ?_) | (refine C_id ?_; first | refine C_seq ?_ | refine C_region ?_ | refine C_ret ?_) | (refine E_id ?_; first | refine E_code ?_ | refine E_ret1 rfl (Rv_tmp rfl) (Ret.mk ?_)))
  refine ⟨?_, hS⟩
  simp [encL]
theorem encL_len {y : Leaf} (hy : y.fits) : (encL y).length ≤ 30 + match y with | .txt b => b.length | _ => 0 := by
  cases y with
  | oth => exact hy.elim
  | num n => have := itoa_len hy.1 hy.2; simp [encL]; omega
  | txt b =>
    have hb : b.length ≤ 9223372036854775807 := hy
    have := itoa_len (n := (b.length : Nat)) (by omega) (by omega)
    simp [encL]; omega
end Cr
namespace Cr
open Go Go.Proofs
set_option maxRecDepth 100000
set_option maxHeartbeats 2000000
attribute [local irreducible] Calls

theorem len_txt {s : List UInt8} (h : s.length ≤ 1073741824) : (encL (.txt s)).length ≤ 1073741854 := by
  have := encL_len (y := .txt s) (show s.length ≤ 9223372036854775807 by omega)
  simp only at this; omega
theorem len_num {n : Int} (h : -9223372036854775808 ≤ n ∧ n ≤ 9223372036854775807) : (encL (.num n)).length ≤ 30 := by
  have := encL_len (y := .num n) h
  simp only at this; omega
theorem refenc_ (c : Cmd) (ab : Option Addr) (q : Nat) (W : World) (hb : Ro W noF (bytes ab c.arch)) (hs : c.small) (hi : c.ints) :
    Calls Tryd.prog 16 #[.agg (c.cells (.slice ab c.arch.length q)).toArray] W (Ret fun v w => ∃ b q', v = .slice b (encT c.leaves).length q' ∧ St W noF [bytes b (encT c.leaves)] w) := by
  have hS := St.start W
  have hsrt := sort_ c.word
  obtain ⟨z1, z2, z3⟩ := hs
  have l0 := len_txt z1
  have l1 := len_txt z2
  have l2 := len_txt (z3 1)
  have l3 := len_txt (z3 2)
  have l4 := len_txt (z3 4)
  have l5 := len_txt (z3 5)
  have l6 := len_txt (z3 6)
  have l7 := len_txt (z3 7)
  have l8 := len_txt (z3 8)
  have l9 := len_txt (z3 9)
  have la := len_txt (z3 10)
  have lb := len_num (hi 12)
  have lc := len_num (hi 13)
  simp only [Cmd.s, Cmd.n] at l2 l3 l4 l5 l6 l7 l8 l9 la lb lc
  have T := fun (s : List UInt8) (h : s.length ≤ 1073741824) W => text29_ s W (by omega)
  have y2 := z3 1
  have y3 := z3 2
  have y4 := z3 4
  have y5 := z3 5
  have y6 := z3 6
  have y7 := z3 7
  have y8 := z3 8
  have y9 := z3 9
  have ya := z3 10
  simp only [Cmd.s] at y2 y3 y4 y5 y6 y7 y8 y9 ya
  have Nf := fun W => number29_ c.fuel W (hi 13).1 (hi 13).2
  have No := fun W => number29_ c.out W (hi 12).1 (hi 12).2
  obtain ⟨bs, hbs⟩ : ∃ bs, bs = encT c.leaves := ⟨_, rfl⟩
  have hfin : ∀ r : List UInt8, r = bs → ∀ (b q' : _) (w : World), St W noF [bytes b r] w → ∃ b' q'', Value.slice b r.length q' = .slice b' bs.length q'' ∧ St W noF [bytes b' bs] w := fun r h b q' w hw => by
    subst h; exact ⟨b, q', rfl, hw⟩
  rw [← hbs]
  refine calls_C Tryd.func16 rfl Tryd.ntmps16 rfl ?_
  repeat (first | (refine G_id ?_; first | refine G_nil ?_ | refine G_plain rfl rfl ?_) | (refine X_id ?_; first | refine X_yl (Yl_assign rfl rfl) rfl rfl ?_ | refine X_yl (Yl_fieldAddr0 rfl rfl rfl) rfl rfl ?_ | refine X_yl (Yl_load rfl rfl hS.cell) rfl rfl ?_ | refine X_box rfl rfl rfl rfl hS (fun _ _ hS _ => ?_)) | (refine C_id ?_; first | refine C_seq ?_ | refine C_region ?_) | (refine E_id ?_; first | refine E_code ?_))
  refine X_callq 33 rfl rfl rfl rfl rfl hS (T c.word z1 _) ?_
  rintro _ w rfl hS
  cases hk : sort c.word with
  | none =>
    have e1 : sortN c.word = -1 := by unfold sortN; rw [hk]
    have e4 : bs = [40] ++ encL (.txt c.word) ++ [41] := by rw [hbs]; unfold Cmd.leaves partsW; rw [hk]; simp [encT, encs]
    rw [e1] at hsrt
    repeat (first | (refine G_id ?_; first | refine G_nil ?_ | refine G_plain rfl rfl ?_) | (refine X_id ?_; first | (refine X_callq 29 rfl rfl rfl rfl rfl hS (hsrt _) ?_; rintro _ _ rfl hS) | refine X_yl (Yl_move rfl rfl) rfl rfl ?_ | refine X_yl (Yl_assign rfl rfl) rfl rfl ?_ | refine X_yl (Yl_fieldAddr0 rfl rfl rfl) rfl rfl ?_ | refine X_yl (Yl_eql_f rfl rfl rfl (by omega)) rfl rfl ?_ | refine X_yl (Yl_load rfl rfl hS.cell) rfl rfl ?_ | refine X_yl (Yl_addStr rfl rfl rfl (by first | omega | (simp; omega))) rfl rfl ?_ | refine X_strBytes rfl rfl rfl rfl hS (fun _ _ _ hS _ => ?_)) | (refine C_id ?_; first | refine C_seq ?_ | refine C_region ?_ | refine C_block ?_ | refine C_ret ?_ | refine C_skip ?_ | refine C_cond_f rfl ?_) | (refine E_id ?_; first | refine E_code ?_ | refine E_blk_n ?_ | refine E_ret1 rfl (Rv_tmp rfl) (Ret.mk ?_)))
    exact hfin _ e4.symm _ _ _ (hS.pick [0])
  | some k =>
    have e1 : sortN c.word = (k : Int) := by unfold sortN; rw [hk]
    rw [e1] at hsrt
    have hk5 := sort_lt hk
    have hlv : bs = encT (.txt c.word :: (parts k).map c.leaf) := by rw [hbs]; unfold Cmd.leaves partsW; rw [hk]
    clear hbs hk e1
    have hk6 : k = 0 ∨ k = 1 ∨ k = 2 ∨ k = 3 ∨ k = 4 ∨ k = 5 := by omega
    rcases hk6 with rfl | rfl | rfl | rfl | rfl | rfl
    · repeat (first | (refine G_id ?_; first | refine G_nil ?_ | refine G_plain rfl rfl ?_) | (refine X_id ?_; first | (refine X_callq 29 rfl rfl rfl rfl rfl hS (hsrt _) ?_; rintro _ _ rfl hS) | refine X_yl (Yl_assign rfl rfl) rfl rfl ?_ | refine X_yl (Yl_fieldAddr0 rfl rfl rfl) rfl rfl ?_ | refine X_yl (Yl_eql_t rfl rfl rfl (by omega)) rfl rfl ?_ | refine X_yl (Yl_load rfl rfl hS.cell) rfl rfl ?_ | refine X_yl (Yl_addStr rfl rfl rfl (by first | omega | (simp; omega))) rfl rfl ?_) | (refine C_id ?_; first | refine C_seq ?_ | refine C_region ?_ | refine C_block ?_ | refine C_cond_t rfl ?_) | (refine E_id ?_; first | refine E_code ?_))
      refine C_ord (.s 0 (.s 1 (.s 2 (.s 5 (.s 6 (.s 7 (.s 10 (.s 11 (.h 3 (.s 4 (.h 8 (.s 9 (.h 12 (.s 13 (.s 14 .nil)) .no)) .no)) .no))))))))) mixed (by kernel_rfl) rfl ?_
      have hS := hS.drew
      repeat (first | (refine G_id ?_; first | refine G_nil ?_ | refine G_plain rfl rfl ?_) | (refine X_id ?_; first | (refine X_callq 33 rfl rfl rfl rfl rfl hS (T c.text y2 _) ?_; rintro _ _ rfl hS) | (refine X_callq 33 rfl rfl rfl rfl rfl hS (T c.arch z2 _) ?_; rintro _ _ rfl hS) | (refine X_callq 34 rfl rfl rfl rfl rfl hS (Nf _) ?_; rintro _ _ rfl hS) | refine X_yl (Yl_move rfl rfl) rfl rfl ?_ | refine X_yl (Yl_assign rfl rfl) rfl rfl ?_ | refine X_yl (Yl_addStr rfl rfl rfl (by first | omega | (simp; omega))) rfl rfl ?_ | refine X_strBytes rfl rfl rfl rfl hS (fun _ _ _ hS _ => ?_)) | (refine C_id ?_; first | refine C_seq ?_ | refine C_region ?_ | refine C_ret ?_) | (refine E_id ?_; first | refine E_code ?_ | refine E_blk_n ?_ | refine E_ret1 rfl (Rv_tmp rfl) (Ret.mk ?_)) | (refine GO_id ?_; first | refine GO_nil ?_ | refine GO_pure rfl rfl (fun _ => Yl_move rfl rfl) rfl rfl ?_ | refine GO_pure rfl rfl (fun _ => Yl_assign rfl rfl) rfl rfl ?_ | refine GO_pure rfl rfl (fun _ => Yl_fieldAddr0 rfl rfl rfl) rfl rfl ?_ | refine GO_read (fun w' => w'.cell? _ = some _) rfl rfl hS.cell (fun _ hc => Yl_load rfl rfl hc) rfl rfl ?_ | refine GO_hard rfl rfl ?_ | refine GO_pure rfl rfl (fun _ => Yl_addStr rfl rfl rfl (by first | omega | (simp; omega))) rfl rfl ?_ | refine GO_read (fun w' => Rd w' (bytes _ _)) rfl rfl (hb.rd hS) (fun _ h => Yl_bytesStr rfl rfl h rfl) rfl rfl ?_) | (refine Keep_id ?_; first | refine And.intro (by repeat (first | exact trivial | refine And.intro (.inl (by decide +kernel)) ?_ | refine And.intro (.inr (by first | assumption | exact hS.cell | exact cell_at (by assumption) | exact hS.cellI (by omega) | exact hS.cellIP (by omega) | exact hS.cellsN | exact ((hr.rd hS).cellX (by omega) hx) | exact ((hr2.rd hS).cellX (by omega) hx2) | exact hS.cellB (by omega) | exact hS.cellBA (by omega) | exact (hb.rd hS).cellB' (by omega) | exact (hb2.rd hS).cellB' (by omega) | exact (hg.rd hS).cellI (by omega) | exact (hg2.rd hS).cellI (by omega) | exact ((hr.rd hS).cellF (by first | omega | (dsimp only; omega)) hx) | exact ((hr2.rd hS).cellF (by first | omega | (dsimp only; omega)) hx2) | exact hS.cellO 0 (by omega) | exact hS.cellO 1 (by omega) | exact hS.cellIA (by omega) | exact (hg.rd hS).cellIA (by omega) | exact (hg2.rd hS).cellIA (by omega) | exact cell_at (hc.rd hS).pts | exact hb.rd hS | exact hS.cellO 4 (by omega) | exact hS.cellO 5 (by omega) | exact hS.cellO 6 (by omega) | exact hS.cellO 7 (by omega) | exact hS.cellO 8 (by omega) | exact hS.cellO 9 (by omega) | exact hS.cellO 10 (by omega) | exact hS.cellO 11 (by omega) | exact hS.cellO 12 (by omega) | exact hS.cellO 13 (by omega))) ?_)) ?_))
      refine hfin _ ?_ _ _ _ (hS.pick [0])
      rw [hlv]
      simp [encT, encs, parts, Cmd.leaf, Cmd.s, Cmd.n]
    · repeat (first | (refine G_id ?_; first | refine G_nil ?_ | refine G_plain rfl rfl ?_) | (refine X_id ?_; first | (refine X_callq 29 rfl rfl rfl rfl rfl hS (hsrt _) ?_; rintro _ _ rfl hS) | refine X_yl (Yl_assign rfl rfl) rfl rfl ?_ | refine X_yl (Yl_fieldAddr0 rfl rfl rfl) rfl rfl ?_ | refine X_yl (Yl_eql_t rfl rfl rfl (by omega)) rfl rfl ?_ | refine X_yl (Yl_eql_f rfl rfl rfl (by omega)) rfl rfl ?_ | refine X_yl (Yl_load rfl rfl hS.cell) rfl rfl ?_ | refine X_yl (Yl_addStr rfl rfl rfl (by first | omega | (simp; omega))) rfl rfl ?_) | (refine C_id ?_; first | refine C_seq ?_ | refine C_region ?_ | refine C_block ?_ | refine C_cond_t rfl ?_ | refine C_cond_f rfl ?_) | (refine E_id ?_; first | refine E_code ?_))
      refine C_ord (.s 0 (.s 1 (.s 2 (.s 5 (.s 6 (.h 3 (.s 4 (.h 7 (.s 8 (.s 9 .nil)) .no)) .no)))))) mixed (by kernel_rfl) rfl ?_
      have hS := hS.drew
      repeat (first | (refine G_id ?_; first | refine G_nil ?_ | refine G_plain rfl rfl ?_) | (refine X_id ?_; first | (refine X_callq 33 rfl rfl rfl rfl rfl hS (T c.name y3 _) ?_; rintro _ _ rfl hS) | (refine X_callq 34 rfl rfl rfl rfl rfl hS (Nf _) ?_; rintro _ _ rfl hS) | refine X_yl (Yl_move rfl rfl) rfl rfl ?_ | refine X_yl (Yl_assign rfl rfl) rfl rfl ?_ | refine X_yl (Yl_addStr rfl rfl rfl (by first | omega | (simp; omega))) rfl rfl ?_ | refine X_strBytes rfl rfl rfl rfl hS (fun _ _ _ hS _ => ?_)) | (refine C_id ?_; first | refine C_seq ?_ | refine C_region ?_ | refine C_ret ?_) | (refine E_id ?_; first | refine E_code ?_ | refine E_blk_n ?_ | refine E_ret1 rfl (Rv_tmp rfl) (Ret.mk ?_)) | (refine GO_id ?_; first | refine GO_nil ?_ | refine GO_pure rfl rfl (fun _ => Yl_move rfl rfl) rfl rfl ?_ | refine GO_pure rfl rfl (fun _ => Yl_assign rfl rfl) rfl rfl ?_ | refine GO_pure rfl rfl (fun _ => Yl_fieldAddr0 rfl rfl rfl) rfl rfl ?_ | refine GO_read (fun w' => w'.cell? _ = some _) rfl rfl hS.cell (fun _ hc => Yl_load rfl rfl hc) rfl rfl ?_ | refine GO_hard rfl rfl ?_ | refine GO_pure rfl rfl (fun _ => Yl_addStr rfl rfl rfl (by first | omega | (simp; omega))) rfl rfl ?_) | (refine Keep_id ?_; first | refine And.intro (by repeat (first | exact trivial | refine And.intro (.inl (by decide +kernel)) ?_ | refine And.intro (.inr (by first | assumption | exact hS.cell | exact cell_at (by assumption) | exact hS.cellI (by omega) | exact hS.cellIP (by omega) | exact hS.cellsN | exact ((hr.rd hS).cellX (by omega) hx) | exact ((hr2.rd hS).cellX (by omega) hx2) | exact hS.cellB (by omega) | exact hS.cellBA (by omega) | exact (hb.rd hS).cellB' (by omega) | exact (hb2.rd hS).cellB' (by omega) | exact (hg.rd hS).cellI (by omega) | exact (hg2.rd hS).cellI (by omega) | exact ((hr.rd hS).cellF (by first | omega | (dsimp only; omega)) hx) | exact ((hr2.rd hS).cellF (by first | omega | (dsimp only; omega)) hx2) | exact hS.cellO 0 (by omega) | exact hS.cellO 1 (by omega) | exact hS.cellIA (by omega) | exact (hg.rd hS).cellIA (by omega) | exact (hg2.rd hS).cellIA (by omega) | exact cell_at (hc.rd hS).pts | exact hb.rd hS | exact hS.cellO 4 (by omega) | exact hS.cellO 5 (by omega) | exact hS.cellO 6 (by omega) | exact hS.cellO 7 (by omega) | exact hS.cellO 8 (by omega) | exact hS.cellO 9 (by omega) | exact hS.cellO 10 (by omega) | exact hS.cellO 11 (by omega) | exact hS.cellO 12 (by omega) | exact hS.cellO 13 (by omega))) ?_)) ?_))
      refine hfin _ ?_ _ _ _ (hS.pick [0])
      rw [hlv]
      simp [encT, encs, parts, Cmd.leaf, Cmd.s, Cmd.n]
    · repeat (first | (refine G_id ?_; first | refine G_nil ?_ | refine G_plain rfl rfl ?_) | (refine X_id ?_; first | (refine X_callq 29 rfl rfl rfl rfl rfl hS (hsrt _) ?_; rintro _ _ rfl hS) | refine X_yl (Yl_assign rfl rfl) rfl rfl ?_ | refine X_yl (Yl_fieldAddr0 rfl rfl rfl) rfl rfl ?_ | refine X_yl (Yl_eql_t rfl rfl rfl (by omega)) rfl rfl ?_ | refine X_yl (Yl_eql_f rfl rfl rfl (by omega)) rfl rfl ?_ | refine X_yl (Yl_load rfl rfl hS.cell) rfl rfl ?_ | refine X_yl (Yl_addStr rfl rfl rfl (by first | omega | (simp; omega))) rfl rfl ?_) | (refine C_id ?_; first | refine C_seq ?_ | refine C_region ?_ | refine C_block ?_ | refine C_cond_t rfl ?_ | refine C_cond_f rfl ?_) | (refine E_id ?_; first | refine E_code ?_))
      refine C_ord (.s 0 (.s 1 (.s 2 (.s 3 (.s 6 (.s 7 (.s 8 (.s 11 (.s 12 (.s 13 (.s 16 (.s 17 (.s 18 (.h 4 (.s 5 (.h 9 (.s 10 (.h 14 (.s 15 (.h 19 (.s 20 (.s 21 .nil)) .no)) .no)) .no)) .no)))))))))))))) mixed (by kernel_rfl) rfl ?_
      have hS := hS.drew
      repeat (first | (refine G_id ?_; first | refine G_nil ?_ | refine G_plain rfl rfl ?_) | (refine X_id ?_; first | (refine X_callq 33 rfl rfl rfl rfl rfl hS (T c.p0 y4 _) ?_; rintro _ _ rfl hS) | (refine X_callq 33 rfl rfl rfl rfl rfl hS (T c.p1 y5 _) ?_; rintro _ _ rfl hS) | (refine X_callq 33 rfl rfl rfl rfl rfl hS (T c.s0 y6 _) ?_; rintro _ _ rfl hS) | (refine X_callq 33 rfl rfl rfl rfl rfl hS (T c.s1 y7 _) ?_; rintro _ _ rfl hS) | refine X_yl (Yl_move rfl rfl) rfl rfl ?_ | refine X_yl (Yl_assign rfl rfl) rfl rfl ?_ | refine X_yl (Yl_addStr rfl rfl rfl (by first | omega | (simp; omega))) rfl rfl ?_ | refine X_strBytes rfl rfl rfl rfl hS (fun _ _ _ hS _ => ?_)) | (refine C_id ?_; first | refine C_seq ?_ | refine C_region ?_ | refine C_ret ?_) | (refine E_id ?_; first | refine E_code ?_ | refine E_blk_n ?_ | refine E_ret1 rfl (Rv_tmp rfl) (Ret.mk ?_)) | (refine GO_id ?_; first | refine GO_nil ?_ | refine GO_pure rfl rfl (fun _ => Yl_move rfl rfl) rfl rfl ?_ | refine GO_pure rfl rfl (fun _ => Yl_assign rfl rfl) rfl rfl ?_ | refine GO_pure rfl rfl (fun _ => Yl_fieldAddr0 rfl rfl rfl) rfl rfl ?_ | refine GO_pure rfl rfl (fun _ => Yl_indexAddr_arr rfl rfl rfl (by omega) (by omega)) rfl rfl ?_ | refine GO_hard rfl rfl ?_ | refine GO_pure rfl rfl (fun _ => Yl_addStr rfl rfl rfl (by first | omega | (simp; omega))) rfl rfl ?_ | refine GO_read (fun w' => w'.cell? _ = some _) rfl rfl (hS.cellO 4 (by omega)) (fun _ hc => Yl_load rfl rfl hc) rfl rfl ?_ | refine GO_read (fun w' => w'.cell? _ = some _) rfl rfl (hS.cellO 5 (by omega)) (fun _ hc => Yl_load rfl rfl hc) rfl rfl ?_ | refine GO_read (fun w' => w'.cell? _ = some _) rfl rfl (hS.cellO 6 (by omega)) (fun _ hc => Yl_load rfl rfl hc) rfl rfl ?_ | refine GO_read (fun w' => w'.cell? _ = some _) rfl rfl (hS.cellO 7 (by omega)) (fun _ hc => Yl_load rfl rfl hc) rfl rfl ?_) | (refine Keep_id ?_; first | refine And.intro (by repeat (first | exact trivial | refine And.intro (.inl (by decide +kernel)) ?_ | refine And.intro (.inr (by first | assumption | exact hS.cell | exact cell_at (by assumption) | exact hS.cellI (by omega) | exact hS.cellIP (by omega) | exact hS.cellsN | exact ((hr.rd hS).cellX (by omega) hx) | exact ((hr2.rd hS).cellX (by omega) hx2) | exact hS.cellB (by omega) | exact hS.cellBA (by omega) | exact (hb.rd hS).cellB' (by omega) | exact (hb2.rd hS).cellB' (by omega) | exact (hg.rd hS).cellI (by omega) | exact (hg2.rd hS).cellI (by omega) | exact ((hr.rd hS).cellF (by first | omega | (dsimp only; omega)) hx) | exact ((hr2.rd hS).cellF (by first | omega | (dsimp only; omega)) hx2) | exact hS.cellO 0 (by omega) | exact hS.cellO 1 (by omega) | exact hS.cellIA (by omega) | exact (hg.rd hS).cellIA (by omega) | exact (hg2.rd hS).cellIA (by omega) | exact cell_at (hc.rd hS).pts | exact hb.rd hS | exact hS.cellO 4 (by omega) | exact hS.cellO 5 (by omega) | exact hS.cellO 6 (by omega) | exact hS.cellO 7 (by omega) | exact hS.cellO 8 (by omega) | exact hS.cellO 9 (by omega) | exact hS.cellO 10 (by omega) | exact hS.cellO 11 (by omega) | exact hS.cellO 12 (by omega) | exact hS.cellO 13 (by omega))) ?_)) ?_))
      refine hfin _ ?_ _ _ _ (hS.pick [0])
      rw [hlv]
      simp [encT, encs, parts, Cmd.leaf, Cmd.s, Cmd.n]
    · repeat (first | (refine G_id ?_; first | refine G_nil ?_ | refine G_plain rfl rfl ?_) | (refine X_id ?_; first | (refine X_callq 29 rfl rfl rfl rfl rfl hS (hsrt _) ?_; rintro _ _ rfl hS) | (refine X_callq 33 rfl rfl rfl rfl rfl hS (T c.name y3 _) ?_; rintro _ _ rfl hS) | refine X_yl (Yl_move rfl rfl) rfl rfl ?_ | refine X_yl (Yl_assign rfl rfl) rfl rfl ?_ | refine X_yl (Yl_fieldAddr0 rfl rfl rfl) rfl rfl ?_ | refine X_yl (Yl_eql_t rfl rfl rfl (by omega)) rfl rfl ?_ | refine X_yl (Yl_eql_f rfl rfl rfl (by omega)) rfl rfl ?_ | refine X_yl (Yl_load rfl rfl hS.cell) rfl rfl ?_ | refine X_yl (Yl_addStr rfl rfl rfl (by first | omega | (simp; omega))) rfl rfl ?_ | refine X_strBytes rfl rfl rfl rfl hS (fun _ _ _ hS _ => ?_)) | (refine C_id ?_; first | refine C_seq ?_ | refine C_region ?_ | refine C_block ?_ | refine C_ret ?_ | refine C_cond_t rfl ?_ | refine C_cond_f rfl ?_) | (refine E_id ?_; first | refine E_code ?_ | refine E_blk_n ?_ | refine E_ret1 rfl (Rv_tmp rfl) (Ret.mk ?_)))
      refine hfin _ ?_ _ _ _ (hS.pick [0])
      rw [hlv]
      simp [encT, encs, parts, Cmd.leaf, Cmd.s, Cmd.n]
    · repeat (first | (refine G_id ?_; first | refine G_nil ?_ | refine G_plain rfl rfl ?_) | (refine X_id ?_; first | (refine X_callq 29 rfl rfl rfl rfl rfl hS (hsrt _) ?_; rintro _ _ rfl hS) | refine X_yl (Yl_assign rfl rfl) rfl rfl ?_ | refine X_yl (Yl_fieldAddr0 rfl rfl rfl) rfl rfl ?_ | refine X_yl (Yl_eql_t rfl rfl rfl (by omega)) rfl rfl ?_ | refine X_yl (Yl_eql_f rfl rfl rfl (by omega)) rfl rfl ?_ | refine X_yl (Yl_load rfl rfl hS.cell) rfl rfl ?_ | refine X_yl (Yl_addStr rfl rfl rfl (by first | omega | (simp; omega))) rfl rfl ?_) | (refine C_id ?_; first | refine C_seq ?_ | refine C_region ?_ | refine C_block ?_ | refine C_cond_t rfl ?_ | refine C_cond_f rfl ?_) | (refine E_id ?_; first | refine E_code ?_))
      refine C_ord (.s 0 (.s 1 (.s 2 (.s 3 (.s 6 (.s 7 (.s 8 (.s 11 (.s 12 (.s 13 (.s 16 (.s 17 (.h 4 (.s 5 (.h 9 (.s 10 (.h 14 (.s 15 (.h 18 (.s 19 (.s 20 .nil)) .no)) .no)) .no)) .no))))))))))))) mixed (by kernel_rfl) rfl ?_
      have hS := hS.drew
      repeat (first | (refine G_id ?_; first | refine G_nil ?_ | refine G_plain rfl rfl ?_) | (refine X_id ?_; first | (refine X_callq 33 rfl rfl rfl rfl rfl hS (T c.q0 y8 _) ?_; rintro _ _ rfl hS) | (refine X_callq 33 rfl rfl rfl rfl rfl hS (T c.q1 y9 _) ?_; rintro _ _ rfl hS) | (refine X_callq 33 rfl rfl rfl rfl rfl hS (T c.q2 ya _) ?_; rintro _ _ rfl hS) | (refine X_callq 34 rfl rfl rfl rfl rfl hS (No _) ?_; rintro _ _ rfl hS) | refine X_yl (Yl_move rfl rfl) rfl rfl ?_ | refine X_yl (Yl_assign rfl rfl) rfl rfl ?_ | refine X_yl (Yl_addStr rfl rfl rfl (by first | omega | (simp; omega))) rfl rfl ?_ | refine X_strBytes rfl rfl rfl rfl hS (fun _ _ _ hS _ => ?_)) | (refine C_id ?_; first | refine C_seq ?_ | refine C_region ?_ | refine C_ret ?_) | (refine E_id ?_; first | refine E_code ?_ | refine E_blk_n ?_ | refine E_ret1 rfl (Rv_tmp rfl) (Ret.mk ?_)) | (refine GO_id ?_; first | refine GO_nil ?_ | refine GO_pure rfl rfl (fun _ => Yl_move rfl rfl) rfl rfl ?_ | refine GO_pure rfl rfl (fun _ => Yl_assign rfl rfl) rfl rfl ?_ | refine GO_pure rfl rfl (fun _ => Yl_fieldAddr0 rfl rfl rfl) rfl rfl ?_ | refine GO_pure rfl rfl (fun _ => Yl_indexAddr_arr rfl rfl rfl (by omega) (by omega)) rfl rfl ?_ | refine GO_read (fun w' => w'.cell? _ = some _) rfl rfl hS.cell (fun _ hc => Yl_load rfl rfl hc) rfl rfl ?_ | refine GO_hard rfl rfl ?_ | refine GO_pure rfl rfl (fun _ => Yl_addStr rfl rfl rfl (by first | omega | (simp; omega))) rfl rfl ?_ | refine GO_read (fun w' => w'.cell? _ = some _) rfl rfl (hS.cellO 8 (by omega)) (fun _ hc => Yl_load rfl rfl hc) rfl rfl ?_ | refine GO_read (fun w' => w'.cell? _ = some _) rfl rfl (hS.cellO 9 (by omega)) (fun _ hc => Yl_load rfl rfl hc) rfl rfl ?_ | refine GO_read (fun w' => w'.cell? _ = some _) rfl rfl (hS.cellO 10 (by omega)) (fun _ hc => Yl_load rfl rfl hc) rfl rfl ?_) | (refine Keep_id ?_; first | refine And.intro (by repeat (first | exact trivial | refine And.intro (.inl (by decide +kernel)) ?_ | refine And.intro (.inr (by first | assumption | exact hS.cell | exact cell_at (by assumption) | exact hS.cellI (by omega) | exact hS.cellIP (by omega) | exact hS.cellsN | exact ((hr.rd hS).cellX (by omega) hx) | exact ((hr2.rd hS).cellX (by omega) hx2) | exact hS.cellB (by omega) | exact hS.cellBA (by omega) | exact (hb.rd hS).cellB' (by omega) | exact (hb2.rd hS).cellB' (by omega) | exact (hg.rd hS).cellI (by omega) | exact (hg2.rd hS).cellI (by omega) | exact ((hr.rd hS).cellF (by first | omega | (dsimp only; omega)) hx) | exact ((hr2.rd hS).cellF (by first | omega | (dsimp only; omega)) hx2) | exact hS.cellO 0 (by omega) | exact hS.cellO 1 (by omega) | exact hS.cellIA (by omega) | exact (hg.rd hS).cellIA (by omega) | exact (hg2.rd hS).cellIA (by omega) | exact cell_at (hc.rd hS).pts | exact hb.rd hS | exact hS.cellO 4 (by omega) | exact hS.cellO 5 (by omega) | exact hS.cellO 6 (by omega) | exact hS.cellO 7 (by omega) | exact hS.cellO 8 (by omega) | exact hS.cellO 9 (by omega) | exact hS.cellO 10 (by omega) | exact hS.cellO 11 (by omega) | exact hS.cellO 12 (by omega) | exact hS.cellO 13 (by omega))) ?_)) ?_))
      refine hfin _ ?_ _ _ _ (hS.pick [0])
      rw [hlv]
      simp [encT, encs, parts, Cmd.leaf, Cmd.s, Cmd.n]
    · repeat (first | (refine G_id ?_; first | refine G_nil ?_ | refine G_plain rfl rfl ?_) | (refine X_id ?_; first | (refine X_callq 29 rfl rfl rfl rfl rfl hS (hsrt _) ?_; rintro _ _ rfl hS) | refine X_yl (Yl_move rfl rfl) rfl rfl ?_ | refine X_yl (Yl_assign rfl rfl) rfl rfl ?_ | refine X_yl (Yl_fieldAddr0 rfl rfl rfl) rfl rfl ?_ | refine X_yl (Yl_eql_f rfl rfl rfl (by omega)) rfl rfl ?_ | refine X_yl (Yl_load rfl rfl hS.cell) rfl rfl ?_ | refine X_yl (Yl_addStr rfl rfl rfl (by first | omega | (simp; omega))) rfl rfl ?_ | refine X_strBytes rfl rfl rfl rfl hS (fun _ _ _ hS _ => ?_)) | (refine C_id ?_; first | refine C_seq ?_ | refine C_region ?_ | refine C_block ?_ | refine C_ret ?_ | refine C_skip ?_ | refine C_cond_f rfl ?_) | (refine E_id ?_; first | refine E_code ?_ | refine E_blk_n ?_ | refine E_ret1 rfl (Rv_tmp rfl) (Ret.mk ?_)))
      refine hfin _ ?_ _ _ _ (hS.pick [0])
      rw [hlv]
      simp [encT, encs, parts, Cmd.leaf, Cmd.s, Cmd.n]
end Cr
namespace Cr
open Go Go.Proofs
set_option maxRecDepth 100000
set_option maxHeartbeats 4000000
attribute [local irreducible] Calls

/-- A command with its texts cut. -/
def Cmd.cut (c : Cmd) : Cmd :=
  { word := c.word.take 40, text := c.text.take 4200, name := c.name.take 40, arch := c.arch.take 4200, p0 := c.p0.take 40, p1 := c.p1.take 40, s0 := c.s0.take 40, s1 := c.s1.take 40,
    q0 := c.q0.take 40, q1 := c.q1.take 40, q2 := c.q2.take 40, rev := c.rev, out := c.out, fuel := c.fuel }
theorem cut40 (s : List UInt8) (W : World) : Calls Tryd.prog 26 #[.string (str s), .int .i64 40] W (Ret fun v w => v = .string (str (s.take 40)) ∧ W = w) := cut_ s 40 W
theorem cut4200 (s : List UInt8) (W : World) : Calls Tryd.prog 26 #[.string (str s), .int .i64 4200] W (Ret fun v w => v = .string (str (s.take 4200)) ∧ W = w) := cut_ s 4200 W
theorem to_ (c : Cmd) (ab : Option Addr) (q : Nat) (W : World) (hb : Ro W noF (bytes ab c.arch)) (hq : c.arch.length ≤ q) :
    Calls Tryd.prog 7 #[.agg (c.cells (.slice ab c.arch.length q)).toArray] W (Ret fun v w => ∃ b q', v = .agg (c.cut.cells (.slice b c.cut.arch.length q')).toArray ∧ c.cut.arch.length ≤ q' ∧ St W noF [bytes b c.cut.arch] w) := by
  have hS := St.start W
  obtain ⟨T, hT⟩ : ∃ T, min c.arch.length 4200 = T := ⟨_, rfl⟩
  have hsb := hb.subBytes (l := 0) (h := T) (c := q) (by omega) (by omega)
  rw [List.drop_zero, Nat.sub_zero] at hsb
  have hTe : c.arch.take T = c.arch.take 4200 := by rw [← hT, Nat.min_comm, ← List.take_eq_take_min]
  rw [hTe] at hsb
  have hTl : (c.arch.take 4200).length = T := by rw [← hTe]; simp; omega
  have tail : ∀ sl : Value, Lay [(0, 1), (1, 1), (2, 1), (3, 1), (4, 2), (6, 2), (8, 5), (13, 1)]
      [.string (str (c.word.take 40)), .string (str (c.text.take 4200)), .string (str (c.name.take 40)), sl, .string (str (c.p0.take 40)), .string (str (c.p1.take 40)), .string ⟨#[]⟩, .string ⟨#[]⟩, .string ⟨#[]⟩, .string ⟨#[]⟩, .string ⟨#[]⟩, .int .i64 0, .int .i64 0, .int .i64 0]
      [(5, .agg (List.toArray [.string (str (c.s0.take 40)), .string (str (c.s1.take 40))])), (6, .agg (List.toArray [.string (str (c.q0.take 40)), .string (str (c.q1.take 40)), .string (str (c.q2.take 40)), .int .i64 c.rev, .int .i64 c.out])), (7, .int .i64 c.fuel)] (c.cut.cells sl) := fun sl => inferInstance
  refine calls_C Tryd.func7 rfl Tryd.ntmps7 rfl ?_
  repeat (first | (refine G_id ?_; first | refine G_nil ?_ | refine G_plain rfl rfl ?_) | (refine X_id ?_; first | refine X_box rfl rfl rfl rfl hS (fun _ _ hS _ => ?_) | refine X_alloc rfl rfl rfl hS (fun _ _ hS _ => ?_)) | (refine C_id ?_; first | refine C_seq ?_ | refine C_region ?_) | (refine E_id ?_; first | refine E_code ?_))
  refine C_ord (.s 0 (.s 1 (.s 3 (.s 4 (.s 6 (.s 7 (.s 10 (.s 11 (.s 12 (.s 13 (.s 14 (.s 15 (.s 16 (.s 18 (.s 19 (.s 20 (.s 22 (.s 23 (.s 24 (.s 27 (.s 28 (.s 29 (.s 31 (.s 32 (.s 33 (.s 36 (.s 37 (.s 38 (.s 40 (.s 41 (.s 42 (.s 44 (.s 45 (.s 46 (.s 48 (.s 49 (.s 50 (.s 51 (.s 53 (.s 54 (.h 2 (.h 5 (.h 8 (.h 9 (.h 17 (.h 21 (.h 25 (.s 26 (.h 30 (.h 34 (.s 35 (.h 39 (.h 43 (.h 47 (.s 52 (.s 55 (.h 56 .nil .no))) .no) .no) .no)) .no) .no)) .no) .no) .no) .no) (.h 9 (.h 8 (.h 17 (.h 21 (.h 25 (.s 26 (.h 30 (.h 34 (.s 35 (.h 39 (.h 43 (.h 47 (.s 52 (.s 55 (.h 56 .nil .no))) .no) .no) .no)) .no) .no)) .no) .no) .no) .no) .no)) (.h 9 (.h 5 (.h 8 (.h 17 (.h 21 (.h 25 (.s 26 (.h 30 (.h 34 (.s 35 (.h 39 (.h 43 (.h 47 (.s 52 (.s 55 (.h 56 .nil .no))) .no) .no) .no)) .no) .no)) .no) .no) .no) .no) .no) .no)) (.h 9 (.h 2 (.h 5 (.h 8 (.h 17 (.h 21 (.h 25 (.s 26 (.h 30 (.h 34 (.s 35 (.h 39 (.h 43 (.h 47 (.s 52 (.s 55 (.h 56 .nil .no))) .no) .no) .no)) .no) .no)) .no) .no) .no) .no) .no) .no) .no)))))))))))))))))))))))))))))))))))))))))) mixed (by kernel_rfl) rfl ?_
  have hS := hS.drew
  repeat' (first | (refine GO_pure rfl rfl (fun _ => Yl_minC (m := c.arch.length) (n := 4200) (T := T) rfl rfl rfl hT) rfl rfl ?_) | (refine GO_pure rfl rfl (fun _ => Yl_slice (l := 0) (h := T) rfl rfl rfl rfl (.inr ⟨_, _, rfl, by omega, by omega, by omega⟩) (.inl ⟨rfl, rfl⟩)) rfl rfl ?_) | (refine X_callg 26 rfl rfl rfl rfl rfl (cut40 _ _) ?_; rintro _ _ ⟨rfl, rfl⟩) | (refine X_callg 26 rfl rfl rfl rfl rfl (cut4200 _ _) ?_; rintro _ _ ⟨rfl, rfl⟩) | (refine X_append rfl rfl rfl rfl rfl hS rfl (Nat.le_refl _) (hsb.rd hS) (by simp; omega) bv_one (by omega) (by simp only [maxLen]; omega) (fun _ _ _ hS hcap _ => ?_)) | refine GO_alt ?_ ?_ | (refine X_id ?_; first | refine X_store rfl rfl rfl rfl hS (fun _ hS _ => ?_) | refine X_buildSlice rfl rfl rfl rfl rfl rfl rfl rfl hS (fun _ _ hS _ => ?_)) | (refine C_id ?_; first | refine C_ret ?_) | (refine E_id ?_; first | refine E_code ?_ | refine E_ret1 rfl (by first | exact Rv_tmp rfl | exact Rv_cell rfl (run_load1 hS.cell) | exact Rv_cell rfl (run_loadN hS.cellsN)) (Ret.mk ?_)) | (refine GO_id ?_; first | refine GO_nil ?_ | refine GO_pure rfl rfl (fun _ => Yl_fieldAddr0 rfl rfl rfl) rfl rfl ?_ | refine GO_pure rfl rfl (fun _ => Yl_len rfl rfl) rfl rfl ?_ | refine GO_pure rfl rfl (fun _ => Yl_build rfl rfl rfl) rfl rfl ?_ | refine GO_pure rfl rfl (fun _ => Yl_indexAddr_arr rfl rfl rfl (by omega) (by omega)) rfl rfl ?_ | refine GO_read (fun w' => w'.cell? _ = some _) rfl rfl hS.cell (fun _ hc => Yl_load rfl rfl hc) rfl rfl ?_ | refine GO_hard rfl rfl ?_ | refine GO_pure rfl rfl (fun _ => Yl_buildArr rfl rfl rfl rfl rfl) rfl rfl ?_ | refine GO_read (fun w' => w'.cell? _ = some _) rfl rfl (hS.cellO 4 (by omega)) (fun _ hc => Yl_load rfl rfl hc) rfl rfl ?_ | refine GO_read (fun w' => w'.cell? _ = some _) rfl rfl (hS.cellO 5 (by omega)) (fun _ hc => Yl_load rfl rfl hc) rfl rfl ?_ | refine GO_read (fun w' => w'.cell? _ = some _) rfl rfl (hS.cellO 6 (by omega)) (fun _ hc => Yl_load rfl rfl hc) rfl rfl ?_ | refine GO_read (fun w' => w'.cell? _ = some _) rfl rfl (hS.cellO 7 (by omega)) (fun _ hc => Yl_load rfl rfl hc) rfl rfl ?_ | refine GO_read (fun w' => w'.cell? _ = some _) rfl rfl (hS.cellO 8 (by omega)) (fun _ hc => Yl_load rfl rfl hc) rfl rfl ?_ | refine GO_read (fun w' => w'.cell? _ = some _) rfl rfl (hS.cellO 9 (by omega)) (fun _ hc => Yl_load rfl rfl hc) rfl rfl ?_ | refine GO_read (fun w' => w'.cell? _ = some _) rfl rfl (hS.cellO 10 (by omega)) (fun _ hc => Yl_load rfl rfl hc) rfl rfl ?_) | (refine Keep_id ?_; first | refine And.intro (by repeat (first | exact trivial | refine And.intro (.inl (by decide +kernel)) ?_ | refine And.intro (.inr (by first | assumption | exact hS.cell | exact cell_at (by assumption) | exact hS.cellI (by omega) | exact hS.cellIP (by omega) | exact hS.cellsN | exact ((hr.rd hS).cellX (by omega) hx) | exact ((hr2.rd hS).cellX (by omega) hx2) | exact hS.cellB (by omega) | exact hS.cellBA (by omega) | exact (hb.rd hS).cellB' (by omega) | exact (hb2.rd hS).cellB' (by omega) | exact (hg.rd hS).cellI (by omega) | exact (hg2.rd hS).cellI (by omega) | exact ((hr.rd hS).cellF (by first | omega | (dsimp only; omega)) hx) | exact ((hr2.rd hS).cellF (by first | omega | (dsimp only; omega)) hx2) | exact hS.cellO 0 (by omega) | exact hS.cellO 1 (by omega) | exact hS.cellIA (by omega) | exact (hg.rd hS).cellIA (by omega) | exact (hg2.rd hS).cellIA (by omega) | exact cell_at (hc.rd hS).pts | exact hb.rd hS | exact hS.cellO 4 (by omega) | exact hS.cellO 5 (by omega) | exact hS.cellO 6 (by omega) | exact hS.cellO 7 (by omega) | exact hS.cellO 8 (by omega) | exact hS.cellO 9 (by omega) | exact hS.cellO 10 (by omega) | exact hS.cellO 11 (by omega) | exact hS.cellO 12 (by omega) | exact hS.cellO 13 (by omega))) ?_)) ?_))
  all_goals
    have e : 0 + (T - 0) = c.cut.arch.length := by
      show _ = (c.arch.take 4200).length
      omega
    rw [e]
    refine ⟨_, _, rfl, by rw [← e]; exact hcap, ?_⟩
    have hS := hS.pick [0]
    exact hS.head fun _ h => h.row
end Cr
