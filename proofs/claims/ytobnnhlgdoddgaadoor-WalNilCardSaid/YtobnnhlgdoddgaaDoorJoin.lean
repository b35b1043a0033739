/-
  bytes.Join (without a separator) and bytes.Equal.
-/
import Derived.Test.YtobnnhlgdoddgaaDoorCv
import Derived.Test.YtobnnhlgdoddgaaDoorDig6
import Derived.Lib.MakeNoZero
import Derived.Laws.Externs
namespace Cr
open Go Go.Proofs
set_option maxRecDepth 100000
set_option maxHeartbeats 4000000
attribute [local irreducible] Calls

theorem equal_ (a b : Option Addr) (n m c c' : Nat) (s t : List UInt8) (W : World) (ha : Rd W (bytes a s)) (hb : Rd W (bytes b t)) (hn : s.length = n) (hm : t.length = m) :
    Calls Tryd.prog 51 #[.slice a n c, .slice b m c'] W (Ret fun v w => v = .bool (decide (s = t)) ∧ W = w) := by
  refine calls_C Tryd.func51 rfl Tryd.ntmps51 rfl ?_
  repeat (first | (refine G_id ?_; first | refine G_nil ?_ | refine G_plain rfl rfl ?_) | (refine X_id ?_; first | refine X_yl (Yl_move rfl rfl) rfl rfl ?_ | refine X_yl (Yl_assign rfl rfl) rfl rfl ?_) | (refine C_id ?_; first | refine C_seq ?_ | refine C_region ?_) | (refine E_id ?_; first | refine E_code ?_))
  refine X_yl (Yl_bytesStr rfl rfl ha hn) rfl rfl ?_
  repeat (first | (refine G_id ?_; first | refine G_plain rfl rfl ?_) | (refine X_id ?_; first | refine X_yl (Yl_move rfl rfl) rfl rfl ?_))
  refine X_yl (Yl_bytesStr rfl rfl hb hm) rfl rfl ?_
  repeat (first | (refine G_id ?_; first | refine G_plain rfl rfl ?_))
  refine X_yl (Yl_eqlStr rfl rfl rfl) rfl rfl ?_
  repeat (first | (refine G_id ?_; first | refine G_nil ?_ | refine G_plain rfl rfl ?_) | (refine X_id ?_; first | refine X_yl (Yl_assign rfl rfl) rfl rfl ?_) | (refine C_id ?_; first | refine C_ret ?_) | (refine E_id ?_; first | refine E_code ?_ | refine E_ret1 rfl (Rv_tmp rfl) (Ret.mk ?_)))
  exact ⟨rfl, rfl⟩

theorem mkNoZero (n : Nat) (w : World) (hn : n ≤ 281474976710656) : ∃ cs : Array Value, (callFunc 69 #[.int .i64 n]).run Tryd.prog w = .ok (.value (.slice (some ⟨w.heap.size, 0, none⟩) n cs.size)) (w.drew.drew.alloc (.cells cs 5)) ∧ n ≤ cs.size := by
  obtain ⟨cs, hrun, hle, _⟩ := Lib.run_makeNoZero (P := Tryd.prog) (w := w) #[3] 36 5 (Und.und (P := Tryd.prog) (t := 36) (d := .slice 5)) n hn
  refine ⟨cs, ?_, hle⟩
  rw [run_callFunc_extern Tryd.func69 (by kernel_rfl) (by kernel_rfl) (by kernel_rfl) (e := Extern.BytealgMakeNoZero.makeNoZero #[3] #[36]) (by kernel_rfl), hrun]
  rfl
theorem St.alloc2 {W : World} {F : Nat → Prop} {rs : List Res} {w : World} (hS : St W F rs w) (o : Obj) : St W F (pts w.heap.size o :: rs) (w.drew.drew.alloc o) := hS.drew.drew.alloc o

theorem join_ (ab ao c : Nat) (l : List Bs) (W : World) (hB : Bss W noF (some ⟨ab, ao, none⟩) l) (h2 : 2 ≤ l.length) (hc : l.length ≤ c) (hl : l.length ≤ 1099511627776) (hn : (joined l).length ≤ 1099511627776) :
    Calls Tryd.prog 57 #[.slice (some ⟨ab, ao, none⟩) l.length c, .slice none 0 0] W (Ret fun v w => ∃ p, v = .slice (some ⟨p, 0, none⟩) (joined l).length (joined l).length ∧ St W noF [bytes (some ⟨p, 0, none⟩) (joined l)] w) := by
  have hS := St.start W
  refine calls_C Tryd.func57 rfl Tryd.ntmps57 rfl ?_
  repeat (first | (refine G_id ?_; first | refine G_nil ?_ | refine G_plain rfl rfl ?_) | (refine X_id ?_; first | refine X_yl (Yl_move rfl rfl) rfl rfl ?_ | refine X_yl (Yl_assign rfl rfl) rfl rfl ?_ | refine X_yl (Yl_len rfl rfl) rfl rfl ?_ | refine X_yl (Yl_eql_f rfl rfl rfl (by omega)) rfl rfl ?_ | refine X_yl (Yl_gtr_f rfl rfl rfl (by omega)) rfl rfl ?_) | (refine C_id ?_; first | refine C_seq ?_ | refine C_region ?_ | refine C_block ?_ | refine C_skip ?_ | refine C_cond_f rfl ?_) | (refine E_id ?_; first | refine E_code ?_))
  refine C_loop (α := Nat) (fun i => [(0, .slice (some ⟨ab, ao, none⟩) l.length c), (1, .slice none 0 0), (5, .int .i64 ((joined (l.take i)).length : Nat)), (42, .slice (some ⟨ab, ao, none⟩) l.length c), (43, .int .i64 (l.length : Nat)), (44, .int .i64 (i : Nat))])
    (fun i w => i ≤ l.length ∧ St W noF [] w) (fun i => l.length - i) 0 ⟨rfl, rfl, rfl, rfl, rfl, rfl, trivial⟩ ⟨Nat.zero_le _, hS⟩ ?_
  clear hS
  rintro i w ⟨hi, hS⟩
  have hr := hB.row
  by_cases hlt : i < l.length
  · have hx0 : l[i]? = some l[i] := List.getElem?_eq_getElem hlt
    generalize l[i] = x at hx0
    have hx : (l.map Bs.val)[i]? = some (.slice x.a x.s.length x.c) := by simp [hx0, Bs.val]
    have hj := joined_snoc hx0
    have hle := joined_take_le l (i + 1)
    have hjl : (joined (l.take (i + 1))).length = (joined (l.take i)).length + x.s.length := by rw [hj]; simp
    rw [hjl] at hle
    clear hj
    repeat (first | (refine G_id ?_; first | refine G_nil ?_ | refine G_plain rfl rfl ?_) | (refine X_id ?_; first | refine X_yl (Yl_move rfl rfl) rfl rfl ?_ | refine X_yl (Yl_assign rfl rfl) rfl rfl ?_ | refine X_yl (Yl_len rfl rfl) rfl rfl ?_ | refine X_yl (Yl_lss_t rfl rfl rfl (by omega)) rfl rfl ?_ | refine X_yl (Yl_gtr_f rfl rfl rfl (by omega)) rfl rfl ?_ | refine X_yl (Yl_indexAddr rfl rfl rfl (by omega) (by omega) (by first | assumption | exact ⟨_, _, rfl⟩)) rfl rfl ?_ | refine X_yl (Yl_add rfl rfl rfl (w64 (by omega) (by omega))) rfl rfl ?_ | refine X_yl (Yl_sub rfl rfl rfl (w64 (by omega) (by omega))) rfl rfl ?_ | refine X_yl (Yl_load rfl rfl ((hr.rd hS).cellX (by omega) hx)) rfl rfl ?_) | (refine C_id ?_; first | refine C_seq ?_ | refine C_region ?_ | refine C_block ?_ | refine C_skip ?_ | refine C_cond_t rfl ?_ | refine C_cond_f rfl ?_) | (refine E_id ?_; first | refine E_code ?_ | refine E_blk_n ?_))
    refine E_round (i + 1) ⟨rfl, rfl, by rw [hjl]; rfl, rfl, rfl, rfl, trivial⟩ ⟨by omega, hS⟩ (by omega)
  · obtain rfl : i = l.length := by omega
    rw [List.take_length]
    repeat (first | (refine G_id ?_; first | refine G_nil ?_ | refine G_plain rfl rfl ?_) | (refine X_id ?_; first | refine X_yl (Yl_move rfl rfl) rfl rfl ?_ | refine X_yl (Yl_lss_f rfl rfl rfl (by omega)) rfl rfl ?_) | (refine C_id ?_; first | refine C_seq ?_ | refine C_region ?_ | refine C_exit ?_ | refine C_cond_f rfl ?_) | (refine E_id ?_; first | refine E_code ?_ | refine E_then_exit ?_ | refine E_blk_same ?_))
    obtain ⟨cs, hrun, hcs⟩ := mkNoZero (joined l).length w (by omega)
    refine X_run rfl rfl rfl hrun rfl rfl ?_
    replace hS := hS.alloc2 (.cells cs 5)
    generalize w.drew.drew.alloc (.cells cs 5) = w2 at hS ⊢
    generalize w.heap.size = p at hS ⊢
    clear hrun
    obtain ⟨T, hT⟩ : ∃ T, T = (joined l).length := ⟨_, rfl⟩
    have hjt := joined_take_le l
    rw [← hT] at hcs hn hjt ⊢
    repeat (first | (refine G_id ?_; first | refine G_plain rfl rfl ?_) | (refine X_id ?_; first | refine X_yl (Yl_move rfl rfl) rfl rfl ?_))
    refine X_yl (Yl_slice3 (l := 0) (h := T) (k := T) rfl rfl rfl rfl rfl ⟨_, _, rfl, by omega, by omega, hcs⟩ ⟨_, _, rfl, by omega, by omega, Nat.le_refl _⟩ (.inl ⟨rfl, rfl⟩)) rfl rfl ?_
    rw [sub_zero, Nat.sub_zero]
    obtain ⟨x, hx0⟩ : ∃ x, l[0]? = some x := ⟨_, List.getElem?_eq_getElem (by omega)⟩
    have hx : (l.map Bs.val)[0]? = some (.slice x.a x.s.length x.c) := by simp [hx0, Bs.val]
    have hbx := hB.all x (List.mem_of_getElem? hx0)
    have hj0 := joined_snoc hx0
    simp only [List.take_zero, Nat.zero_add] at hj0
    replace hj0 : joined (l.take 1) = x.s := by rw [hj0]; rfl
    have hx1 := hjt 1
    rw [hj0] at hx1
    obtain ⟨c0, rfl⟩ : ∃ c0 : List Value, cs = c0.toArray := ⟨cs.toList, by simp⟩
    have hc0 : T ≤ c0.length := by simpa using hcs
    repeat (first | (refine G_id ?_; first | refine G_nil ?_ | refine G_plain rfl rfl ?_) | (refine X_id ?_; first | refine X_yl (Yl_move rfl rfl) rfl rfl ?_ | refine X_yl (Yl_assign rfl rfl) rfl rfl ?_ | refine X_yl (Yl_indexAddr rfl rfl rfl (by omega) (by omega) (by first | assumption | exact ⟨_, _, rfl⟩)) rfl rfl ?_ | refine X_yl (Yl_load rfl rfl ((hr.rd hS).cellX (by omega) hx)) rfl rfl ?_) | (refine C_id ?_; first | refine C_seq ?_ | refine C_region ?_) | (refine E_id ?_; first | refine E_code ?_))
    refine X_copy rfl rfl rfl rfl rfl hS (hbx.rd hS) (by simp) bv_one (by omega) (fun w hS => ?_)
    rw [List.take_of_length_le (by simp; omega)] at hS
    replace hS : St W noF [pts p (.cells (bv (joined (l.take 1)) ++ c0.drop x.s.length).toArray 5)] w := by
      rw [hj0]; simpa [splice] using hS
    have hmin : min x.s.length T = (joined (l.take 1)).length := by rw [hj0]; omega
    rw [hmin]
    have hjx : (joined (l.take 1)).length = x.s.length := by rw [hj0]
    clear hmin hx hx0 hbx hj0
    repeat (first | (refine G_id ?_; first | refine G_nil ?_ | refine G_plain rfl rfl ?_) | (refine X_id ?_; first | refine X_yl (Yl_move rfl rfl) rfl rfl ?_ | refine X_yl (Yl_assign rfl rfl) rfl rfl ?_) | (refine C_id ?_; first | refine C_seq ?_ | refine C_region ?_) | (refine E_id ?_; first | refine E_code ?_))
    refine X_yl (Yl_slice (l := 1) (h := l.length) rfl rfl rfl rfl (.inl ⟨rfl, rfl⟩) (.inr ⟨_, _, rfl, by omega, by omega, by omega⟩)) rfl rfl ?_
    rw [show sub (some ⟨ab, ao, none⟩) 1 1 c = some ⟨ab, ao + 1, none⟩ by unfold sub; rw [if_neg (by omega)]; simp [add_lit]]
    have hr' : Ro W noF (row (some ⟨ab, ao + 1, none⟩) ((l.map Bs.val).drop 1)) := hr.mono fun h hh => by
      have := row.part (a := some ⟨ab, ao, none⟩) (cs' := (l.map Bs.val).drop 1) (i := 1) (fun j v hv => by simpa [Nat.add_comm] using hv) h hh
      simpa [adr] using this
    clear hr
    repeat (first | (refine G_id ?_; first | refine G_nil ?_ | refine G_plain rfl rfl ?_) | (refine X_id ?_; first | refine X_yl (Yl_move rfl rfl) rfl rfl ?_ | refine X_yl (Yl_len rfl rfl) rfl rfl ?_) | (refine C_id ?_; first | refine C_block ?_) | (refine E_id ?_; first | refine E_code ?_))
    refine C_loop (α := Nat) (fun i => [(1, .slice none 0 0), (8, .slice (some ⟨p, 0, none⟩) T T), (9, .int .i64 ((joined (l.take (i + 1))).length : Nat)), (70, .slice (some ⟨ab, ao + 1, none⟩) (l.length - 1) (c - 1)), (71, .int .i64 ((l.length - 1 : Nat) : Int)), (72, .int .i64 (i : Nat))])
      (fun i w => i ≤ l.length - 1 ∧ ∃ r, r.length + (joined (l.take (i + 1))).length = c0.length ∧ St W noF [pts p (.cells (bv (joined (l.take (i + 1))) ++ r).toArray 5)] w) (fun i => l.length - 1 - i) 0 ⟨rfl, rfl, rfl, rfl, rfl, rfl, trivial⟩ ⟨Nat.zero_le _, _, by simp; omega, hS⟩ ?_
    clear hS
    rintro i w ⟨hi, r, hrl, hS⟩
    have hjt1 := hjt (i + 1)
    obtain ⟨J, hJ⟩ : ∃ J, J = joined (l.take (i + 1)) := ⟨_, rfl⟩
    rw [← hJ] at hS hrl hjt1 ⊢
    by_cases hlt : i < l.length - 1
    · obtain ⟨x, hx0⟩ : ∃ x, l[i + 1]? = some x := ⟨_, List.getElem?_eq_getElem (by omega)⟩
      have hbx := hB.all x (List.mem_of_getElem? hx0)
      have hj0 := joined_snoc hx0
      have hx : ((l.map Bs.val).drop 1)[i]? = some (.slice x.a x.s.length x.c) := by simp [hx0, Bs.val]
      have hx1 := hjt (i + 1 + 1)
      rw [hj0, ← hJ, List.length_append] at hx1
      have hr := hr'
      repeat (first | (refine G_id ?_; first | refine G_nil ?_ | refine G_plain rfl rfl ?_) | (refine X_id ?_; first | refine X_yl (Yl_move rfl rfl) rfl rfl ?_ | refine X_yl (Yl_assign rfl rfl) rfl rfl ?_ | refine X_yl (Yl_lss_t rfl rfl rfl (by omega)) rfl rfl ?_ | refine X_yl (Yl_indexAddr rfl rfl rfl (by omega) (by omega) (by first | assumption | exact ⟨_, _, rfl⟩)) rfl rfl ?_ | refine X_yl (Yl_load rfl rfl ((hr.rd hS).cellX (by omega) hx)) rfl rfl ?_) | (refine C_id ?_; first | refine C_seq ?_ | refine C_region ?_ | refine C_block ?_ | refine C_skip ?_ | refine C_cond_t rfl ?_) | (refine E_id ?_; first | refine E_code ?_))
      refine X_yl (Yl_slice (l := J.length) (h := T) rfl rfl rfl rfl (.inl ⟨rfl, rfl⟩) (.inr ⟨_, _, rfl, by omega, by omega, by omega⟩)) rfl rfl ?_
      obtain ⟨off, hoff, hof⟩ : ∃ off, sub (some ⟨p, 0, none⟩) J.length 1 T = some ⟨p, off, none⟩ ∧ (off = J.length ∨ (T = J.length ∧ off = 0)) := by
        unfold sub
        by_cases e : T = J.length
        · exact ⟨0, by rw [if_pos e], .inr ⟨e, rfl⟩⟩
        · exact ⟨J.length, by rw [if_neg e]; simp [add_lit], .inl rfl⟩
      rw [hoff]
      repeat (first | (refine G_id ?_; first | refine G_plain rfl rfl ?_) | (refine X_id ?_; first | refine X_yl (Yl_move rfl rfl) rfl rfl ?_))
      refine X_copy (news := []) rfl rfl rfl rfl rfl hS (Rd_nil _ _) rfl (fun _ h => by cases h) (by simp; omega) (fun w hS => ?_)
      rw [show splice (bv J ++ r) off (([] : List Value).take (T - J.length)) = bv J ++ r by simp [splice]] at hS
      rw [show ((min 0 (T - J.length) : Nat) : Int) = 0 by omega]
      repeat (first | (refine G_id ?_; first | refine G_nil ?_ | refine G_plain rfl rfl ?_) | (refine X_id ?_; first | refine X_yl (Yl_move rfl rfl) rfl rfl ?_ | refine X_yl (Yl_assign rfl rfl) rfl rfl ?_ | refine X_yl (Yl_add rfl rfl rfl (w64 (by omega) (by omega))) rfl rfl ?_) | (refine C_id ?_; first | refine C_region ?_) | (refine E_id ?_; first | refine E_code ?_))
      rw [show (J.length : Int) + 0 = (J.length : Nat) by omega]
      refine X_yl (Yl_slice (l := J.length) (h := T) rfl rfl rfl rfl (.inl ⟨rfl, rfl⟩) (.inr ⟨_, _, rfl, by omega, by omega, by omega⟩)) rfl rfl ?_
      rw [hoff]
      repeat (first | (refine G_id ?_; first | refine G_plain rfl rfl ?_) | (refine X_id ?_; first | refine X_yl (Yl_move rfl rfl) rfl rfl ?_))
      refine X_copy rfl rfl rfl rfl rfl hS (hbx.rd hS) (by simp) bv_one (by simp; omega) (fun w hS => ?_)
      repeat (first | (refine G_id ?_; first | refine G_nil ?_ | refine G_plain rfl rfl ?_) | (refine X_id ?_; first | refine X_yl (Yl_move rfl rfl) rfl rfl ?_ | refine X_yl (Yl_assign rfl rfl) rfl rfl ?_ | refine X_yl (Yl_add rfl rfl rfl (w64 (by omega) (by omega))) rfl rfl ?_) | (refine C_id ?_; first | refine C_region ?_) | (refine E_id ?_; first | refine E_code ?_ | refine E_blk_n ?_))
      refine E_round (i + 1) ⟨rfl, rfl, ?_, rfl, rfl, rfl, trivial⟩ ⟨by omega, r.drop x.s.length, by rw [hj0, ← hJ]; simp; omega, ?_⟩ (by omega)
      · show some _ = some _
        rw [hj0, ← hJ]
        congr 2
        simp
        omega
      · rw [hj0, ← hJ, bv_append]
        rcases hof with rfl | ⟨e, rfl⟩
        · rw [List.take_of_length_le (by simp; omega)] at hS
          have : splice (bv J ++ r) J.length (bv x.s) = bv J ++ bv x.s ++ r.drop x.s.length := by
            have := splice_mid (l := bv J) (m := r) (vs := bv x.s) (k := J.length) (n := 0) (by simp)
            rw [Nat.add_zero] at this
            rw [this]; simp [splice]
          rw [this] at hS
          exact hS
        · have h0 : x.s = [] := List.length_eq_zero_iff.1 (by omega)
          rw [h0] at hS ⊢
          simpa [splice, bv] using hS
    · obtain rfl : i = l.length - 1 := by omega
      have hJj : J = joined l := by rw [hJ, show l.length - 1 + 1 = l.length by omega, List.take_length]
      repeat (first | (refine G_id ?_; first | refine G_nil ?_ | refine G_plain rfl rfl ?_) | (refine X_id ?_; first | refine X_yl (Yl_move rfl rfl) rfl rfl ?_ | refine X_yl (Yl_assign rfl rfl) rfl rfl ?_ | refine X_yl (Yl_lss_f rfl rfl rfl (by omega)) rfl rfl ?_) | (refine C_id ?_; first | refine C_seq ?_ | refine C_region ?_ | refine C_ret ?_ | refine C_exit ?_ | refine C_cond_f rfl ?_) | (refine E_id ?_; first | refine E_code ?_ | refine E_then_exit ?_ | refine E_blk_same ?_ | refine E_ret1 rfl (Rv_tmp rfl) (Ret.mk ?_)))
      refine ⟨p, rfl, hS.head fun h hh => row_pts_at (n := J.length) ?_ h hh⟩
      rw [← hJj]; simp
end Cr
