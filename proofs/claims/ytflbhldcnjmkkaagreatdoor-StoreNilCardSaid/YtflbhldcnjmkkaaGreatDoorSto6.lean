/-
  Layer 10 (store): the laws' helper To.
  Layer 10 (store): what nil tells; the chapter's examples; the law StoreNil.
  Layer 10's package and connection as arguments, opened.
  The closed facts of StoreNil's row, one by one.
  The law StoreNil holds: for every package and every connection it returns true, and what is handed reads as it did; the package-level tables are as the program's text lays them.
-/
import Derived.Test.YtflbhldcnjmkkaaGreatDoorSto5
import Derived.Test.YtflbhldcnjmkkaaGreatDoorSto4
namespace Cr
open Go Go.Proofs
set_option maxRecDepth 100000
set_option maxHeartbeats 8000000
attribute [local irreducible] Calls

theorem Rd.cellsF {w : World} {b off o' i n : Nat} {cs seg : List Value} (H : Rd w (row (some ⟨b, off, none⟩) cs)) (hi : o' = off + i) (h : (cs.drop i).take n = seg) (hn : seg.length = n) : CellsN w ⟨b, o', none⟩ n seg := by
  have := H.cellsX (i' := i) rfl h hn
  subst hi; exact this
theorem rev_len {l : List RevD} (hl : ∀ x ∈ l, x.sl.length = 32) : (l.flatMap RevD.cells).length = l.length * 34 := flatMap_len (fun x hx => by simp [hl x hx])
theorem rev_get {l : List RevD} (hl : ∀ x ∈ l, x.sl.length = 32) {i : Nat} {x : RevD} (h : l[i]? = some x) (k : Nat) (hk : k < 34) : (l.flatMap RevD.cells)[i * 34 + k]? = (RevD.cells x)[k]? := by
  have h1 := rev_seg hl h
  have h2 := congrArg (fun q => q[k]?) h1
  simp only [List.getElem?_take, hk, if_true, List.getElem?_drop] at h2
  exact h2
abbrev z34 : List Value := .int .i64 0 :: (List.replicate 32 (.int .u8 0) ++ [.int .i64 0])
theorem lay34 (x : RevD) (h : x.sl.length = 32) : Lay [(0, 1), (1, 32), (33, 1)] z34 [(0, .int .i64 x.no), (1, .agg (bv x.sl).toArray), (2, .int .i64 x.size)] x.cells := by
  have h32 : (bv x.sl).length = 32 := by simp [h]
  have hl : LenIs (bv x.sl) 32 := ⟨h32⟩
  have s2 : Spl (.int .i64 x.no :: (List.replicate 32 (.int .u8 0) ++ [.int .i64 0])) 1 (bv x.sl) (.int .i64 x.no :: (bv x.sl ++ [.int .i64 0])) := ⟨by simp [h32], by simp [h32]⟩
  have s3 : Spl (.int .i64 x.no :: (bv x.sl ++ [.int .i64 0])) 33 [.int .i64 x.size] (.int .i64 x.no :: (bv x.sl ++ [.int .i64 x.size])) := ⟨by simp [h32], by
    simp only [List.take_succ_cons, List.cons_append, List.drop_succ_cons, List.length_cons, List.length_nil]
    rw [List.take_append_of_le_length (by omega), List.take_of_length_le (by omega)]
    simp [h32]⟩
  infer_instance
theorem to10_ (nm pb : List UInt8) (ac : Int) (a : Option Addr) (c : Nat) (l : List RevD) (hl : ∀ x ∈ l, x.sl.length = 32) (W : World) (hr0 : Rd W (row a (l.flatMap RevD.cells))) :
    Calls Tryz.prog 22 #[.agg #[.string (str nm), .string (str pb), .int .i64 ac, .slice a l.length c]] W
      (Ret fun v w => ∃ a' c', v = .agg #[.string (str (nm.take 40)), .string (str (pb.take 40)), .int .i64 ac, .slice a' (l.take 4).length c'] ∧ (l.take 4).length ≤ c' ∧ St W noF [own 164 34 a' c' ((l.take 4).flatMap RevD.cells)] w) := by
  have hro := hr0.ro
  have hS := St.start W
  have C1 := fun W => cut10_ nm W
  have C2 := fun W => cut10_ pb W
  refine calls_C Tryz.func22 rfl Tryz.ntmps22 rfl ?_
  repeat (first | (refine G_id ?_; first | refine G_nil ?_ | refine G_plain rfl rfl ?_) | (refine X_id ?_; first | refine X_box rfl rfl rfl rfl hS (fun _ _ hS _ => ?_) | refine X_alloc rfl rfl rfl hS (fun _ _ hS _ => ?_)) | (refine C_id ?_; first | refine C_seq ?_ | refine C_region ?_) | (refine E_id ?_; first | refine E_code ?_))
  rename_i b1 _ _ _ b2 _ _
  refine C_join (α := Nat) (fun z => [(1, .pointer (some ⟨b1, 0, none⟩)), (2, .pointer (some ⟨b2, 0, none⟩)), (3, .pointer (some ⟨z, 0, none⟩))]) (fun z w => St W noF [pts z (.cells #[.string (str (nm.take 40)), .string (str (pb.take 40)), .int .i64 ac, .slice none 0 0] 62), pts b2 (.cells #[.string { data := #[] }, .string { data := #[] }, .int .i64 0, .slice none 0 0] 62), pts b1 (.cells #[.string (str nm), .string (str pb), .int .i64 ac, .slice a l.length c] 53)] w) ?_ ?_
  · skip
    refine C_ord (.s 0 (.s 1 (.s 3 (.s 4 (.s 6 (.s 7 (.h 2 (.h 5 (.s 8 (.h 9 (.h 10 .nil .no) .no)) (.h 9 (.h 5 (.s 8 (.h 10 .nil .no)) .no) .no)) (.h 9 (.h 2 (.h 5 (.s 8 (.h 10 .nil .no)) .no) .no) .no)))))))) mixed (by kernel_rfl) rfl ?_
    have hS := hS.drew
    repeat' (first | (refine X_callq 79 rfl rfl rfl rfl rfl hS (C1 _) ?_; rintro _ _ rfl hS) | (refine X_callq 79 rfl rfl rfl rfl rfl hS (C2 _) ?_; rintro _ _ rfl hS) | refine GO_alt ?_ ?_ | (refine X_id ?_; first | refine X_store rfl rfl rfl rfl hS (fun _ hS _ => ?_) | refine X_alloc rfl rfl rfl hS (fun _ _ hS _ => ?_)) | (refine GO_id ?_; first | refine GO_nil ?_ | refine GO_pure rfl rfl (fun _ => Yl_fieldAddr0 rfl rfl rfl) rfl rfl ?_ | refine GO_pure rfl rfl (fun _ => Yl_build rfl rfl rfl) rfl rfl ?_ | refine GO_read (fun w' => w'.cell? _ = some _) rfl rfl hS.cell (fun _ hc => Yl_load rfl rfl hc) rfl rfl ?_ | refine GO_hard rfl rfl ?_) | (refine Keep_id ?_; first | refine And.intro (by repeat (first | exact trivial | refine And.intro (.inl (by decide +kernel)) ?_ | refine And.intro (.inr (by first | assumption | exact hS.cell | exact cell_at (by assumption) | exact hS.cellI (by omega) | exact hS.cellIP (by omega) | exact hS.cellsN | exact ((hr.rd hS).cellX (by omega) hx) | exact ((hr2.rd hS).cellX (by omega) hx2) | exact hS.cellB (by omega) | exact hS.cellBA (by omega) | exact (hb.rd hS).cellB' (by omega) | exact (hb2.rd hS).cellB' (by omega) | exact (hg.rd hS).cellI (by omega) | exact (hg2.rd hS).cellI (by omega) | exact ((hr.rd hS).cellF (by first | omega | (dsimp only; omega)) hx) | exact ((hr2.rd hS).cellF (by first | omega | (dsimp only; omega)) hx2) | exact hS.cellO 0 (by omega) | exact hS.cellO 1 (by omega) | exact hS.cellIA (by omega) | exact (hg.rd hS).cellIA (by omega) | exact (hg2.rd hS).cellIA (by omega) | exact cell_at (hc.rd hS).pts | exact hb.rd hS | exact hS.cellO 4 (by omega) | exact hS.cellO 5 (by omega) | exact hS.cellO 6 (by omega) | exact hS.cellO 7 (by omega) | exact hS.cellO 8 (by omega) | exact hS.cellO 9 (by omega) | exact hS.cellO 10 (by omega) | exact hS.cellO 11 (by omega) | exact hS.cellO 12 (by omega) | exact hS.cellO 13 (by omega) | exact hS.cellO 2 (by omega) | exact hS.cellO 3 (by omega))) ?_)) ?_))
    all_goals exact E_mid _ ⟨rfl, rfl, rfl, trivial⟩ hS
  · clear hS
    rintro b3 w hS
    repeat (first | (refine G_id ?_; first | refine G_nil ?_ | refine G_plain rfl rfl ?_) | (refine X_id ?_; first | refine X_yl (Yl_assign rfl rfl) rfl rfl ?_) | (refine C_id ?_; first | refine C_seq ?_ | refine C_region ?_ | refine C_block ?_) | (refine E_id ?_; first | refine E_code ?_))
    refine C_joinB (α := Nat × Option Addr × Nat) (fun z => [(2, .pointer (some ⟨b2, 0, none⟩)), (3, .pointer (some ⟨b3, 0, none⟩))])
      (fun z w => (z.1 = l.length ∨ z.1 = 4) ∧ z.1 ≤ l.length ∧ z.1 ≤ 4 ∧ z.1 ≤ z.2.2 ∧ St W noF [own 164 34 z.2.1 z.2.2 ((l.take z.1).flatMap RevD.cells), pts b3 (.cells #[.string (str (nm.take 40)), .string (str (pb.take 40)), .int .i64 ac, .slice z.2.1 z.1 z.2.2] 62), pts b2 (.cells #[.string { data := #[] }, .string { data := #[] }, .int .i64 0, .slice none 0 0] 62)] w) ?_ ?_
    · refine C_loop (α := Nat × Option Addr × Nat) (fun z => [(1, .pointer (some ⟨b1, 0, none⟩)), (2, .pointer (some ⟨b2, 0, none⟩)), (3, .pointer (some ⟨b3, 0, none⟩)), (4, .int .i64 (z.1 : Nat))])
        (fun z w => z.1 ≤ l.length ∧ z.1 ≤ 4 ∧ z.1 ≤ z.2.2 ∧ St W noF [own 164 34 z.2.1 z.2.2 ((l.take z.1).flatMap RevD.cells), pts b3 (.cells #[.string (str (nm.take 40)), .string (str (pb.take 40)), .int .i64 ac, .slice z.2.1 z.1 z.2.2] 62), pts b2 (.cells #[.string { data := #[] }, .string { data := #[] }, .int .i64 0, .slice none 0 0] 62), pts b1 (.cells #[.string (str nm), .string (str pb), .int .i64 ac, .slice a l.length c] 53)] w)
        (fun z => 4 - z.1) (0, none, 0) ⟨rfl, rfl, rfl, rfl, trivial⟩ ⟨Nat.zero_le _, Nat.zero_le _, Nat.le_refl _, (hS.own_none 164 34 none)⟩ ?_
      clear hS
      rintro ⟨i, a', c'⟩ w ⟨hi, hi4, hic, hS⟩
      simp only at hi hi4 hic hS ⊢
      by_cases h1 : i < l.length
      · by_cases h2 : i < 4
        · have hx0 : l[i]? = some l[i] := List.getElem?_eq_getElem h1
          have htk : l.take (i + 1) = l.take i ++ [l[i]] := List.take_succ_eq_append_getElem h1
          generalize l[i] = x at hx0 htk
          have hxl := hl x (List.mem_of_getElem? hx0)
          have hr := hro
          have hr2 := hro
          have hx : (l.flatMap RevD.cells)[i * 34 + 0]? = some (.int .i64 x.no) := rev_get hl hx0 0 (by omega)
          have hx2 : (l.flatMap RevD.cells)[i * 34 + 33]? = some (.int .i64 x.size) := by
            rw [rev_get hl hx0 33 (by omega)]
            show (bv x.sl ++ [Value.int .i64 x.size])[32]? = _
            rw [List.getElem?_append_right (by simp [hxl])]
            simp [hxl]
          have hseg : ((l.flatMap RevD.cells).drop (i * 34 + 1)).take 32 = bv x.sl := by
            have h := rev_seg hl hx0
            rw [← List.drop_drop]
            have h3 := congrArg (fun q => (q.drop 1).take 32) h
            replace h3 : ((((l.flatMap RevD.cells).drop (i * 34)).take 34).drop 1).take 32 = ((RevD.cells x).drop 1).take 32 := h3
            rw [List.drop_take, List.take_take] at h3
            rw [show min 32 (34 - 1) = 32 from rfl] at h3
            rw [h3]
            show (bv x.sl ++ [Value.int .i64 x.size]).take 32 = _
            rw [List.take_append_of_le_length (by simp [hxl]), List.take_of_length_le (by simp [hxl])]
          have hln : LenIs (bv x.sl) 32 := ⟨by simp [hxl]⟩
          have hlt : (l.take i).length = i := by rw [List.length_take]; omega
          obtain ⟨xb, xo, hxa⟩ := (hr.rd hS).base (by intro e; rw [e] at hx; simp at hx)
          rw [hxa] at hr hr2 ⊢
          rw [hxa] at hS
          repeat (first | (refine G_id ?_; first | refine G_nil ?_ | refine G_plain rfl rfl ?_ | refine G_yes rfl rfl rfl rfl ?_) | (refine X_id ?_; first | refine X_yl (Yl_move rfl rfl) rfl rfl ?_ | refine X_yl (Yl_fieldAddr0 rfl rfl rfl) rfl rfl ?_ | refine X_yl (Yl_pick_t rfl rfl rfl) rfl rfl ?_ | refine X_yl (Yl_len rfl rfl) rfl rfl ?_ | refine X_yl (Yl_lss_t rfl rfl rfl (by omega)) rfl rfl ?_ | refine X_yl (Yl_load rfl rfl hS.cell) rfl rfl ?_) | (refine C_id ?_; first | refine C_seq ?_ | refine C_region ?_ | refine C_block ?_ | refine C_skip ?_ | refine C_cond_t rfl ?_) | (refine E_id ?_; first | refine E_code ?_))
          refine C_ord (.s 0 (.s 1 (.s 2 (.s 3 (.s 4 (.s 5 (.s 6 (.s 7 (.s 8 (.s 9 (.s 10 (.s 11 (.s 12 (.s 13 (.s 14 (.s 15 (.s 16 (.s 17 (.s 18 (.s 19 (.s 20 (.h 21 (.h 22 (.s 23 (.h 24 .nil .no)) .no) .no)))))))))))))))))))))) mixed (by kernel_rfl) rfl ?_
          have hS := hS.drew
          repeat (first | (refine GO_id ?_; first | refine GO_pure rfl rfl (fun _ => Yl_move rfl rfl) rfl rfl ?_ | refine GO_pure rfl rfl (fun _ => Yl_fieldAddr0 rfl rfl rfl) rfl rfl ?_ | refine GO_pure rfl rfl (fun _ => Yl_fieldAddr rfl rfl rfl) rfl rfl ?_ | refine GO_pure rfl rfl (fun _ => Yl_indexAddr rfl rfl rfl (by omega) (by omega) (by first | assumption | exact ⟨_, _, rfl⟩)) rfl rfl ?_ | refine GO_read (fun w' => w'.cell? _ = some _) rfl rfl hS.cell (fun _ hc => Yl_load rfl rfl hc) rfl rfl ?_ | refine GO_read (fun w' => w'.cell? _ = some _) rfl rfl ((hr.rd hS).cellX (by omega) hx) (fun _ hc => Yl_load rfl rfl hc) rfl rfl ?_))
          refine GO_read (fun w' => CellsN w' _ _ _) rfl rfl ((hr.rd hS).cellsF (by first | omega | (dsimp only; omega)) hseg (by simp [hxl])) (fun _ hc => Yl_loadN rfl rfl hc) rfl rfl ?_
          repeat (first | (refine GO_id ?_; first | refine GO_pure rfl rfl (fun _ => Yl_move rfl rfl) rfl rfl ?_ | refine GO_pure rfl rfl (fun _ => Yl_fieldAddr0 rfl rfl rfl) rfl rfl ?_ | refine GO_pure rfl rfl (fun _ => Yl_fieldAddr rfl rfl rfl) rfl rfl ?_ | refine GO_pure rfl rfl (fun _ => Yl_indexAddr rfl rfl rfl (by omega) (by omega) (by first | assumption | exact ⟨_, _, rfl⟩)) rfl rfl ?_ | refine GO_read (fun w' => w'.cell? _ = some _) rfl rfl hS.cell (fun _ hc => Yl_load rfl rfl hc) rfl rfl ?_ | refine GO_read (fun w' => w'.cell? _ = some _) rfl rfl ((hr2.rd hS).cellF (by first | omega | (dsimp only; omega)) hx2) (fun _ hc => Yl_load rfl rfl hc) rfl rfl ?_))
          have hln34 : LenIs x.cells 34 := ⟨by simp [hxl]⟩
          refine GO_pure rfl rfl (fun _ => Yl_build (cs := z34) (hl := lay34 x hxl) rfl rfl rfl) rfl rfl ?_
          repeat (first | (refine X_id ?_; first | refine X_buildSlice rfl rfl rfl rfl rfl rfl rfl rfl hS (fun _ _ hS _ => ?_)) | (refine GO_id ?_; first | refine GO_hard rfl rfl ?_) | (refine Keep_id ?_; first | refine And.intro (by repeat (first | exact trivial | refine And.intro (.inl (by decide +kernel)) ?_ | refine And.intro (.inr (by first | assumption | exact hS.cell | exact cell_at (by assumption) | exact hS.cellI (by omega) | exact hS.cellIP (by omega) | exact hS.cellsN | exact ((hr.rd hS).cellX (by omega) hx) | exact ((hr2.rd hS).cellX (by omega) hx2) | exact hS.cellB (by omega) | exact hS.cellBA (by omega) | exact (hb.rd hS).cellB' (by omega) | exact (hb2.rd hS).cellB' (by omega) | exact (hg.rd hS).cellI (by omega) | exact (hg2.rd hS).cellI (by omega) | exact ((hr.rd hS).cellF (by first | omega | (dsimp only; omega)) hx) | exact ((hr2.rd hS).cellF (by first | omega | (dsimp only; omega)) hx2) | exact hS.cellO 0 (by omega) | exact hS.cellO 1 (by omega) | exact hS.cellIA (by omega) | exact (hg.rd hS).cellIA (by omega) | exact (hg2.rd hS).cellIA (by omega) | exact cell_at (hc.rd hS).pts | exact hb.rd hS | exact hS.cellO 4 (by omega) | exact hS.cellO 5 (by omega) | exact hS.cellO 6 (by omega) | exact hS.cellO 7 (by omega) | exact hS.cellO 8 (by omega) | exact hS.cellO 9 (by omega) | exact hS.cellO 10 (by omega) | exact hS.cellO 11 (by omega) | exact hS.cellO 12 (by omega) | exact hS.cellO 13 (by omega) | exact hS.cellO 2 (by omega) | exact hS.cellO 3 (by omega))) ?_)) ?_))
          refine X_append (m := 1) rfl rfl rfl rfl rfl hS (by rw [rev_len (fun y hy => hl y (List.mem_of_mem_take hy)), hlt]) hic ((hS.rd (List.mem_cons_self ..)).own_row) (by simp [hxl]) (by
            intro u hu
            simp only [List.mem_cons, List.mem_append, List.not_mem_nil, or_false] at hu
            rcases hu with rfl | hu | rfl
            · rfl
            · exact bv_one u hu
            · rfl) (by omega) (by simp only [maxLen]; omega) (fun a2 c2 w hS hc2 _ => ?_)
          repeat (first | (refine G_id ?_; first | refine G_nil ?_ | refine G_plain rfl rfl ?_) | (refine X_id ?_; first | refine X_yl (Yl_move rfl rfl) rfl rfl ?_ | refine X_yl (Yl_assign rfl rfl) rfl rfl ?_ | refine X_yl (Yl_add rfl rfl rfl (w64 (by omega) (by omega))) rfl rfl ?_ | refine X_store rfl rfl rfl rfl hS (fun _ hS _ => ?_)) | (refine C_id ?_; first | refine C_region ?_) | (refine E_id ?_; first | refine E_code ?_ | refine E_blk_n ?_) | (refine GO_id ?_; first | refine GO_nil ?_ | refine GO_pure rfl rfl (fun _ => Yl_fieldAddr0 rfl rfl rfl) rfl rfl ?_ | refine GO_hard rfl rfl ?_) | (refine Keep_id ?_; first | refine And.intro (by repeat (first | exact trivial | refine And.intro (.inl (by decide +kernel)) ?_ | refine And.intro (.inr (by first | assumption | exact hS.cell | exact cell_at (by assumption) | exact hS.cellI (by omega) | exact hS.cellIP (by omega) | exact hS.cellsN | exact ((hr.rd hS).cellX (by omega) hx) | exact ((hr2.rd hS).cellX (by omega) hx2) | exact hS.cellB (by omega) | exact hS.cellBA (by omega) | exact (hb.rd hS).cellB' (by omega) | exact (hb2.rd hS).cellB' (by omega) | exact (hg.rd hS).cellI (by omega) | exact (hg2.rd hS).cellI (by omega) | exact ((hr.rd hS).cellF (by first | omega | (dsimp only; omega)) hx) | exact ((hr2.rd hS).cellF (by first | omega | (dsimp only; omega)) hx2) | exact hS.cellO 0 (by omega) | exact hS.cellO 1 (by omega) | exact hS.cellIA (by omega) | exact (hg.rd hS).cellIA (by omega) | exact (hg2.rd hS).cellIA (by omega) | exact cell_at (hc.rd hS).pts | exact hb.rd hS | exact hS.cellO 4 (by omega) | exact hS.cellO 5 (by omega) | exact hS.cellO 6 (by omega) | exact hS.cellO 7 (by omega) | exact hS.cellO 8 (by omega) | exact hS.cellO 9 (by omega) | exact hS.cellO 10 (by omega) | exact hS.cellO 11 (by omega) | exact hS.cellO 12 (by omega) | exact hS.cellO 13 (by omega) | exact hS.cellO 2 (by omega) | exact hS.cellO 3 (by omega))) ?_)) ?_))
          refine E_round (z := (i, a', c')) (i + 1, a2, c2) ⟨rfl, rfl, rfl, rfl, trivial⟩ ⟨by simp only; omega, by simp only; omega, by simp only; exact hc2, ?_⟩ (by simp only; omega)
          simp only
          rw [htk, List.flatMap_append, List.flatMap_cons, List.flatMap_nil, List.append_nil]
          exact hS.took
        · obtain rfl : i = 4 := by omega
          repeat (first | (refine G_id ?_; first | refine G_nil ?_ | refine G_plain rfl rfl ?_ | refine G_yes rfl rfl rfl rfl ?_) | (refine X_id ?_; first | refine X_yl (Yl_move rfl rfl) rfl rfl ?_ | refine X_yl (Yl_fieldAddr0 rfl rfl rfl) rfl rfl ?_ | refine X_yl (Yl_pick_t rfl rfl rfl) rfl rfl ?_ | refine X_yl (Yl_len rfl rfl) rfl rfl ?_ | refine X_yl (Yl_lss_t rfl rfl rfl (by omega)) rfl rfl ?_ | refine X_yl (Yl_lss_f rfl rfl rfl (by omega)) rfl rfl ?_ | refine X_yl (Yl_load rfl rfl hS.cell) rfl rfl ?_) | (refine C_id ?_; first | refine C_seq ?_ | refine C_region ?_ | refine C_exit ?_ | refine C_cond_f rfl ?_) | (refine E_id ?_; first | refine E_code ?_ | refine E_then_exit ?_ | refine E_blk_same ?_))
          exact E_mid (4, a', c') ⟨rfl, rfl, trivial⟩ ⟨.inr rfl, hi, hi4, hic, hS.pick [0, 0, 0]⟩
      · obtain rfl : i = l.length := by omega
        repeat (first | (refine G_id ?_; first | refine G_nil ?_ | refine G_plain rfl rfl ?_ | refine G_no rfl rfl rfl rfl rfl rfl ?_) | (refine X_id ?_; first | refine X_yl (Yl_move rfl rfl) rfl rfl ?_ | refine X_yl (Yl_fieldAddr0 rfl rfl rfl) rfl rfl ?_ | refine X_yl (Yl_pick_f rfl rfl rfl) rfl rfl ?_ | refine X_yl (Yl_len rfl rfl) rfl rfl ?_ | refine X_yl (Yl_lss_f rfl rfl rfl (by omega)) rfl rfl ?_ | refine X_yl (Yl_load rfl rfl hS.cell) rfl rfl ?_) | (refine C_id ?_; first | refine C_seq ?_ | refine C_region ?_ | refine C_exit ?_ | refine C_cond_f rfl ?_) | (refine E_id ?_; first | refine E_code ?_ | refine E_then_exit ?_ | refine E_blk_same ?_))
        exact E_mid (l.length, a', c') ⟨rfl, rfl, trivial⟩ ⟨.inl rfl, hi, hi4, hic, hS.pick [0, 0, 0]⟩
    · clear hS
      rintro ⟨i, a', c'⟩ w ⟨hi0, hi, hi4, hic, hS⟩
      simp only at hi0 hi hi4 hic hS ⊢
      have hlt : (l.take 4).length = i ∧ l.take i = l.take 4 := by
        rcases hi0 with rfl | rfl
        · exact ⟨by rw [List.length_take]; omega, by rw [List.take_of_length_le (Nat.le_refl _), List.take_of_length_le hi4]⟩
        · exact ⟨by rw [List.length_take]; omega, rfl⟩
      rw [hlt.2] at hS
      rw [hlt.1]
      repeat (first | (refine G_id ?_; first | refine G_nil ?_ | refine G_plain rfl rfl ?_) | (refine X_id ?_; first | refine X_yl (Yl_loadN rfl rfl hS.cellsN) rfl rfl ?_ | refine X_store rfl rfl rfl rfl hS (fun _ hS _ => ?_)) | (refine C_id ?_; first | refine C_seq ?_ | refine C_region ?_ | refine C_ret ?_) | (refine E_id ?_; first | refine E_code ?_ | refine E_ret1 rfl (by first | exact Rv_tmp rfl | exact Rv_cell rfl (run_load1 hS.cell) | exact Rv_cell rfl (run_loadN hS.cellsN)) (Ret.mk ?_)))
      exact ⟨a', c', rfl, hic, hS.pick [0]⟩
end Cr
namespace Cr
open Go Go.Proofs
set_option maxRecDepth 100000
set_option maxHeartbeats 8000000
attribute [local irreducible] Calls

abbrev pkg0 : Value := .agg #[.string { data := #[] }, .string { data := #[] }, .int .i64 0, .slice none 0 0]
theorem tabof_nil (s : Value) (W : World) : Calls Tryz.prog 66 #[.pointer none, s] W (Ret fun v w => v = .tuple #[.pointer none, .int .i64 16] ∧ W = w) := by
  refine calls_C Tryz.func66 rfl Tryz.ntmps66 rfl ?_
  repeat (first | (refine G_id ?_; first | refine G_nil ?_ | refine G_plain rfl rfl ?_) | (refine X_id ?_; first | refine X_yl (Yl_move rfl rfl) rfl rfl ?_ | refine X_yl (Yl_assign rfl rfl) rfl rfl ?_ | refine X_yl (Yl_eqlNil_none rfl rfl rfl) rfl rfl ?_) | (refine C_id ?_; first | refine C_seq ?_ | refine C_region ?_ | refine C_block ?_ | refine C_ret ?_ | refine C_cond_t rfl ?_) | (refine E_id ?_; first | refine E_code ?_ | refine E_then_ret ?_ | refine E_blk_ret ?_ | refine E_ret2 rfl (Rv_tmp rfl) (Rv_tmp rfl) (Ret.mk ?_)))
  exact ⟨rfl, rfl⟩
theorem stof_nil (W : World) : Calls Tryz.prog 15 #[.pointer none] W (Ret fun v w => v = .tuple #[.pointer none, .int .i64 16] ∧ W = w) := by
  refine calls_C Tryz.func15 rfl Tryz.ntmps15 rfl ?_
  repeat (first | (refine G_id ?_; first | refine G_nil ?_ | refine G_plain rfl rfl ?_) | (refine X_id ?_; first | (refine X_callg 66 rfl rfl rfl rfl rfl (tabof_nil _ _) ?_; rintro _ _ ⟨rfl, rfl⟩) | refine X_yl (Yl_move rfl rfl) rfl rfl ?_ | refine X_yl (Yl_assign rfl rfl) rfl rfl ?_ | refine X_yl (Yl_extract rfl rfl) rfl rfl ?_ | refine X_yl (Yl_neq_t rfl rfl rfl (by omega)) rfl rfl ?_) | (refine C_id ?_; first | refine C_seq ?_ | refine C_region ?_ | refine C_ret ?_ | refine C_cond_t rfl ?_) | (refine E_id ?_; first | refine E_code ?_ | refine E_then_ret ?_ | refine E_ret2 rfl (Rv_tmp rfl) (Rv_tmp rfl) (Ret.mk ?_)))
  exact ⟨rfl, rfl⟩
theorem stpackage_nil (s : Value) (W : World) : Calls Tryz.prog 16 #[.pointer none, s] W (Ret fun v w => v = .tuple #[pkg0, .int .i64 16] ∧ St W noF [] w) := by
  have hS := St.start W
  refine calls_C Tryz.func16 rfl Tryz.ntmps16 rfl ?_
  repeat (first | (refine G_id ?_; first | refine G_nil ?_ | refine G_plain rfl rfl ?_) | (refine X_id ?_; first | refine X_yl (Yl_move rfl rfl) rfl rfl ?_ | refine X_yl (Yl_assign rfl rfl) rfl rfl ?_ | refine X_yl (Yl_build rfl rfl rfl) rfl rfl ?_ | refine X_yl (Yl_eqlNil_none rfl rfl rfl) rfl rfl ?_ | refine X_store rfl rfl rfl rfl hS (fun _ hS _ => ?_) | refine X_alloc rfl rfl rfl hS (fun _ _ hS _ => ?_)) | (refine C_id ?_; first | refine C_seq ?_ | refine C_region ?_ | refine C_ret ?_ | refine C_cond_t rfl ?_) | (refine E_id ?_; first | refine E_code ?_ | refine E_then_ret ?_ | refine E_ret2 rfl (by first | exact Rv_tmp rfl | exact Rv_cell rfl (run_load1 hS.cell) | exact Rv_cell rfl (run_loadN hS.cellsN)) (by first | exact Rv_tmp rfl | exact Rv_cell rfl (run_load1 hS.cell) | exact Rv_cell rfl (run_loadN hS.cellsN)) (Ret.mk ?_)))
  exact ⟨rfl, hS.drops⟩
theorem stdrop_nil (s : Value) (W : World) : Calls Tryz.prog 17 #[.pointer none, s] W (Ret fun v w => v = .tuple #[.int .i64 0, .int .i64 16] ∧ St W noF [] w) := by
  have hS := St.start W
  refine calls_C Tryz.func17 rfl Tryz.ntmps17 rfl ?_
  repeat (first | (refine G_id ?_; first | refine G_nil ?_ | refine G_plain rfl rfl ?_) | (refine X_id ?_; first | refine X_yl (Yl_move rfl rfl) rfl rfl ?_ | refine X_yl (Yl_assign rfl rfl) rfl rfl ?_ | refine X_yl (Yl_eqlNil_none rfl rfl rfl) rfl rfl ?_) | (refine C_id ?_; first | refine C_seq ?_ | refine C_region ?_ | refine C_ret ?_ | refine C_cond_t rfl ?_) | (refine E_id ?_; first | refine E_code ?_ | refine E_then_ret ?_ | refine E_ret2 rfl (Rv_tmp rfl) (Rv_tmp rfl) (Ret.mk ?_)))
  exact ⟨rfl, hS.drops⟩
theorem stpackages_nil (W : World) : Calls Tryz.prog 18 #[.pointer none] W (Ret fun v w => v = .tuple #[.slice none 0 0, .int .i64 16] ∧ St W noF [] w) := by
  have hS := St.start W
  refine calls_C Tryz.func18 rfl Tryz.ntmps18 rfl ?_
  repeat (first | (refine G_id ?_; first | refine G_nil ?_ | refine G_plain rfl rfl ?_) | (refine X_id ?_; first | refine X_yl (Yl_move rfl rfl) rfl rfl ?_ | refine X_yl (Yl_assign rfl rfl) rfl rfl ?_ | refine X_yl (Yl_eqlNil_none rfl rfl rfl) rfl rfl ?_) | (refine C_id ?_; first | refine C_seq ?_ | refine C_region ?_ | refine C_ret ?_ | refine C_cond_t rfl ?_) | (refine E_id ?_; first | refine E_code ?_ | refine E_then_ret ?_ | refine E_ret2 rfl (Rv_tmp rfl) (Rv_tmp rfl) (Ret.mk ?_)))
  exact ⟨rfl, hS.drops⟩
theorem stconns_nil (W : World) : Calls Tryz.prog 19 #[.pointer none, .slice none 0 0] W (Ret fun v w => v = .tuple #[.slice none 0 0, .int .i64 16] ∧ St W noF [] w) := by
  have hS := St.start W
  refine calls_C Tryz.func19 rfl Tryz.ntmps19 rfl ?_
  repeat (first | (refine G_id ?_; first | refine G_nil ?_ | refine G_plain rfl rfl ?_) | (refine X_id ?_; first | refine X_yl (Yl_move rfl rfl) rfl rfl ?_ | refine X_yl (Yl_assign rfl rfl) rfl rfl ?_ | refine X_yl (Yl_eqlNil_none rfl rfl rfl) rfl rfl ?_ | refine X_box rfl rfl rfl rfl hS (fun _ _ hS _ => ?_)) | (refine C_id ?_; first | refine C_seq ?_ | refine C_region ?_ | refine C_ret ?_ | refine C_cond_t rfl ?_) | (refine E_id ?_; first | refine E_code ?_ | refine E_then_ret ?_ | refine E_ret2 rfl (Rv_tmp rfl) (Rv_tmp rfl) (Ret.mk ?_)))
  exact ⟨rfl, hS.drops⟩
theorem stsave_nil (a b : List UInt8) (ac : Int) (x : Option Addr) (n c : Nat) (W : World) : Calls Tryz.prog 21 #[.pointer none, .agg #[.string (str a), .string (str b), .int .i64 ac, .slice x n c]] W (Ret fun v w => v = .int .i64 16 ∧ St W noF [] w) := by
  have hS := St.start W
  refine calls_C Tryz.func21 rfl Tryz.ntmps21 rfl ?_
  repeat (first | (refine G_id ?_; first | refine G_nil ?_ | refine G_plain rfl rfl ?_) | (refine X_id ?_; first | refine X_yl (Yl_move rfl rfl) rfl rfl ?_ | refine X_yl (Yl_assign rfl rfl) rfl rfl ?_ | refine X_yl (Yl_eqlNil_none rfl rfl rfl) rfl rfl ?_ | refine X_box rfl rfl rfl rfl hS (fun _ _ hS _ => ?_)) | (refine C_id ?_; first | refine C_seq ?_ | refine C_region ?_ | refine C_ret ?_ | refine C_cond_t rfl ?_) | (refine E_id ?_; first | refine E_code ?_ | refine E_then_ret ?_ | refine E_ret1 rfl (Rv_tmp rfl) (Ret.mk ?_)))
  exact ⟨rfl, hS.drops⟩
abbrev connV (a b c d e : List UInt8) : Value := .agg #[.string (str a), .string (str b), .string (str c), .string (str d), .string (str e)]
theorem stthere_nil (a b c d e : List UInt8) (W : World) : Calls Tryz.prog 80 #[.pointer none, connV a b c d e] W (Ret fun v w => v = .tuple #[.bool false, .int .i64 16] ∧ St W noF [] w) := by
  have hS := St.start W
  refine calls_C Tryz.func80 rfl Tryz.ntmps80 rfl ?_
  repeat (first | (refine G_id ?_; first | refine G_nil ?_ | refine G_plain rfl rfl ?_) | (refine X_id ?_; first | refine X_yl (Yl_move rfl rfl) rfl rfl ?_ | refine X_yl (Yl_assign rfl rfl) rfl rfl ?_ | refine X_yl (Yl_eqlNil_none rfl rfl rfl) rfl rfl ?_ | refine X_box rfl rfl rfl rfl hS (fun _ _ hS _ => ?_)) | (refine C_id ?_; first | refine C_seq ?_ | refine C_region ?_ | refine C_block ?_ | refine C_ret ?_ | refine C_cond_t rfl ?_) | (refine E_id ?_; first | refine E_code ?_ | refine E_then_ret ?_ | refine E_blk_ret ?_ | refine E_ret2 rfl (Rv_tmp rfl) (Rv_tmp rfl) (Ret.mk ?_)))
  exact ⟨rfl, hS.drops⟩
theorem stconnect_nil (a b c d e : List UInt8) (W : World) : Calls Tryz.prog 23 #[.pointer none, connV a b c d e] W (Ret fun v w => v = .int .i64 16 ∧ St W noF [] w) := by
  have hS := St.start W
  have hT := fun W => stthere_nil a b c d e W
  refine calls_C Tryz.func23 rfl Tryz.ntmps23 rfl ?_
  repeat (first | (refine G_id ?_; first | refine G_nil ?_ | refine G_plain rfl rfl ?_) | (refine X_id ?_; first | (refine X_callq 80 rfl rfl rfl rfl rfl hS (hT _) ?_; rintro _ _ rfl hS) | refine X_yl (Yl_move rfl rfl) rfl rfl ?_ | refine X_yl (Yl_assign rfl rfl) rfl rfl ?_ | refine X_yl (Yl_extract rfl rfl) rfl rfl ?_ | refine X_yl (Yl_neq_t rfl rfl rfl (by omega)) rfl rfl ?_ | refine X_yl (Yl_loadN rfl rfl hS.cellsN) rfl rfl ?_ | refine X_box rfl rfl rfl rfl hS (fun _ _ hS _ => ?_)) | (refine C_id ?_; first | refine C_seq ?_ | refine C_region ?_ | refine C_block ?_ | refine C_ret ?_ | refine C_cond_t rfl ?_) | (refine E_id ?_; first | refine E_code ?_ | refine E_then_ret ?_ | refine E_blk_ret ?_ | refine E_ret1 rfl (Rv_tmp rfl) (Ret.mk ?_)))
  exact ⟨rfl, hS.drops⟩
theorem stdisconnect_nil (a b c d e : List UInt8) (W : World) : Calls Tryz.prog 25 #[.pointer none, connV a b c d e] W (Ret fun v w => v = .int .i64 16 ∧ St W noF [] w) := by
  have hS := St.start W
  have hT := fun W => stthere_nil a b c d e W
  refine calls_C Tryz.func25 rfl Tryz.ntmps25 rfl ?_
  repeat (first | (refine G_id ?_; first | refine G_nil ?_ | refine G_plain rfl rfl ?_) | (refine X_id ?_; first | (refine X_callq 80 rfl rfl rfl rfl rfl hS (hT _) ?_; rintro _ _ rfl hS) | refine X_yl (Yl_move rfl rfl) rfl rfl ?_ | refine X_yl (Yl_assign rfl rfl) rfl rfl ?_ | refine X_yl (Yl_extract rfl rfl) rfl rfl ?_ | refine X_yl (Yl_neq_t rfl rfl rfl (by omega)) rfl rfl ?_ | refine X_yl (Yl_loadN rfl rfl hS.cellsN) rfl rfl ?_ | refine X_box rfl rfl rfl rfl hS (fun _ _ hS _ => ?_)) | (refine C_id ?_; first | refine C_seq ?_ | refine C_region ?_ | refine C_block ?_ | refine C_ret ?_ | refine C_cond_t rfl ?_) | (refine E_id ?_; first | refine E_code ?_ | refine E_then_ret ?_ | refine E_blk_ret ?_ | refine E_ret1 rfl (Rv_tmp rfl) (Ret.mk ?_)))
  exact ⟨rfl, hS.drops⟩
def zsl : List UInt8 := [0, 0, 0, 0, 0, 0, 0, 0, 0, 0, 0, 0, 0, 0, 0, 0, 0, 0, 0, 0, 0, 0, 0, 0, 0, 0, 0, 0, 0, 0, 0, 0]
theorem known10_ (W : World) : Calls Tryz.prog 20 #[] W (Ret fun v w => v = .bool true ∧ St W noF [] w) := by
  have hS := St.start W
  have k1 : chkS [97] [98] 3 [⟨1, zsl, 0⟩, ⟨2, zsl, 0⟩] = 7 := by decide
  have k2 : chkS [97] [98] 3 [⟨2, zsl, 0⟩, ⟨1, zsl, 0⟩] = 1 := by decide
  have h1 := fun a c W h hc => scheck_ [97] [98] 3 a c [⟨1, zsl, 0⟩, ⟨2, zsl, 0⟩] (by intro x hx; simp only [List.mem_cons, List.not_mem_nil, or_false] at hx; rcases hx with rfl | rfl <;> rfl) W h hc
  have h2 := fun a c W h hc => scheck_ [97] [98] 3 a c [⟨2, zsl, 0⟩, ⟨1, zsl, 0⟩] (by intro x hx; simp only [List.mem_cons, List.not_mem_nil, or_false] at hx; rcases hx with rfl | rfl <;> rfl) W h hc
  rw [k1] at h1
  rw [k2] at h2
  have hln : LenIs (List.replicate 32 (Value.int .u8 0) ++ [Value.int .i64 0]) 33 := ⟨by simp⟩
  have happ : ∀ l, AppL (List.replicate 32 (Value.int .u8 0) ++ [Value.int .i64 0]) l ((List.replicate 32 (Value.int .u8 0) ++ [Value.int .i64 0]) ++ l) := fun _ => ⟨rfl⟩
  refine calls_C Tryz.func20 rfl Tryz.ntmps20 rfl ?_
  repeat (first | (refine G_id ?_; first | refine G_nil ?_ | refine G_plain rfl rfl ?_) | (refine X_id ?_; first | refine X_yl (Yl_assign rfl rfl) rfl rfl ?_ | refine X_yl (Yl_build rfl rfl rfl) rfl rfl ?_ | refine X_yl (Yl_loadN rfl rfl hS.cellsN) rfl rfl ?_ | refine X_store rfl rfl rfl rfl hS (fun _ hS _ => ?_) | refine X_alloc rfl rfl rfl hS (fun _ _ hS _ => ?_) | refine X_buildSlice rfl rfl rfl rfl rfl rfl rfl rfl hS (fun _ _ hS _ => ?_)) | (refine C_id ?_; first | refine C_seq ?_ | refine C_region ?_) | (refine E_id ?_; first | refine E_code ?_))
  rename_i q1 _ _ _ _ _ _ _ _ _
  refine X_callg _ rfl rfl rfl rfl rfl (h1 (some ⟨q1, 0, none⟩) _ _ (hS.ownRd (a := some ⟨q1, 0, none⟩)) (Nat.le_refl 2)) ?_
  rintro _ w ⟨rfl, hS'⟩
  replace hS := hS.plus hS'
  clear hS'
  repeat (first | (refine G_id ?_; first | refine G_nil ?_ | refine G_plain rfl rfl ?_ | refine G_yes rfl rfl rfl rfl ?_) | (refine X_id ?_; first | refine X_yl (Yl_move rfl rfl) rfl rfl ?_ | refine X_yl (Yl_assign rfl rfl) rfl rfl ?_ | refine X_yl (Yl_fieldAddr0 rfl rfl rfl) rfl rfl ?_ | refine X_yl (Yl_eql_t rfl rfl rfl (by omega)) rfl rfl ?_ | refine X_yl (Yl_build rfl rfl rfl) rfl rfl ?_ | refine X_yl (Yl_loadN rfl rfl hS.cellsN) rfl rfl ?_ | refine X_store rfl rfl rfl rfl hS (fun _ hS _ => ?_) | refine X_buildSlice rfl rfl rfl rfl rfl rfl rfl rfl hS (fun _ _ hS _ => ?_)) | (refine C_id ?_; first | refine C_seq ?_ | refine C_region ?_) | (refine E_id ?_; first | refine E_code ?_))
  rename_i q2 _ _ _ _ _
  refine X_callg _ rfl rfl rfl rfl rfl (h2 (some ⟨q2, 0, none⟩) _ _ (hS.ownRd (a := some ⟨q2, 0, none⟩)) (Nat.le_refl 2)) ?_
  rintro _ w ⟨rfl, hS'⟩
  replace hS := hS.plus hS'
  clear hS'
  repeat (first | (refine G_id ?_; first | refine G_nil ?_ | refine G_plain rfl rfl ?_ | refine G_yes rfl rfl rfl rfl ?_) | (refine X_id ?_; first | refine X_yl (Yl_assign rfl rfl) rfl rfl ?_ | refine X_yl (Yl_pick_t rfl rfl rfl) rfl rfl ?_ | refine X_yl (Yl_eql_t rfl rfl rfl (by omega)) rfl rfl ?_) | (refine C_id ?_; first | refine C_ret ?_) | (refine E_id ?_; first | refine E_code ?_ | refine E_ret1 rfl (Rv_tmp rfl) (Ret.mk ?_)))
  exact ⟨rfl, hS.drops⟩
theorem storeNil_ (nm pb : List UInt8) (ac : Int) (a : Option Addr) (c : Nat) (l : List RevD) (x0 x1 x2 x3 x4 : List UInt8) (hl : ∀ x ∈ l, x.sl.length = 32) (W : World) (hr0 : Rd W (row a (l.flatMap RevD.cells))) :
    Calls Tryz.prog 4 #[.agg #[.string (str nm), .string (str pb), .int .i64 ac, .slice a l.length c], connV x0 x1 x2 x3 x4] W (Ret fun v w => v = .bool true ∧ St W noF [] w) := by
  have hro := hr0.ro
  have hS := St.start W
  have K := fun W => known10_ W
  have T := fun W h => to10_ nm pb ac a c l hl W h
  have TC := fun W => toConn_ x0 x1 x2 x3 x4 W
  have P1 := fun s W => stpackage_nil s W
  have P2 := fun s W => stdrop_nil s W
  have P3 := fun W => stpackages_nil W
  have P4 := fun W => stconns_nil W
  have P5 := fun x n c W => stsave_nil (nm.take 40) (pb.take 40) ac x n c W
  have P6 := fun W => stconnect_nil (x0.take 40) (x1.take 40) (x2.take 40) (x3.take 40) (x4.take 40) W
  have P7 := fun W => stdisconnect_nil (x0.take 40) (x1.take 40) (x2.take 40) (x3.take 40) (x4.take 40) W
  refine calls_C Tryz.func4 rfl Tryz.ntmps4 rfl ?_
  repeat (first | (refine G_id ?_; first | refine G_nil ?_ | refine G_plain rfl rfl ?_ | refine G_yes rfl rfl rfl rfl ?_) | (refine X_id ?_; first | (refine X_callq 16 rfl rfl rfl rfl rfl hS (P1 _ _) ?_; rintro _ _ rfl hS) | (refine X_callq 17 rfl rfl rfl rfl rfl hS (P2 _ _) ?_; rintro _ _ rfl hS) | (refine X_callq 18 rfl rfl rfl rfl rfl hS (P3 _) ?_; rintro _ _ rfl hS) | (refine X_callq 19 rfl rfl rfl rfl rfl hS (P4 _) ?_; rintro _ _ rfl hS) | (refine X_callq 20 rfl rfl rfl rfl rfl hS (K _) ?_; rintro _ _ rfl hS) | (refine X_callg 15 rfl rfl rfl rfl rfl (stof_nil _) ?_; rintro _ _ ⟨rfl, rfl⟩) | refine X_yl (Yl_move rfl rfl) rfl rfl ?_ | refine X_yl (Yl_assign rfl rfl) rfl rfl ?_ | refine X_yl (Yl_fieldAddr0 rfl rfl rfl) rfl rfl ?_ | refine X_yl (Yl_extract rfl rfl) rfl rfl ?_ | refine X_yl (Yl_pick_t rfl rfl rfl) rfl rfl ?_ | refine X_yl (Yl_eql_t rfl rfl rfl (by omega)) rfl rfl ?_ | refine X_yl (Yl_load rfl rfl hS.cell) rfl rfl ?_ | refine X_yl (Yl_loadN rfl rfl hS.cellsN) rfl rfl ?_ | refine X_store rfl rfl rfl rfl hS (fun _ hS _ => ?_) | refine X_box rfl rfl rfl rfl hS (fun _ _ hS _ => ?_) | refine X_alloc rfl rfl rfl hS (fun _ _ hS _ => ?_) | refine X_buildSlice rfl rfl rfl rfl rfl rfl rfl rfl hS (fun _ _ hS _ => ?_)) | (refine C_id ?_; first | refine C_seq ?_ | refine C_region ?_) | (refine E_id ?_; first | refine E_code ?_))
  refine X_callg _ rfl rfl rfl rfl rfl (T _ (hro.rd hS)) ?_
  rintro _ w ⟨a', c', rfl, _, hS'⟩
  replace hS := hS.plus hS'
  clear hS'
  repeat (first | (refine G_id ?_; first | refine G_nil ?_ | refine G_plain rfl rfl ?_ | refine G_yes rfl rfl rfl rfl ?_) | (refine X_id ?_; first | (refine X_callq 21 rfl rfl rfl rfl rfl hS (P5 _ _ _ _) ?_; rintro _ _ rfl hS) | (refine X_callq 24 rfl rfl rfl rfl rfl hS (TC _) ?_; rintro _ _ rfl hS) | (refine X_callq 23 rfl rfl rfl rfl rfl hS (P6 _) ?_; rintro _ _ rfl hS) | (refine X_callq 25 rfl rfl rfl rfl rfl hS (P7 _) ?_; rintro _ _ rfl hS) | refine X_yl (Yl_move rfl rfl) rfl rfl ?_ | refine X_yl (Yl_assign rfl rfl) rfl rfl ?_ | refine X_yl (Yl_pick_t rfl rfl rfl) rfl rfl ?_ | refine X_yl (Yl_eql_t rfl rfl rfl (by omega)) rfl rfl ?_ | refine X_yl (Yl_loadN rfl rfl hS.cellsN) rfl rfl ?_) | (refine C_id ?_; first | refine C_ret ?_) | (refine E_id ?_; first | refine E_code ?_ | refine E_ret1 rfl (Rv_tmp rfl) (Ret.mk ?_)))
  exact ⟨rfl, hS.drops⟩
end Cr
namespace Cr
open Go Go.Proofs Go.ChangeShapes Go.WideShapes Go.Deep
set_option maxRecDepth 100000
section
variable {H : Type} {enc : TypeId × Value → H} {w : World} {base : Nat} {sp : Nat → Bool} {held : Bool}
theorem one_strS {n : Nat} {v : Value} {y : DataW H × List MemPlace} (h : DataW.trod enc Tryz.prog w base sp held n 9 [v] = some y) : ∃ s, v = .string (str s) := by
  obtain ⟨s, hs, _⟩ := DataW.trod_string Tryz.underlying9 h
  obtain ⟨l, rfl⟩ := str_of s
  exact ⟨l, by simpa using hs⟩
theorem one_intS {n : Nat} {v : Value} {y : DataW H × List MemPlace} (h : DataW.trod enc Tryz.prog w base sp held n 3 [v] = some y) : ∃ k : Int, v = .int .i64 k := by
  obtain ⟨k, hk, _, hw⟩ := DataW.trod_int Tryz.underlying3 h
  exact ⟨k, by simpa using hk⟩
theorem cellsS_int : Tryz.prog.cellsOf 3 = 1 := by kernel_rfl
theorem cellsS_u8 : Tryz.prog.cellsOf 5 = 1 := by kernel_rfl
theorem cellsS_str : Tryz.prog.cellsOf 9 = 1 := by kernel_rfl
theorem cellsS_a32 : Tryz.prog.cellsOf 93 = 32 := by kernel_rfl
theorem cellsS_a2 : Tryz.prog.cellsOf 54 = 2 := by kernel_rfl
theorem cellsS_rev : Tryz.prog.cellsOf 168 = 34 := by kernel_rfl
theorem cellsS_revs : Tryz.prog.cellsOf 51 = 1 := by kernel_rfl
theorem cellsS_pkg : Tryz.prog.cellsOf 53 = 4 := by kernel_rfl
theorem cellsS_conn : Tryz.prog.cellsOf 56 = 5 := by kernel_rfl
theorem take1 {α : Type} {l : List α} {k : Nat} (hk : k < l.length) : (l.drop k).take 1 = [l[k]] := by
  rw [List.drop_eq_getElem_cons hk]; rfl
theorem open_rev {fuel : Nat} {cs : List Value} {x : DataW H × List MemPlace} (h : DataW.trod enc Tryz.prog w base sp held fuel 168 cs = some x) : ∃ r : RevD, cs = r.cells ∧ r.sl.length = 32 := by
  obtain ⟨xs, n, _, _, hl, hxl, hf⟩ := DataW.trod_struct Tryz.underlying168 h
  rw [cellsS_rev] at hl
  have hxl : xs.length = 3 := hxl
  have f0 : DataW.trod enc Tryz.prog w base sp held n 3 ((List.drop 0 cs).take (Tryz.prog.cellsOf 3)) = xs[0]? := hf 0 _ rfl
  have f1 : DataW.trod enc Tryz.prog w base sp held n 93 ((List.drop 1 cs).take (Tryz.prog.cellsOf 93)) = xs[1]? := hf 1 _ rfl
  have f2 : DataW.trod enc Tryz.prog w base sp held n 3 ((List.drop 33 cs).take (Tryz.prog.cellsOf 3)) = xs[2]? := hf 2 _ rfl
  rw [cellsS_int, List.getElem?_eq_getElem (by omega), take1 (by omega)] at f0 f2
  rw [List.getElem?_eq_getElem (by omega)] at f1
  obtain ⟨n0, e0⟩ := one_intS f0
  obtain ⟨n2, e2⟩ := one_intS f2
  obtain ⟨s, hs, hsl⟩ := open_arrB Tryz.underlying93 Tryz.underlying5 cellsS_u8 cellsS_a32 f1
  rw [cellsS_a32] at hs
  refine ⟨⟨n0, s, n2⟩, ?_, hsl⟩
  have d1 : cs = cs[0] :: cs.drop 1 := by
    have := List.drop_eq_getElem_cons (l := cs) (i := 0) (by omega)
    simpa using this
  have d2 : cs.drop 1 = (cs.drop 1).take 32 ++ cs.drop 33 := by
    have := (List.take_append_drop 32 (cs.drop 1)).symm
    rwa [List.drop_drop] at this
  have d3 : cs.drop 33 = [cs[33]] := by
    rw [List.drop_eq_getElem_cons (by omega), List.drop_eq_nil_of_le (by omega)]
  rw [d1, d2, d3, hs, e0, e2]
theorem open_pkg {fuel : Nat} {cs : List Value} {x : DataW H × List MemPlace} (h : DataW.trod enc Tryz.prog w base sp held fuel 53 cs = some x) :
    ∃ (nm pb : List UInt8) (ac : Int) (a : Option Addr) (l : List RevD) (c : Nat), cs = [.string (str nm), .string (str pb), .int .i64 ac, .slice a l.length c] ∧ (∀ x ∈ l, x.sl.length = 32) ∧ Rd w (row a (l.flatMap RevD.cells)) := by
  obtain ⟨xs, n, _, _, hl, hxl, hf⟩ := DataW.trod_struct Tryz.underlying53 h
  rw [cellsS_pkg] at hl
  have hxl : xs.length = 4 := hxl
  have f0 : DataW.trod enc Tryz.prog w base sp held n 9 ((List.drop 0 cs).take (Tryz.prog.cellsOf 9)) = xs[0]? := hf 0 _ rfl
  have f1 : DataW.trod enc Tryz.prog w base sp held n 9 ((List.drop 1 cs).take (Tryz.prog.cellsOf 9)) = xs[1]? := hf 1 _ rfl
  have f2 : DataW.trod enc Tryz.prog w base sp held n 3 ((List.drop 2 cs).take (Tryz.prog.cellsOf 3)) = xs[2]? := hf 2 _ rfl
  have f3 : DataW.trod enc Tryz.prog w base sp held n 51 ((List.drop 3 cs).take (Tryz.prog.cellsOf 51)) = xs[3]? := hf 3 _ rfl
  rw [cellsS_str, List.getElem?_eq_getElem (by omega), take1 (by omega)] at f0 f1
  rw [cellsS_int, List.getElem?_eq_getElem (by omega), take1 (by omega)] at f2
  rw [cellsS_revs, List.getElem?_eq_getElem (by omega), take1 (by omega)] at f3
  obtain ⟨s0, e0⟩ := one_strS f0
  obtain ⟨s1, e1⟩ := one_strS f1
  obtain ⟨n2, e2⟩ := one_intS f2
  have : Inhabited RevD := ⟨⟨0, [], 0⟩⟩
  obtain ⟨a, l, c, e3, _, _, hr, hall⟩ := open_sliceG RevD.cells (fun r => r.sl.length = 32) 34 Tryz.underlying51 cellsS_rev (by omega) (fun _ _ _ h => open_rev h) f3
  refine ⟨s0, s1, n2, a, l, c, ?_, fun x hx => (hall x hx).1, hr⟩
  match cs, hl with
  | [c0, c1, c2, c3], _ =>
    simp only [List.getElem_cons_zero, List.getElem_cons_succ, List.cons.injEq, and_true] at e0 e1 e2 e3
    rw [e0, e1, e2, e3]
theorem open_two {fuel : Nat} {cs : List Value} {x : DataW H × List MemPlace} (h : DataW.trod enc Tryz.prog w base sp held fuel 54 cs = some x) : ∃ a b, cs = [.string (str a), .string (str b)] := by
  obtain ⟨xs, m, _, _, hl, hxl, hf⟩ := DataW.trod_array Tryz.underlying54 h
  rw [cellsS_a2] at hl
  have f0 := hf 0 (by omega)
  have f1 := hf 1 (by omega)
  rw [cellsS_str, List.getElem?_eq_getElem (by omega), take1 (by omega)] at f0 f1
  obtain ⟨s0, e0⟩ := one_strS f0
  obtain ⟨s1, e1⟩ := one_strS f1
  match cs, hl with
  | [c0, c1], _ =>
    simp only [List.getElem_cons_zero, List.getElem_cons_succ, Nat.zero_mul, Nat.one_mul] at e0 e1
    exact ⟨s0, s1, by rw [e0, e1]⟩
theorem open_conn {fuel : Nat} {cs : List Value} {x : DataW H × List MemPlace} (h : DataW.trod enc Tryz.prog w base sp held fuel 56 cs = some x) :
    ∃ a b c d e : List UInt8, cs = [.string (str a), .string (str b), .string (str c), .string (str d), .string (str e)] := by
  obtain ⟨xs, n, _, _, hl, hxl, hf⟩ := DataW.trod_struct Tryz.underlying56 h
  rw [cellsS_conn] at hl
  have hxl : xs.length = 3 := hxl
  have f0 : DataW.trod enc Tryz.prog w base sp held n 54 ((List.drop 0 cs).take (Tryz.prog.cellsOf 54)) = xs[0]? := hf 0 _ rfl
  have f1 : DataW.trod enc Tryz.prog w base sp held n 54 ((List.drop 2 cs).take (Tryz.prog.cellsOf 54)) = xs[1]? := hf 1 _ rfl
  have f2 : DataW.trod enc Tryz.prog w base sp held n 9 ((List.drop 4 cs).take (Tryz.prog.cellsOf 9)) = xs[2]? := hf 2 _ rfl
  rw [cellsS_a2, List.getElem?_eq_getElem (by omega)] at f0 f1
  rw [cellsS_str, List.getElem?_eq_getElem (by omega), take1 (by omega)] at f2
  obtain ⟨a, b, e0⟩ := open_two f0
  obtain ⟨c, d, e1⟩ := open_two f1
  obtain ⟨e, e2⟩ := one_strS f2
  match cs, hl with
  | [c0, c1, c2, c3, c4], _ =>
    simp only [List.getElem_cons_zero, List.getElem_cons_succ, List.drop_zero, List.drop_succ_cons, List.take_succ_cons, List.take_zero, List.cons.injEq, and_true] at e0 e1 e2
    exact ⟨a, b, c, d, e, by rw [e0.1, e0.2, e1.1, e1.2, e2]⟩
end
end Cr
namespace Go.Proofs.YtflbhldcnjmkkaaGreatDoor
open Go.ChangeShapes Go.WideShapes Go.ChangeAt Go.RowKit
set_option maxRecDepth 100000
set_option maxHeartbeats 64000000
theorem storeNil_facts : joinedFacts Tryz.pinned.checked.prog 4 Tryz.f4 (OpenSpec.ofChange Rows.storeNilSpec).bare Rows.storeNilRow = true := by
  unfold joinedFacts
  repeat' (with_reducible refine Bool.and_eq_true_iff.2 ⟨?_, ?_⟩)
  all_goals (as_aux_lemma => kernel_rfl)
theorem storeNil_inst : Tryz.f4.isInstance Tryz.pinned.checked.prog Rows.storeNilRow.origin Rows.storeNilRow.targs := of_decide_eq_true (by kernel_rfl)
theorem storeNil_wrap : Tryz.f4.isWrapper Tryz.pinned.checked.prog Rows.storeNilRow.wrapper Rows.storeNilRow.mainSum := by
  unfold Func.isWrapper; first | (rw [if_pos (by decide +kernel)]; kernel_rfl) | (rw [if_neg (by decide +kernel)]; exact ⟨rfl, rfl⟩)
end Go.Proofs.YtflbhldcnjmkkaaGreatDoor
namespace Go.Proofs.YtflbhldcnjmkkaaGreatDoor
open Go.ChangeShapes Go.WideShapes Go.ChangeAt Go.RowKit
set_option maxRecDepth 100000

abbrev zPkg : Value := .agg #[.string (Cr.str []), .string (Cr.str []), .int .i64 0, .slice none 0 0]
abbrev zConn : Value := .agg #[.string (Cr.str []), .string (Cr.str []), .string (Cr.str []), .string (Cr.str []), .string (Cr.str [])]
theorem storeNil_contract (H : Type) (enc : TypeId × Value → H) (W : World) (base : Nat) (args : Array Value) (ds gs : List (DataW H)) (before : List MemPlace)
    (hval : ∀ (j : Nat) t v, Tryz.f4.params[j]? = some t → args[j]? = some v → Value.okWide Tryz.prog W .any base t v)
    (hW : DataW.Whole enc Tryz.prog Tryz.f4.params.toList Rows.storeNilSpec.vars false W args.toList ds gs before) :
    Calls Tryz.prog 4 args W fun e W' => ∃ v, e = .returned v ∧ Rows.storeNilSpec.post enc Tryz.prog Tryz.f4 false true false false W args v W' := by
  have hW' := hW
  obtain ⟨p, q, hA0, hV, rfl, hfz, hnd⟩ := hW
  have hA : DataW.TrodAll enc Tryz.prog W 0 (fun _ => true) true Tryz.f4.params.toList args.toList ds p := hA0
  rw [Tryz.params4] at hA hval
  obtain ⟨rfl, rfl⟩ := trodVars_none hV
  have hAk := hA
  obtain ⟨v0, vs0, d0, ds0, p0, q0, hargs, rfl, rfl, h0, r0⟩ := trodAll_cons hA
  obtain ⟨v1, vs1, d1, ds1, p1, q1, hargs1, rfl, rfl, h1, r1⟩ := trodAll_cons r0
  obtain ⟨rfl, rfl, rfl⟩ := trodAll_nil r1
  subst hargs1
  obtain rfl : args = #[v0, v1] := by cases args; simp_all
  obtain ⟨cs, rfl, _⟩ := okWide_struct Tryz.underlying53 (hval 0 53 v0 rfl rfl)
  obtain ⟨cs1, rfl, _⟩ := okWide_struct Tryz.underlying56 (hval 1 56 v1 rfl rfl)
  obtain ⟨fuel, hf⟩ := h0
  obtain ⟨fuel1, hf1⟩ := h1
  obtain ⟨nm, pb, ac, a, l, c, e, hl, hr⟩ := Cr.open_pkg hf
  obtain ⟨x0, x1, x2, x3, x4, e1⟩ := Cr.open_conn hf1
  have e : cs.toList = [.string (Cr.str nm), .string (Cr.str pb), .int .i64 ac, .slice a l.length c] := e
  have e1 : cs1.toList = [.string (Cr.str x0), .string (Cr.str x1), .string (Cr.str x2), .string (Cr.str x3), .string (Cr.str x4)] := e1
  obtain rfl : cs = #[.string (Cr.str nm), .string (Cr.str pb), .int .i64 ac, .slice a l.length c] := by rw [← Array.toArray_toList (xs := cs), e]
  obtain rfl : cs1 = #[.string (Cr.str x0), .string (Cr.str x1), .string (Cr.str x2), .string (Cr.str x3), .string (Cr.str x4)] := by rw [← Array.toArray_toList (xs := cs1), e1]
  clear hA0
  simp only [List.append_nil] at hW' hAk
  refine (Cr.storeNil_ nm pb ac a c l x0 x1 x2 x3 x4 hl W hr).mono fun e W' ⟨v, he, hv, hS⟩ => ?_
  subst he hv
  have hb := hS.toBelow
  exact ⟨_, rfl, post_of_law (pa := p0 ++ p1) (pv := []) hW' (fun _ _ _ => trodAll_cons_mk (shut_bool Tryz.underlying4 _) trodAll_mk0)
    (fun sp hsp => trodAll_stays lawLaid hb (fun t ht => by
      have ht : t ∈ [53, 56] := ht
      simp only [List.mem_cons, List.not_mem_nil, or_false] at ht
      rcases ht with rfl | rfl <;> exact ⟨by kernel_rfl, of_decide_eq_true (by kernel_rfl)⟩) hAk hW'.lt hsp) (fun _ _ => rfl) (by simp)
    (hb.frame _) (fun _ h => hb.frozen h) (ok_one (by kernel_rfl) rfl (okWide_bool_mk Tryz.underlying4 _))⟩
theorem storeNil_laid (os : Os) : laidMet Tryz.prog Rows.storeNilRow.laid ((lawWorldE os).forCall (fun _ _ => 0) ⟨#[], #[zPkg, zConn], []⟩).memory :=
  laidMet_of_run' 8 (by kernel_rfl) (by kernel_rfl)
theorem storeNil_reads (os : Os) {H : Type} (enc : TypeId × Value → H) : ∃ places, DataW.whole enc Tryz.prog ((lawWorldE os).forCall (fun _ _ => 0) ⟨#[], #[zPkg, zConn], []⟩).memory Tryz.f4.params.toList Rows.storeNilSpec.vars false #[zPkg, zConn].toList 8 = some ([.agg [.lit (.string []), .lit (.string []), .lit (.int .i64 0), .nil], .agg [.agg [.lit (.string []), .lit (.string [])], .agg [.lit (.string []), .lit (.string [])], .lit (.string [])]], [], places) :=
  ⟨[], by kernel_rfl⟩
theorem storeNil_lifted (os : Os) (started : os.Started) (H : Type) (enc : TypeId × Value → H) (F : Stop.Interp) :
    ReturnsInHanded {} Tryz.checked os 4 .any ((OpenSpec.ofChange Rows.storeNilSpec).preRow enc Tryz.prog Tryz.f4 Rows.storeNilRow.domain false Rows.storeNilRow.laid) (((OpenSpec.ofChange Rows.storeNilSpec).at F).post enc Tryz.prog Tryz.f4 false true false false) := by
  obtain ⟨places, hx⟩ := storeNil_reads os enc
  refine returnsInHanded_of_row (C := Tryz.checked) (s := OpenSpec.ofChange Rows.storeNilSpec) lawOwn started (by kernel_rfl) Tryz.func4
    (witness_row_atRef (enc := enc) (C := Tryz.checked) false (lawWorldE os) #[zPkg, zConn] rfl (by kernel_rfl) (by kernel_rfl) (by kernel_rfl)
      (OpenSpec.preRow_of_cond 8 hx (by kernel_rfl) (fun k hk => by cases hk) (by kernel_rfl) (storeNil_laid os))) ?_
  intro W base args ds gs before hval hW _ _ _ hL _ _
  exact storeNil_contract H enc W base args ds gs before hval hW
theorem storeNil_said : Rows.StoreNilSaid :=
  OpenClaim.holds_of_cond 4 Tryz.f4 rfl rfl rfl rfl rfl rfl rfl ⟨rfl, rfl, rfl, rfl, rfl⟩ rfl rfl rfl rfl rfl (by kernel_rfl) Tryz.func4 storeNil_facts
    storeNil_inst storeNil_wrap
    (fun os started H enc _ F => by rw [OpenClaim.pre_eq_preRow]; exact storeNil_lifted os started H enc F)
theorem storeNil_plain (f : FuncId) (fn : Func) (hf : Tryz.pinned.checked.prog.funcNamed Rows.storeNilRow.func = some f) (hfn : Tryz.pinned.checked.prog.funcs[f]? = some fn) :
    true = Tryz.pinned.checked.prog.looks [] ∧ ∀ (j : Nat) t, fn.params[j]? = some t → Tryz.pinned.checked.prog.wantsStandIn t = false := by
  obtain rfl : f = 4 := Option.some.inj ((show Tryz.prog.funcNamed Rows.storeNilRow.func = some 4 by kernel_rfl).symm.trans hf) |>.symm
  obtain rfl : fn = Tryz.f4 := (Option.some.inj (Tryz.func4.symm.trans hfn)).symm
  refine ⟨by kernel_rfl, fun j t ht => ?_⟩
  rw [Tryz.params4] at ht
  have ht : t = 53 ∨ t = 56 := by simpa using Array.mem_of_getElem? ht
  rcases ht with rfl | rfl
  · exact (show Tryz.prog.wantsStandIn 53 = false by kernel_rfl)
  · exact (show Tryz.prog.wantsStandIn 56 = false by kernel_rfl)
theorem storeNil_card : Rows.StoreNilCardSaid :=
  Claim7.holds_tied_plain_at .later [] _ _ _ _ storeNil_said (fun _ h => by cases h) (by kernel_rfl) (fun _ h => by cases h) storeNil_row_tie rfl ⟨rfl, rfl⟩ (by kernel_rfl) rfl storeNil_plain (by kernel_rfl)
end Go.Proofs.YtflbhldcnjmkkaaGreatDoor
