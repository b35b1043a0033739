/-
  Layer 1 (block): Read.
-/
import Derived.Test.YtobnnhlgdoddgaaDoorBlk4
namespace Cr
open Go Go.Proofs
set_option maxRecDepth 100000
set_option maxHeartbeats 4000000

theorem callsIn_post {F : Fence} {n : Nat} {P : Program} {f : FuncId} {args : Array Value} {w : World} {R R' : Value → World → Prop} (h : CallsIn F n P f args w (Ret R)) (hm : ∀ v w, R v w → R' v w) : CallsIn F n P f args w (Ret R') := by
  obtain ⟨h1, h2⟩ := h
  refine ⟨h1, fun cs hr => ?_⟩
  obtain ⟨e, w3, fr, ⟨v, he, hR⟩, hrest⟩ := h2 cs hr
  exact ⟨e, w3, fr, ⟨v, he, hm _ _ hR⟩, hrest⟩
theorem Fr.round2 {σ : Env} {N : Nat} {tm : Array Value} (hsz : tm.size = N) (h : ∀ n v, look σ n = some v → tm[n]? = some v) (l : Nat) {a b : Nat} (x y : Value) (ha : a < N) (hb : b < N) :
    Fr ((b, y) :: (a, x) :: σ) N ⟨[], some l⟩ { tmps := (#[a, b].zip #[x, y]).foldl (fun tmps (t, v) => tmps.setIfInBounds t v) tm, defers := [] } := by
  have := ((Fr.round hsz h l).put ha x).put hb y
  simpa [Act.put] using this
theorem own_to_row {T : TypeId} {e c : Nat} {a : Option Addr} {cs : List Value} : ∀ h, own T e a c cs h → row a cs h := fun h hh => by
  obtain ⟨h1, _, ⟨rfl, h0⟩ | ⟨b, cells, rfl, rfl, hc, ht⟩⟩ := hh
  · exact .inl ⟨by rw [Nat.zero_mul] at h1; exact List.length_eq_zero_iff.1 (by omega), h0⟩
  · refine .inr ⟨b, 0, cells, T, (0, 0), rfl, rfl, fun i v hv => ?_⟩
    rw [← ht, List.getElem?_take] at hv
    split at hv
    · simpa using hv
    · cases hv
theorem drop_pred {α : Type} {l : List α} {k : Nat} {x : α} (hk : k ≠ 0) (hx : l[k - 1]? = some x) : l.drop (k - 1) = x :: l.drop k := by
  obtain ⟨h, rfl⟩ := List.getElem?_eq_some_iff.1 hx
  have := List.drop_eq_getElem_cons h
  rwa [show k - 1 + 1 = k by omega] at this
theorem find_none {α : Type} {l : List α} {k : Nat} {x : α} {f : α → Bool} (hk : k ≠ 0) (hx : l[k - 1]? = some x) (hf : (l.drop k).reverse.find? f = none) (h : f x = false) : (l.drop (k - 1)).reverse.find? f = none := by
  rw [drop_pred hk hx, List.reverse_cons, List.find?_append, hf]
  simp [h]
theorem find_last {α : Type} {l : List α} {k : Nat} {x : α} {f : α → Bool} (hk : k ≠ 0) (hx : l[k - 1]? = some x) (hf : (l.drop k).reverse.find? f = none) (h : f x = true) : l.reverse.find? f = some x := by
  have e : l = l.take (k - 1) ++ (x :: l.drop k) := by rw [← drop_pred hk hx]; simp
  rw [e, List.reverse_append, List.reverse_cons, List.find?_append, List.find?_append, hf]
  simp [h]
theorem Rd.slide {w : World} {b o : Nat} {cs : List Value} (H : Rd w (row (some ⟨b, o, none⟩) cs)) (k n : Nat) : Rd w (row (some ⟨b, o + k, none⟩) ((cs.drop k).take n)) :=
  H.mono fun h hr => by
    rcases hr with ⟨rfl, h0⟩ | ⟨b', off, cells, T, fz, hb, rfl, hc⟩
    · exact ⟨h, .inl ⟨by simp, h0⟩, fun _ _ e => e⟩
    · obtain ⟨rfl, rfl⟩ : b = b' ∧ o = off := by simpa using hb
      refine ⟨_, .inr ⟨b, o + k, cells, T, fz, rfl, rfl, fun i v hv => ?_⟩, fun _ _ e => e⟩
      rw [List.getElem?_take] at hv
      split at hv
      · rw [List.getElem?_drop] at hv
        have := hc _ _ hv
        rwa [Nat.add_assoc]
      · cases hv
theorem read_ (p : Nat) (D : DiskM) (no : Int) (W : World) (hd : Rd W (disk p D)) (hline : D.line.length < 1073741824) :
    Calls Tryd.prog 31 #[.pointer (some ⟨p, 0, none⟩), .int .i64 no] W (Ret fun v w => ∃ a c, v = .tuple #[.slice a (D.read no).2.length c, .int .i64 (D.read no).1] ∧ (D.read no).2.length ≤ c ∧ St W noF [bytes a (D.read no).2] w) := by
  have hS := St.start W
  obtain ⟨hok, al, cl, ai, ci, c1, c2, hcd, hrl, hri⟩ := hd.disk
  have hdo := hd.ro
  cases hoff : D.off
  · cases hin : inDisk D no
    · refine calls_C Tryd.func31 rfl Tryd.ntmps31 rfl ?_
      repeat (first | (refine G_id ?_; first | refine G_nil ?_ | refine G_plain rfl rfl ?_) | (refine X_id ?_; first | (refine X_callg 19 rfl rfl rfl rfl rfl (on_b p D _ hoff _ (hdo.rd hS)) ?_; rintro _ _ ⟨rfl, rfl⟩) | (refine X_callg 43 rfl rfl rfl rfl rfl (has_b p D no _ hin _ (hdo.rd hS)) ?_; rintro _ _ ⟨rfl, rfl⟩) | refine X_yl (Yl_move rfl rfl) rfl rfl ?_ | refine X_yl (Yl_assign rfl rfl) rfl rfl ?_ | refine X_yl (Yl_not_t rfl rfl) rfl rfl ?_ | refine X_yl (Yl_not_f rfl rfl) rfl rfl ?_ | refine X_yl (Yl_load rfl rfl hS.cell) rfl rfl ?_ | refine X_store rfl rfl rfl rfl hS (fun _ hS _ => ?_) | refine X_box rfl rfl rfl rfl hS (fun _ _ hS _ => ?_) | refine X_alloc rfl rfl rfl hS (fun _ _ hS _ => ?_)) | (refine C_id ?_; first | refine C_seq ?_ | refine C_region ?_ | refine C_block ?_ | refine C_ret ?_ | refine C_cond_t rfl ?_ | refine C_cond_f rfl ?_) | (refine E_id ?_; first | refine E_code ?_ | refine E_then_ret ?_ | refine E_blk_ret ?_ | refine E_ret2 rfl (by first | exact Rv_tmp rfl | exact Rv_cell rfl (run_load1 hS.cell) | exact Rv_cell rfl (run_loadN hS.cellsN)) (by first | exact Rv_tmp rfl | exact Rv_cell rfl (run_load1 hS.cell) | exact Rv_cell rfl (run_loadN hS.cellsN)) (Ret.mk ?_)))
      rw [show D.read no = (1, []) by simp [DiskM.read, hoff, hin]]
      exact ⟨none, 0, rfl, Nat.le_refl _, hS.drops.row_none⟩
    · refine calls_C Tryd.func31 rfl Tryd.ntmps31 rfl ?_
      repeat (first | (refine G_id ?_; first | refine G_nil ?_ | refine G_plain rfl rfl ?_) | (refine X_id ?_; first | (refine X_callg 19 rfl rfl rfl rfl rfl (on_b p D _ hoff _ (hdo.rd hS)) ?_; rintro _ _ ⟨rfl, rfl⟩) | (refine X_callg 43 rfl rfl rfl rfl rfl (has_b p D no _ hin _ (hdo.rd hS)) ?_; rintro _ _ ⟨rfl, rfl⟩) | refine X_yl (Yl_move rfl rfl) rfl rfl ?_ | refine X_yl (Yl_assign rfl rfl) rfl rfl ?_ | refine X_yl (Yl_nilCheck rfl rfl) rfl rfl ?_ | refine X_yl (Yl_fieldAddr0 rfl rfl rfl) rfl rfl ?_ | refine X_yl (Yl_not_t rfl rfl) rfl rfl ?_ | refine X_yl (Yl_load rfl rfl hS.cell) rfl rfl ?_ | refine X_box rfl rfl rfl rfl hS (fun _ _ hS _ => ?_) | refine X_alloc rfl rfl rfl hS (fun _ _ hS _ => ?_)) | (refine C_id ?_; first | refine C_seq ?_ | refine C_region ?_ | refine C_block ?_ | refine C_skip ?_ | refine C_cond_f rfl ?_) | (refine E_id ?_; first | refine E_code ?_ | refine E_blk_n ?_))
      have hcd1 := hS.kept hcd
      repeat (first | (refine G_id ?_; first | refine G_plain rfl rfl ?_) | (refine X_id ?_; first | refine X_yl (Yl_load rfl rfl (cell_at (by assumption))) rfl rfl ?_))
      obtain ⟨_, hc, hr, hw, hbk⟩ := hS.call []
      refine X_callg _ rfl rfl rfl rfl rfl (backward_mk _ _ _ _) ?_
      rintro _ w ⟨bx, rfl, hS⟩
      replace hS := hbk hS.more
      clear hc hr hw hbk
      repeat (first | (refine G_id ?_; first | refine G_nil ?_) | (refine C_id ?_; first | refine C_block ?_) | (refine E_id ?_; first | refine E_code ?_))
      rename_i b3 _ _ _ b4 _ _ _ b5 _ _ _ _
      refine C_rangeFunc (first := []) (captured := [.pointer (some ⟨bx, 0, none⟩)])
        (fun l r j w => (j = none ∧ D.line.reverse.find? (fun x => x.1 == no) = none ∧ ∃ lo, St W noF [pts l lo, pts r (.deferred (some [])), pts bx (.cells #[.slice ai D.line.length ci] 52), pts b5 (.cells #[.int .i64 0] 29), pts b4 (.cells #[.slice none 0 0] 36), pts b3 (.cells #[.int .i64 no] 3)] w) ∨
          (j = some .ret ∧ ∃ x tb, D.line.reverse.find? (fun x => x.1 == no) = some x ∧ ∃ lo, St W noF [pts l lo, pts r (.deferred (some [])), pts tb (.cells (.int .i64 x.1 :: bv x.2).toArray 101), pts b5 (.cells #[.int .i64 0] 29), pts b4 (.cells #[.slice (some ⟨tb, 1, none⟩) 64 64] 36)] w))
        rfl rfl hS ?_ ?_ ?_
      · intro A B hA hB fn tm l r w1 htm hlook hS
        have hln : ∀ x ∈ D.line, (Value.int .i64 x.1 :: bv x.2).length = 65 := fun x hx => by simp [(hok.line64 x hx).1]
        have hll := lineCells_length fun x hx => (hok.line64 x hx).1
        have hW := fun (w : World) rs (h : St W noF rs w) => hri.ro.rd h
        refine callsIn_post (backward_waiting l bx D.line.length ci ai (lineCells D.line) w1 52 (by omega) hll
          (fun k w => k ≤ D.line.length ∧ (D.line.drop k).reverse.find? (fun x => x.1 == no) = none ∧ St W noF [pts l (.loop (recd fn tm #[22, 23] A B r .ready none)), pts r (.deferred (some [])), pts bx (.cells #[.slice ai D.line.length ci] 52), pts b5 (.cells #[.int .i64 0] 29), pts b4 (.cells #[.slice none 0 0] 36), pts b3 (.cells #[.int .i64 no] 3)] w)
          (fun w => ∃ x tb, D.line.reverse.find? (fun x => x.1 == no) = some x ∧ St W noF [pts l (.loop (recd fn tm #[22, 23] A B r .done (some .ret))), pts r (.deferred (some [])), pts tb (.cells (.int .i64 x.1 :: bv x.2).toArray 101), pts b5 (.cells #[.int .i64 0] 29), pts b4 (.cells #[.slice (some ⟨tb, 1, none⟩) 64 64] 36)] w)
          (fun k w h => h.2.2.has) (fun k w h => hW _ _ h.2.2) ?_ ⟨Nat.le_refl _, by rw [List.drop_length]; rfl, hS⟩) ?_
        · rintro k w ⟨hkl, hf, hS⟩
          refine ⟨_, rfl, hS.has, fun hk => ?_⟩
          obtain ⟨x, hx⟩ : ∃ x, D.line[k - 1]? = some x := by
            have : k - 1 < D.line.length := by omega
            exact ⟨_, List.getElem?_eq_getElem this⟩
          have hxm := List.mem_of_getElem? hx
          have hlen : LenIs (bv x.2) 64 := ⟨by simp [(hok.line64 x hxm).1]⟩
          have hagg : ((lineCells D.line).drop ((k - 1) * 65)).take 65 = .int .i64 x.1 :: bv x.2 := flatMap_seg hln hx
          rw [hagg]
          show RoundIn Fence.wide 0 Tryd.prog l fn ((#[22, 23].zip _).foldl _ tm) A B w _
          refine round_C (Fr.round2 htm hlook l (.int .i64 ((k - 1 : Nat) : Int)) (.agg (.int .i64 x.1 :: bv x.2).toArray) (by decide) (by decide)) ?_
          refine C_eq hA ?_
          by_cases hno : x.1 = no
          · repeat (first | (refine G_id ?_; first | refine G_nil ?_ | refine G_plain rfl rfl ?_) | (refine X_id ?_; first | refine X_store rfl rfl rfl rfl hS (fun _ hS _ => ?_) | refine X_alloc rfl rfl rfl hS (fun _ _ hS _ => ?_)) | (refine C_id ?_; first | refine C_region ?_))
            refine E_begin hS.has (fun w hset => ?_)
            replace hS := hS.upd hset
            refine C_eq hB ?_
            repeat (first | (refine G_id ?_; first | refine G_nil ?_ | refine G_plain rfl rfl ?_) | (refine X_id ?_; first | refine X_yl (Yl_fieldAddr0 rfl rfl rfl) rfl rfl ?_ | refine X_yl (Yl_eql_t rfl rfl rfl (by omega)) rfl rfl ?_ | refine X_yl (Yl_slice_arr rfl rfl) rfl rfl ?_ | refine X_yl (Yl_load rfl rfl hS.cell) rfl rfl ?_ | refine X_store rfl rfl rfl rfl hS (fun _ hS _ => ?_)) | (refine C_id ?_; first | refine C_seq ?_ | refine C_region ?_ | refine C_block ?_ | refine C_ret ?_ | refine C_cond_t rfl ?_) | (refine E_id ?_; first | refine E_code ?_ | refine E_blk_ret ?_))
            refine E_round_ret hS.has (fun w hset => ⟨_, rfl, .inr ⟨rfl, x, _, ?_, (hS.upd hset).pick [1, 1, 0, 1, 1]⟩⟩)
            exact find_last hk hx hf (by simpa using hno)
          · repeat (first | (refine G_id ?_; first | refine G_nil ?_ | refine G_plain rfl rfl ?_) | (refine X_id ?_; first | refine X_store rfl rfl rfl rfl hS (fun _ hS _ => ?_) | refine X_alloc rfl rfl rfl hS (fun _ _ hS _ => ?_)) | (refine C_id ?_; first | refine C_region ?_))
            refine E_begin hS.has (fun w hset => ?_)
            replace hS := hS.upd hset
            refine C_eq hB ?_
            repeat (first | (refine G_id ?_; first | refine G_nil ?_ | refine G_plain rfl rfl ?_) | (refine X_id ?_; first | refine X_yl (Yl_fieldAddr0 rfl rfl rfl) rfl rfl ?_ | refine X_yl (Yl_eql_f rfl rfl rfl (by omega)) rfl rfl ?_ | refine X_yl (Yl_load rfl rfl hS.cell) rfl rfl ?_) | (refine C_id ?_; first | refine C_seq ?_ | refine C_region ?_ | refine C_block ?_ | refine C_skip ?_ | refine C_cond_f rfl ?_) | (refine E_id ?_; first | refine E_code ?_ | refine E_blk_n ?_))
            refine E_round_n hS.has (fun w hset => ⟨_, rfl, .inl ⟨rfl, by omega, ?_, (hS.upd hset).pick [1, 1, 1, 1, 1, 1]⟩⟩)
            exact find_none hk hx hf (by simpa using hno)
        · rintro _ w3 (⟨_, hf, hS⟩ | ⟨x, tb, hf, hS⟩)
          · exact ⟨_, _, by simp, hS.has, fun w4 hset => .inl ⟨rfl, by simpa using hf, _, hS.upd hset⟩⟩
          · exact ⟨_, _, by simp, hS.has, fun w4 hset => .inr ⟨rfl, x, tb, hf, _, hS.upd hset⟩⟩
      · intro l r w4 hJ
        rcases hJ with ⟨_, hf, lo, hS⟩ | ⟨h, _⟩
        · repeat (first | (refine C_id ?_; first | refine C_seq ?_) | (refine E_id ?_; first | refine E_code2 rfl ?_ | refine E_blk_n ?_))
          have hin2 : 0 ≤ no ∧ no < D.laid.length := by simpa [inDisk] using hin
          have hin0 := hin2.1
          have hin1 := hin2.2
          obtain ⟨lb, lo, rfl⟩ := hrl.base (by intro e; have h := laidCells_length hok.laid64; rw [e] at h; simp at h; omega)
          refine C_ord [(0, true), (1, true), (2, true), (3, true), (4, true), (5, true), (6, true), (7, false), (8, false), (9, false)] mixed (by kernel_rfl) rfl ?_
          have hS := hS.drew
          have hcd3 := hS.kept hcd
          repeat (first | (refine GO_id ?_; first | refine GO_pure rfl rfl (fun _ => Yl_move rfl rfl) rfl rfl ?_ | refine GO_pure rfl rfl (fun _ => Yl_nilCheck rfl rfl) rfl rfl ?_ | refine GO_pure rfl rfl (fun _ => Yl_fieldAddr0 rfl rfl rfl) rfl rfl ?_ | refine GO_pure rfl rfl (fun _ => Yl_slice_arr rfl rfl) rfl rfl ?_ | refine GO_pure rfl rfl (fun _ => Yl_indexAddr rfl rfl rfl (by omega) (by omega) (by first | assumption | exact ⟨_, _, rfl⟩)) rfl rfl ?_ | refine GO_read (fun w' => w'.cell? _ = some _) rfl rfl hS.cell (fun _ hc => Yl_load rfl rfl hc) rfl rfl ?_ | refine GO_read (fun w' => w'.cell? _ = some _) rfl rfl (cell_at (by assumption)) (fun _ hc => Yl_load rfl rfl hc) rfl rfl ?_ | refine GO_hard rfl rfl ?_))
          have hseg : ((laidCells D.laid).drop (no.toNat * 64)).take 64 = bv (D.laid.getD no.toNat []) := by
            obtain ⟨s, hs⟩ : ∃ s, D.laid[no.toNat]? = some s := ⟨_, List.getElem?_eq_getElem (by omega)⟩
            rw [List.getD_eq_getElem?_getD, hs]
            exact flatMap_seg (fun x hx => by simp [hok.laid64 x hx]) hs
          have hrs := (hrl.ro.rd hS).slide (no.toNat * 64) 64
          rw [hseg] at hrs
          have h64 : (D.laid.getD no.toNat []).length = 64 := by rw [← bv_length, ← hseg, List.length_take, List.length_drop, laidCells_length hok.laid64]; omega
          obtain ⟨_, hc, hr, hw, hbk⟩ := hS.call []
          refine X_callg _ rfl rfl rfl rfl rfl (clone_ _ 64 _ (D.laid.getD no.toNat []) _ hrs h64 (by omega)) ?_
          rintro _ w ⟨a', c', rfl, _, hcc, hS⟩
          replace hS := hbk hS.more
          clear hc hr hw hbk
          have hcd4 := hS.kept hcd
          refine And.intro (by repeat (first | exact trivial | refine And.intro (.inl (by decide +kernel)) ?_ | refine And.intro (.inr (by first | exact hS.cell | exact cell_at hcd4)) ?_)) ?_
          repeat (first | (refine X_id ?_; first | refine X_store rfl rfl rfl rfl hS (fun _ hS _ => ?_)) | (refine C_id ?_; first | refine C_ret ?_) | (refine E_id ?_; first | refine E_code ?_) | (refine GO_id ?_; first | refine GO_nil ?_ | refine GO_hard rfl rfl ?_) | (refine Keep_id ?_; first | refine And.intro (by repeat (first | exact trivial | refine And.intro (.inl (by decide +kernel)) ?_ | refine And.intro (.inr (by first | assumption | exact hS.cell | exact cell_at (by assumption) | exact hS.cellI (by omega) | exact hS.cellIP (by omega) | exact hS.cellsN | exact ((hr.rd hS).cellX (by omega) hx) | exact ((hr2.rd hS).cellX (by omega) hx2) | exact hS.cellB (by omega) | exact hS.cellBA (by omega) | exact (hb.rd hS).cellB' (by omega) | exact (hb2.rd hS).cellB' (by omega) | exact (hg.rd hS).cellI (by omega) | exact (hg2.rd hS).cellI (by omega) | exact ((hr.rd hS).cellF (by first | omega | (dsimp only; omega)) hx) | exact ((hr2.rd hS).cellF (by first | omega | (dsimp only; omega)) hx2))) ?_)) ?_))
          refine E_mark (.inl rfl) hS.has (fun w hset => ?_)
          replace hS := hS.upd hset
          repeat (first | (refine E_id ?_; first | refine E_ret2 rfl (by first | exact Rv_tmp rfl | exact Rv_cell rfl (run_load1 hS.cell) | exact Rv_cell rfl (run_loadN hS.cellsN)) (by first | exact Rv_tmp rfl | exact Rv_cell rfl (run_load1 hS.cell) | exact Rv_cell rfl (run_loadN hS.cellsN)) (Ret.mk ?_)))
          rw [show D.read no = (0, D.laid.getD no.toNat []) by simp only [DiskM.read, hoff, hin, DiskM.find, hf]; rfl]
          refine ⟨a', c', by rw [h64], by rw [h64]; exact hcc, (hS.pick [0]).head fun h hh => ?_⟩
          exact own_to_row h hh
        · cases h
      · intro l r c w4 hJ
        rcases hJ with ⟨h, _⟩ | ⟨h, x, tb, hf, lo, hS⟩
        · cases h
        · cases h
          repeat (first | (refine C_id ?_; first | refine C_ret ?_) | (refine E_id ?_; first | refine E_then_ret ?_ | refine E_blk_ret ?_))
          refine E_mark (.inl rfl) hS.has (fun w hset => ?_)
          replace hS := hS.upd hset
          repeat (first | (refine E_id ?_; first | refine E_ret2 rfl (by first | exact Rv_tmp rfl | exact Rv_cell rfl (run_load1 hS.cell) | exact Rv_cell rfl (run_loadN hS.cellsN)) (by first | exact Rv_tmp rfl | exact Rv_cell rfl (run_load1 hS.cell) | exact Rv_cell rfl (run_loadN hS.cellsN)) (Ret.mk ?_)))
          have hx64 : x.2.length = 64 := (hok.line64 x (by simpa using List.mem_of_find?_eq_some hf)).1
          rw [show D.read no = (0, x.2) by simp only [DiskM.read, hoff, hin, DiskM.find, hf]; rfl]
          refine ⟨some ⟨tb, 1, none⟩, 64, by rw [hx64], by rw [hx64]; exact Nat.le_refl _, (hS.pick [2]).head (row_pts_mid (n := 64) ?_)⟩
          simp [← hx64, ← bv_length]
  · refine calls_C Tryd.func31 rfl Tryd.ntmps31 rfl ?_
    repeat (first | (refine G_id ?_; first | refine G_nil ?_ | refine G_plain rfl rfl ?_) | (refine X_id ?_; first | (refine X_callg 19 rfl rfl rfl rfl rfl (on_b p D _ hoff _ (hdo.rd hS)) ?_; rintro _ _ ⟨rfl, rfl⟩) | refine X_yl (Yl_move rfl rfl) rfl rfl ?_ | refine X_yl (Yl_assign rfl rfl) rfl rfl ?_ | refine X_yl (Yl_not_f rfl rfl) rfl rfl ?_ | refine X_store rfl rfl rfl rfl hS (fun _ hS _ => ?_) | refine X_box rfl rfl rfl rfl hS (fun _ _ hS _ => ?_) | refine X_alloc rfl rfl rfl hS (fun _ _ hS _ => ?_)) | (refine C_id ?_; first | refine C_seq ?_ | refine C_region ?_ | refine C_block ?_ | refine C_ret ?_ | refine C_cond_t rfl ?_) | (refine E_id ?_; first | refine E_code ?_ | refine E_then_ret ?_ | refine E_blk_ret ?_ | refine E_ret2 rfl (by first | exact Rv_tmp rfl | exact Rv_cell rfl (run_load1 hS.cell) | exact Rv_cell rfl (run_loadN hS.cellsN)) (by first | exact Rv_tmp rfl | exact Rv_cell rfl (run_load1 hS.cell) | exact Rv_cell rfl (run_loadN hS.cellsN)) (Ret.mk ?_)))
    rw [show D.read no = (9, []) by simp [DiskM.read, hoff]]
    exact ⟨none, 0, rfl, Nat.le_refl _, hS.drops.row_none⟩
end Cr
