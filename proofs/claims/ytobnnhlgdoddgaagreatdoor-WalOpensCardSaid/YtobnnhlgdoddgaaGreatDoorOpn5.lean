/-
  Layer 1 (block): Read.
  Layer 4 (wal): full, front, note.
  The words of a digest as natural numbers below 2^32: what the two sides' operations do to them. No program is in sight.
  Two more rules of the walk: a join behind a test (the rest is walked once), and an assertion in the middle.
  The document's answers of layer 4: numbers' bytes.
  The document's digest: numbers of digits to the base 2^16, roots.
  Layer 4 (wal): number, sum.
  Layer 4 (wal): sum.
  Maps with keys of an integer type or strings: made, looked up, updated. Over any program.
-/
import Derived.Test.YtobnnhlgdoddgaaGreatDoorOpn4
import Derived.Test.YtobnnhlgdoddgaaGreatDoorOpn3
import Derived.Laws.BitsLemmas
import Derived.Test.YtobnnhlgdoddgaaGreatDoorOpn2
import Derived.MapKept
namespace Cr
open Go Go.Proofs
set_option maxRecDepth 100000
set_option maxHeartbeats 4000000

theorem callsIn_post {F : Fence} {n : Nat} {P : Program} {f : FuncId} {args : Array Value} {w : World} {R R' : Value → World → Prop} (h : CallsIn F n P f args w (Ret R)) (hm : ∀ v w, R v w → R' v w) : CallsIn F n P f args w (Ret R') := by
  obtain ⟨h1, h2⟩ := h
  refine ⟨h1, fun cs hr => ?_⟩
  obtain ⟨e, w3, fr, ⟨v, he, hR⟩, hrest⟩ := h2 cs hr
  exact ⟨e, w3, fr, ⟨v, he, hm _ _ hR⟩, hrest⟩
theorem Fr.round2 {σ : Env} {N : Nat} {tm : Array Value} (hsz : tm.size = N) (h : ∀ n v, look σ n = some v → tm[n]? = some v) (l : Nat) {a b : Nat} (x y : Value) (ha : a < N) (hb : b < N) :
    Fr ((b, y) :: (a, x) :: σ) N ⟨[], some l⟩ { tmps := (#[a, b].zip #[x, y]).foldl (fun tmps (t, v) => tmps.setIfInBounds t v) tm, defers := [] } := by
  have := ((Fr.round hsz h l).put ha x).put hb y
  simpa [Act.put] using this
theorem own_to_row {T : TypeId} {e c : Nat} {a : Option Addr} {cs : List Value} : ∀ h, own T e a c cs h → row a cs h := fun h hh => by
  obtain ⟨h1, _, ⟨rfl, h0⟩ | ⟨b, cells, rfl, rfl, hc, ht⟩⟩ := hh
  · exact .inl ⟨by rw [Nat.zero_mul] at h1; exact List.length_eq_zero_iff.1 (by omega), h0⟩
  · refine .inr ⟨b, 0, cells, T, (0, 0), rfl, rfl, fun i v hv => ?_⟩
    rw [← ht, List.getElem?_take] at hv
    split at hv
    · simpa using hv
    · cases hv
theorem drop_pred {α : Type} {l : List α} {k : Nat} {x : α} (hk : k ≠ 0) (hx : l[k - 1]? = some x) : l.drop (k - 1) = x :: l.drop k := by
  obtain ⟨h, rfl⟩ := List.getElem?_eq_some_iff.1 hx
  have := List.drop_eq_getElem_cons h
  rwa [show k - 1 + 1 = k by omega] at this
theorem find_none {α : Type} {l : List α} {k : Nat} {x : α} {f : α → Bool} (hk : k ≠ 0) (hx : l[k - 1]? = some x) (hf : (l.drop k).reverse.find? f = none) (h : f x = false) : (l.drop (k - 1)).reverse.find? f = none := by
  rw [drop_pred hk hx, List.reverse_cons, List.find?_append, hf]
  simp [h]
theorem find_last {α : Type} {l : List α} {k : Nat} {x : α} {f : α → Bool} (hk : k ≠ 0) (hx : l[k - 1]? = some x) (hf : (l.drop k).reverse.find? f = none) (h : f x = true) : l.reverse.find? f = some x := by
  have e : l = l.take (k - 1) ++ (x :: l.drop k) := by rw [← drop_pred hk hx]; simp
  rw [e, List.reverse_append, List.reverse_cons, List.find?_append, List.find?_append, hf]
  simp [h]
theorem Rd.slide {w : World} {b o : Nat} {cs : List Value} (H : Rd w (row (some ⟨b, o, none⟩) cs)) (k n : Nat) : Rd w (row (some ⟨b, o + k, none⟩) ((cs.drop k).take n)) :=
  H.mono fun h hr => by
    rcases hr with ⟨rfl, h0⟩ | ⟨b', off, cells, T, fz, hb, rfl, hc⟩
    · exact ⟨h, .inl ⟨by simp, h0⟩, fun _ _ e => e⟩
    · obtain ⟨rfl, rfl⟩ : b = b' ∧ o = off := by simpa using hb
      refine ⟨_, .inr ⟨b, o + k, cells, T, fz, rfl, rfl, fun i v hv => ?_⟩, fun _ _ e => e⟩
      rw [List.getElem?_take] at hv
      split at hv
      · rw [List.getElem?_drop] at hv
        have := hc _ _ hv
        rwa [Nat.add_assoc]
      · cases hv
theorem read_ (p : Nat) (D : DiskM) (no : Int) (W : World) (hd : Rd W (disk p D)) (hline : D.line.length < 1073741824) :
    Calls Tryz.prog 38 #[.pointer (some ⟨p, 0, none⟩), .int .i64 no] W (Ret fun v w => ∃ a c, v = .tuple #[.slice a (D.read no).2.length c, .int .i64 (D.read no).1] ∧ (D.read no).2.length ≤ c ∧ St W noF [bytes a (D.read no).2] w) := by
  have hS := St.start W
  obtain ⟨hok, al, cl, ai, ci, c1, c2, hcd, hrl, hri⟩ := hd.disk
  have hdo := hd.ro
  cases hoff : D.off
  · cases hin : inDisk D no
    · refine calls_C Tryz.func38 rfl Tryz.ntmps38 rfl ?_
      repeat (first | (refine G_id ?_; first | refine G_nil ?_ | refine G_plain rfl rfl ?_) | (refine X_id ?_; first | (refine X_callg 16 rfl rfl rfl rfl rfl (on_b p D _ hoff _ (hdo.rd hS)) ?_; rintro _ _ ⟨rfl, rfl⟩) | (refine X_callg 17 rfl rfl rfl rfl rfl (has_b p D no _ hin _ (hdo.rd hS)) ?_; rintro _ _ ⟨rfl, rfl⟩) | refine X_yl (Yl_move rfl rfl) rfl rfl ?_ | refine X_yl (Yl_assign rfl rfl) rfl rfl ?_ | refine X_yl (Yl_not_t rfl rfl) rfl rfl ?_ | refine X_yl (Yl_not_f rfl rfl) rfl rfl ?_ | refine X_yl (Yl_load rfl rfl hS.cell) rfl rfl ?_ | refine X_store rfl rfl rfl rfl hS (fun _ hS _ => ?_) | refine X_box rfl rfl rfl rfl hS (fun _ _ hS _ => ?_) | refine X_alloc rfl rfl rfl hS (fun _ _ hS _ => ?_)) | (refine C_id ?_; first | refine C_seq ?_ | refine C_region ?_ | refine C_block ?_ | refine C_ret ?_ | refine C_cond_t rfl ?_ | refine C_cond_f rfl ?_) | (refine E_id ?_; first | refine E_code ?_ | refine E_then_ret ?_ | refine E_blk_ret ?_ | refine E_ret2 rfl (by first | exact Rv_tmp rfl | exact Rv_cell rfl (run_load1 hS.cell) | exact Rv_cell rfl (run_loadN hS.cellsN)) (by first | exact Rv_tmp rfl | exact Rv_cell rfl (run_load1 hS.cell) | exact Rv_cell rfl (run_loadN hS.cellsN)) (Ret.mk ?_)))
      rw [show D.read no = (1, []) by simp [DiskM.read, hoff, hin]]
      exact ⟨none, 0, rfl, Nat.le_refl _, hS.drops.row_none⟩
    · refine calls_C Tryz.func38 rfl Tryz.ntmps38 rfl ?_
      repeat (first | (refine G_id ?_; first | refine G_nil ?_ | refine G_plain rfl rfl ?_) | (refine X_id ?_; first | (refine X_callg 16 rfl rfl rfl rfl rfl (on_b p D _ hoff _ (hdo.rd hS)) ?_; rintro _ _ ⟨rfl, rfl⟩) | (refine X_callg 17 rfl rfl rfl rfl rfl (has_b p D no _ hin _ (hdo.rd hS)) ?_; rintro _ _ ⟨rfl, rfl⟩) | refine X_yl (Yl_move rfl rfl) rfl rfl ?_ | refine X_yl (Yl_assign rfl rfl) rfl rfl ?_ | refine X_yl (Yl_nilCheck rfl rfl) rfl rfl ?_ | refine X_yl (Yl_fieldAddr0 rfl rfl rfl) rfl rfl ?_ | refine X_yl (Yl_not_t rfl rfl) rfl rfl ?_ | refine X_yl (Yl_load rfl rfl hS.cell) rfl rfl ?_ | refine X_box rfl rfl rfl rfl hS (fun _ _ hS _ => ?_) | refine X_alloc rfl rfl rfl hS (fun _ _ hS _ => ?_)) | (refine C_id ?_; first | refine C_seq ?_ | refine C_region ?_ | refine C_block ?_ | refine C_skip ?_ | refine C_cond_f rfl ?_) | (refine E_id ?_; first | refine E_code ?_ | refine E_blk_n ?_))
      have hcd1 := hS.kept hcd
      repeat (first | (refine G_id ?_; first | refine G_plain rfl rfl ?_) | (refine X_id ?_; first | refine X_yl (Yl_load rfl rfl (cell_at (by assumption))) rfl rfl ?_))
      obtain ⟨_, hc, hr, hw, hbk⟩ := hS.call []
      refine X_callg _ rfl rfl rfl rfl rfl (backward_mk _ _ _ _) ?_
      rintro _ w ⟨bx, rfl, hS⟩
      replace hS := hbk hS.more
      clear hc hr hw hbk
      repeat (first | (refine G_id ?_; first | refine G_nil ?_) | (refine C_id ?_; first | refine C_block ?_) | (refine E_id ?_; first | refine E_code ?_))
      rename_i b3 _ _ _ b4 _ _ _ b5 _ _ _ _
      refine C_rangeFunc (first := []) (captured := [.pointer (some ⟨bx, 0, none⟩)])
        (fun l r j w => (j = none ∧ D.line.reverse.find? (fun x => x.1 == no) = none ∧ ∃ lo, St W noF [pts l lo, pts r (.deferred (some [])), pts bx (.cells #[.slice ai D.line.length ci] 48), pts b5 (.cells #[.int .i64 0] 25), pts b4 (.cells #[.slice none 0 0] 22), pts b3 (.cells #[.int .i64 no] 3)] w) ∨
          (j = some .ret ∧ ∃ x tb, D.line.reverse.find? (fun x => x.1 == no) = some x ∧ ∃ lo, St W noF [pts l lo, pts r (.deferred (some [])), pts tb (.cells (.int .i64 x.1 :: bv x.2).toArray 60), pts b5 (.cells #[.int .i64 0] 25), pts b4 (.cells #[.slice (some ⟨tb, 1, none⟩) 64 64] 22)] w))
        rfl rfl hS ?_ ?_ ?_
      · intro A B hA hB fn tm l r w1 htm hlook hS
        have hln : ∀ x ∈ D.line, (Value.int .i64 x.1 :: bv x.2).length = 65 := fun x hx => by simp [(hok.line64 x hx).1]
        have hll := lineCells_length fun x hx => (hok.line64 x hx).1
        have hW := fun (w : World) rs (h : St W noF rs w) => hri.ro.rd h
        refine callsIn_post (backward_waiting l bx D.line.length ci ai (lineCells D.line) w1 48 (by omega) hll
          (fun k w => k ≤ D.line.length ∧ (D.line.drop k).reverse.find? (fun x => x.1 == no) = none ∧ St W noF [pts l (.loop (recd fn tm #[22, 23] A B r .ready none)), pts r (.deferred (some [])), pts bx (.cells #[.slice ai D.line.length ci] 48), pts b5 (.cells #[.int .i64 0] 25), pts b4 (.cells #[.slice none 0 0] 22), pts b3 (.cells #[.int .i64 no] 3)] w)
          (fun w => ∃ x tb, D.line.reverse.find? (fun x => x.1 == no) = some x ∧ St W noF [pts l (.loop (recd fn tm #[22, 23] A B r .done (some .ret))), pts r (.deferred (some [])), pts tb (.cells (.int .i64 x.1 :: bv x.2).toArray 60), pts b5 (.cells #[.int .i64 0] 25), pts b4 (.cells #[.slice (some ⟨tb, 1, none⟩) 64 64] 22)] w)
          (fun k w h => h.2.2.has) (fun k w h => hW _ _ h.2.2) ?_ ⟨Nat.le_refl _, by rw [List.drop_length]; rfl, hS⟩) ?_
        · rintro k w ⟨hkl, hf, hS⟩
          refine ⟨_, rfl, hS.has, fun hk => ?_⟩
          obtain ⟨x, hx⟩ : ∃ x, D.line[k - 1]? = some x := by
            have : k - 1 < D.line.length := by omega
            exact ⟨_, List.getElem?_eq_getElem this⟩
          have hxm := List.mem_of_getElem? hx
          have hlen : LenIs (bv x.2) 64 := ⟨by simp [(hok.line64 x hxm).1]⟩
          have hagg : ((lineCells D.line).drop ((k - 1) * 65)).take 65 = .int .i64 x.1 :: bv x.2 := flatMap_seg hln hx
          rw [hagg]
          show RoundIn Fence.wide 0 Tryz.prog l fn ((#[22, 23].zip _).foldl _ tm) A B w _
          refine round_C (Fr.round2 htm hlook l (.int .i64 ((k - 1 : Nat) : Int)) (.agg (.int .i64 x.1 :: bv x.2).toArray) (by decide) (by decide)) ?_
          refine C_eq hA ?_
          by_cases hno : x.1 = no
          · repeat (first | (refine G_id ?_; first | refine G_nil ?_ | refine G_plain rfl rfl ?_) | (refine X_id ?_; first | refine X_store rfl rfl rfl rfl hS (fun _ hS _ => ?_) | refine X_alloc rfl rfl rfl hS (fun _ _ hS _ => ?_)) | (refine C_id ?_; first | refine C_region ?_))
            refine E_begin hS.has (fun w hset => ?_)
            replace hS := hS.upd hset
            refine C_eq hB ?_
            repeat (first | (refine G_id ?_; first | refine G_nil ?_ | refine G_plain rfl rfl ?_) | (refine X_id ?_; first | refine X_yl (Yl_fieldAddr0 rfl rfl rfl) rfl rfl ?_ | refine X_yl (Yl_eql_t rfl rfl rfl (by omega)) rfl rfl ?_ | refine X_yl (Yl_slice_arr rfl rfl) rfl rfl ?_ | refine X_yl (Yl_load rfl rfl hS.cell) rfl rfl ?_ | refine X_store rfl rfl rfl rfl hS (fun _ hS _ => ?_)) | (refine C_id ?_; first | refine C_seq ?_ | refine C_region ?_ | refine C_block ?_ | refine C_ret ?_ | refine C_cond_t rfl ?_) | (refine E_id ?_; first | refine E_code ?_ | refine E_blk_ret ?_))
            refine E_round_ret hS.has (fun w hset => ⟨_, rfl, .inr ⟨rfl, x, _, ?_, (hS.upd hset).pick [1, 1, 0, 1, 1]⟩⟩)
            exact find_last hk hx hf (by simpa using hno)
          · repeat (first | (refine G_id ?_; first | refine G_nil ?_ | refine G_plain rfl rfl ?_) | (refine X_id ?_; first | refine X_store rfl rfl rfl rfl hS (fun _ hS _ => ?_) | refine X_alloc rfl rfl rfl hS (fun _ _ hS _ => ?_)) | (refine C_id ?_; first | refine C_region ?_))
            refine E_begin hS.has (fun w hset => ?_)
            replace hS := hS.upd hset
            refine C_eq hB ?_
            repeat (first | (refine G_id ?_; first | refine G_nil ?_ | refine G_plain rfl rfl ?_) | (refine X_id ?_; first | refine X_yl (Yl_fieldAddr0 rfl rfl rfl) rfl rfl ?_ | refine X_yl (Yl_eql_f rfl rfl rfl (by omega)) rfl rfl ?_ | refine X_yl (Yl_load rfl rfl hS.cell) rfl rfl ?_) | (refine C_id ?_; first | refine C_seq ?_ | refine C_region ?_ | refine C_block ?_ | refine C_skip ?_ | refine C_cond_f rfl ?_) | (refine E_id ?_; first | refine E_code ?_ | refine E_blk_n ?_))
            refine E_round_n hS.has (fun w hset => ⟨_, rfl, .inl ⟨rfl, by omega, ?_, (hS.upd hset).pick [1, 1, 1, 1, 1, 1]⟩⟩)
            exact find_none hk hx hf (by simpa using hno)
        · rintro _ w3 (⟨_, hf, hS⟩ | ⟨x, tb, hf, hS⟩)
          · exact ⟨_, _, by simp, hS.has, fun w4 hset => .inl ⟨rfl, by simpa using hf, _, hS.upd hset⟩⟩
          · exact ⟨_, _, by simp, hS.has, fun w4 hset => .inr ⟨rfl, x, tb, hf, _, hS.upd hset⟩⟩
      · intro l r w4 hJ
        rcases hJ with ⟨_, hf, lo, hS⟩ | ⟨h, _⟩
        · repeat (first | (refine C_id ?_; first | refine C_seq ?_) | (refine E_id ?_; first | refine E_code2 rfl ?_ | refine E_blk_n ?_))
          have hin2 : 0 ≤ no ∧ no < D.laid.length := by simpa [inDisk] using hin
          have hin0 := hin2.1
          have hin1 := hin2.2
          obtain ⟨lb, lo, rfl⟩ := hrl.base (by intro e; have h := laidCells_length hok.laid64; rw [e] at h; simp at h; omega)
          refine C_ord (.s 0 (.s 1 (.s 2 (.s 3 (.s 4 (.s 5 (.s 6 (.h 7 (.h 8 (.h 9 .nil .no) .no) .no)))))))) mixed (by kernel_rfl) rfl ?_
          have hS := hS.drew
          have hcd3 := hS.kept hcd
          repeat (first | (refine GO_id ?_; first | refine GO_pure rfl rfl (fun _ => Yl_move rfl rfl) rfl rfl ?_ | refine GO_pure rfl rfl (fun _ => Yl_nilCheck rfl rfl) rfl rfl ?_ | refine GO_pure rfl rfl (fun _ => Yl_fieldAddr0 rfl rfl rfl) rfl rfl ?_ | refine GO_pure rfl rfl (fun _ => Yl_slice_arr rfl rfl) rfl rfl ?_ | refine GO_pure rfl rfl (fun _ => Yl_indexAddr rfl rfl rfl (by omega) (by omega) (by first | assumption | exact ⟨_, _, rfl⟩)) rfl rfl ?_ | refine GO_read (fun w' => w'.cell? _ = some _) rfl rfl hS.cell (fun _ hc => Yl_load rfl rfl hc) rfl rfl ?_ | refine GO_read (fun w' => w'.cell? _ = some _) rfl rfl (cell_at (by assumption)) (fun _ hc => Yl_load rfl rfl hc) rfl rfl ?_ | refine GO_hard rfl rfl ?_))
          have hseg : ((laidCells D.laid).drop (no.toNat * 64)).take 64 = bv (D.laid.getD no.toNat []) := by
            obtain ⟨s, hs⟩ : ∃ s, D.laid[no.toNat]? = some s := ⟨_, List.getElem?_eq_getElem (by omega)⟩
            rw [List.getD_eq_getElem?_getD, hs]
            exact flatMap_seg (fun x hx => by simp [hok.laid64 x hx]) hs
          have hrs := (hrl.ro.rd hS).slide (no.toNat * 64) 64
          rw [hseg] at hrs
          have h64 : (D.laid.getD no.toNat []).length = 64 := by rw [← bv_length, ← hseg, List.length_take, List.length_drop, laidCells_length hok.laid64]; omega
          obtain ⟨_, hc, hr, hw, hbk⟩ := hS.call []
          refine X_callg _ rfl rfl rfl rfl rfl (clone_ _ 64 _ (D.laid.getD no.toNat []) _ hrs h64 (by omega)) ?_
          rintro _ w ⟨a', c', rfl, _, hcc, hS⟩
          replace hS := hbk hS.more
          clear hc hr hw hbk
          have hcd4 := hS.kept hcd
          refine And.intro (by repeat (first | exact trivial | refine And.intro (.inl (by decide +kernel)) ?_ | refine And.intro (.inr (by first | exact hS.cell | exact cell_at hcd4)) ?_)) ?_
          repeat (first | (refine X_id ?_; first | refine X_store rfl rfl rfl rfl hS (fun _ hS _ => ?_)) | (refine C_id ?_; first | refine C_ret ?_) | (refine E_id ?_; first | refine E_code ?_) | (refine GO_id ?_; first | refine GO_nil ?_ | refine GO_hard rfl rfl ?_) | (refine Keep_id ?_; first | refine And.intro (by repeat (first | exact trivial | refine And.intro (.inl (by decide +kernel)) ?_ | refine And.intro (.inr (by first | assumption | exact hS.cell | exact cell_at (by assumption) | exact hS.cellI (by omega) | exact hS.cellIP (by omega) | exact hS.cellsN | exact ((hr.rd hS).cellX (by omega) hx) | exact ((hr2.rd hS).cellX (by omega) hx2) | exact hS.cellB (by omega) | exact hS.cellBA (by omega) | exact (hb.rd hS).cellB' (by omega) | exact (hb2.rd hS).cellB' (by omega) | exact (hg.rd hS).cellI (by omega) | exact (hg2.rd hS).cellI (by omega) | exact ((hr.rd hS).cellF (by first | omega | (dsimp only; omega)) hx) | exact ((hr2.rd hS).cellF (by first | omega | (dsimp only; omega)) hx2))) ?_)) ?_))
          refine E_mark (.inl rfl) hS.has (fun w hset => ?_)
          replace hS := hS.upd hset
          repeat (first | (refine E_id ?_; first | refine E_ret2 rfl (by first | exact Rv_tmp rfl | exact Rv_cell rfl (run_load1 hS.cell) | exact Rv_cell rfl (run_loadN hS.cellsN)) (by first | exact Rv_tmp rfl | exact Rv_cell rfl (run_load1 hS.cell) | exact Rv_cell rfl (run_loadN hS.cellsN)) (Ret.mk ?_)))
          rw [show D.read no = (0, D.laid.getD no.toNat []) by simp only [DiskM.read, hoff, hin, DiskM.find, hf]; rfl]
          refine ⟨a', c', by rw [h64], by rw [h64]; exact hcc, (hS.pick [0]).head fun h hh => ?_⟩
          exact own_to_row h hh
        · cases h
      · intro l r c w4 hJ
        rcases hJ with ⟨h, _⟩ | ⟨h, x, tb, hf, lo, hS⟩
        · cases h
        · cases h
          repeat (first | (refine C_id ?_; first | refine C_ret ?_) | (refine E_id ?_; first | refine E_then_ret ?_ | refine E_blk_ret ?_))
          refine E_mark (.inl rfl) hS.has (fun w hset => ?_)
          replace hS := hS.upd hset
          repeat (first | (refine E_id ?_; first | refine E_ret2 rfl (by first | exact Rv_tmp rfl | exact Rv_cell rfl (run_load1 hS.cell) | exact Rv_cell rfl (run_loadN hS.cellsN)) (by first | exact Rv_tmp rfl | exact Rv_cell rfl (run_load1 hS.cell) | exact Rv_cell rfl (run_loadN hS.cellsN)) (Ret.mk ?_)))
          have hx64 : x.2.length = 64 := (hok.line64 x (by simpa using List.mem_of_find?_eq_some hf)).1
          rw [show D.read no = (0, x.2) by simp only [DiskM.read, hoff, hin, DiskM.find, hf]; rfl]
          refine ⟨some ⟨tb, 1, none⟩, 64, by rw [hx64], by rw [hx64]; exact Nat.le_refl _, (hS.pick [2]).head (row_pts_mid (n := 64) ?_)⟩
          simp [← hx64, ← bv_length]
  · refine calls_C Tryz.func38 rfl Tryz.ntmps38 rfl ?_
    repeat (first | (refine G_id ?_; first | refine G_nil ?_ | refine G_plain rfl rfl ?_) | (refine X_id ?_; first | (refine X_callg 16 rfl rfl rfl rfl rfl (on_b p D _ hoff _ (hdo.rd hS)) ?_; rintro _ _ ⟨rfl, rfl⟩) | refine X_yl (Yl_move rfl rfl) rfl rfl ?_ | refine X_yl (Yl_assign rfl rfl) rfl rfl ?_ | refine X_yl (Yl_not_f rfl rfl) rfl rfl ?_ | refine X_store rfl rfl rfl rfl hS (fun _ hS _ => ?_) | refine X_box rfl rfl rfl rfl hS (fun _ _ hS _ => ?_) | refine X_alloc rfl rfl rfl hS (fun _ _ hS _ => ?_)) | (refine C_id ?_; first | refine C_seq ?_ | refine C_region ?_ | refine C_block ?_ | refine C_ret ?_ | refine C_cond_t rfl ?_) | (refine E_id ?_; first | refine E_code ?_ | refine E_then_ret ?_ | refine E_blk_ret ?_ | refine E_ret2 rfl (by first | exact Rv_tmp rfl | exact Rv_cell rfl (run_load1 hS.cell) | exact Rv_cell rfl (run_loadN hS.cellsN)) (by first | exact Rv_tmp rfl | exact Rv_cell rfl (run_load1 hS.cell) | exact Rv_cell rfl (run_loadN hS.cellsN)) (Ret.mk ?_)))
    rw [show D.read no = (9, []) by simp [DiskM.read, hoff]]
    exact ⟨none, 0, rfl, Nat.le_refl _, hS.drops.row_none⟩
end Cr
namespace Cr
open Go Go.Proofs
set_option maxRecDepth 100000
set_option maxHeartbeats 4000000
attribute [local irreducible] Calls

def fullB (l : List UInt8) : List UInt8 := (l ++ List.replicate 64 0).take 64
theorem fullB_length (l : List UInt8) : (fullB l).length = 64 := by simp [fullB]
theorem own_part {T e c : Nat} {a : Option Addr} {cs cs' : List Value} (n : Nat) (h : cs.take n = cs') : ∀ g, own T e a c cs g → row a cs' g := fun g hg => by
  have := own_to_row g hg
  subst h
  rcases this with ⟨rfl, h0⟩ | ⟨b, off, cells, T', fz, hb, hp, hc⟩
  · exact .inl ⟨by simp, h0⟩
  · refine .inr ⟨b, off, cells, T', fz, hb, hp, fun i v hv => ?_⟩
    rw [List.getElem?_take] at hv
    split at hv
    · exact hc i v hv
    · cases hv
theorem full_ (ab ao c : Nat) (l : List Bs) (W : World) (hB : Bss W noF (some ⟨ab, ao, none⟩) l) (h2 : 2 ≤ l.length) (hc : l.length ≤ c) (hl : l.length ≤ 1099511627776) (hn : (joined l).length ≤ 1099511627776) :
    Calls Tryz.prog 73 #[.slice (some ⟨ab, ao, none⟩) l.length c] W (Ret fun v w => ∃ p k, v = .slice (some ⟨p, 0, none⟩) 64 k ∧ St W noF [bytes (some ⟨p, 0, none⟩) (fullB (joined l))] w) := by
  have hS := St.start W
  refine calls_C Tryz.func73 rfl Tryz.ntmps73 rfl ?_
  repeat (first | (refine G_id ?_; first | refine G_nil ?_ | refine G_plain rfl rfl ?_) | (refine X_id ?_; first | refine X_yl (Yl_move rfl rfl) rfl rfl ?_ | refine X_yl (Yl_assign rfl rfl) rfl rfl ?_) | (refine C_id ?_; first | refine C_seq ?_ | refine C_region ?_) | (refine E_id ?_; first | refine E_code ?_))
  refine X_callg _ rfl rfl rfl rfl rfl (join_ ab ao c l _ hB h2 hc hl hn) ?_
  rintro _ w ⟨p, rfl, hS'⟩
  replace hS := hS.plus hS'
  clear hS'
  repeat (first | (refine G_id ?_; first | refine G_plain rfl rfl ?_))
  refine X_appendZ_grow (m := 64) rfl rfl rfl rfl rfl rfl hS (hS.rd (List.mem_cons_self ..)) (by simp) (by omega) (by omega) (by omega) (by simp only [maxLen]; omega) (fun b k w hS hk => ?_)
  repeat (first | (refine G_id ?_; first | refine G_plain rfl rfl ?_))
  refine X_yl (Yl_slice (l := 0) (h := 64) rfl rfl rfl rfl (.inr ⟨_, _, rfl, by omega, by omega, by omega⟩) (.inl ⟨rfl, rfl⟩)) rfl rfl ?_
  rw [sub_zero]
  repeat (first | (refine G_id ?_; first | refine G_nil ?_ | refine G_plain rfl rfl ?_) | (refine X_id ?_; first | refine X_yl (Yl_assign rfl rfl) rfl rfl ?_) | (refine C_id ?_; first | refine C_ret ?_) | (refine E_id ?_; first | refine E_code ?_ | refine E_ret1 rfl (Rv_tmp rfl) (Ret.mk ?_)))
  refine ⟨b, k, rfl, (hS.pick [0]).head fun h hh => own_part 64 ?_ h hh⟩
  unfold fullB
  rw [bv_rep, ← bv_append, ← bv_take]
theorem Bss.ofRd {w : World} {a : Option Addr} {l : List Bs} (hr : Rd w (Cr.row a (l.map Bs.val))) (hall : ∀ x ∈ l, Rd w (bytes x.a x.s)) : Bss w noF a l := ⟨hr.ro, fun x hx => (hall x hx).ro⟩
theorem Rd.ptsB {w : World} {b : Nat} {s : List UInt8} {T : TypeId} (h : Rd w (Cr.pts b (.cells (bv s).toArray T))) : Rd w (bytes (some ⟨b, 0, none⟩) s) := h.mono fun g hg => ⟨g, row_pts g hg, fun _ _ e => e⟩

/-! ### front -/
def frontB (rd fs : List Int) (n : Int) : List UInt8 := fullB (bigB n 8 ++ digest rd fs [bigB n 8])
theorem frontB_length (rd fs : List Int) (n : Int) : (frontB rd fs n).length = 64 := fullB_length _
theorem front_ (n : Int) (rd fs : List Int) (W : World) (hG : Gl W noF rd fs) :
    Calls Tryz.prog 65 #[.int .i64 n] W (Ret fun v w => ∃ p k, v = .slice (some ⟨p, 0, none⟩) 64 k ∧ St W noF [bytes (some ⟨p, 0, none⟩) (frontB rd fs n)] w) := by
  have hS := St.start W
  refine calls_C Tryz.func65 rfl Tryz.ntmps65 rfl ?_
  repeat (first | (refine G_id ?_; first | refine G_nil ?_ | refine G_plain rfl rfl ?_) | (refine X_id ?_; first | refine X_yl (Yl_move rfl rfl) rfl rfl ?_ | refine X_yl (Yl_assign rfl rfl) rfl rfl ?_) | (refine C_id ?_; first | refine C_seq ?_ | refine C_region ?_) | (refine E_id ?_; first | refine E_code ?_))
  refine X_callg _ rfl rfl rfl rfl rfl (big_ n 8 _ (by omega)) ?_
  rintro _ w ⟨p, rfl, hS'⟩
  replace hS := hS.plus hS'
  clear hS'
  repeat (first | (refine G_id ?_; first | refine G_nil ?_ | refine G_plain rfl rfl ?_) | (refine X_id ?_; first | refine X_yl (Yl_move rfl rfl) rfl rfl ?_ | refine X_yl (Yl_assign rfl rfl) rfl rfl ?_ | refine X_buildSlice rfl rfl rfl rfl rfl rfl rfl rfl hS (fun _ _ hS _ => ?_)) | (refine C_id ?_; first | refine C_seq ?_ | refine C_region ?_) | (refine E_id ?_; first | refine E_code ?_))
  rename_i q wq _
  have hB := Bss.ofRd (w := wq) (a := some ⟨q, 0, none⟩) (l := [⟨some ⟨p, 0, none⟩, 8, bigB n 8⟩]) (by simpa [Bs.val, bigB_length] using (hS.rd (List.mem_cons_self ..)).own_row) (fun x hx => by
    simp only [List.mem_singleton] at hx
    subst hx
    exact (hS.rd (List.mem_cons_of_mem _ (List.mem_cons_self ..))).ptsB)
  have hfl : (framed (texts [⟨some ⟨p, 0, none⟩, 8, bigB n 8⟩])).length < 1152921504606846976 := by simp [framed, texts, frameB_length, bigB_length]
  have hl32 : LenO (bv (digest rd fs (texts [⟨some ⟨p, 0, none⟩, 8, bigB n 8⟩]))) 32 := ⟨by rw [bv_length]; exact digest_length _ _ _⟩
  refine X_callq _ rfl rfl rfl rfl rfl hS (framed_ _ 1 _ rd fs _ hfl (by simp) (hG.mono fun r hr => (hr.rd hS).ro) hB) ?_
  rintro _ w rfl hS
  clear hB hfl
  repeat (first | (refine G_id ?_; first | refine G_nil ?_ | refine G_plain rfl rfl ?_) | (refine X_id ?_; first | refine X_yl (Yl_move rfl rfl) rfl rfl ?_ | refine X_yl (Yl_slice_arr rfl rfl) rfl rfl ?_ | refine X_store rfl rfl rfl rfl hS (fun _ hS _ => ?_) | refine X_alloc rfl rfl rfl hS (fun _ _ hS _ => ?_) | refine X_buildSlice rfl rfl rfl rfl rfl rfl rfl rfl hS (fun _ _ hS _ => ?_)) | (refine C_id ?_; first | refine C_seq ?_ | refine C_region ?_) | (refine E_id ?_; first | refine E_code ?_))
  rename_i b4 _ _ _ _ _ _ b6 w6 _
  have hB := Bss.ofRd (w := w6) (a := some ⟨b6, 0, none⟩) (l := [⟨some ⟨p, 0, none⟩, 8, bigB n 8⟩, ⟨some ⟨b4, 0, none⟩, 32, digest rd fs [bigB n 8]⟩]) (by simpa [Bs.val, bigB_length, digest_length] using (hS.rd (List.mem_cons_self ..)).own_row) (fun x hx => by
    simp only [List.mem_cons, List.not_mem_nil, or_false] at hx
    rcases hx with rfl | rfl
    · exact (hS.rd (by simp)).ptsB (T := 5)
    · exact (hS.rd (List.mem_cons_of_mem _ (List.mem_cons_self ..))).ptsB)
  refine X_callg _ rfl rfl rfl rfl rfl (full_ b6 0 2 _ _ hB (by simp) (by simp) (by simp) (by simp [joined, bigB_length, digest_length])) ?_
  rintro _ w ⟨r, k, rfl, hS'⟩
  replace hS := hS.plus hS'
  clear hS' hB
  repeat (first | (refine G_id ?_; first | refine G_nil ?_ | refine G_plain rfl rfl ?_) | (refine X_id ?_; first | refine X_yl (Yl_assign rfl rfl) rfl rfl ?_) | (refine C_id ?_; first | refine C_ret ?_) | (refine E_id ?_; first | refine E_code ?_ | refine E_ret1 rfl (Rv_tmp rfl) (Ret.mk ?_)))
  refine ⟨r, k, rfl, ?_⟩
  have := hS.pick [0]
  unfold frontB
  simpa [joined] using this

/-! ### note -/
def noteB (number at_ count no : Int) (d : List UInt8) : List UInt8 := fullB (bigB number 8 ++ (bigB at_ 4 ++ (bigB count 4 ++ (bigB no 4 ++ d))))
theorem noteB_length (number at_ count no : Int) (d : List UInt8) : (noteB number at_ count no d).length = 64 := fullB_length _
theorem note_ (number at_ count no : Int) (d : List UInt8) (hd : d.length = 32) (W : World) :
    Calls Tryz.prog 54 #[.int .i64 number, .int .i64 at_, .int .i64 count, .int .i64 no, .agg (bv d).toArray] W (Ret fun v w => ∃ p k, v = .slice (some ⟨p, 0, none⟩) 64 k ∧ St W noF [bytes (some ⟨p, 0, none⟩) (noteB number at_ count no d)] w) := by
  have hS := St.start W
  have hl32 : LenO (bv d) 32 := ⟨by rw [bv_length]; exact hd⟩
  refine calls_C Tryz.func54 rfl Tryz.ntmps54 rfl ?_
  repeat (first | (refine G_id ?_; first | refine G_nil ?_ | refine G_plain rfl rfl ?_) | (refine X_id ?_; first | refine X_yl (Yl_assign rfl rfl) rfl rfl ?_ | refine X_box rfl rfl rfl rfl hS (fun _ _ hS _ => ?_)) | (refine C_id ?_; first | refine C_seq ?_ | refine C_region ?_) | (refine E_id ?_; first | refine E_code ?_))
  rename_i bd _ _
  refine C_ord (.s 0 (.s 2 (.s 4 (.s 6 (.s 8 (.h 1 (.h 3 (.h 5 (.h 7 (.h 9 (.h 10 (.s 11 .nil) .no) .no) .no) .no) .no) .no)))))) mixed (by kernel_rfl) rfl ?_
  have hS := hS.drew
  repeat (first | (refine GO_id ?_; first | refine GO_pure rfl rfl (fun _ => Yl_move rfl rfl) rfl rfl ?_ | refine GO_pure rfl rfl (fun _ => Yl_slice_arr rfl rfl) rfl rfl ?_ | refine GO_hard rfl rfl ?_))
  refine X_callg _ rfl rfl rfl rfl rfl (big_ number 8 _ (by omega)) ?_
  rintro _ w ⟨p1, rfl, hS'⟩
  replace hS := hS.plus hS'
  clear hS'
  repeat (first | (refine GO_id ?_; first | refine GO_hard rfl rfl ?_) | (refine Keep_id ?_; first | refine And.intro (by repeat (first | exact trivial | refine And.intro (.inl (by decide +kernel)) ?_ | refine And.intro (.inr (by first | assumption | exact hS.cell | exact cell_at (by assumption) | exact hS.cellI (by omega) | exact hS.cellIP (by omega) | exact hS.cellsN | exact ((hr.rd hS).cellX (by omega) hx) | exact ((hr2.rd hS).cellX (by omega) hx2) | exact hS.cellB (by omega) | exact hS.cellBA (by omega) | exact (hb.rd hS).cellB' (by omega) | exact (hb2.rd hS).cellB' (by omega) | exact (hg.rd hS).cellI (by omega) | exact (hg2.rd hS).cellI (by omega) | exact ((hr.rd hS).cellF (by first | omega | (dsimp only; omega)) hx) | exact ((hr2.rd hS).cellF (by first | omega | (dsimp only; omega)) hx2))) ?_)) ?_))
  refine X_callg _ rfl rfl rfl rfl rfl (big_ at_ 4 _ (by omega)) ?_
  rintro _ w ⟨p2, rfl, hS'⟩
  replace hS := hS.plus hS'
  clear hS'
  repeat (first | (refine GO_id ?_; first | refine GO_hard rfl rfl ?_) | (refine Keep_id ?_; first | refine And.intro (by repeat (first | exact trivial | refine And.intro (.inl (by decide +kernel)) ?_ | refine And.intro (.inr (by first | assumption | exact hS.cell | exact cell_at (by assumption) | exact hS.cellI (by omega) | exact hS.cellIP (by omega) | exact hS.cellsN | exact ((hr.rd hS).cellX (by omega) hx) | exact ((hr2.rd hS).cellX (by omega) hx2) | exact hS.cellB (by omega) | exact hS.cellBA (by omega) | exact (hb.rd hS).cellB' (by omega) | exact (hb2.rd hS).cellB' (by omega) | exact (hg.rd hS).cellI (by omega) | exact (hg2.rd hS).cellI (by omega) | exact ((hr.rd hS).cellF (by first | omega | (dsimp only; omega)) hx) | exact ((hr2.rd hS).cellF (by first | omega | (dsimp only; omega)) hx2))) ?_)) ?_))
  refine X_callg _ rfl rfl rfl rfl rfl (big_ count 4 _ (by omega)) ?_
  rintro _ w ⟨p3, rfl, hS'⟩
  replace hS := hS.plus hS'
  clear hS'
  repeat (first | (refine GO_id ?_; first | refine GO_hard rfl rfl ?_) | (refine Keep_id ?_; first | refine And.intro (by repeat (first | exact trivial | refine And.intro (.inl (by decide +kernel)) ?_ | refine And.intro (.inr (by first | assumption | exact hS.cell | exact cell_at (by assumption) | exact hS.cellI (by omega) | exact hS.cellIP (by omega) | exact hS.cellsN | exact ((hr.rd hS).cellX (by omega) hx) | exact ((hr2.rd hS).cellX (by omega) hx2) | exact hS.cellB (by omega) | exact hS.cellBA (by omega) | exact (hb.rd hS).cellB' (by omega) | exact (hb2.rd hS).cellB' (by omega) | exact (hg.rd hS).cellI (by omega) | exact (hg2.rd hS).cellI (by omega) | exact ((hr.rd hS).cellF (by first | omega | (dsimp only; omega)) hx) | exact ((hr2.rd hS).cellF (by first | omega | (dsimp only; omega)) hx2))) ?_)) ?_))
  refine X_callg _ rfl rfl rfl rfl rfl (big_ no 4 _ (by omega)) ?_
  rintro _ w ⟨p4, rfl, hS'⟩
  replace hS := hS.plus hS'
  clear hS'
  repeat (first | (refine X_id ?_; first | refine X_buildSlice rfl rfl rfl rfl rfl rfl rfl rfl hS (fun _ _ hS _ => ?_)) | (refine GO_id ?_; first | refine GO_hard rfl rfl ?_) | (refine Keep_id ?_; first | refine And.intro (by repeat (first | exact trivial | refine And.intro (.inl (by decide +kernel)) ?_ | refine And.intro (.inr (by first | assumption | exact hS.cell | exact cell_at (by assumption) | exact hS.cellI (by omega) | exact hS.cellIP (by omega) | exact hS.cellsN | exact ((hr.rd hS).cellX (by omega) hx) | exact ((hr2.rd hS).cellX (by omega) hx2) | exact hS.cellB (by omega) | exact hS.cellBA (by omega) | exact (hb.rd hS).cellB' (by omega) | exact (hb2.rd hS).cellB' (by omega) | exact (hg.rd hS).cellI (by omega) | exact (hg2.rd hS).cellI (by omega) | exact ((hr.rd hS).cellF (by first | omega | (dsimp only; omega)) hx) | exact ((hr2.rd hS).cellF (by first | omega | (dsimp only; omega)) hx2))) ?_)) ?_))
  rename_i b6 w6 _
  have hB := Bss.ofRd (w := w6) (a := some ⟨b6, 0, none⟩) (l := [⟨some ⟨p1, 0, none⟩, 8, bigB number 8⟩, ⟨some ⟨p2, 0, none⟩, 4, bigB at_ 4⟩, ⟨some ⟨p3, 0, none⟩, 4, bigB count 4⟩, ⟨some ⟨p4, 0, none⟩, 4, bigB no 4⟩, ⟨some ⟨bd, 0, none⟩, 32, d⟩])
    (by simpa [Bs.val, bigB_length, hd] using (hS.rd (List.mem_cons_self ..)).own_row) (fun x hx => by
      simp only [List.mem_cons, List.not_mem_nil, or_false] at hx
      rcases hx with rfl | rfl | rfl | rfl | rfl
      · exact (hS.rd (by simp)).ptsB (T := 5)
      · exact (hS.rd (by simp)).ptsB (T := 5)
      · exact (hS.rd (by simp)).ptsB (T := 5)
      · exact (hS.rd (by simp)).ptsB (T := 5)
      · exact (hS.rd (by simp)).ptsB (T := 105))
  refine X_callg _ rfl rfl rfl rfl rfl (full_ b6 0 5 _ _ hB (by simp) (by simp) (by simp) (by simp [joined, bigB_length, hd])) ?_
  rintro _ w ⟨r, k, rfl, hS'⟩
  replace hS := hS.plus hS'
  clear hS' hB
  repeat (first | (refine C_id ?_; first | refine C_ret ?_) | (refine E_id ?_; first | refine E_code ?_ | refine E_ret1 rfl (Rv_tmp rfl) (Ret.mk ?_)) | (refine GO_id ?_; first | refine GO_nil ?_ | refine GO_pure rfl rfl (fun _ => Yl_assign rfl rfl) rfl rfl ?_) | (refine Keep_id ?_; first | refine And.intro (by repeat (first | exact trivial | refine And.intro (.inl (by decide +kernel)) ?_ | refine And.intro (.inr (by first | assumption | exact hS.cell | exact cell_at (by assumption) | exact hS.cellI (by omega) | exact hS.cellIP (by omega) | exact hS.cellsN | exact ((hr.rd hS).cellX (by omega) hx) | exact ((hr2.rd hS).cellX (by omega) hx2) | exact hS.cellB (by omega) | exact hS.cellBA (by omega) | exact (hb.rd hS).cellB' (by omega) | exact (hb2.rd hS).cellB' (by omega) | exact (hg.rd hS).cellI (by omega) | exact (hg2.rd hS).cellI (by omega) | exact ((hr.rd hS).cellF (by first | omega | (dsimp only; omega)) hx) | exact ((hr2.rd hS).cellF (by first | omega | (dsimp only; omega)) hx2))) ?_)) ?_))
  refine ⟨r, k, rfl, ?_⟩
  have := hS.pick [0]
  unfold noteB
  simpa [joined] using this
end Cr
namespace Cr
open Go
theorem wrap32 {n : Nat} (h : n < 4294967296) : IntKind.u32.wrap (n : Int) = n := by rw [IntKind.wrap_u32]; omega
theorem wrap32_mod (n : Nat) : IntKind.u32.wrap (n : Int) = ((n % 4294967296 : Nat) : Int) := by rw [IntKind.wrap_u32]; omega
theorem wrap64 {n : Nat} (h : n < 9223372036854775808) : IntKind.i64.wrap (n : Int) = n := by rw [IntKind.wrap_i64]; omega
theorem iand_u {x y : Nat} (hx : x < 4294967296) (hy : y < 4294967296) : iand .u32 (x : Int) (y : Int) = ((x &&& y : Nat) : Int) := by
  unfold iand
  rw [BitVec.ofInt_natCast, BitVec.ofInt_natCast, BitVec.toNat_and, BitVec.toNat_ofNat, BitVec.toNat_ofNat, show IntKind.u32.bits = 32 from rfl, Nat.mod_eq_of_lt hx, Nat.mod_eq_of_lt hy]
  exact wrap32 (Nat.lt_of_le_of_lt Nat.and_le_left hx)
theorem ior_u {x y : Nat} (hx : x < 4294967296) (hy : y < 4294967296) : ior .u32 (x : Int) (y : Int) = ((x ||| y : Nat) : Int) := by
  unfold ior
  rw [BitVec.ofInt_natCast, BitVec.ofInt_natCast, BitVec.toNat_or, BitVec.toNat_ofNat, BitVec.toNat_ofNat, show IntKind.u32.bits = 32 from rfl, Nat.mod_eq_of_lt hx, Nat.mod_eq_of_lt hy]
  exact wrap32 (Nat.or_lt_two_pow (n := 32) hx hy)
theorem ixor_u {x y : Nat} (hx : x < 4294967296) (hy : y < 4294967296) : ixor .u32 (x : Int) (y : Int) = ((x ^^^ y : Nat) : Int) := by
  unfold ixor
  rw [BitVec.ofInt_natCast, BitVec.ofInt_natCast, BitVec.toNat_xor, BitVec.toNat_ofNat, BitVec.toNat_ofNat, show IntKind.u32.bits = 32 from rfl, Nat.mod_eq_of_lt hx, Nat.mod_eq_of_lt hy]
  exact wrap32 (Nat.xor_lt_two_pow (n := 32) hx hy)
theorem iand_i {x y : Nat} (hx : x < 9223372036854775808) (hy : y < 9223372036854775808) : iand .i64 (x : Int) (y : Int) = ((x &&& y : Nat) : Int) := by
  unfold iand
  rw [BitVec.ofInt_natCast, BitVec.ofInt_natCast, BitVec.toNat_and, BitVec.toNat_ofNat, BitVec.toNat_ofNat, show IntKind.i64.bits = 64 from rfl, Nat.mod_eq_of_lt (by omega), Nat.mod_eq_of_lt (by omega)]
  exact wrap64 (by have := Nat.and_le_left (n := x) (m := y); omega)
theorem ior_i {x y : Nat} (hx : x < 4294967296) (hy : y < 4294967296) : ior .i64 (x : Int) (y : Int) = ((x ||| y : Nat) : Int) := by
  unfold ior
  rw [BitVec.ofInt_natCast, BitVec.ofInt_natCast, BitVec.toNat_or, BitVec.toNat_ofNat, BitVec.toNat_ofNat, show IntKind.i64.bits = 64 from rfl, Nat.mod_eq_of_lt (by omega), Nat.mod_eq_of_lt (by omega)]
  exact wrap64 (by have := Nat.or_lt_two_pow (n := 32) hx hy; omega)
theorem ixor_i {x y : Nat} (hx : x < 4294967296) (hy : y < 4294967296) : ixor .i64 (x : Int) (y : Int) = ((x ^^^ y : Nat) : Int) := by
  unfold ixor
  rw [BitVec.ofInt_natCast, BitVec.ofInt_natCast, BitVec.toNat_xor, BitVec.toNat_ofNat, BitVec.toNat_ofNat, show IntKind.i64.bits = 64 from rfl, Nat.mod_eq_of_lt (by omega), Nat.mod_eq_of_lt (by omega)]
  exact wrap64 (by have := Nat.xor_lt_two_pow (n := 32) hx hy; omega)
theorem ishr_n {k : IntKind} (x n : Nat) (hn : n ≤ k.bits) : ishr k (x : Int) n = ((x / 2 ^ n : Nat) : Int) := by
  unfold ishr
  rw [Nat.min_eq_left hn, Int.fdiv_eq_ediv_of_nonneg _ (by exact_mod_cast Nat.zero_le _)]
  exact_mod_cast rfl
theorem ishl_i {x n : Nat} (hn : n ≤ 64) (h : x * 2 ^ n < 9223372036854775808) : ishl .i64 (x : Int) n = ((x * 2 ^ n : Nat) : Int) := by
  unfold ishl
  rw [show min n IntKind.i64.bits = n from Nat.min_eq_left hn]
  have e : (x : Int) * 2 ^ n = ((x * 2 ^ n : Nat) : Int) := by push_cast; rfl
  rw [e]; exact wrap64 h
theorem ishl_u {x n : Nat} (hn : n ≤ 32) : ishl .u32 (x : Int) n = ((x * 2 ^ n % 4294967296 : Nat) : Int) := by
  unfold ishl
  rw [show min n IntKind.u32.bits = n from Nat.min_eq_left hn]
  have e : (x : Int) * 2 ^ n = ((x * 2 ^ n : Nat) : Int) := by push_cast; rfl
  rw [e]; exact wrap32_mod _
/-- A word turned to the right. -/
def rotr (x n : Nat) : Nat := x / 2 ^ n + x % 2 ^ n * 2 ^ (32 - n)
theorem two32 {n : Nat} (hn : n ≤ 32) : 2 ^ n * 2 ^ (32 - n) = 4294967296 := by rw [← Nat.pow_add, show n + (32 - n) = 32 by omega]
theorem rotr_lt {x n : Nat} (hx : x < 4294967296) (hn : n ≤ 32) : rotr x n < 4294967296 := by
  unfold rotr
  have h1 : x % 2 ^ n + 1 ≤ 2 ^ n := Nat.mod_lt _ (Nat.two_pow_pos n)
  have h2 := Nat.mul_le_mul_right (2 ^ (32 - n)) h1
  rw [two32 hn, Nat.add_mul, Nat.one_mul] at h2
  have h3 : x / 2 ^ n < 2 ^ (32 - n) := by
    rw [Nat.div_lt_iff_lt_mul (Nat.two_pow_pos n), Nat.mul_comm, two32 hn]; exact hx
  omega
theorem shl_mod {x n : Nat} (hn : n ≤ 32) : x * 2 ^ (32 - n) % 4294967296 = x % 2 ^ n * 2 ^ (32 - n) := by
  conv => lhs; rw [← two32 hn]
  exact Nat.mul_mod_mul_right _ _ _
theorem spin_n {x n : Nat} (hx : x < 4294967296) (hn : n ≤ 32) : spin (x : Int) n = ((rotr x n : Nat) : Int) := by
  unfold spin
  rw [ishr_n (k := .u32) x n hn, ishl_u (show 32 - n ≤ 32 by omega), shl_mod hn]
  have h3 : x / 2 ^ n < 2 ^ (32 - n) := by
    rw [Nat.div_lt_iff_lt_mul (Nat.two_pow_pos n), Nat.mul_comm, two32 hn]; exact hx
  have h4 : x % 2 ^ n * 2 ^ (32 - n) < 4294967296 := Nat.lt_of_le_of_lt (Nat.le_add_left _ _) (rotr_lt hx hn)
  rw [ior_u (Nat.lt_of_le_of_lt (Nat.div_le_self _ _) hx) h4]
  congr 1
  unfold rotr
  rw [Nat.or_comm, Nat.mul_comm, ← Nat.two_pow_add_eq_or_of_lt h3, Nat.add_comm]
theorem not_bit {e : Nat} (he : e < 4294967296) (i : Nat) : (4294967295 - e).testBit i = (decide (i < 32) && !e.testBit i) := by
  have := Nat.testBit_two_pow_sub_succ (n := 32) (x := e) (by simpa using he) i
  rw [← this]
  congr 1
  omega
/-- The two sides' choices. -/
theorem choice_is {e f g : Nat} (he : e < 4294967296) (hf : f < 4294967296) (hg : g < 4294967296) : (e &&& f) + ((4294967295 - e) &&& g) = g ^^^ (e &&& (f ^^^ g)) := by
  have hd : (e &&& f) &&& ((4294967295 - e) &&& g) = 0 := by
    apply Nat.eq_of_testBit_eq
    intro i
    simp only [Nat.testBit_and, not_bit he, Nat.zero_testBit]
    cases e.testBit i <;> simp
  have h1 := Nat.and_le_left (n := e) (m := f)
  have h2 := Nat.and_le_right (n := 4294967295 - e) (m := g)
  have key := BitVec.add_eq_or_of_and_eq_zero (BitVec.ofNat 33 (e &&& f)) (BitVec.ofNat 33 ((4294967295 - e) &&& g)) (by
    apply BitVec.eq_of_toNat_eq
    rw [BitVec.toNat_and, BitVec.toNat_ofNat, BitVec.toNat_ofNat, Nat.mod_eq_of_lt (by omega), Nat.mod_eq_of_lt (by omega), hd]; rfl)
  have key2 := congrArg BitVec.toNat key
  rw [BitVec.toNat_add, BitVec.toNat_or, BitVec.toNat_ofNat, BitVec.toNat_ofNat, Nat.mod_eq_of_lt (a := e &&& f) (by omega), Nat.mod_eq_of_lt (a := (4294967295 - e) &&& g) (by omega), Nat.mod_eq_of_lt (by omega)] at key2
  rw [key2]
  apply Nat.eq_of_testBit_eq
  intro i
  simp only [Nat.testBit_or, Nat.testBit_and, Nat.testBit_xor, not_bit he]
  rcases Nat.lt_or_ge i 32 with hi | hi
  · cases e.testBit i <;> cases f.testBit i <;> cases g.testBit i <;> simp [hi]
  · have hb : ∀ {x : Nat}, x < 4294967296 → x.testBit i = false := fun {x} hx => Nat.testBit_lt_two_pow (Nat.lt_of_lt_of_le hx (Nat.pow_le_pow_right (n := 2) (by omega) hi))
    simp [hb he, hb hf, hb hg]
theorem most_is (a b c : Nat) : (a &&& b) ||| (a &&& c) ||| (b &&& c) = (a &&& b) ||| (c &&& (a ||| b)) := by
  apply Nat.eq_of_testBit_eq
  intro i
  simp only [Nat.testBit_or, Nat.testBit_and]
  cases a.testBit i <;> cases b.testBit i <;> cases c.testBit i <;> rfl
end Cr
namespace Cr
open Go
section
variable {P : Program} {Q : Exit → Act → World → Prop} {N : Nat} {ds : Md} {σ : Env} {w : World} {x y : Code}
theorem wpIn_weaken {F : Fence} {n : Nat} {c : Code} {Q Q' : Exit → Act → World → Prop} {a : Act} (hq : ∀ e a w, Q e a w → Q' e a w) (h : c.wpIn F n P Q a w) : c.wpIn F n P Q' a w := by
  intro b k cs hro hb hr
  obtain ⟨e, a', w', hQ, harr⟩ := h b k cs hro hb hr
  exact ⟨e, a', w', hq _ _ _ hQ, harr⟩
/-- What holds between two parts of a sequence. -/
def Mid {α : Type} (S : α → Env) (R : α → World → Prop) (N : Nat) (ds : Md) : Act → World → Prop := fun a w => ∃ z, Fr (S z) N ds a ∧ R z w
theorem C_mid {α : Type} (S : α → Env) (R : α → World → Prop) (h1 : C P x (Exit.then (Mid S R N ds) Q) N ds σ w) (h2 : ∀ z w, R z w → C P y Q N ds (S z) w) : C P (.seq x y) Q N ds σ w := ⟨fun a ha =>
  wpIn_seq (wpIn_weaken (fun e a w hh => by
    cases e with
    | normal => obtain ⟨z, hF, hR⟩ := hh; exact (h2 z w hR).run a hF
    | exit id => exact hh
    | goto l => exact hh
    | ret => exact hh
    | panic ch => exact hh
    | outgrown => exact hh) (h1.run a ha))⟩
/-- The same behind the walk's own step into a sequence. -/
theorem C_join {α : Type} (S : α → Env) (R : α → World → Prop) (h1 : C P x (Exit.then (Mid S R N ds) Q) N ds σ w) (h2 : ∀ z w, R z w → C P y Q N ds (S z) w) : C P x (Exit.then (y.wpIn (Fc ds) 0 P Q) Q) N ds σ w := ⟨fun a ha =>
  wpIn_weaken (fun e a w hh => by
    cases e with
    | normal => obtain ⟨z, hF, hR⟩ := hh; exact (h2 z w hR).run a hF
    | exit id => exact hh
    | goto l => exact hh
    | ret => exact hh
    | panic ch => exact hh
    | outgrown => exact hh) (h1.run a ha)⟩
theorem inBlock_mono {Q1 Q2 : Exit → Act → World → Prop} {id : Nat} (hq : ∀ e a w, Q1 e a w → Q2 e a w) : ∀ e a w, Exit.inBlock id Q1 e a w → Exit.inBlock id Q2 e a w := fun e a w h => by
  cases e with
  | exit id' =>
    by_cases he : id' = id
    · simp only [Exit.inBlock, if_pos he] at h ⊢; exact hq _ _ _ h
    · simp only [Exit.inBlock, if_neg he] at h ⊢; exact hq _ _ _ h
  | _ => exact hq _ _ _ h
/-- The same where the walk stands inside a block. -/
theorem C_joinB {α : Type} {id : Nat} (S : α → Env) (R : α → World → Prop) (h1 : C P x (Exit.inBlock id (Exit.then (Mid S R N ds) Q)) N ds σ w) (h2 : ∀ z w, R z w → C P y Q N ds (S z) w) : C P x (Exit.inBlock id (Exit.then (y.wpIn (Fc ds) 0 P Q) Q)) N ds σ w := ⟨fun a ha =>
  wpIn_weaken (inBlock_mono fun e a w hh => by
    cases e with
    | normal => obtain ⟨z, hF, hR⟩ := hh; exact (h2 z w hR).run a hF
    | exit id => exact hh
    | goto l => exact hh
    | ret => exact hh
    | panic ch => exact hh
    | outgrown => exact hh) (h1.run a ha)⟩
theorem E_mid {α : Type} {S : α → Env} {R : α → World → Prop} (z : α) (hσ : subs σ (S z)) (hR : R z w) : E (Exit.then (Mid S R N ds) Q) .normal N ds σ w := ⟨fun _ ha => ⟨z, ha.sub hσ, hR⟩⟩
theorem Rd.cellF {b off o' i : Nat} {cs : List Value} {v : Value} (H : Rd w (row (some ⟨b, off, none⟩) cs)) (hi : o' = off + i) (h : cs[i]? = some v) : w.cell? ⟨b, o', none⟩ = some v := by
  subst hi; exact H.cells i v h
end
section
variable {P : Program} {o : Oper} {σ : Env} {w : World} {t e : TypeId}
/-- An array literal, all of its elements given. -/
theorem Yl_buildArr {z : Value} {n size N m : Nat} {xs : List (Nat × Operand)} {parts : List (Nat × Value)} {l : List Value} (ho : o.op = .build t xs.toArray) (hx : evps σ xs = some parts) [h : Und P t (.array n e)] [hs : Siz P e size] [hi : Inf P t z N m] (hn : parts.length = n) (hN : N = n * size)
    (hidx : parts.map (·.1) = List.range' 0 parts.length) [hl : CellsAll parts size l] : Yl P o σ w (.agg l.toArray) := ⟨fun N' ds a ha => by
  obtain ⟨i, hi', hz', hsz, _⟩ := info_parts hi.inf
  obtain ⟨ls, h1, h2, h3⟩ := hl.all
  have hzl : z.cells.size = parts.length * size := by rw [hn, ← hN]; exact hi.zs
  have hq := fill_row (size := size) parts ls 0 [] z.cells.toList h1 h2 hidx (by simp) (by simpa using hzl)
  simp only [List.nil_append, Array.toArray_toList, h3] at hq
  have hze : (zeroValue t).run P w = .ok z w := by simp [zeroValue, typeInfo, hi', hz']
  have e := ha.evalps hx
  have hb : (Instr.build t parts.toArray).run P w = .ok (.agg l.toArray) w := by
    unfold Instr.build
    rw [Sem.run_bind, hze]
    show (underlying t >>= _ : Sem _).run P w = _
    rw [Sem.run_bind, run_underlying h.und]
    show (Go.sizeOf _ >>= _ : Sem _).run P w = _
    rw [Sem.run_bind, run_sizeOf]
    simp [Result.andThen, hq]
  simp [execOp, ho, e, hb]⟩
end
/-- A cell at a place that is told by a sum. -/
theorem St.cellO (k : Nat) {W : World} {F : Nat → Prop} {rs : List Res} {w : World} {b off : Nat} {l : List Value} {T : TypeId} {v : Value} (hS : St W F rs w) (hk : off = k) [hh : Has rs b (.cells l.toArray T (0, 0))] [hn : Nth l k v] : w.cell? ⟨b, off, none⟩ = some v := by
  subst hk
  rw [cell_of_row w b off _ T (0, 0) hS.has]
  simpa using hn.nth
/-- A row of the run's own, by its base. -/
theorem St.ownRd {W : World} {F : Nat → Prop} {rs rest : List Res} {w : World} {a : Option Addr} {T e c : Nat} {cs : List Value} (hS : St W F rs w) [hh : HasOwn rs a T e c cs rest] : Rd w (row a cs) := ((hS.perm hh.has).rd (List.mem_cons_self ..)).own_row
/-! ### resources in another order -/
class Take1 (rs : List Res) (r : Res) (rest : outParam (List Res)) : Prop where
  perm : rs.Perm (r :: rest)
instance Take1.there (q r : Res) (rs rest : List Res) [h : Take1 rs r rest] : Take1 (q :: rs) r (q :: rest) := ⟨(List.Perm.cons q h.perm).trans (.swap ..)⟩
instance Take1.here (r : Res) (rs : List Res) : Take1 (r :: rs) r rs := ⟨.refl _⟩
class Takes (rs out : List Res) : Prop where
  took : ∀ {W F w}, St W F rs w → St W F out w
instance Takes.nil (rs : List Res) : Takes rs [] := ⟨fun h => h.drops⟩
instance Takes.cons (rs rest out : List Res) (r : Res) [h : Take1 rs r rest] [h2 : Takes rest out] : Takes rs (r :: out) := ⟨fun hS => (hS.perm h.perm).under h2.took⟩
theorem St.took {W : World} {F : Nat → Prop} {rs out : List Res} {w : World} (hS : St W F rs w) [h : Takes rs out] : St W F out w := h.took hS
end Cr
namespace Cr
open Go Go.Proofs
set_option maxRecDepth 100000
set_option maxHeartbeats 8000000
attribute [local irreducible] Calls

def rbigTo (n c : Nat) : Nat → List UInt8
  | 0 => List.replicate c 0
  | j + 1 => (rbigTo n c j).set (c - 1 - j) (UInt8.ofNat (n / 2 ^ (8 * j)))
theorem rbigTo_length (n c : Nat) : ∀ j, (rbigTo n c j).length = c
  | 0 => by simp [rbigTo]
  | j + 1 => by simp [rbigTo, rbigTo_length n c j]
theorem b8_ofNat (n : Nat) : b8 (n : Int) = UInt8.ofNat n := by
  apply UInt8.toNat_inj.1
  have := b8_nat (n : Int)
  rw [UInt8.toNat_ofNat']
  omega
theorem rbigTo_get (n c i : Nat) (hi : i < c) : ∀ j, j ≤ c → (rbigTo n c j).getD i 0 = if c - 1 - i < j then UInt8.ofNat (n / 2 ^ (8 * (c - 1 - i))) else 0
  | 0, _ => by simp [rbigTo, List.getD_eq_getElem?_getD, hi]
  | j + 1, hj => by
    have ih := rbigTo_get n c i hi j (by omega)
    rw [rbigTo, List.getD_eq_getElem?_getD, List.getElem?_set]
    by_cases h : c - 1 - j = i
    · have e : c - 1 - i = j := by omega
      rw [if_pos h, if_pos (by rw [rbigTo_length]; omega), e, if_pos (by omega)]; rfl
    · rw [if_neg h, ← List.getD_eq_getElem?_getD, ih]
      by_cases h2 : c - 1 - i < j
      · rw [if_pos h2, if_pos (by omega)]
      · rw [if_neg h2, if_neg (by omega)]
theorem bigAt_nat {n : Nat} (hn : n < 9223372036854775808) (c i : Nat) (hc : c ≤ 8) : bigAt (n : Int) c i = UInt8.ofNat (n / 2 ^ (8 * (c - 1 - i))) := by
  unfold bigAt
  have e : IntKind.u64.wrap (n : Int) = (n : Int) := by simp only [IntKind.wrap, IntKind.bits, IntKind.signed]; simp; omega
  rw [e, ishr_n (k := .u64) n _ (by show _ ≤ 64; omega), b8_ofNat]
theorem bigTo_get (n : Int) (c i : Nat) (hi : i < c) : ∀ j, j ≤ c → (bigTo n c j).getD i 0 = if i < j then bigAt n c i else 0
  | 0, _ => by simp [bigTo, List.getD_eq_getElem?_getD, hi]
  | j + 1, hj => by
    have ih := bigTo_get n c i hi j (by omega)
    rw [bigTo, List.getD_eq_getElem?_getD, List.getElem?_set]
    by_cases h : j = i
    · rw [if_pos h, if_pos (by rw [bigTo_length]; omega), if_pos (by omega), h]; rfl
    · rw [if_neg h, ← List.getD_eq_getElem?_getD, ih]
      by_cases h2 : i < j
      · rw [if_pos h2, if_pos (by omega)]
      · rw [if_neg h2, if_neg (by omega)]
theorem getD_ext {l m : List UInt8} (h : l.length = m.length) (hg : ∀ i, i < l.length → l.getD i 0 = m.getD i 0) : l = m := by
  apply List.ext_getElem h
  intro i h1 h2
  have := hg i h1
  simpa [List.getD_eq_getElem?_getD, h1, h2] using this
theorem bigB_get {n : Nat} (hn : n < 9223372036854775808) {c i : Nat} (hc : c ≤ 8) (hi : i < c) : (bigB (n : Int) c).getD i 0 = UInt8.ofNat (n / 2 ^ (8 * (c - 1 - i))) := by
  unfold bigB
  rw [bigTo_get _ _ _ hi c (Nat.le_refl _), if_pos hi, bigAt_nat hn c i hc]
theorem rbig_is {n : Nat} (hn : n < 9223372036854775808) {c : Nat} (hc : c ≤ 8) : rbigTo n c c = bigB (n : Int) c := by
  apply getD_ext (by rw [rbigTo_length, bigB_length])
  intro i hi
  rw [rbigTo_length] at hi
  rw [rbigTo_get n c i hi c (Nat.le_refl _), if_pos (by omega), bigB_get hn hc hi]
theorem rbig_ (n c : Nat) (W : World) (hn : n < 9223372036854775808) (hc : c ≤ 8) :
    Calls Tryz.prog 67 #[.int .i64 (n : Nat), .int .i64 (c : Nat)] W (Ret fun v w => ∃ p, v = .slice (some ⟨p, 0, none⟩) c c ∧ St W noF [pts p (.cells (bv (bigB (n : Int) c)).toArray 5)] w) := by
  have hS := St.start W
  refine calls_C Tryz.func67 rfl Tryz.ntmps67 rfl ?_
  repeat (first | (refine G_id ?_; first | refine G_nil ?_ | refine G_plain rfl rfl ?_) | (refine X_id ?_; first | refine X_yl (Yl_move rfl rfl) rfl rfl ?_ | refine X_yl (Yl_assign rfl rfl) rfl rfl ?_ | refine X_yl (Yl_sub rfl rfl rfl (w64 (by omega) (by omega))) rfl rfl ?_ | refine X_makeB rfl rfl rfl (by omega) (by omega) rfl rfl hS (fun _ _ hS => ?_)) | (refine C_id ?_; first | refine C_seq ?_ | refine C_region ?_ | refine C_block ?_) | (refine E_id ?_; first | refine E_code ?_))
  rename_i p _
  refine C_loop (α := Nat) (fun j => [(0, .int .i64 ((n / 2 ^ (8 * j) : Nat) : Int)), (5, .slice (some ⟨p, 0, none⟩) c c), (6, .int .i64 ((c : Int) - 1 - (j : Int)))])
    (fun j w => j ≤ c ∧ St W noF [pts p (.cells (bv (rbigTo n c j)).toArray 5)] w) (fun j => c - j) 0 ⟨by show some _ = some _; simp, rfl, by show some _ = some _; simp, trivial⟩ ⟨Nat.zero_le _, hS⟩ ?_
  clear hS
  rintro j w ⟨hj, hS⟩
  obtain ⟨m, hm⟩ : ∃ m, m = n / 2 ^ (8 * j) := ⟨_, rfl⟩
  have hml : m < 9223372036854775808 := by rw [hm]; exact Nat.lt_of_le_of_lt (Nat.div_le_self _ _) hn
  have hlen := rbigTo_length n c j
  obtain ⟨L, hL⟩ : ∃ L, L = rbigTo n c j := ⟨_, rfl⟩
  rw [← hL] at hS hlen
  rw [← hm]
  by_cases h1 : j < c
  · repeat (first | (refine G_id ?_; first | refine G_nil ?_ | refine G_plain rfl rfl ?_) | (refine X_id ?_; first | refine X_yl (Yl_move rfl rfl) rfl rfl ?_ | refine X_yl (Yl_assign rfl rfl) rfl rfl ?_ | refine X_yl (Yl_geq_t rfl rfl rfl (by omega)) rfl rfl ?_ | refine X_yl (Yl_indexAddr rfl rfl rfl (by omega) (by omega) (by first | assumption | exact ⟨_, _, rfl⟩)) rfl rfl ?_ | refine X_yl (Yl_sub rfl rfl rfl (w64 (by omega) (by omega))) rfl rfl ?_ | refine X_yl (Yl_convU8 rfl rfl) rfl rfl ?_ | refine X_yl (Yl_and rfl rfl rfl) rfl rfl ?_ | refine X_yl (Yl_shr rfl rfl rfl (by omega)) rfl rfl ?_ | refine X_storeBA rfl rfl rfl rfl hS (by omega) (fun _ hS => ?_)) | (refine C_id ?_; first | refine C_seq ?_ | refine C_region ?_ | refine C_block ?_ | refine C_skip ?_ | refine C_cond_t rfl ?_) | (refine E_id ?_; first | refine E_code ?_ | refine E_blk_n ?_))
    have e1 : b8 (iand .i64 (m : Int) 255) = UInt8.ofNat m := by
      have : iand .i64 (m : Int) 255 = ((m &&& 255 : Nat) : Int) := iand_i (y := 255) hml (by decide)
      rw [this, b8_ofNat]
      apply UInt8.toNat_inj.1
      rw [UInt8.toNat_ofNat', UInt8.toNat_ofNat', show (255 : Nat) = 2 ^ 8 - 1 from rfl, Nat.and_two_pow_sub_one_eq_mod]
      omega
    have e2 : ishr .i64 (m : Int) 8 = ((n / 2 ^ (8 * (j + 1)) : Nat) : Int) := by
      rw [ishr_n (k := .i64) m 8 (by decide), hm, Nat.div_div_eq_div_mul, ← Nat.pow_add]; congr 3
    rw [e1, show 0 + ((c : Int) - 1 - (j : Int)).toNat * 1 = c - 1 - j by omega] at hS
    refine E_round (j + 1) ⟨?_, rfl, ?_, trivial⟩ ⟨by omega, ?_⟩ (by omega)
    · show some _ = some _
      rw [← e2]; rfl
    · show some _ = some _
      congr 2; omega
    · rw [rbigTo, ← hL, ← hm]; exact hS
  · obtain rfl : j = c := by omega
    repeat (first | (refine G_id ?_; first | refine G_nil ?_ | refine G_plain rfl rfl ?_) | (refine X_id ?_; first | refine X_yl (Yl_move rfl rfl) rfl rfl ?_ | refine X_yl (Yl_assign rfl rfl) rfl rfl ?_ | refine X_yl (Yl_geq_f rfl rfl rfl (by omega)) rfl rfl ?_) | (refine C_id ?_; first | refine C_seq ?_ | refine C_region ?_ | refine C_ret ?_ | refine C_exit ?_ | refine C_cond_f rfl ?_) | (refine E_id ?_; first | refine E_code ?_ | refine E_then_exit ?_ | refine E_blk_same ?_ | refine E_ret1 rfl (Rv_tmp rfl) (Ret.mk ?_)))
    exact ⟨p, rfl, by rw [← rbig_is hn hc, ← hL]; exact hS⟩
end Cr
namespace Cr
open Go Go.Proofs
set_option maxRecDepth 100000
set_option maxHeartbeats 8000000
attribute [local irreducible] Calls

def u64 (x : Int) : Int := IntKind.u64.wrap x
section
variable {P : Program} {o : Oper} {σ : Env} {w : World} {x y : Operand} {t : TypeId} {N : Nat} {ds : Md} {K : Env → World → Prop}
theorem X_makeI (n : Nat) {T bytes d : Nat} {k k' kk : IntKind} {l c : Int} {W : World} {F : Nat → Prop} {rs : List Res} (ho : o.op = .makeSlice t x y) (hx : ev σ x = some (.int k l)) (hy : ev σ y = some (.int k' c))
    [h : Und P t (.slice T)] [hi : Inf P T (.int kk 0) 1 bytes] (hl : l = n) (hc : c = n) (hb : bytes * n ≤ 281474976710656) (hm : n ≤ 9223372036854775807) (hd : o.dst = some d) (hN : Nat.blt d N = true) (hS : St W F rs w)
    (hk : ∀ b w', St W F (pts b (.cells (ints kk (List.replicate n 0)).toArray T) :: rs) w' → K ((d, .slice (some ⟨b, 0, none⟩) n n) :: σ) w') : X P o N ds σ w K := by
  subst hl hc
  exact X_make ho hx hy (by omega) (Int.le_refl _) (by rw [← Int.natCast_mul]; omega) (by omega) hd hN hS fun b w' hS' _ => hk b w' (by
    have e1 : (Value.int kk 0).cells = #[Value.int kk 0] := rfl
    rw [e1, madeCells_one, Int.toNat_natCast, Nat.mul_one, ints_rep] at hS'
    exact hS')
end
section
variable {P : Program} {o : Oper} {σ : Env} {w : World} {x y : Operand} {t : TypeId} {N : Nat} {ds : Md} {K : Env → World → Prop}
theorem St.cellIA {W : World} {F : Nat → Prop} {rs : List Res} {b off j : Nat} {k : IntKind} {L : List Int} {T : TypeId} (hS : St W F rs w) [hh : Has rs b (.cells (ints k L).toArray T (0, 0))] (h : off + j < L.length) : w.cell? (adr (some ⟨b, off, none⟩) j) = some (.int k (L.getD (off + j) 0)) := hS.cellI h
theorem Rd.cellIA {b off j : Nat} {k : IntKind} {L : List Int} (H : Rd w (row (some ⟨b, off, none⟩) (ints k L))) (h : j < L.length) : w.cell? (adr (some ⟨b, off, none⟩) j) = some (.int k (L.getD j 0)) := H.cellI h
theorem X_storeIA {b off j : Nat} {k : IntKind} {n : Int} {L : List Int} {T : TypeId} {W : World} {F : Nat → Prop} {rs rs' : List Res} (ho : o.op = .store t x y) (hx : ev σ x = some (.pointer (some (adr (some ⟨b, off, none⟩) j)))) (hy : ev σ y = some (.int k n)) [hs : Siz P t 1]
    (hd : o.dst = none) (hS : St W F rs w) [hh : Has rs b (.cells (ints k L).toArray T (0, 0))] (hfit : off + j < L.length) [hu : Upd rs b (.cells (ints k (L.set (off + j) n)).toArray T (0, 0)) rs']
    (h : ∀ w', St W F rs' w' → K σ w') : X P o N ds σ w K := X_storeI (off := off + j) ho hx hy hd hS hfit h
end
def prodIn (a b : List Int) (i : Nat) (o : List Int) : Nat → List Int × Int
  | 0 => (o, 0)
  | k + 1 =>
    let p := prodIn a b i o k
    let n := u64 (u64 (p.1.getD (i + k) 0 + u64 (a.getD i 0 * b.getD k 0)) + p.2)
    (p.1.set (i + k) (n.tmod 65536), u64 (n.tdiv 65536))
def prodTo (a b : List Int) : Nat → List Int
  | 0 => List.replicate (a.length + b.length) 0
  | i + 1 => (prodIn a b i (prodTo a b i) b.length).1.set (i + b.length) (prodIn a b i (prodTo a b i) b.length).2
def prodM (a b : List Int) : List Int := prodTo a b a.length
theorem prodIn_length (a b : List Int) (i : Nat) (o : List Int) : ∀ k, (prodIn a b i o k).1.length = o.length
  | 0 => rfl
  | k + 1 => by simp [prodIn, prodIn_length a b i o k]
theorem prodTo_length (a b : List Int) : ∀ i, (prodTo a b i).length = a.length + b.length
  | 0 => by simp [prodTo]
  | i + 1 => by simp [prodTo, prodIn_length, prodTo_length a b i]
theorem prodM_length (a b : List Int) : (prodM a b).length = a.length + b.length := prodTo_length a b _
theorem product_ (ab bb : Nat) (ca cb : Nat) (a b : List Int) (W : World) (ha : Rd W (row (some ⟨ab, 0, none⟩) (ints .u64 a))) (hb : Rd W (row (some ⟨bb, 0, none⟩) (ints .u64 b))) (hla : a.length ≤ 1000) (hlb : b.length ≤ 1000) :
    Calls Tryz.prog 48 #[.slice (some ⟨ab, 0, none⟩) a.length ca, .slice (some ⟨bb, 0, none⟩) b.length cb] W (Ret fun v w => ∃ p, v = .slice (some ⟨p, 0, none⟩) (prodM a b).length (prodM a b).length ∧ St W noF [row (some ⟨p, 0, none⟩) (ints .u64 (prodM a b))] w) := by
  have hS := St.start W
  have hg := ha.ro
  have hg2 := hb.ro
  have hlen := prodTo_length a b
  refine calls_C Tryz.func48 rfl Tryz.ntmps48 rfl ?_
  repeat (first | (refine G_id ?_; first | refine G_nil ?_ | refine G_plain rfl rfl ?_) | (refine X_id ?_; first | refine X_yl (Yl_move rfl rfl) rfl rfl ?_ | refine X_yl (Yl_assign rfl rfl) rfl rfl ?_ | refine X_yl (Yl_len rfl rfl) rfl rfl ?_ | refine X_yl (Yl_add rfl rfl rfl (w64 (by omega) (by omega))) rfl rfl ?_) | (refine C_id ?_; first | refine C_seq ?_ | refine C_region ?_) | (refine E_id ?_; first | refine E_code ?_))
  refine X_makeI (a.length + b.length) rfl rfl rfl (by omega) (by omega) (by omega) (by omega) rfl rfl hS (fun p w hS => ?_)
  repeat (first | (refine G_id ?_; first | refine G_nil ?_ | refine G_plain rfl rfl ?_) | (refine X_id ?_; first | refine X_yl (Yl_assign rfl rfl) rfl rfl ?_) | (refine C_id ?_; first | refine C_seq ?_ | refine C_region ?_ | refine C_block ?_) | (refine E_id ?_; first | refine E_code ?_))
  refine C_loop (α := Nat) (fun i => [(0, .slice (some ⟨ab, 0, none⟩) a.length ca), (1, .slice (some ⟨bb, 0, none⟩) b.length cb), (5, .slice (some ⟨p, 0, none⟩) (a.length + b.length) (a.length + b.length)), (6, .int .i64 (i : Nat))])
    (fun i w => i ≤ a.length ∧ St W noF [pts p (.cells (ints .u64 (prodTo a b i)).toArray 23)] w) (fun i => a.length - i) 0 ⟨rfl, rfl, rfl, rfl, trivial⟩ ⟨Nat.zero_le _, hS⟩ ?_
  clear hS
  rintro i w ⟨hi, hS⟩
  have hlen := prodTo_length a b i
  obtain ⟨O, hO⟩ : ∃ O, O = prodTo a b i := ⟨_, rfl⟩
  rw [← hO] at hS hlen
  by_cases h1 : i < a.length
  · repeat (first | (refine G_id ?_; first | refine G_nil ?_ | refine G_plain rfl rfl ?_) | (refine X_id ?_; first | refine X_yl (Yl_move rfl rfl) rfl rfl ?_ | refine X_yl (Yl_assign rfl rfl) rfl rfl ?_ | refine X_yl (Yl_len rfl rfl) rfl rfl ?_ | refine X_yl (Yl_lss_t rfl rfl rfl (by omega)) rfl rfl ?_) | (refine C_id ?_; first | refine C_seq ?_ | refine C_region ?_ | refine C_block ?_ | refine C_skip ?_ | refine C_cond_t rfl ?_) | (refine E_id ?_; first | refine E_code ?_))
    refine C_joinB (α := Unit) (fun _ => [(0, .slice (some ⟨ab, 0, none⟩) a.length ca), (1, .slice (some ⟨bb, 0, none⟩) b.length cb), (5, .slice (some ⟨p, 0, none⟩) (a.length + b.length) (a.length + b.length)), (6, .int .i64 (i : Nat)), (7, .int .u64 (prodIn a b i O b.length).2)])
      (fun _ w => St W noF [pts p (.cells (ints .u64 (prodIn a b i O b.length).1).toArray 23)] w) ?_ ?_
    · refine C_loop (α := Nat) (fun k => [(0, .slice (some ⟨ab, 0, none⟩) a.length ca), (1, .slice (some ⟨bb, 0, none⟩) b.length cb), (5, .slice (some ⟨p, 0, none⟩) (a.length + b.length) (a.length + b.length)), (6, .int .i64 (i : Nat)), (7, .int .u64 (prodIn a b i O k).2), (8, .int .i64 (k : Nat))])
        (fun k w => k ≤ b.length ∧ St W noF [pts p (.cells (ints .u64 (prodIn a b i O k).1).toArray 23)] w) (fun k => b.length - k) 0 ⟨rfl, rfl, rfl, rfl, rfl, rfl, trivial⟩ ⟨Nat.zero_le _, hS⟩ ?_
      clear hS
      rintro k w ⟨hk, hS⟩
      have hpl := prodIn_length a b i O k
      obtain ⟨q, hq⟩ : ∃ q, q = prodIn a b i O k := ⟨_, rfl⟩
      rw [← hq] at hS hpl ⊢
      by_cases h2 : k < b.length
      · repeat (first | (refine G_id ?_; first | refine G_nil ?_ | refine G_plain rfl rfl ?_) | (refine X_id ?_; first | refine X_yl (Yl_move rfl rfl) rfl rfl ?_ | refine X_yl (Yl_len rfl rfl) rfl rfl ?_ | refine X_yl (Yl_lss_t rfl rfl rfl (by omega)) rfl rfl ?_) | (refine C_id ?_; first | refine C_seq ?_ | refine C_region ?_ | refine C_block ?_ | refine C_skip ?_ | refine C_cond_t rfl ?_) | (refine E_id ?_; first | refine E_code ?_))
        refine C_ord (.s 0 (.s 1 (.s 2 (.s 3 (.s 4 (.s 5 (.s 6 (.s 7 (.s 8 (.s 9 (.s 10 (.s 11 (.s 12 (.s 13 (.s 14 (.s 15 (.s 16 (.s 17 (.s 18 .nil))))))))))))))))))) mixed (by kernel_rfl) rfl ?_
        have hS := hS.drew
        repeat (first | (refine G_id ?_; first | refine G_nil ?_ | refine G_plain rfl rfl ?_) | (refine X_id ?_; first | refine X_yl (Yl_move rfl rfl) rfl rfl ?_ | refine X_yl (Yl_assign rfl rfl) rfl rfl ?_ | refine X_yl (Yl_indexAddr rfl rfl rfl (by omega) (by omega) (by first | assumption | exact ⟨_, _, rfl⟩)) rfl rfl ?_ | refine X_yl (Yl_add rfl rfl rfl (w64 (by omega) (by omega))) rfl rfl ?_ | refine X_yl (Yl_quo rfl rfl rfl (by omega) rfl) rfl rfl ?_ | refine X_yl (Yl_rem rfl rfl rfl (by omega) rfl) rfl rfl ?_ | refine X_storeIA rfl rfl rfl rfl hS (by omega) (fun _ hS => ?_)) | (refine C_id ?_; first | refine C_seq ?_ | refine C_region ?_) | (refine E_id ?_; first | refine E_code ?_ | refine E_blk_n ?_) | (refine GO_id ?_; first | refine GO_nil ?_ | refine GO_pure rfl rfl (fun _ => Yl_move rfl rfl) rfl rfl ?_ | refine GO_pure rfl rfl (fun _ => Yl_assign rfl rfl) rfl rfl ?_ | refine GO_pure rfl rfl (fun _ => Yl_indexAddr rfl rfl rfl (by omega) (by omega) (by first | assumption | exact ⟨_, _, rfl⟩)) rfl rfl ?_ | refine GO_pure rfl rfl (fun _ => Yl_add rfl rfl rfl (w64 (by omega) (by omega))) rfl rfl ?_ | refine GO_pure rfl rfl (fun _ => Yl_add rfl rfl rfl rfl) rfl rfl ?_ | refine GO_pure rfl rfl (fun _ => Yl_mul rfl rfl rfl rfl) rfl rfl ?_ | refine GO_read (fun w' => w'.cell? _ = some _) rfl rfl ((hg.rd hS).cellI (by omega)) (fun _ hc => Yl_load rfl rfl hc) rfl rfl ?_ | refine GO_read (fun w' => w'.cell? _ = some _) rfl rfl ((hg2.rd hS).cellI (by omega)) (fun _ hc => Yl_load rfl rfl hc) rfl rfl ?_ | refine GO_read (fun w' => w'.cell? _ = some _) rfl rfl (hS.cellIA (by omega)) (fun _ hc => Yl_load rfl rfl hc) rfl rfl ?_))
        rw [show 0 + ((i : Int) + (k : Int)).toNat * 1 = i + k by omega, show (i : Int).toNat * 1 = i by omega, show (k : Int).toNat * 1 = k by omega] at hS
        refine E_round (k + 1) ⟨rfl, rfl, rfl, rfl, ?_, rfl, trivial⟩ ⟨by omega, ?_⟩ (by omega)
        · show some _ = some _
          rw [show 0 + ((i : Int) + (k : Int)).toNat * 1 = i + k by omega, show (i : Int).toNat * 1 = i by omega, show (k : Int).toNat * 1 = k by omega, hq]
          rfl
        · rw [hq] at hS; exact hS
      · obtain rfl : k = b.length := by omega
        repeat (first | (refine G_id ?_; first | refine G_nil ?_ | refine G_plain rfl rfl ?_) | (refine X_id ?_; first | refine X_yl (Yl_move rfl rfl) rfl rfl ?_ | refine X_yl (Yl_len rfl rfl) rfl rfl ?_ | refine X_yl (Yl_lss_f rfl rfl rfl (by omega)) rfl rfl ?_) | (refine C_id ?_; first | refine C_seq ?_ | refine C_region ?_ | refine C_exit ?_ | refine C_cond_f rfl ?_) | (refine E_id ?_; first | refine E_code ?_ | refine E_then_exit ?_ | refine E_blk_same ?_))
        exact E_mid () ⟨rfl, rfl, rfl, rfl, by rw [hq]; rfl, trivial⟩ (by rw [← hq]; exact hS)
    · clear hS
      rintro _ w hS
      have hpl := prodIn_length a b i O b.length
      repeat (first | (refine G_id ?_; first | refine G_nil ?_ | refine G_plain rfl rfl ?_) | (refine X_id ?_; first | refine X_yl (Yl_move rfl rfl) rfl rfl ?_ | refine X_yl (Yl_assign rfl rfl) rfl rfl ?_ | refine X_yl (Yl_len rfl rfl) rfl rfl ?_ | refine X_yl (Yl_indexAddr rfl rfl rfl (by omega) (by omega) (by first | assumption | exact ⟨_, _, rfl⟩)) rfl rfl ?_ | refine X_yl (Yl_add rfl rfl rfl (w64 (by omega) (by omega))) rfl rfl ?_ | refine X_storeIA rfl rfl rfl rfl hS (by omega) (fun _ hS => ?_)) | (refine C_id ?_; first | refine C_region ?_) | (refine E_id ?_; first | refine E_code ?_ | refine E_blk_n ?_))
      rw [show 0 + ((i : Int) + (b.length : Int)).toNat * 1 = i + b.length by omega, hO] at hS
      exact E_round (i + 1) ⟨rfl, rfl, rfl, rfl, trivial⟩ ⟨by omega, hS⟩ (by omega)
  · obtain rfl : i = a.length := by omega
    repeat (first | (refine G_id ?_; first | refine G_nil ?_ | refine G_plain rfl rfl ?_) | (refine X_id ?_; first | refine X_yl (Yl_move rfl rfl) rfl rfl ?_ | refine X_yl (Yl_assign rfl rfl) rfl rfl ?_ | refine X_yl (Yl_len rfl rfl) rfl rfl ?_ | refine X_yl (Yl_lss_f rfl rfl rfl (by omega)) rfl rfl ?_) | (refine C_id ?_; first | refine C_seq ?_ | refine C_region ?_ | refine C_ret ?_ | refine C_exit ?_ | refine C_cond_f rfl ?_) | (refine E_id ?_; first | refine E_code ?_ | refine E_then_exit ?_ | refine E_blk_same ?_ | refine E_ret1 rfl (Rv_tmp rfl) (Ret.mk ?_)))
    refine ⟨p, ?_, ?_⟩
    · rw [prodM_length]
    · rw [prodM, ← hO]; exact hS.head fun h hh => row_pts h hh

/-! ### digits, root -/
def digM (n : Int) : List Int := [n.tmod 65536, (u64 (n.tdiv 65536)).tmod 65536, (u64 ((u64 (n.tdiv 65536)).tdiv 65536)).tmod 65536]
theorem digits_ (n : Int) (W : World) : Calls Tryz.prog 47 #[.int .u64 n] W (Ret fun v w => ∃ p, v = .slice (some ⟨p, 0, none⟩) 3 3 ∧ St W noF [row (some ⟨p, 0, none⟩) (ints .u64 (digM n))] w) := by
  have hS := St.start W
  refine calls_C Tryz.func47 rfl Tryz.ntmps47 rfl ?_
  repeat (first | (refine G_id ?_; first | refine G_nil ?_ | refine G_plain rfl rfl ?_) | (refine X_id ?_; first | refine X_yl (Yl_move rfl rfl) rfl rfl ?_ | refine X_yl (Yl_assign rfl rfl) rfl rfl ?_ | refine X_yl (Yl_quo rfl rfl rfl (by omega) rfl) rfl rfl ?_ | refine X_yl (Yl_rem rfl rfl rfl (by omega) rfl) rfl rfl ?_ | refine X_buildSlice rfl rfl rfl rfl rfl rfl rfl rfl hS (fun _ _ hS _ => ?_)) | (refine C_id ?_; first | refine C_seq ?_ | refine C_region ?_ | refine C_ret ?_) | (refine E_id ?_; first | refine E_code ?_ | refine E_ret1 rfl (Rv_tmp rfl) (Ret.mk ?_)))
  exact ⟨_, rfl, (hS.pick [0]).head fun _ h => h.row⟩
def zTo (y : Int) : Nat → List Int
  | 0 => digM y
  | k + 1 => prodM (zTo y k) (digM y)
theorem zTo_length (y : Int) : ∀ k, (zTo y k).length = 3 * (k + 1)
  | 0 => rfl
  | k + 1 => by rw [zTo, prodM_length, zTo_length y k]; simp [digM]; omega
def sumTo (z : List Int) (pw : Nat) : Nat → Int × Int
  | 0 => (0, 0)
  | j + 1 =>
    let p := sumTo z pw j
    let k := z.length - 1 - j
    if 2 * pw ≤ k then (u64 (u64 (65536 * p.1) + z.getD k 0), p.2) else (p.1, u64 (p.2 + z.getD k 0))
def lowM (prime : Int) (p : Int × Int) : Bool := decide (p.1 < prime) || (decide (p.1 = prime) && decide (p.2 = 0))
def rootTo (prime : Int) (pw : Nat) : Nat → Int
  | 0 => 0
  | j + 1 =>
    let x := rootTo prime pw j
    let y := u64 (x + ishl .u64 1 (36 - j))
    if lowM prime (sumTo (zTo y (pw - 1)) pw (3 * pw)) then y else x
def rootM (prime : Int) (pw : Nat) : Int := IntKind.i64.wrap ((rootTo prime pw 37).tmod 4294967296)
theorem root_ (prime : Int) (pw : Nat) (W : World) (hpw : 1 ≤ pw) (hpw' : pw ≤ 3) : Calls Tryz.prog 30 #[.int .u64 prime, .int .i64 (pw : Nat)] W (Ret fun v w => v = .int .i64 (rootM prime pw) ∧ St W noF [] w) := by
  have hS := St.start W
  refine calls_C Tryz.func30 rfl Tryz.ntmps30 rfl ?_
  repeat (first | (refine G_id ?_; first | refine G_nil ?_ | refine G_plain rfl rfl ?_) | (refine X_id ?_; first | refine X_yl (Yl_assign rfl rfl) rfl rfl ?_) | (refine C_id ?_; first | refine C_seq ?_ | refine C_region ?_ | refine C_block ?_) | (refine E_id ?_; first | refine E_code ?_))
  refine C_loop (α := Nat) (fun j => [(0, .int .u64 prime), (1, .int .i64 (pw : Nat)), (5, .int .u64 (rootTo prime pw j)), (6, .int .i64 (36 - (j : Int)))])
    (fun j w => j ≤ 37 ∧ St W noF [] w) (fun j => 37 - j) 0 ⟨rfl, rfl, rfl, rfl, trivial⟩ ⟨Nat.zero_le _, hS⟩ ?_
  clear hS
  rintro j w ⟨hj, hS⟩
  obtain ⟨x, hx⟩ : ∃ x, x = rootTo prime pw j := ⟨_, rfl⟩
  rw [← hx]
  by_cases h1 : j < 37
  · repeat (first | (refine G_id ?_; first | refine G_nil ?_ | refine G_plain rfl rfl ?_) | (refine X_id ?_; first | refine X_yl (Yl_move rfl rfl) rfl rfl ?_ | refine X_yl (Yl_assign rfl rfl) rfl rfl ?_ | refine X_yl (Yl_geq_t rfl rfl rfl (by omega)) rfl rfl ?_ | refine X_yl (Yl_add rfl rfl rfl rfl) rfl rfl ?_ | refine X_yl (Yl_shl rfl rfl rfl (by omega)) rfl rfl ?_) | (refine C_id ?_; first | refine C_seq ?_ | refine C_region ?_ | refine C_block ?_ | refine C_skip ?_ | refine C_cond_t rfl ?_) | (refine E_id ?_; first | refine E_code ?_))
    obtain ⟨y, hy⟩ : ∃ y, y = u64 (x + ishl .u64 1 (36 - j)) := ⟨_, rfl⟩
    have hy' : IntKind.u64.wrap (x + ishl .u64 1 (36 - (j : Int)).toNat) = y := by rw [hy, show (36 - (j : Int)).toNat = 36 - j by omega]; rfl
    rw [hy']
    refine X_callg _ rfl rfl rfl rfl rfl (digits_ y _) ?_
    rintro _ w ⟨q0, rfl, hS'⟩
    replace hS := hS.plus hS'
    clear hS'
    repeat (first | (refine G_id ?_; first | refine G_nil ?_ | refine G_plain rfl rfl ?_) | (refine X_id ?_; first | refine X_yl (Yl_assign rfl rfl) rfl rfl ?_) | (refine C_id ?_; first | refine C_seq ?_ | refine C_region ?_ | refine C_block ?_) | (refine E_id ?_; first | refine E_code ?_))
    refine C_joinB (α := Nat × Nat) (fun z => [(0, .int .u64 prime), (1, .int .i64 (pw : Nat)), (5, .int .u64 x), (6, .int .i64 (36 - (j : Int))), (7, .int .u64 y), (8, .slice (some ⟨z.1, 0, none⟩) (zTo y (pw - 1)).length z.2)])
      (fun z w => St W noF [row (some ⟨z.1, 0, none⟩) (ints .u64 (zTo y (pw - 1)))] w) ?_ ?_
    · refine C_loop (α := Nat × Nat × Nat) (fun z => [(0, .int .u64 prime), (1, .int .i64 (pw : Nat)), (5, .int .u64 x), (6, .int .i64 (36 - (j : Int))), (7, .int .u64 y), (8, .slice (some ⟨z.2.1, 0, none⟩) (zTo y z.1).length z.2.2), (9, .int .i64 ((z.1 : Int) + 1))])
        (fun z w => z.1 + 1 ≤ pw ∧ St W noF [row (some ⟨z.2.1, 0, none⟩) (ints .u64 (zTo y z.1))] w) (fun z => pw - z.1) (0, q0, 3) ⟨rfl, rfl, rfl, rfl, rfl, rfl, rfl, trivial⟩ ⟨hpw, hS⟩ ?_
      clear hS
      rintro ⟨k, q, c⟩ w ⟨hk, hS⟩
      simp only at hk hS ⊢
      have hzl := zTo_length y k
      by_cases h2 : k + 1 < pw
      · repeat (first | (refine G_id ?_; first | refine G_nil ?_ | refine G_plain rfl rfl ?_) | (refine X_id ?_; first | refine X_yl (Yl_move rfl rfl) rfl rfl ?_ | refine X_yl (Yl_lss_t rfl rfl rfl (by omega)) rfl rfl ?_) | (refine C_id ?_; first | refine C_seq ?_ | refine C_region ?_ | refine C_block ?_ | refine C_skip ?_ | refine C_cond_t rfl ?_) | (refine E_id ?_; first | refine E_code ?_))
        refine X_callg _ rfl rfl rfl rfl rfl (digits_ y _) ?_
        rintro _ w ⟨q1, rfl, hS'⟩
        replace hS := hS.plus hS'
        clear hS'
        refine G_plain rfl rfl ?_
        refine X_callg _ rfl rfl rfl rfl rfl (product_ q q1 c 3 (zTo y k) (digM y) _ (hS.rd (by simp)) (hS.rd (by simp)) (by omega) (by simp [digM])) ?_
        rintro _ w ⟨q2, rfl, hS'⟩
        replace hS := hS.plus hS'
        clear hS'
        repeat (first | (refine G_id ?_; first | refine G_nil ?_ | refine G_plain rfl rfl ?_) | (refine X_id ?_; first | refine X_yl (Yl_move rfl rfl) rfl rfl ?_ | refine X_yl (Yl_assign rfl rfl) rfl rfl ?_ | refine X_yl (Yl_add rfl rfl rfl (w64 (by omega) (by omega))) rfl rfl ?_) | (refine C_id ?_; first | refine C_region ?_) | (refine E_id ?_; first | refine E_code ?_ | refine E_blk_n ?_))
        exact E_round (z := (k, q, c)) (k + 1, q2, (zTo y (k + 1)).length) ⟨rfl, rfl, rfl, rfl, rfl, rfl, rfl, trivial⟩ ⟨by simp only; omega, hS.pick [0]⟩ (by simp only; omega)
      · obtain rfl : k = pw - 1 := by omega
        repeat (first | (refine G_id ?_; first | refine G_nil ?_ | refine G_plain rfl rfl ?_) | (refine X_id ?_; first | refine X_yl (Yl_move rfl rfl) rfl rfl ?_ | refine X_yl (Yl_lss_f rfl rfl rfl (by omega)) rfl rfl ?_) | (refine C_id ?_; first | refine C_seq ?_ | refine C_region ?_ | refine C_exit ?_ | refine C_cond_f rfl ?_) | (refine E_id ?_; first | refine E_code ?_ | refine E_then_exit ?_ | refine E_blk_same ?_))
        exact E_mid (q, c) ⟨rfl, rfl, rfl, rfl, rfl, rfl, trivial⟩ hS
    · clear hS
      rintro ⟨q, c⟩ w hS
      simp only at hS ⊢
      obtain ⟨z, hz⟩ : ∃ z, z = zTo y (pw - 1) := ⟨_, rfl⟩
      have hzl : z.length = 3 * pw := by rw [hz, zTo_length]; omega
      rw [← hz] at hS ⊢
      repeat (first | (refine G_id ?_; first | refine G_nil ?_ | refine G_plain rfl rfl ?_) | (refine X_id ?_; first | refine X_yl (Yl_move rfl rfl) rfl rfl ?_ | refine X_yl (Yl_assign rfl rfl) rfl rfl ?_ | refine X_yl (Yl_len rfl rfl) rfl rfl ?_ | refine X_yl (Yl_sub rfl rfl rfl (w64 (by omega) (by omega))) rfl rfl ?_) | (refine C_id ?_; first | refine C_seq ?_ | refine C_region ?_ | refine C_block ?_) | (refine E_id ?_; first | refine E_code ?_))
      obtain ⟨s, hs⟩ : ∃ s, s = sumTo z pw (3 * pw) := ⟨_, rfl⟩
      refine C_joinB (α := Unit) (fun _ => [(0, .int .u64 prime), (1, .int .i64 (pw : Nat)), (5, .int .u64 x), (6, .int .i64 (36 - (j : Int))), (7, .int .u64 y), (10, .int .u64 s.1), (11, .int .u64 s.2)])
        (fun _ w => St W noF [] w) ?_ ?_
      · obtain ⟨F2, hS2, hro, _, hbk⟩ := hS.call []
        clear hS
        have hS := hS2
        clear hS2
        have hg := hro (row (some ⟨q, 0, none⟩) (ints .u64 z)) (by simp)
        refine C_loop (α := Nat) (fun m => [(0, .int .u64 prime), (1, .int .i64 (pw : Nat)), (5, .int .u64 x), (6, .int .i64 (36 - (j : Int))), (7, .int .u64 y), (8, .slice (some ⟨q, 0, none⟩) z.length c), (10, .int .u64 (sumTo z pw m).1), (11, .int .u64 (sumTo z pw m).2), (12, .int .i64 ((z.length : Int) - 1 - (m : Int)))])
          (fun m w' => m ≤ 3 * pw ∧ St w F2 [] w') (fun m => 3 * pw - m) 0 ⟨rfl, rfl, rfl, rfl, rfl, rfl, rfl, rfl, by show some _ = some _; simp, trivial⟩ ⟨Nat.zero_le _, hS⟩ ?_
        clear hS
        rintro m w2 ⟨hm, hS⟩
        by_cases h2 : m < 3 * pw
        · have ek : ((z.length : Int) - 1 - (m : Int)).toNat * 1 = z.length - 1 - m := by omega
          by_cases h3 : 2 * (pw : Int) ≤ (z.length : Int) - 1 - (m : Int)
          · have e : sumTo z pw (m + 1) = (u64 (u64 (65536 * (sumTo z pw m).1) + z.getD (z.length - 1 - m) 0), (sumTo z pw m).2) := by rw [sumTo]; exact if_pos (by omega)
            repeat (first | (refine G_id ?_; first | refine G_nil ?_ | refine G_plain rfl rfl ?_) | (refine X_id ?_; first | refine X_yl (Yl_move rfl rfl) rfl rfl ?_ | refine X_yl (Yl_assign rfl rfl) rfl rfl ?_ | refine X_yl (Yl_geq_t rfl rfl rfl (by omega)) rfl rfl ?_ | refine X_yl (Yl_indexAddr rfl rfl rfl (by omega) (by omega) (by first | assumption | exact ⟨_, _, rfl⟩)) rfl rfl ?_ | refine X_yl (Yl_sub rfl rfl rfl (w64 (by omega) (by omega))) rfl rfl ?_ | refine X_yl (Yl_mul rfl rfl rfl (w64 (by omega) (by omega))) rfl rfl ?_ | refine X_yl (Yl_add rfl rfl rfl rfl) rfl rfl ?_ | refine X_yl (Yl_mul rfl rfl rfl rfl) rfl rfl ?_ | refine X_yl (Yl_load rfl rfl ((hg.rd hS).cellI (by omega))) rfl rfl ?_) | (refine C_id ?_; first | refine C_seq ?_ | refine C_region ?_ | refine C_block ?_ | refine C_skip ?_ | refine C_cond_t rfl ?_) | (refine E_id ?_; first | refine E_code ?_ | refine E_blk_n ?_))
            refine E_round (m + 1) ⟨rfl, rfl, rfl, rfl, rfl, rfl, ?_, ?_, ?_, trivial⟩ ⟨by omega, hS⟩ (by omega)
            · rw [e]; show some _ = some _; rw [ek]; rfl
            · rw [e]; rfl
            · show some _ = some _; congr 2; omega
          · have e : sumTo z pw (m + 1) = ((sumTo z pw m).1, u64 ((sumTo z pw m).2 + z.getD (z.length - 1 - m) 0)) := by rw [sumTo]; exact if_neg (by omega)
            repeat (first | (refine G_id ?_; first | refine G_nil ?_ | refine G_plain rfl rfl ?_) | (refine X_id ?_; first | refine X_yl (Yl_move rfl rfl) rfl rfl ?_ | refine X_yl (Yl_assign rfl rfl) rfl rfl ?_ | refine X_yl (Yl_geq_t rfl rfl rfl (by omega)) rfl rfl ?_ | refine X_yl (Yl_geq_f rfl rfl rfl (by omega)) rfl rfl ?_ | refine X_yl (Yl_indexAddr rfl rfl rfl (by omega) (by omega) (by first | assumption | exact ⟨_, _, rfl⟩)) rfl rfl ?_ | refine X_yl (Yl_sub rfl rfl rfl (w64 (by omega) (by omega))) rfl rfl ?_ | refine X_yl (Yl_mul rfl rfl rfl (w64 (by omega) (by omega))) rfl rfl ?_ | refine X_yl (Yl_add rfl rfl rfl rfl) rfl rfl ?_ | refine X_yl (Yl_load rfl rfl ((hg.rd hS).cellI (by omega))) rfl rfl ?_) | (refine C_id ?_; first | refine C_seq ?_ | refine C_region ?_ | refine C_block ?_ | refine C_skip ?_ | refine C_cond_t rfl ?_ | refine C_cond_f rfl ?_) | (refine E_id ?_; first | refine E_code ?_ | refine E_blk_n ?_))
            refine E_round (m + 1) ⟨rfl, rfl, rfl, rfl, rfl, rfl, ?_, ?_, ?_, trivial⟩ ⟨by omega, hS⟩ (by omega)
            · rw [e]; rfl
            · rw [e]; show some _ = some _; rw [ek]; rfl
            · show some _ = some _; congr 2; omega
        · obtain rfl : m = 3 * pw := by omega
          repeat (first | (refine G_id ?_; first | refine G_nil ?_ | refine G_plain rfl rfl ?_) | (refine X_id ?_; first | refine X_yl (Yl_move rfl rfl) rfl rfl ?_ | refine X_yl (Yl_geq_f rfl rfl rfl (by omega)) rfl rfl ?_) | (refine C_id ?_; first | refine C_seq ?_ | refine C_region ?_ | refine C_exit ?_ | refine C_cond_f rfl ?_) | (refine E_id ?_; first | refine E_code ?_ | refine E_then_exit ?_ | refine E_blk_same ?_))
          exact E_mid () ⟨rfl, rfl, rfl, rfl, rfl, by rw [hs]; rfl, by rw [hs]; rfl, trivial⟩ (hbk hS).drops
      · clear hS
        rintro _ w hS
        have e : rootTo prime pw (j + 1) = if lowM prime s then y else x := by rw [rootTo, ← hx, ← hy, ← hz, ← hs]
        have key : ∀ b : Bool, lowM prime s = b → rootTo prime pw (j + 1) = if b then y else x := fun b hb => by rw [e, hb]
        by_cases c1 : s.1 < prime
        · have e2 := key true (by simp [lowM, c1])
          repeat (first | (refine G_id ?_; first | refine G_nil ?_ | refine G_plain rfl rfl ?_ | refine G_no rfl rfl rfl rfl rfl rfl ?_ | refine G_no_undef rfl rfl rfl rfl rfl ?_) | (refine X_id ?_; first | refine X_yl (Yl_move rfl rfl) rfl rfl ?_ | refine X_yl (Yl_assign rfl rfl) rfl rfl ?_ | refine X_yl (Yl_pick_t rfl rfl rfl) rfl rfl ?_ | refine X_yl (Yl_lss_t rfl rfl rfl (by omega)) rfl rfl ?_ | refine X_yl (Yl_sub rfl rfl rfl (w64 (by omega) (by omega))) rfl rfl ?_) | (refine C_id ?_; first | refine C_seq ?_ | refine C_region ?_ | refine C_cond_t rfl ?_) | (refine E_id ?_; first | refine E_code ?_ | refine E_blk_n ?_))
          exact E_round (j + 1) ⟨rfl, rfl, by rw [e2]; rfl, by show some _ = some _; congr 2; omega, trivial⟩ ⟨by omega, hS⟩ (by omega)
        · by_cases c2 : s.1 = prime
          · by_cases c3 : s.2 = 0
            · have e2 := key true (by simp [lowM, c2, c3])
              repeat (first | (refine G_id ?_; first | refine G_nil ?_ | refine G_plain rfl rfl ?_ | refine G_yes rfl rfl rfl rfl ?_) | (refine X_id ?_; first | refine X_yl (Yl_move rfl rfl) rfl rfl ?_ | refine X_yl (Yl_assign rfl rfl) rfl rfl ?_ | refine X_yl (Yl_pick_t rfl rfl rfl) rfl rfl ?_ | refine X_yl (Yl_pick_f rfl rfl rfl) rfl rfl ?_ | refine X_yl (Yl_eql_t rfl rfl rfl (by omega)) rfl rfl ?_ | refine X_yl (Yl_lss_f rfl rfl rfl (by omega)) rfl rfl ?_ | refine X_yl (Yl_sub rfl rfl rfl (w64 (by omega) (by omega))) rfl rfl ?_) | (refine C_id ?_; first | refine C_seq ?_ | refine C_region ?_ | refine C_cond_t rfl ?_) | (refine E_id ?_; first | refine E_code ?_ | refine E_blk_n ?_))
              exact E_round (j + 1) ⟨rfl, rfl, by rw [e2]; rfl, by show some _ = some _; congr 2; omega, trivial⟩ ⟨by omega, hS⟩ (by omega)
            · have e2 := key false (by simp [lowM, c2, c3])
              repeat (first | (refine G_id ?_; first | refine G_nil ?_ | refine G_plain rfl rfl ?_ | refine G_yes rfl rfl rfl rfl ?_) | (refine X_id ?_; first | refine X_yl (Yl_move rfl rfl) rfl rfl ?_ | refine X_yl (Yl_assign rfl rfl) rfl rfl ?_ | refine X_yl (Yl_pick_t rfl rfl rfl) rfl rfl ?_ | refine X_yl (Yl_pick_f rfl rfl rfl) rfl rfl ?_ | refine X_yl (Yl_eql_t rfl rfl rfl (by omega)) rfl rfl ?_ | refine X_yl (Yl_eql_f rfl rfl rfl (by omega)) rfl rfl ?_ | refine X_yl (Yl_lss_f rfl rfl rfl (by omega)) rfl rfl ?_ | refine X_yl (Yl_sub rfl rfl rfl (w64 (by omega) (by omega))) rfl rfl ?_) | (refine C_id ?_; first | refine C_seq ?_ | refine C_region ?_ | refine C_skip ?_ | refine C_cond_f rfl ?_) | (refine E_id ?_; first | refine E_code ?_ | refine E_blk_n ?_))
              exact E_round (j + 1) ⟨rfl, rfl, by rw [e2]; rfl, by show some _ = some _; congr 2; omega, trivial⟩ ⟨by omega, hS⟩ (by omega)
          · have e2 := key false (by simp [lowM, c1, c2])
            repeat (first | (refine G_id ?_; first | refine G_nil ?_ | refine G_plain rfl rfl ?_ | refine G_yes rfl rfl rfl rfl ?_ | refine G_no rfl rfl rfl rfl rfl rfl ?_) | (refine X_id ?_; first | refine X_yl (Yl_move rfl rfl) rfl rfl ?_ | refine X_yl (Yl_assign rfl rfl) rfl rfl ?_ | refine X_yl (Yl_pick_f rfl rfl rfl) rfl rfl ?_ | refine X_yl (Yl_eql_f rfl rfl rfl (by omega)) rfl rfl ?_ | refine X_yl (Yl_lss_f rfl rfl rfl (by omega)) rfl rfl ?_ | refine X_yl (Yl_sub rfl rfl rfl (w64 (by omega) (by omega))) rfl rfl ?_) | (refine C_id ?_; first | refine C_seq ?_ | refine C_region ?_ | refine C_skip ?_ | refine C_cond_f rfl ?_) | (refine E_id ?_; first | refine E_code ?_ | refine E_blk_n ?_))
            exact E_round (j + 1) ⟨rfl, rfl, by rw [e2]; rfl, by show some _ = some _; congr 2; omega, trivial⟩ ⟨by omega, hS⟩ (by omega)
  · obtain rfl : j = 37 := by omega
    repeat (first | (refine G_id ?_; first | refine G_nil ?_ | refine G_plain rfl rfl ?_) | (refine X_id ?_; first | refine X_yl (Yl_move rfl rfl) rfl rfl ?_ | refine X_yl (Yl_assign rfl rfl) rfl rfl ?_ | refine X_yl (Yl_geq_f rfl rfl rfl (by omega)) rfl rfl ?_ | refine X_yl (Yl_convInt rfl rfl rfl) rfl rfl ?_ | refine X_yl (Yl_rem rfl rfl rfl (by omega) rfl) rfl rfl ?_) | (refine C_id ?_; first | refine C_seq ?_ | refine C_region ?_ | refine C_ret ?_ | refine C_exit ?_ | refine C_cond_f rfl ?_) | (refine E_id ?_; first | refine E_code ?_ | refine E_then_exit ?_ | refine E_blk_same ?_ | refine E_ret1 rfl (Rv_tmp rfl) (Ret.mk ?_)))
    exact ⟨by rw [rootM, ← hx], hS⟩
end Cr
namespace Cr
open Go Go.Proofs
set_option maxRecDepth 100000
set_option maxHeartbeats 4000000
attribute [local irreducible] Calls

/-! ### number -/
def isFront (rd fs : List Int) (b : List UInt8) : Bool := decide (0 ≤ smallN (b.take 8)) && decide (smallN (b.take 8) ≤ 1152921504606846976) && decide (b = frontB rd fs (smallN (b.take 8)))
def headNum (rd fs : List Int) (b : List UInt8) : Int × Bool := if b = List.replicate 64 0 then (0, true) else (smallN (b.take 8), isFront rd fs b)
theorem number_ (a : Option Addr) (c : Nat) (b : List UInt8) (rd fs : List Int) (W : World) (hG : Gl W noF rd fs) (hb : Rd W (bytes a b)) (h64 : b.length = 64) (hc : 64 ≤ c) :
    Calls Tryz.prog 39 #[.slice a 64 c] W (Ret fun v w => v = .tuple #[.int .i64 (headNum rd fs b).1, .bool (headNum rd fs b).2] ∧ St W noF [] w) := by
  have hS := St.start W
  have hbo := hb.ro
  obtain ⟨ab, ao, rfl⟩ := hb.base (by intro e; have := bv_length b; rw [e] at this; simp at this; omega)
  have hb8 : Rd W (bytes (some ⟨ab, ao, none⟩) (b.take 8)) := by
    have := hb.subBytes (l := 0) (h := 8) (c := c) (by omega) (by omega)
    rw [sub_zero] at this
    simpa using this
  have h8 : (b.take 8).length = 8 := by simp [h64]
  have hsm := small_ (some ⟨ab, ao, none⟩) c (b.take 8) W hb8 (by omega)
  rw [h8] at hsm
  obtain ⟨n, hn⟩ : ∃ n, n = smallN (b.take 8) := ⟨_, rfl⟩
  rw [← hn] at hsm
  refine calls_C Tryz.func39 rfl Tryz.ntmps39 rfl ?_
  repeat (first | (refine G_id ?_; first | refine G_nil ?_ | refine G_plain rfl rfl ?_) | (refine X_id ?_; first | refine X_yl (Yl_move rfl rfl) rfl rfl ?_ | refine X_yl (Yl_assign rfl rfl) rfl rfl ?_) | (refine C_id ?_; first | refine C_seq ?_ | refine C_region ?_) | (refine E_id ?_; first | refine E_code ?_))
  refine X_yl (Yl_slice (l := 0) (h := 8) rfl rfl rfl rfl (.inr ⟨_, _, rfl, by omega, by omega, by omega⟩) (.inl ⟨rfl, rfl⟩)) rfl rfl ?_
  rw [sub_zero, Nat.sub_zero, Nat.sub_zero]
  repeat (first | (refine G_id ?_; first | refine G_nil ?_ | refine G_plain rfl rfl ?_) | (refine X_id ?_; first | (refine X_callg 63 rfl rfl rfl rfl rfl hsm ?_; rintro _ _ ⟨rfl, rfl⟩) | refine X_yl (Yl_move rfl rfl) rfl rfl ?_ | refine X_yl (Yl_assign rfl rfl) rfl rfl ?_ | refine X_yl (Yl_len rfl rfl) rfl rfl ?_ | refine X_makeB rfl rfl rfl (by omega) (by omega) rfl rfl hS (fun _ _ hS => ?_)) | (refine C_id ?_; first | refine C_seq ?_ | refine C_region ?_) | (refine E_id ?_; first | refine E_code ?_))
  refine X_callg _ rfl rfl rfl rfl rfl (equal_ _ _ _ _ _ _ b (List.replicate 64 0) _ (hbo.rd hS) ((hS.rd (List.mem_cons_self ..)).ptsB) h64 (by simp)) ?_
  rintro _ _ ⟨rfl, rfl⟩
  by_cases hz : b = List.replicate 64 0
  · repeat (first | (refine G_id ?_; first | refine G_nil ?_ | refine G_plain rfl rfl ?_) | (refine X_id ?_; first | refine X_yl (Yl_assign rfl rfl) rfl rfl ?_) | (refine C_id ?_; first | refine C_seq ?_ | refine C_region ?_ | refine C_ret ?_ | refine C_cond_dt rfl (by first | assumption | omega) ?_) | (refine E_id ?_; first | refine E_code ?_ | refine E_then_ret ?_ | refine E_ret2 rfl (Rv_tmp rfl) (Rv_tmp rfl) (Ret.mk ?_)))
    exact ⟨by rw [headNum, if_pos hz], hS.drops⟩
  · have e2 : headNum rd fs b = (n, isFront rd fs b) := by rw [headNum, if_neg hz, hn]
    by_cases h0 : 0 ≤ n
    · by_cases h1 : n ≤ 1152921504606846976
      · repeat (first | (refine G_id ?_; first | refine G_nil ?_ | refine G_plain rfl rfl ?_ | refine G_yes rfl rfl rfl rfl ?_) | (refine X_id ?_; first | refine X_yl (Yl_move rfl rfl) rfl rfl ?_ | refine X_yl (Yl_pick_t rfl rfl rfl) rfl rfl ?_ | refine X_yl (Yl_leq_t rfl rfl rfl (by omega)) rfl rfl ?_ | refine X_yl (Yl_geq_t rfl rfl rfl (by omega)) rfl rfl ?_) | (refine C_id ?_; first | refine C_seq ?_ | refine C_region ?_ | refine C_skip ?_ | refine C_cond_df rfl (by first | assumption | omega) ?_) | (refine E_id ?_; first | refine E_code ?_))
        refine X_callg _ rfl rfl rfl rfl rfl (front_ n rd fs _ (hG.mono fun r hr => (hr.rd hS).ro)) ?_
        rintro _ w ⟨p, k, rfl, hS'⟩
        replace hS := hS.plus hS'
        clear hS'
        repeat (first | (refine G_id ?_; first | refine G_yes rfl rfl rfl rfl ?_))
        refine X_callg _ rfl rfl rfl rfl rfl (equal_ _ _ _ _ _ _ b (frontB rd fs n) _ (hbo.rd hS) (hS.rd (List.mem_cons_self ..)) h64 (frontB_length ..)) ?_
        rintro _ _ ⟨rfl, rfl⟩
        repeat (first | (refine G_id ?_; first | refine G_nil ?_ | refine G_plain rfl rfl ?_) | (refine X_id ?_; first | refine X_yl (Yl_assign rfl rfl) rfl rfl ?_ | refine X_yl (Yl_pick_t rfl rfl rfl) rfl rfl ?_) | (refine C_id ?_; first | refine C_ret ?_) | (refine E_id ?_; first | refine E_code ?_ | refine E_ret2 rfl (Rv_tmp rfl) (Rv_tmp rfl) (Ret.mk ?_)))
        refine ⟨?_, hS.drops⟩
        rw [e2]
        simp [isFront, ← hn, h0, h1]
      · repeat (first | (refine G_id ?_; first | refine G_nil ?_ | refine G_plain rfl rfl ?_ | refine G_yes rfl rfl rfl rfl ?_ | refine G_no rfl rfl rfl rfl rfl rfl ?_) | (refine X_id ?_; first | refine X_yl (Yl_move rfl rfl) rfl rfl ?_ | refine X_yl (Yl_assign rfl rfl) rfl rfl ?_ | refine X_yl (Yl_pick_t rfl rfl rfl) rfl rfl ?_ | refine X_yl (Yl_pick_f rfl rfl rfl) rfl rfl ?_ | refine X_yl (Yl_leq_f rfl rfl rfl (by omega)) rfl rfl ?_ | refine X_yl (Yl_geq_t rfl rfl rfl (by omega)) rfl rfl ?_) | (refine C_id ?_; first | refine C_seq ?_ | refine C_region ?_ | refine C_ret ?_ | refine C_skip ?_ | refine C_cond_df rfl (by first | assumption | omega) ?_) | (refine E_id ?_; first | refine E_code ?_ | refine E_ret2 rfl (Rv_tmp rfl) (Rv_tmp rfl) (Ret.mk ?_)))
        refine ⟨?_, hS.drops⟩
        rw [e2]
        simp [isFront, ← hn, h1]
    · repeat (first | (refine G_id ?_; first | refine G_nil ?_ | refine G_plain rfl rfl ?_ | refine G_no rfl rfl rfl rfl rfl rfl ?_) | (refine X_id ?_; first | refine X_yl (Yl_move rfl rfl) rfl rfl ?_ | refine X_yl (Yl_assign rfl rfl) rfl rfl ?_ | refine X_yl (Yl_pick_f rfl rfl rfl) rfl rfl ?_ | refine X_yl (Yl_geq_f rfl rfl rfl (by omega)) rfl rfl ?_) | (refine C_id ?_; first | refine C_seq ?_ | refine C_region ?_ | refine C_ret ?_ | refine C_skip ?_ | refine C_cond_df rfl (by first | assumption | omega) ?_) | (refine E_id ?_; first | refine E_code ?_ | refine E_ret2 rfl (Rv_tmp rfl) (Rv_tmp rfl) (Ret.mk ?_)))
      refine ⟨?_, hS.drops⟩
      rw [e2]
      simp [isFront, ← hn, h0]
end Cr
namespace Cr
open Go Go.Proofs
set_option maxRecDepth 100000
set_option maxHeartbeats 4000000
attribute [local irreducible] Calls

/-- A write in memory. -/
structure Wr where
  no : Int
  x : Bs
def Wr.cells (v : Wr) : List Value := [.int .i64 v.no, .slice v.x.a v.x.s.length v.x.c]
def Wr.data (v : Wr) : Int × List UInt8 := (v.no, v.x.s)
structure Wrs (W : World) (F : Nat → Prop) (a : Option Addr) (l : List Wr) : Prop where
  row : Ro W F (row a (l.flatMap Wr.cells))
  all : ∀ v ∈ l, Ro W F (bytes v.x.a v.x.s)
theorem Wrs.mono {W w : World} {F F' : Nat → Prop} {a : Option Addr} {l : List Wr} (h : Wrs W F a l) (hw : ∀ r, Ro W F r → Ro w F' r) : Wrs w F' a l := ⟨hw _ h.row, fun x hx => hw _ (h.all x hx)⟩
theorem wr_seg {l : List Wr} {i : Nat} {v : Wr} (h : l[i]? = some v) : ((l.flatMap Wr.cells).drop (i * 2)).take 2 = v.cells := flatMap_seg (f := Wr.cells) (fun _ _ => rfl) h
theorem wr_len (l : List Wr) : (l.flatMap Wr.cells).length = l.length * 2 := flatMap_len (fun _ _ => rfl)
theorem wr_no {l : List Wr} {i : Nat} {v : Wr} (h : l[i]? = some v) : (l.flatMap Wr.cells)[i * 2]? = some (.int .i64 v.no) := by
  have := congrArg (·[0]?) (wr_seg h)
  simpa [List.getElem?_take, Wr.cells] using this
theorem wr_b {l : List Wr} {i : Nat} {v : Wr} (h : l[i]? = some v) : (l.flatMap Wr.cells)[i * 2 + 1]? = some (.slice v.x.a v.x.s.length v.x.c) := by
  have := congrArg (·[1]?) (wr_seg h)
  simpa [List.getElem?_take, Wr.cells] using this
theorem Rd.cellsX {w : World} {a : Option Addr} {cs seg : List Value} {i' i n : Nat} (H : Rd w (Cr.row a cs)) (hi : i' = i) (h : (cs.drop i).take n = seg) (hn : seg.length = n) : CellsN w (adr a i') n seg := by
  subst hi; subst h
  exact ⟨H.seg _ _, hn⟩
def sumTexts (number : Int) (l : List (Int × List UInt8)) : List (List UInt8) := [bigB number 8, bigB (l.length : Nat) 4] ++ l.flatMap fun v => [bigB v.1 4, v.2]
def sumB (rd fs : List Int) (number : Int) (l : List (Int × List UInt8)) : List UInt8 := digest rd fs (sumTexts number l)
theorem sumB_length (rd fs : List Int) (number : Int) (l : List (Int × List UInt8)) : (sumB rd fs number l).length = 32 := digest_length _ _ _
attribute [irreducible] sumB
theorem St.rdsPut {W : World} {F : Nat → Prop} {rs : List Res} {w : World} {b : Nat} {T : TypeId} {s : List UInt8} {l : List Bs} (k : Nat) (hS : St W F (pts b (.cells (bv s).toArray T) :: rds l :: rs) w) : St W F (rds (l ++ [⟨some ⟨b, 0, none⟩, k, s⟩]) :: rs) w :=
  St.rdsCons (x := ⟨some ⟨b, 0, none⟩, k, s⟩) (hS.head fun h hh => row_pts h hh)
theorem wsum_ (number : Int) (a : Option Addr) (c : Nat) (l : List Wr) (rd fs : List Int) (W : World) (hG : Gl W noF rd fs) (hW : Wrs W noF a l) (hl : l.length ≤ 1048576) (hn : (framed (sumTexts number (l.map Wr.data))).length < 1152921504606846976) :
    Calls Tryz.prog 52 #[.int .i64 number, .slice a l.length c] W (Ret fun v w => v = .agg (bv (sumB rd fs number (l.map Wr.data))).toArray ∧ St W noF [] w) := by
  have hS := St.start W
  refine calls_C Tryz.func52 rfl Tryz.ntmps52 rfl ?_
  repeat (first | (refine G_id ?_; first | refine G_nil ?_ | refine G_plain rfl rfl ?_) | (refine X_id ?_; first | refine X_yl (Yl_move rfl rfl) rfl rfl ?_ | refine X_alloc rfl rfl rfl hS (fun _ _ hS _ => ?_)) | (refine C_id ?_; first | refine C_seq ?_ | refine C_region ?_) | (refine E_id ?_; first | refine E_code ?_))
  rename_i b4 _ _
  refine X_callg _ rfl rfl rfl rfl rfl (big_ number 8 _ (by omega)) ?_
  rintro _ w ⟨p1, rfl, hS'⟩
  replace hS := hS.plus hS'
  clear hS'
  repeat (first | (refine G_id ?_; first | refine G_plain rfl rfl ?_) | (refine X_id ?_; first | refine X_yl (Yl_move rfl rfl) rfl rfl ?_ | refine X_yl (Yl_len rfl rfl) rfl rfl ?_))
  refine X_callg _ rfl rfl rfl rfl rfl (big_ (l.length : Nat) 4 _ (by omega)) ?_
  rintro _ w ⟨p2, rfl, hS'⟩
  replace hS := hS.plus hS'
  clear hS'
  repeat (first | (refine G_id ?_; first | refine G_nil ?_ | refine G_plain rfl rfl ?_) | (refine X_id ?_; first | refine X_yl (Yl_move rfl rfl) rfl rfl ?_ | refine X_yl (Yl_assign rfl rfl) rfl rfl ?_ | refine X_yl (Yl_len rfl rfl) rfl rfl ?_ | refine X_buildSlice rfl rfl rfl rfl rfl rfl rfl rfl hS (fun _ _ hS _ => ?_)) | (refine C_id ?_; first | refine C_seq ?_ | refine C_region ?_ | refine C_block ?_) | (refine E_id ?_; first | refine E_code ?_))
  rename_i b5 w5 _
  refine C_loop (α := Nat × Option Addr × Nat × List Bs × List Bs) (fun z => [(4, .pointer (some ⟨b4, 0, none⟩)), (5, .slice z.2.1 z.2.2.2.1.length z.2.2.1), (14, .slice a l.length c), (15, .int .i64 (l.length : Nat)), (16, .int .i64 (z.1 : Nat))])
    (fun z w => z.1 ≤ l.length ∧ texts z.2.2.2.1 = [bigB number 8, bigB (l.length : Nat) 4] ++ (l.take z.1).flatMap (fun v => [bigB v.no 4, v.x.s]) ∧ z.2.2.2.1.length = 2 + 2 * z.1 ∧ z.2.2.2.1.length ≤ z.2.2.1 ∧ (∀ x ∈ z.2.2.2.1, x ∈ z.2.2.2.2 ∨ ∃ v ∈ l, x = v.x) ∧
      St W noF [own 22 1 z.2.1 z.2.2.1 (z.2.2.2.1.map Bs.val), rds z.2.2.2.2, pts b4 (.cells (List.replicate 32 (.int .u8 0)).toArray 105)] w) (fun z => l.length - z.1)
    (0, some ⟨b5, 0, none⟩, 2, [⟨some ⟨p1, 0, none⟩, 8, bigB number 8⟩, ⟨some ⟨p2, 0, none⟩, 4, bigB (l.length : Nat) 4⟩], [⟨some ⟨p2, 0, none⟩, 4, bigB (l.length : Nat) 4⟩, ⟨some ⟨p1, 0, none⟩, 8, bigB number 8⟩])
    ⟨rfl, rfl, rfl, rfl, rfl, trivial⟩ ⟨Nat.zero_le _, rfl, rfl, Nat.le_refl _, by simp, ?_⟩ ?_
  · replace hS := hS.rdsNil
    have hS := hS.pick [2, 0, 1, 0, 0]
    replace hS := hS.rdsPut 4
    have hS := hS.pick [1, 0, 0, 0]
    replace hS := hS.rdsPut 8
    have hS := hS.pick [1, 0, 0]
    simpa [Bs.val, bigB_length] using hS
  clear hS
  rintro ⟨i, a5, c5, L, O⟩ w ⟨hi, hT, hL, hLc, hO, hS⟩
  simp only at hi hT hL hLc hO hS ⊢
  by_cases hlt : i < l.length
  · have hx0 : l[i]? = some l[i] := List.getElem?_eq_getElem hlt
    generalize l[i] = v at hx0
    have hr := hW.row
    have hxs : ((l.flatMap Wr.cells).drop (i * 2)).take 2 = [.int .i64 v.no, .slice v.x.a v.x.s.length v.x.c] := wr_seg hx0
    obtain ⟨ab, ao, rfl⟩ := (hW.row.rd hS).base (by intro e; rw [e] at hxs; simp at hxs)
    repeat (first | (refine G_id ?_; first | refine G_nil ?_ | refine G_plain rfl rfl ?_) | (refine X_id ?_; first | refine X_yl (Yl_lss_t rfl rfl rfl (by omega)) rfl rfl ?_ | refine X_yl (Yl_indexAddr rfl rfl rfl (by omega) (by omega) (by first | assumption | exact ⟨_, _, rfl⟩)) rfl rfl ?_ | refine X_yl (Yl_loadN rfl rfl ((hr.rd hS).cellsX (by omega) hxs rfl)) rfl rfl ?_ | refine X_store rfl rfl rfl rfl hS (fun _ hS _ => ?_) | refine X_alloc rfl rfl rfl hS (fun _ _ hS _ => ?_)) | (refine C_id ?_; first | refine C_seq ?_ | refine C_region ?_ | refine C_block ?_ | refine C_skip ?_ | refine C_cond_t rfl ?_) | (refine E_id ?_; first | refine E_code ?_))
    refine C_ord (.s 0 (.s 1 (.s 2 (.s 4 (.s 5 (.h 3 (.h 6 (.h 7 (.s 8 .nil) .no) .no) .no)))))) mixed (by kernel_rfl) rfl ?_
    have hS := hS.drew
    repeat (first | (refine GO_id ?_; first | refine GO_pure rfl rfl (fun _ => Yl_move rfl rfl) rfl rfl ?_ | refine GO_pure rfl rfl (fun _ => Yl_fieldAddr0 rfl rfl rfl) rfl rfl ?_ | refine GO_read (fun w' => w'.cell? _ = some _) rfl rfl hS.cell (fun _ hc => Yl_load rfl rfl hc) rfl rfl ?_ | refine GO_hard rfl rfl ?_))
    refine X_callg _ rfl rfl rfl rfl rfl (big_ v.no 4 _ (by omega)) ?_
    rintro _ w ⟨p, rfl, hS'⟩
    replace hS := hS.plus hS'
    clear hS'
    repeat (first | (refine X_id ?_; first | refine X_buildSlice rfl rfl rfl rfl rfl rfl rfl rfl hS (fun _ _ hS _ => ?_)) | (refine GO_id ?_; first | refine GO_hard rfl rfl ?_) | (refine Keep_id ?_; first | refine And.intro (by repeat (first | exact trivial | refine And.intro (.inl (by decide +kernel)) ?_ | refine And.intro (.inr (by first | assumption | exact hS.cell | exact cell_at (by assumption) | exact hS.cellI (by omega) | exact hS.cellIP (by omega) | exact hS.cellsN | exact ((hr.rd hS).cellX (by omega) hx) | exact ((hr2.rd hS).cellX (by omega) hx2) | exact hS.cellB (by omega) | exact hS.cellBA (by omega) | exact (hb.rd hS).cellB' (by omega) | exact (hb2.rd hS).cellB' (by omega) | exact (hg.rd hS).cellI (by omega) | exact (hg2.rd hS).cellI (by omega) | exact ((hr.rd hS).cellF (by first | omega | (dsimp only; omega)) hx) | exact ((hr2.rd hS).cellF (by first | omega | (dsimp only; omega)) hx2) | exact hS.cellIA (by omega) | exact (hg.rd hS).cellIA (by omega) | exact (hg2.rd hS).cellIA (by omega))) ?_)) ?_))
    refine X_append rfl rfl rfl rfl rfl hS (by simp) hLc (hS.rd (List.mem_cons_self ..)).own_row rfl (fun u hu => by
      simp only [List.mem_cons, List.not_mem_nil, or_false] at hu
      rcases hu with rfl | rfl <;> rfl) (by omega) (by simp only [maxLen]; omega) (fun a' c' w hS hc' hnil => ?_)
    repeat (first | (refine G_id ?_; first | refine G_nil ?_ | refine G_plain rfl rfl ?_) | (refine X_id ?_; first | refine X_yl (Yl_move rfl rfl) rfl rfl ?_ | refine X_yl (Yl_add rfl rfl rfl (w64 (by omega) (by omega))) rfl rfl ?_) | (refine C_id ?_; first | refine C_region ?_) | (refine E_id ?_; first | refine E_code ?_ | refine E_blk_n ?_) | (refine GO_id ?_; first | refine GO_nil ?_ | refine GO_pure rfl rfl (fun _ => Yl_assign rfl rfl) rfl rfl ?_) | (refine Keep_id ?_; first | refine And.intro (by repeat (first | exact trivial | refine And.intro (.inl (by decide +kernel)) ?_ | refine And.intro (.inr (by first | assumption | exact hS.cell | exact cell_at (by assumption) | exact hS.cellI (by omega) | exact hS.cellIP (by omega) | exact hS.cellsN | exact ((hr.rd hS).cellX (by omega) hx) | exact ((hr2.rd hS).cellX (by omega) hx2) | exact hS.cellB (by omega) | exact hS.cellBA (by omega) | exact (hb.rd hS).cellB' (by omega) | exact (hb2.rd hS).cellB' (by omega) | exact (hg.rd hS).cellI (by omega) | exact (hg2.rd hS).cellI (by omega) | exact ((hr.rd hS).cellF (by first | omega | (dsimp only; omega)) hx) | exact ((hr2.rd hS).cellF (by first | omega | (dsimp only; omega)) hx2) | exact hS.cellIA (by omega) | exact (hg.rd hS).cellIA (by omega) | exact (hg2.rd hS).cellIA (by omega))) ?_)) ?_))
    refine E_round (z := (i, a5, c5, L, O)) (i + 1, a', c', L ++ [(⟨some ⟨p, 0, none⟩, 4, bigB v.no 4⟩ : Bs), v.x], O ++ [(⟨some ⟨p, 0, none⟩, 4, bigB v.no 4⟩ : Bs)]) ⟨rfl, ?_, rfl, rfl, rfl, trivial⟩ ⟨by simp only; omega, ?_, by simp; omega, by simp; omega, ?_, ?_⟩ (by simp only; omega)
    · show some _ = some _
      simp
    · have hi : i < l.length := hlt
      rw [List.take_succ_eq_append_getElem hi]
      have hv : l[i] = v := by
        have := List.getElem?_eq_getElem hi
        rw [hx0] at this
        exact (Option.some.inj this).symm
      rw [hv]
      simp only [texts, List.map_append, List.flatMap_append, List.flatMap_cons, List.flatMap_nil, List.map_cons, List.map_nil] at hT ⊢
      rw [hT]
      simp
    · intro x hx
      simp only [List.mem_append, List.mem_cons, List.not_mem_nil, or_false] at hx ⊢
      rcases hx with hx | rfl | rfl
      · rcases hO x hx with h | h
        · exact .inl (.inl h)
        · exact .inr h
      · exact .inl (.inr rfl)
      · exact .inr ⟨v, List.mem_of_getElem? hx0, rfl⟩
    · skip
      have hS := hS.pick [2, 3, 0, 2]
      replace hS := hS.rdsPut 4
      have hS := hS.pick [1, 0, 0]
      simpa [Bs.val, bigB_length] using hS
  · obtain rfl : i = l.length := by omega
    repeat (first | (refine G_id ?_; first | refine G_nil ?_ | refine G_plain rfl rfl ?_) | (refine X_id ?_; first | refine X_yl (Yl_move rfl rfl) rfl rfl ?_ | refine X_yl (Yl_lss_f rfl rfl rfl (by omega)) rfl rfl ?_) | (refine C_id ?_; first | refine C_seq ?_ | refine C_region ?_ | refine C_exit ?_ | refine C_cond_f rfl ?_) | (refine E_id ?_; first | refine E_code ?_ | refine E_then_exit ?_ | refine E_blk_same ?_))
    have hB := Bss.ofRd (w := w) (a := a5) (l := L) ((hS.rd (List.mem_cons_self ..)).own_row) (fun x hx => by
      rcases hO x hx with h | ⟨v, hv, rfl⟩
      · have h1 : Ro w noF (rds O) := (hS.rd (by simp)).ro
        exact (h1.rds x h).start
      · exact (hW.all v hv).rd hS)
    have hTT : texts L = sumTexts number (l.map Wr.data) := by
      rw [hT, List.take_length]
      simp [sumTexts, Wr.data, List.flatMap_map]
    have hl32 : LenO (bv (digest rd fs (texts L))) 32 := ⟨by rw [bv_length]; exact digest_length _ _ _⟩
    refine X_callq _ rfl rfl rfl rfl rfl hS (framed_ _ c5 L rd fs _ (by rw [hTT]; exact hn) (by omega) (hG.mono fun r hr => (hr.rd hS).ro) hB) ?_
    rintro _ w rfl hS
    clear hB
    repeat (first | (refine G_id ?_; first | refine G_nil ?_ | refine G_plain rfl rfl ?_) | (refine X_id ?_; first | refine X_store rfl rfl rfl rfl hS (fun _ hS _ => ?_)) | (refine C_id ?_; first | refine C_ret ?_) | (refine E_id ?_; first | refine E_code ?_ | refine E_ret1 rfl (by first | exact Rv_tmp rfl | exact Rv_cell rfl (run_load1 hS.cell) | exact Rv_cell rfl (run_loadN hS.cellsN)) (Ret.mk ?_)))
    refine ⟨?_, hS.drops⟩
    rw [hTT]
    unfold sumB
    rfl
end Cr
namespace Cr
open Go Go.MapKept
set_option maxRecDepth 10000
/-- Keys of one kind. -/
class Key (d : TypeDesc) {α : Type} [DecidableEq α] (mk : α → Value) : Prop where
  same : ∀ a b, Instr.sameNow d (mk a) (mk b) = some (decide (a = b))
  isKey : ∀ a, IsKey d (mk a)
  bits : ∀ a n, Instr.sameBits n (mk a) (mk a) = true
instance : Key (.int .i64) (Value.int .i64) := ⟨fun a b => by
  have : (a == b) = decide (a = b) := by by_cases h : a = b <;> simp [h]
  simp [Instr.sameNow, this], fun a => by simp [IsKey], fun a n => by cases n <;> simp [Instr.sameBits]⟩
/-- What a map holds: keys with their values, in the order in which they came. -/
def mapr {α : Type} (mk : α → Value) (r : Nat) (L : List (α × Value)) : Res := fun h => ∃ (es : Array MapEntry) (clock : Nat), es.toList.map (fun e => (e.key, e.val)) = L.map (fun x => (mk x.1, x.2)) ∧ pts r (.map es clock) h
section
variable {α : Type} [DecidableEq α]
def getM (k : α) : List (α × Value) → Option Value
  | [] => none
  | x :: l => if k = x.1 then some x.2 else getM k l
def setM (k : α) (v : Value) : List (α × Value) → List (α × Value)
  | [] => [(k, v)]
  | x :: l => if k = x.1 then (k, v) :: l else x :: setM k v l
theorem findNow_get {d : TypeDesc} {mk : α → Value} [hk : Key d mk] (k : α) : ∀ (L : List (α × Value)) (es : List MapEntry) (i : Nat), es.map (fun e => (e.key, e.val)) = L.map (fun x => (mk x.1, x.2)) →
    ∃ r, Instr.findNow d (mk k) es i = some r ∧ r.map (·.2) = getM k L ∧ (∀ p, r = some p → i ≤ p.1 ∧ ∃ e, es[p.1 - i]? = some e ∧ e.key = mk k ∧ (es.modify (p.1 - i) fun e => { e with key := mk k, val := p.2 }).map (fun e => (e.key, e.val)) = L.map (fun x => (mk x.1, x.2)))
  | [], [], i, _ => ⟨none, rfl, rfl, fun p h => by cases h⟩
  | [], _ :: _, _, h => by simp at h
  | _ :: _, [], _, h => by simp at h
  | x :: L, e :: es, i, h => by
    simp only [List.map_cons, List.cons.injEq, Prod.mk.injEq] at h
    obtain ⟨⟨h1, h2⟩, h3⟩ := h
    unfold Instr.findNow getM
    rw [h1, hk.same]
    by_cases hkx : k = x.1
    · subst hkx
      refine ⟨some (i, e.val), by simp, by simp [h2], fun p hp => ?_⟩
      cases hp
      exact ⟨Nat.le_refl _, e, by simp, h1, by simp [h2, h3]⟩
    · obtain ⟨r, g1, g2, g3⟩ := findNow_get (d := d) k L es (i + 1) h3
      refine ⟨r, by simp [hkx, g1], by rw [g2, if_neg hkx], fun p hp => ?_⟩
      obtain ⟨h4, e', h5, h6, h7⟩ := g3 p hp
      have e1 : p.1 - i = (p.1 - (i + 1)) + 1 := by omega
      refine ⟨by omega, e', by rw [e1]; simpa using h5, h6, ?_⟩
      rw [e1, List.modify_succ_cons, List.map_cons, h7, h1, h2]
      rfl
variable {P : Program} {o : Oper} {σ : Env} {w : World} {x y : Operand} {t kt et : TypeId} {N : Nat} {ds : Md} {K : Env → World → Prop} {mk : α → Value} {dd : TypeDesc}
theorem X_makeMap {β : Type} {d : Nat} {W : World} {F : Nat → Prop} {rs : List Res} (mk : β → Value) (ho : o.op = .makeMap t none) (hd : o.dst = some d) (hN : Nat.blt d N = true) (hS : St W F rs w)
    (hk : ∀ r w', St W F (mapr mk r [] :: rs) w' → K ((d, .map (some r)) :: σ) w') : X P o N ds σ w K := ⟨fun f ha K' Q' hK => by
  unfold Oper.wp
  have hexec : (execOp f.eval o).run P w = .ok (.value (.map (some w.heap.size))) (w.alloc (.map #[] 0)) := by
    have : (Instr.makeMap t none).run P w = .ok (.map (some w.heap.size)) (w.alloc (.map #[] 0)) := rfl
    simp [execOp, ho, this]
  rw [hexec]
  have := hK _ _ _ (ha.put (lt_of_blt hN) (.map (some w.heap.size))) (hk w.heap.size _ ((hS.alloc (.map #[] 0)).head fun h hh => ⟨#[], 0, by simp, hh⟩))
  rw [← hd] at this
  exact this⟩
theorem Yl_lookup {r : Nat} {L : List (α × Value)} {k : α} {z : Value} {n m : Nat} (ho : o.op = .lookup t x y false) (hx : ev σ x = some (.map (some r))) (hy : ev σ y = some (mk k)) [hu : Und P t (.map kt et)] [hkt : Und P kt dd] [hK : Key dd mk] [hi : Inf P et z n m]
    (hr : Rd w (mapr mk r L)) : Yl P o σ w ((getM k L).getD z) := ⟨fun N ds f ha => by
  obtain ⟨h, ⟨es, clock, hes, rfl⟩, hag⟩ := hr
  have hb : w.heap[r]? = some (.map es clock) := hag r _ (single_self _ _)
  obtain ⟨q, g1, g2, _⟩ := findNow_get (hk := hK) k L es.toList 0 hes
  obtain ⟨i, hi', hz', _⟩ := info_parts hi.inf
  have hc := run_checkKey (P := P) (w := w) hkt.und (hK.isKey k) es.isEmpty 9999
  have hf := run_findKey (P := P) (w := w) hkt.und g1
  have hg : (getObj r).run P w = .ok (.map es clock) w := by simp [getObj, Sem.run, hb]
  simp only [execOp, ho, ha.eval hx, ha.eval hy, Instr.lookup, Sem.run_bind, run_underlying hu.und, hg, hc, hf, Result.andThen_ok, Sem.run_pure]
  rw [← g2]
  cases q <;> simp [zeroValue, typeInfo, hi', hz']⟩
theorem setM_none {k : α} {v : Value} : ∀ {L : List (α × Value)}, getM k L = none → setM k v L = L ++ [(k, v)]
  | [], _ => rfl
  | x :: L, h => by
    unfold getM at h
    split at h
    · cases h
    · rename_i hne
      simp [setM, hne, setM_none h]
theorem setM_some {k : α} {v : Value} : ∀ (L : List (α × Value)) (es : List MapEntry) (i : Nat), es.map (fun e => (e.key, e.val)) = L.map (fun x => (mk x.1, x.2)) → ∀ [Key dd mk] (j : Nat) (u : Value), Instr.findNow dd (mk k) es i = some (some (j, u)) →
    (es.modify (j - i) fun e => { e with key := mk k, val := v }).map (fun e => (e.key, e.val)) = (setM k v L).map (fun x => (mk x.1, x.2)) ∧ i ≤ j ∧ (es[j - i]?).map (·.key) = some (mk k)
  | [], [], i, _, _, j, u, h => by simp [Instr.findNow] at h
  | [], _ :: _, _, h, _, _, _, _ => by simp at h
  | _ :: _, [], _, h, _, _, _, _ => by simp at h
  | x :: L, e :: es, i, h, hK, j, u, hf => by
    simp only [List.map_cons, List.cons.injEq, Prod.mk.injEq] at h
    obtain ⟨⟨h1, h2⟩, h3⟩ := h
    unfold Instr.findNow at hf
    rw [h1, hK.same] at hf
    unfold setM
    by_cases hkx : k = x.1
    · subst hkx
      simp at hf
      obtain ⟨rfl, _⟩ := hf
      simp [h3, h1]
    · simp [hkx] at hf
      obtain ⟨g1, g2, g3⟩ := setM_some (v := v) L es (i + 1) h3 j u hf
      have e1 : j - i = (j - (i + 1)) + 1 := by omega
      refine ⟨?_, by omega, by rw [e1]; simpa using g3⟩
      rw [e1, List.modify_succ_cons, List.map_cons, g1, if_neg hkx, h1, h2]
      rfl
theorem X_mapUpdate {r : Nat} {L : List (α × Value)} {k : α} {v : Value} {W : World} {F : Nat → Prop} {rs : List Res} {z : Operand} (ho : o.op = .mapUpdate t x y z) (hx : ev σ x = some (.map (some r))) (hy : ev σ y = some (mk k)) (hz : ev σ z = some v) [hu : Und P t (.map kt et)] [hkt : Und P kt dd] [hK : Key dd mk]
    (hd : o.dst = none) (hS : St W F (mapr mk r L :: rs) w) (hk : ∀ w', St W F (mapr mk r (setM k v L) :: rs) w' → K σ w') : X P o N ds σ w K := ⟨fun f ha K' Q' hKK => by
  obtain ⟨h, ⟨h1, h2, ⟨es, clock, hes, hp⟩, hs, hdj, hun⟩, s⟩ := hS
  have hS2 : St W F (pts r (.map es clock) :: rs) w := ⟨h, ⟨h1, h2, hp, hs, hdj, hun⟩, s⟩
  have hb : w.heap[r]? = some (.map es clock) := hS2.get
  obtain ⟨q, g1, g2, _⟩ := findNow_get (hk := hK) k L es.toList 0 hes
  have hc := run_checkKey (P := P) (w := w) hkt.und (hK.isKey k) false 9999
  have hf := run_findKey (P := P) (w := w) hkt.und g1
  have hg : (getObj r).run P w = .ok (.map es clock) w := by simp [getObj, Sem.run, hb]
  have hset : ∀ o', (setObj r o').run P w = .ok () { w with heap := w.heap.setIfInBounds r o' } := fun o' => run_setObj_map o' hb
  unfold Oper.wp
  have key : ∃ es' clock', (execOp f.eval o).run P w = .ok .skip { w with heap := w.heap.setIfInBounds r (.map es' clock') } ∧ es'.toList.map (fun e => (e.key, e.val)) = (setM k v L).map (fun x => (mk x.1, x.2)) := by
    cases hq : q with
    | none =>
      subst hq
      refine ⟨es.push { key := mk k, val := v, born := clock }, clock + 1, ?_, ?_⟩
      · simp only [execOp, ho, ha.eval hx, ha.eval hy, ha.eval hz, Instr.mapUpdate, Sem.run_bind, run_underlying hu.und, hg, hc, hf, hset, Result.andThen_ok, Sem.run_pure]
      · rw [setM_none (by rw [← g2]; rfl)]
        simp [hes]
    | some p =>
      obtain ⟨j, u⟩ := p
      subst hq
      obtain ⟨g4, g5, g6⟩ := setM_some (v := v) L es.toList 0 hes j u g1
      simp only [Nat.sub_zero] at g4 g6
      have hek : ((es[j]?).map (·.key)).getD (mk k) = mk k := by
        rw [← Array.getElem?_toList, g6]; rfl
      refine ⟨es.modify j fun e => { e with key := mk k, val := v }, clock, ?_, ?_⟩
      · simp only [execOp, ho, ha.eval hx, ha.eval hy, ha.eval hz, Instr.mapUpdate, Sem.run_bind, run_underlying hu.und, hg, hc, hf, hset, Result.andThen_ok, Sem.run_pure, hek, Instr.keyThatStays, hK.bits, if_true]
      · simpa [Array.toList_modify] using g4
  obtain ⟨es', clock', hexec, hes'⟩ := key
  rw [hexec]
  have u := setBlock_put (o' := .map es' clock') hb
  refine hKK _ _ _ (?_ : Fr σ N ds _) (hk _ ((hS2.set u).head fun h hh => ⟨es', clock', hes', hh⟩))
  rw [hd]; exact ha⟩
end
end Cr
