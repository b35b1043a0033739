/-
  Layer 4 (wal): sum.
-/
import Derived.Test.YtobnnhlgdoddgaaDoorWal3
namespace Cr
open Go Go.Proofs
set_option maxRecDepth 100000
set_option maxHeartbeats 4000000
attribute [local irreducible] Calls

/-- A write in memory. -/
structure Wr where
  no : Int
  x : Bs
def Wr.cells (v : Wr) : List Value := [.int .i64 v.no, .slice v.x.a v.x.s.length v.x.c]
def Wr.data (v : Wr) : Int × List UInt8 := (v.no, v.x.s)
structure Wrs (W : World) (F : Nat → Prop) (a : Option Addr) (l : List Wr) : Prop where
  row : Ro W F (row a (l.flatMap Wr.cells))
  all : ∀ v ∈ l, Ro W F (bytes v.x.a v.x.s)
theorem Wrs.mono {W w : World} {F F' : Nat → Prop} {a : Option Addr} {l : List Wr} (h : Wrs W F a l) (hw : ∀ r, Ro W F r → Ro w F' r) : Wrs w F' a l := ⟨hw _ h.row, fun x hx => hw _ (h.all x hx)⟩
theorem wr_seg {l : List Wr} {i : Nat} {v : Wr} (h : l[i]? = some v) : ((l.flatMap Wr.cells).drop (i * 2)).take 2 = v.cells := flatMap_seg (f := Wr.cells) (fun _ _ => rfl) h
theorem Rd.cellsX {w : World} {a : Option Addr} {cs seg : List Value} {i' i n : Nat} (H : Rd w (Cr.row a cs)) (hi : i' = i) (h : (cs.drop i).take n = seg) (hn : seg.length = n) : CellsN w (adr a i') n seg := by
  subst hi; subst h
  exact ⟨H.seg _ _, hn⟩
def sumTexts (number : Int) (l : List (Int × List UInt8)) : List (List UInt8) := [bigB number 8, bigB (l.length : Nat) 4] ++ l.flatMap fun v => [bigB v.1 4, v.2]
def sumB (rd fs : List Int) (number : Int) (l : List (Int × List UInt8)) : List UInt8 := digest rd fs (sumTexts number l)
theorem sumB_length (rd fs : List Int) (number : Int) (l : List (Int × List UInt8)) : (sumB rd fs number l).length = 32 := digest_length _ _ _
attribute [irreducible] sumB
theorem St.rdsPut {W : World} {F : Nat → Prop} {rs : List Res} {w : World} {b : Nat} {T : TypeId} {s : List UInt8} {l : List Bs} (k : Nat) (hS : St W F (pts b (.cells (bv s).toArray T) :: rds l :: rs) w) : St W F (rds (l ++ [⟨some ⟨b, 0, none⟩, k, s⟩]) :: rs) w :=
  St.rdsCons (x := ⟨some ⟨b, 0, none⟩, k, s⟩) (hS.head fun h hh => row_pts h hh)
theorem wsum_ (number : Int) (a : Option Addr) (c : Nat) (l : List Wr) (rd fs : List Int) (W : World) (hG : Gl W noF rd fs) (hW : Wrs W noF a l) (hl : l.length ≤ 1048576) (hn : (framed (sumTexts number (l.map Wr.data))).length < 1152921504606846976) :
    Calls Tryd.prog 26 #[.int .i64 number, .slice a l.length c] W (Ret fun v w => v = .agg (bv (sumB rd fs number (l.map Wr.data))).toArray ∧ St W noF [] w) := by
  have hS := St.start W
  refine calls_C Tryd.func26 rfl Tryd.ntmps26 rfl ?_
  repeat (first | (refine G_id ?_; first | refine G_nil ?_ | refine G_plain rfl rfl ?_) | (refine X_id ?_; first | refine X_yl (Yl_move rfl rfl) rfl rfl ?_ | refine X_alloc rfl rfl rfl hS (fun _ _ hS _ => ?_)) | (refine C_id ?_; first | refine C_seq ?_ | refine C_region ?_) | (refine E_id ?_; first | refine E_code ?_))
  rename_i b4 _ _
  refine X_callg _ rfl rfl rfl rfl rfl (big_ number 8 _ (by omega)) ?_
  rintro _ w ⟨p1, rfl, hS'⟩
  replace hS := hS.plus hS'
  clear hS'
  repeat (first | (refine G_id ?_; first | refine G_plain rfl rfl ?_) | (refine X_id ?_; first | refine X_yl (Yl_move rfl rfl) rfl rfl ?_ | refine X_yl (Yl_len rfl rfl) rfl rfl ?_))
  refine X_callg _ rfl rfl rfl rfl rfl (big_ (l.length : Nat) 4 _ (by omega)) ?_
  rintro _ w ⟨p2, rfl, hS'⟩
  replace hS := hS.plus hS'
  clear hS'
  repeat (first | (refine G_id ?_; first | refine G_nil ?_ | refine G_plain rfl rfl ?_) | (refine X_id ?_; first | refine X_yl (Yl_move rfl rfl) rfl rfl ?_ | refine X_yl (Yl_assign rfl rfl) rfl rfl ?_ | refine X_yl (Yl_len rfl rfl) rfl rfl ?_ | refine X_buildSlice rfl rfl rfl rfl rfl rfl rfl rfl hS (fun _ _ hS _ => ?_)) | (refine C_id ?_; first | refine C_seq ?_ | refine C_region ?_ | refine C_block ?_) | (refine E_id ?_; first | refine E_code ?_))
  rename_i b5 w5 _
  refine C_loop (α := Nat × Option Addr × Nat × List Bs × List Bs) (fun z => [(4, .pointer (some ⟨b4, 0, none⟩)), (5, .slice z.2.1 z.2.2.2.1.length z.2.2.1), (14, .slice a l.length c), (15, .int .i64 (l.length : Nat)), (16, .int .i64 (z.1 : Nat))])
    (fun z w => z.1 ≤ l.length ∧ texts z.2.2.2.1 = [bigB number 8, bigB (l.length : Nat) 4] ++ (l.take z.1).flatMap (fun v => [bigB v.no 4, v.x.s]) ∧ z.2.2.2.1.length = 2 + 2 * z.1 ∧ z.2.2.2.1.length ≤ z.2.2.1 ∧ (∀ x ∈ z.2.2.2.1, x ∈ z.2.2.2.2 ∨ ∃ v ∈ l, x = v.x) ∧
      St W noF [own 36 1 z.2.1 z.2.2.1 (z.2.2.2.1.map Bs.val), rds z.2.2.2.2, pts b4 (.cells (List.replicate 32 (.int .u8 0)).toArray 78)] w) (fun z => l.length - z.1)
    (0, some ⟨b5, 0, none⟩, 2, [⟨some ⟨p1, 0, none⟩, 8, bigB number 8⟩, ⟨some ⟨p2, 0, none⟩, 4, bigB (l.length : Nat) 4⟩], [⟨some ⟨p2, 0, none⟩, 4, bigB (l.length : Nat) 4⟩, ⟨some ⟨p1, 0, none⟩, 8, bigB number 8⟩])
    ⟨rfl, rfl, rfl, rfl, rfl, trivial⟩ ⟨Nat.zero_le _, rfl, rfl, Nat.le_refl _, by simp, ?_⟩ ?_
  · replace hS := hS.rdsNil
    have hS := hS.pick [2, 0, 1, 0, 0]
    replace hS := hS.rdsPut 4
    have hS := hS.pick [1, 0, 0, 0]
    replace hS := hS.rdsPut 8
    have hS := hS.pick [1, 0, 0]
    simpa [Bs.val, bigB_length] using hS
  clear hS
  rintro ⟨i, a5, c5, L, O⟩ w ⟨hi, hT, hL, hLc, hO, hS⟩
  simp only at hi hT hL hLc hO hS ⊢
  by_cases hlt : i < l.length
  · have hx0 : l[i]? = some l[i] := List.getElem?_eq_getElem hlt
    generalize l[i] = v at hx0
    have hr := hW.row
    have hxs : ((l.flatMap Wr.cells).drop (i * 2)).take 2 = [.int .i64 v.no, .slice v.x.a v.x.s.length v.x.c] := wr_seg hx0
    obtain ⟨ab, ao, rfl⟩ := (hW.row.rd hS).base (by intro e; rw [e] at hxs; simp at hxs)
    repeat (first | (refine G_id ?_; first | refine G_nil ?_ | refine G_plain rfl rfl ?_) | (refine X_id ?_; first | refine X_yl (Yl_lss_t rfl rfl rfl (by omega)) rfl rfl ?_ | refine X_yl (Yl_indexAddr rfl rfl rfl (by omega) (by omega) (by first | assumption | exact ⟨_, _, rfl⟩)) rfl rfl ?_ | refine X_yl (Yl_loadN rfl rfl ((hr.rd hS).cellsX (by omega) hxs rfl)) rfl rfl ?_ | refine X_store rfl rfl rfl rfl hS (fun _ hS _ => ?_) | refine X_alloc rfl rfl rfl hS (fun _ _ hS _ => ?_)) | (refine C_id ?_; first | refine C_seq ?_ | refine C_region ?_ | refine C_block ?_ | refine C_skip ?_ | refine C_cond_t rfl ?_) | (refine E_id ?_; first | refine E_code ?_))
    refine C_ord [(0, true), (1, true), (2, true), (4, true), (5, true), (3, false), (6, false), (7, false), (8, true)] mixed (by kernel_rfl) rfl ?_
    have hS := hS.drew
    repeat (first | (refine GO_id ?_; first | refine GO_pure rfl rfl (fun _ => Yl_move rfl rfl) rfl rfl ?_ | refine GO_pure rfl rfl (fun _ => Yl_fieldAddr0 rfl rfl rfl) rfl rfl ?_ | refine GO_read (fun w' => w'.cell? _ = some _) rfl rfl hS.cell (fun _ hc => Yl_load rfl rfl hc) rfl rfl ?_ | refine GO_hard rfl rfl ?_))
    refine X_callg _ rfl rfl rfl rfl rfl (big_ v.no 4 _ (by omega)) ?_
    rintro _ w ⟨p, rfl, hS'⟩
    replace hS := hS.plus hS'
    clear hS'
    repeat (first | (refine X_id ?_; first | refine X_buildSlice rfl rfl rfl rfl rfl rfl rfl rfl hS (fun _ _ hS _ => ?_)) | (refine GO_id ?_; first | refine GO_hard rfl rfl ?_) | (refine Keep_id ?_; first | refine And.intro (by repeat (first | exact trivial | refine And.intro (.inl (by decide +kernel)) ?_ | refine And.intro (.inr (by first | assumption | exact hS.cell | exact cell_at (by assumption) | exact hS.cellI (by omega) | exact hS.cellIP (by omega) | exact hS.cellsN | exact ((hr.rd hS).cellX (by omega) hx) | exact ((hr2.rd hS).cellX (by omega) hx2) | exact hS.cellB (by omega) | exact hS.cellBA (by omega) | exact (hb.rd hS).cellB' (by omega) | exact (hb2.rd hS).cellB' (by omega) | exact (hg.rd hS).cellI (by omega) | exact (hg2.rd hS).cellI (by omega) | exact ((hr.rd hS).cellF (by first | omega | (dsimp only; omega)) hx) | exact ((hr2.rd hS).cellF (by first | omega | (dsimp only; omega)) hx2))) ?_)) ?_))
    refine X_append rfl rfl rfl rfl rfl hS (by simp) hLc (hS.rd (List.mem_cons_self ..)).own_row rfl (fun u hu => by
      simp only [List.mem_cons, List.not_mem_nil, or_false] at hu
      rcases hu with rfl | rfl <;> rfl) (by omega) (by simp only [maxLen]; omega) (fun a' c' w hS hc' hnil => ?_)
    repeat (first | (refine G_id ?_; first | refine G_nil ?_ | refine G_plain rfl rfl ?_) | (refine X_id ?_; first | refine X_yl (Yl_move rfl rfl) rfl rfl ?_ | refine X_yl (Yl_add rfl rfl rfl (w64 (by omega) (by omega))) rfl rfl ?_) | (refine C_id ?_; first | refine C_region ?_) | (refine E_id ?_; first | refine E_code ?_ | refine E_blk_n ?_) | (refine GO_id ?_; first | refine GO_nil ?_ | refine GO_pure rfl rfl (fun _ => Yl_assign rfl rfl) rfl rfl ?_) | (refine Keep_id ?_; first | refine And.intro (by repeat (first | exact trivial | refine And.intro (.inl (by decide +kernel)) ?_ | refine And.intro (.inr (by first | assumption | exact hS.cell | exact cell_at (by assumption) | exact hS.cellI (by omega) | exact hS.cellIP (by omega) | exact hS.cellsN | exact ((hr.rd hS).cellX (by omega) hx) | exact ((hr2.rd hS).cellX (by omega) hx2) | exact hS.cellB (by omega) | exact hS.cellBA (by omega) | exact (hb.rd hS).cellB' (by omega) | exact (hb2.rd hS).cellB' (by omega) | exact (hg.rd hS).cellI (by omega) | exact (hg2.rd hS).cellI (by omega) | exact ((hr.rd hS).cellF (by first | omega | (dsimp only; omega)) hx) | exact ((hr2.rd hS).cellF (by first | omega | (dsimp only; omega)) hx2))) ?_)) ?_))
    refine E_round (z := (i, a5, c5, L, O)) (i + 1, a', c', L ++ [(⟨some ⟨p, 0, none⟩, 4, bigB v.no 4⟩ : Bs), v.x], O ++ [(⟨some ⟨p, 0, none⟩, 4, bigB v.no 4⟩ : Bs)]) ⟨rfl, ?_, rfl, rfl, rfl, trivial⟩ ⟨by simp only; omega, ?_, by simp; omega, by simp; omega, ?_, ?_⟩ (by simp only; omega)
    · show some _ = some _
      simp
    · have hi : i < l.length := hlt
      rw [List.take_succ_eq_append_getElem hi]
      have hv : l[i] = v := by
        have := List.getElem?_eq_getElem hi
        rw [hx0] at this
        exact (Option.some.inj this).symm
      rw [hv]
      simp only [texts, List.map_append, List.flatMap_append, List.flatMap_cons, List.flatMap_nil, List.map_cons, List.map_nil] at hT ⊢
      rw [hT]
      simp
    · intro x hx
      simp only [List.mem_append, List.mem_cons, List.not_mem_nil, or_false] at hx ⊢
      rcases hx with hx | rfl | rfl
      · rcases hO x hx with h | h
        · exact .inl (.inl h)
        · exact .inr h
      · exact .inl (.inr rfl)
      · exact .inr ⟨v, List.mem_of_getElem? hx0, rfl⟩
    · skip
      have hS := hS.pick [2, 3, 0, 2]
      replace hS := hS.rdsPut 4
      have hS := hS.pick [1, 0, 0]
      simpa [Bs.val, bigB_length] using hS
  · obtain rfl : i = l.length := by omega
    repeat (first | (refine G_id ?_; first | refine G_nil ?_ | refine G_plain rfl rfl ?_) | (refine X_id ?_; first | refine X_yl (Yl_move rfl rfl) rfl rfl ?_ | refine X_yl (Yl_lss_f rfl rfl rfl (by omega)) rfl rfl ?_) | (refine C_id ?_; first | refine C_seq ?_ | refine C_region ?_ | refine C_exit ?_ | refine C_cond_f rfl ?_) | (refine E_id ?_; first | refine E_code ?_ | refine E_then_exit ?_ | refine E_blk_same ?_))
    have hB := Bss.ofRd (w := w) (a := a5) (l := L) ((hS.rd (List.mem_cons_self ..)).own_row) (fun x hx => by
      rcases hO x hx with h | ⟨v, hv, rfl⟩
      · have h1 : Ro w noF (rds O) := (hS.rd (by simp)).ro
        exact (h1.rds x h).start
      · exact (hW.all v hv).rd hS)
    have hTT : texts L = sumTexts number (l.map Wr.data) := by
      rw [hT, List.take_length]
      simp [sumTexts, Wr.data, List.flatMap_map]
    have hl32 : LenO (bv (digest rd fs (texts L))) 32 := ⟨by rw [bv_length]; exact digest_length _ _ _⟩
    refine X_callq _ rfl rfl rfl rfl rfl hS (framed_ _ c5 L rd fs _ (by rw [hTT]; exact hn) (by omega) (hG.mono fun r hr => (hr.rd hS).ro) hB) ?_
    rintro _ w rfl hS
    clear hB
    repeat (first | (refine G_id ?_; first | refine G_nil ?_ | refine G_plain rfl rfl ?_) | (refine X_id ?_; first | refine X_store rfl rfl rfl rfl hS (fun _ hS _ => ?_)) | (refine C_id ?_; first | refine C_ret ?_) | (refine E_id ?_; first | refine E_code ?_ | refine E_ret1 rfl (by first | exact Rv_tmp rfl | exact Rv_cell rfl (run_load1 hS.cell) | exact Rv_cell rfl (run_loadN hS.cellsN)) (Ret.mk ?_)))
    refine ⟨?_, hS.drops⟩
    rw [hTT]
    unfold sumB
    rfl
end Cr
