/-
  Layer 4 (wal): number, sum.
  Layer 4 (wal): sum.
  Layer 4 (wal): Check.
  Layer 4 (wal): a log in memory, what it tells; steps.
  Layer 4 (wal): lay.
-/
import Derived.Test.YtooeiknmpndcgaaGreatDoorTrl10
import Derived.Test.YtooeiknmpndcgaaGreatDoorTrl6
namespace Cr
open Go Go.Proofs
set_option maxRecDepth 100000
set_option maxHeartbeats 4000000
attribute [local irreducible] Calls

/-! ### number -/
def isFront (rd fs : List Int) (b : List UInt8) : Bool := decide (0 ≤ smallN (b.take 8)) && decide (smallN (b.take 8) ≤ 1152921504606846976) && decide (b = frontB rd fs (smallN (b.take 8)))
def headNum (rd fs : List Int) (b : List UInt8) : Int × Bool := if b = List.replicate 64 0 then (0, true) else (smallN (b.take 8), isFront rd fs b)
theorem number_ (a : Option Addr) (c : Nat) (b : List UInt8) (rd fs : List Int) (W : World) (hG : Gl W noF rd fs) (hb : Rd W (bytes a b)) (h64 : b.length = 64) (hc : 64 ≤ c) :
  Calls Tryz.prog 168 #[.slice a 64 c] W (Ret fun v w => v = .tuple #[.int .i64 (headNum rd fs b).1, .bool (headNum rd fs b).2] ∧ St W noF [] w) := by
 have hS := St.start W
 have hbo := hb.ro
 obtain ⟨ab, ao, rfl⟩ := hb.base (by intro e; have := bv_length b; rw [e] at this; simp at this; omega)
 have hb8 : Rd W (bytes (some ⟨ab, ao, none⟩) (b.take 8)) := by
  have := hb.subBytes (l := 0) (h := 8) (c := c) (by omega) (by omega)
  rw [sub_zero] at this
  simpa using this
 have h8 : (b.take 8).length = 8 := by simp [h64]
 have hsm := small_ (some ⟨ab, ao, none⟩) c (b.take 8) W hb8 (by omega)
 rw [h8] at hsm
 obtain ⟨n, hn⟩ : ∃ n, n = smallN (b.take 8) := ⟨_, rfl⟩
 rw [← hn] at hsm
 refine calls_C Tryz.func168 rfl Tryz.ntmps168 rfl ?_
 repeat (first | (refine G_id ?_; first | refine G_nil ?_ | refine G_plain rfl rfl ?_) | (refine X_id ?_; first | refine X_yl (Yl_move rfl rfl) rfl rfl ?_ | refine X_yl (Yl_assign rfl rfl) rfl rfl ?_) | (refine C_id ?_; first | refine C_seq ?_ | refine C_region ?_) | (refine E_id ?_; first | refine E_code ?_))
 refine X_yl (Yl_slice (l := 0) (h := 8) rfl rfl rfl rfl (.inr ⟨_, _, rfl, by omega, by omega, by omega⟩) (.inl ⟨rfl, rfl⟩)) rfl rfl ?_
 rw [sub_zero, Nat.sub_zero, Nat.sub_zero]
 repeat (first | (refine G_id ?_; first | refine G_nil ?_ | refine G_plain rfl rfl ?_) | (refine X_id ?_; first | (refine X_callg 199 rfl rfl rfl rfl rfl hsm ?_; rintro _ _ ⟨rfl, rfl⟩) | refine X_yl (Yl_move rfl rfl) rfl rfl ?_ | refine X_yl (Yl_assign rfl rfl) rfl rfl ?_ | refine X_yl (Yl_len rfl rfl) rfl rfl ?_ | refine X_makeB rfl rfl rfl (by omega) (by omega) rfl rfl hS (fun _ _ hS => ?_)) | (refine C_id ?_; first | refine C_seq ?_ | refine C_region ?_) | (refine E_id ?_; first | refine E_code ?_))
 refine X_callg _ rfl rfl rfl rfl rfl (equal_ _ _ _ _ _ _ b (List.replicate 64 0) _ (hbo.rd hS) ((hS.rd (List.mem_cons_self ..)).ptsB) h64 (by simp)) ?_
 rintro _ _ ⟨rfl, rfl⟩
 by_cases hz : b = List.replicate 64 0
 ·repeat (first | (refine G_id ?_; first | refine G_nil ?_ | refine G_plain rfl rfl ?_) | (refine X_id ?_; first | refine X_yl (Yl_assign rfl rfl) rfl rfl ?_) | (refine C_id ?_; first | refine C_seq ?_ | refine C_region ?_ | refine C_ret ?_ | refine C_cond_dt rfl (by first | assumption | omega) ?_) | (refine E_id ?_; first | refine E_code ?_ | refine E_then_ret ?_ | refine E_ret2 rfl (Rv_tmp rfl) (Rv_tmp rfl) (Ret.mk ?_)))
  exact ⟨by rw [headNum, if_pos hz], hS.drops⟩
 ·have e2 : headNum rd fs b = (n, isFront rd fs b) := by rw [headNum, if_neg hz, hn]
  by_cases h0 : 0 ≤ n
  ·by_cases h1 : n ≤ 1152921504606846976
   ·repeat (first | (refine G_id ?_; first | refine G_nil ?_ | refine G_plain rfl rfl ?_ | refine G_yes rfl rfl rfl rfl ?_) | (refine X_id ?_; first | refine X_yl (Yl_move rfl rfl) rfl rfl ?_ | refine X_yl (Yl_pick_t rfl rfl rfl) rfl rfl ?_ | refine X_yl (Yl_leq_t rfl rfl rfl (by omega)) rfl rfl ?_ | refine X_yl (Yl_geq_t rfl rfl rfl (by omega)) rfl rfl ?_) | (refine C_id ?_; first | refine C_seq ?_ | refine C_region ?_ | refine C_skip ?_ | refine C_cond_df rfl (by first | assumption | omega) ?_) | (refine E_id ?_; first | refine E_code ?_))
    refine X_callg _ rfl rfl rfl rfl rfl (front_ n rd fs _ (hG.mono fun r hr => (hr.rd hS).ro)) ?_
    rintro _ w ⟨p, k, rfl, hS'⟩
    replace hS := hS.plus hS'
    clear hS'
    repeat (first | (refine G_id ?_; first | refine G_yes rfl rfl rfl rfl ?_))
    refine X_callg _ rfl rfl rfl rfl rfl (equal_ _ _ _ _ _ _ b (frontB rd fs n) _ (hbo.rd hS) (hS.rd (List.mem_cons_self ..)) h64 (frontB_length ..)) ?_
    rintro _ _ ⟨rfl, rfl⟩
    repeat (first | (refine G_id ?_; first | refine G_nil ?_ | refine G_plain rfl rfl ?_) | (refine X_id ?_; first | refine X_yl (Yl_assign rfl rfl) rfl rfl ?_ | refine X_yl (Yl_pick_t rfl rfl rfl) rfl rfl ?_) | (refine C_id ?_; first | refine C_ret ?_) | (refine E_id ?_; first | refine E_code ?_ | refine E_ret2 rfl (Rv_tmp rfl) (Rv_tmp rfl) (Ret.mk ?_)))
    refine ⟨?_, hS.drops⟩
    rw [e2]
    simp [isFront, ← hn, h0, h1]
   ·repeat (first | (refine G_id ?_; first | refine G_nil ?_ | refine G_plain rfl rfl ?_ | refine G_yes rfl rfl rfl rfl ?_ | refine G_no rfl rfl rfl rfl rfl rfl ?_) | (refine X_id ?_; first | refine X_yl (Yl_move rfl rfl) rfl rfl ?_ | refine X_yl (Yl_assign rfl rfl) rfl rfl ?_ | refine X_yl (Yl_pick_t rfl rfl rfl) rfl rfl ?_ | refine X_yl (Yl_pick_f rfl rfl rfl) rfl rfl ?_ | refine X_yl (Yl_leq_f rfl rfl rfl (by omega)) rfl rfl ?_ | refine X_yl (Yl_geq_t rfl rfl rfl (by omega)) rfl rfl ?_) | (refine C_id ?_; first | refine C_seq ?_ | refine C_region ?_ | refine C_ret ?_ | refine C_skip ?_ | refine C_cond_df rfl (by first | assumption | omega) ?_) | (refine E_id ?_; first | refine E_code ?_ | refine E_ret2 rfl (Rv_tmp rfl) (Rv_tmp rfl) (Ret.mk ?_)))
    refine ⟨?_, hS.drops⟩
    rw [e2]
    simp [isFront, ← hn, h1]
  ·repeat (first | (refine G_id ?_; first | refine G_nil ?_ | refine G_plain rfl rfl ?_ | refine G_no rfl rfl rfl rfl rfl rfl ?_) | (refine X_id ?_; first | refine X_yl (Yl_move rfl rfl) rfl rfl ?_ | refine X_yl (Yl_assign rfl rfl) rfl rfl ?_ | refine X_yl (Yl_pick_f rfl rfl rfl) rfl rfl ?_ | refine X_yl (Yl_geq_f rfl rfl rfl (by omega)) rfl rfl ?_) | (refine C_id ?_; first | refine C_seq ?_ | refine C_region ?_ | refine C_ret ?_ | refine C_skip ?_ | refine C_cond_df rfl (by first | assumption | omega) ?_) | (refine E_id ?_; first | refine E_code ?_ | refine E_ret2 rfl (Rv_tmp rfl) (Rv_tmp rfl) (Ret.mk ?_)))
   refine ⟨?_, hS.drops⟩
   rw [e2]
   simp [isFront, ← hn, h0]
end Cr
namespace Cr
open Go Go.Proofs
set_option maxRecDepth 100000
set_option maxHeartbeats 4000000
attribute [local irreducible] Calls

structure Wr where
 no : Int
 x : Bs
def Wr.cells (v : Wr) : List Value := [.int .i64 v.no, .slice v.x.a v.x.s.length v.x.c]
def Wr.data (v : Wr) : Int × List UInt8 := (v.no, v.x.s)
structure Wrs (W : World) (F : Nat → Prop) (a : Option Addr) (l : List Wr) : Prop where
 row : Ro W F (row a (l.flatMap Wr.cells))
 all : ∀ v ∈ l, Ro W F (bytes v.x.a v.x.s)
theorem Wrs.mono {W w : World} {F F' : Nat → Prop} {a : Option Addr} {l : List Wr} (h : Wrs W F a l) (hw : ∀ r, Ro W F r → Ro w F' r) : Wrs w F' a l := ⟨hw _ h.row, fun x hx => hw _ (h.all x hx)⟩
theorem wr_seg {l : List Wr} {i : Nat} {v : Wr} (h : l[i]? = some v) : ((l.flatMap Wr.cells).drop (i * 2)).take 2 = v.cells := flatMap_seg (f := Wr.cells) (fun _ _ => rfl) h
theorem wr_len (l : List Wr) : (l.flatMap Wr.cells).length = l.length * 2 := flatMap_len (fun _ _ => rfl)
def sumTexts (number : Int) (l : List (Int × List UInt8)) : List (List UInt8) := [bigB number 8, bigB (l.length : Nat) 4] ++ l.flatMap fun v => [bigB v.1 4, v.2]
def sumB (rd fs : List Int) (number : Int) (l : List (Int × List UInt8)) : List UInt8 := digest rd fs (sumTexts number l)
theorem sumB_length (rd fs : List Int) (number : Int) (l : List (Int × List UInt8)) : (sumB rd fs number l).length = 32 := digest_length _ _ _
attribute [irreducible] sumB
theorem St.rdsPut {W : World} {F : Nat → Prop} {rs : List Res} {w : World} {b : Nat} {T : TypeId} {s : List UInt8} {l : List Bs} (k : Nat) (hS : St W F (pts b (.cells (bv s).toArray T) :: rds l :: rs) w) : St W F (rds (l ++ [⟨some ⟨b, 0, none⟩, k, s⟩]) :: rs) w :=
 St.rdsCons (x := ⟨some ⟨b, 0, none⟩, k, s⟩) (hS.head fun h hh => row_pts h hh)
theorem wsum_ (number : Int) (a : Option Addr) (c : Nat) (l : List Wr) (rd fs : List Int) (W : World) (hG : Gl W noF rd fs) (hW : Wrs W noF a l) (hl : l.length ≤ 1048576) (hn : (framed (sumTexts number (l.map Wr.data))).length < 1152921504606846976) :
  Calls Tryz.prog 145 #[.int .i64 number, .slice a l.length c] W (Ret fun v w => v = .agg (bv (sumB rd fs number (l.map Wr.data))).toArray ∧ St W noF [] w) := by
 have hS := St.start W
 refine calls_C Tryz.func145 rfl Tryz.ntmps145 rfl ?_
 repeat (first | (refine G_id ?_; first | refine G_nil ?_ | refine G_plain rfl rfl ?_) | (refine X_id ?_; first | refine X_yl (Yl_move rfl rfl) rfl rfl ?_ | refine X_alloc rfl rfl rfl hS (fun _ _ hS _ => ?_)) | (refine C_id ?_; first | refine C_seq ?_ | refine C_region ?_) | (refine E_id ?_; first | refine E_code ?_))
 rename_i b4 _ _
 refine X_callg _ rfl rfl rfl rfl rfl (big_ number 8 _ (by omega)) ?_
 rintro _ w ⟨p1, rfl, hS'⟩
 replace hS := hS.plus hS'
 clear hS'
 repeat (first | (refine G_id ?_; first | refine G_plain rfl rfl ?_) | (refine X_id ?_; first | refine X_yl (Yl_move rfl rfl) rfl rfl ?_ | refine X_yl (Yl_len rfl rfl) rfl rfl ?_))
 refine X_callg _ rfl rfl rfl rfl rfl (big_ (l.length : Nat) 4 _ (by omega)) ?_
 rintro _ w ⟨p2, rfl, hS'⟩
 replace hS := hS.plus hS'
 clear hS'
 repeat (first | (refine G_id ?_; first | refine G_nil ?_ | refine G_plain rfl rfl ?_) | (refine X_id ?_; first | refine X_yl (Yl_move rfl rfl) rfl rfl ?_ | refine X_yl (Yl_assign rfl rfl) rfl rfl ?_ | refine X_yl (Yl_len rfl rfl) rfl rfl ?_ | refine X_buildSlice rfl rfl rfl rfl rfl rfl rfl rfl hS (fun _ _ hS _ => ?_)) | (refine C_id ?_; first | refine C_seq ?_ | refine C_region ?_ | refine C_block ?_) | (refine E_id ?_; first | refine E_code ?_))
 rename_i b5 w5 _
 refine C_loop (α := Nat × Option Addr × Nat × List Bs × List Bs) (fun z => [(4, .pointer (some ⟨b4, 0, none⟩)), (5, .slice z.2.1 z.2.2.2.1.length z.2.2.1), (14, .slice a l.length c), (15, .int .i64 (l.length : Nat)), (16, .int .i64 (z.1 : Nat))])
  (fun z w => z.1 ≤ l.length ∧ texts z.2.2.2.1 = [bigB number 8, bigB (l.length : Nat) 4] ++ (l.take z.1).flatMap (fun v => [bigB v.no 4, v.x.s]) ∧ z.2.2.2.1.length = 2 + 2 * z.1 ∧ z.2.2.2.1.length ≤ z.2.2.1 ∧ (∀ x ∈ z.2.2.2.1, x ∈ z.2.2.2.2 ∨ ∃ v ∈ l, x = v.x) ∧
   St W noF [own 26 1 z.2.1 z.2.2.1 (z.2.2.2.1.map Bs.val), rds z.2.2.2.2, pts b4 (.cells (List.replicate 32 (.int .u8 0)).toArray 252)] w) (fun z => l.length - z.1)
  (0, some ⟨b5, 0, none⟩, 2, [⟨some ⟨p1, 0, none⟩, 8, bigB number 8⟩, ⟨some ⟨p2, 0, none⟩, 4, bigB (l.length : Nat) 4⟩], [⟨some ⟨p2, 0, none⟩, 4, bigB (l.length : Nat) 4⟩, ⟨some ⟨p1, 0, none⟩, 8, bigB number 8⟩])
  ⟨rfl, rfl, rfl, rfl, rfl, trivial⟩ ⟨Nat.zero_le _, rfl, rfl, Nat.le_refl _, by simp, ?_⟩ ?_
 ·replace hS := hS.rdsNil
  have hS := hS.pick [2, 0, 1, 0, 0]
  replace hS := hS.rdsPut 4
  have hS := hS.pick [1, 0, 0, 0]
  replace hS := hS.rdsPut 8
  have hS := hS.pick [1, 0, 0]
  simpa [Bs.val, bigB_length] using hS
 clear hS
 rintro ⟨i, a5, c5, L, O⟩ w ⟨hi, hT, hL, hLc, hO, hS⟩
 simp only at hi hT hL hLc hO hS ⊢
 by_cases hlt : i < l.length
 ·have hx0 : l[i]? = some l[i] := List.getElem?_eq_getElem hlt
  generalize l[i] = v at hx0
  have hr := hW.row
  have hxs : ((l.flatMap Wr.cells).drop (i * 2)).take 2 = [.int .i64 v.no, .slice v.x.a v.x.s.length v.x.c] := wr_seg hx0
  obtain ⟨ab, ao, rfl⟩ := (hW.row.rd hS).base (by intro e; rw [e] at hxs; simp at hxs)
  repeat (first | (refine G_id ?_; first | refine G_nil ?_ | refine G_plain rfl rfl ?_) | (refine X_id ?_; first | refine X_yl (Yl_lss_t rfl rfl rfl (by omega)) rfl rfl ?_ | refine X_yl (Yl_indexAddr rfl rfl rfl (by omega) (by omega) (by first | assumption | exact ⟨_, _, rfl⟩)) rfl rfl ?_ | refine X_yl (Yl_loadN rfl rfl ((hr.rd hS).cellsX (by omega) hxs rfl)) rfl rfl ?_ | refine X_store rfl rfl rfl rfl hS (fun _ hS _ => ?_) | refine X_alloc rfl rfl rfl hS (fun _ _ hS _ => ?_)) | (refine C_id ?_; first | refine C_seq ?_ | refine C_region ?_ | refine C_block ?_ | refine C_skip ?_ | refine C_cond_t rfl ?_) | (refine E_id ?_; first | refine E_code ?_))
  refine C_ord (.s 0 (.s 1 (.s 2 (.s 4 (.s 5 (.h 3 (.h 6 (.h 7 (.s 8 .nil) .no) .no) .no)))))) mixed (by kernel_rfl) rfl ?_
  have hS := hS.drew
  repeat (first | (refine GO_id ?_; first | refine GO_pure rfl rfl (fun _ => Yl_move rfl rfl) rfl rfl ?_ | refine GO_pure rfl rfl (fun _ => Yl_fieldAddr0 rfl rfl rfl) rfl rfl ?_ | refine GO_read (fun w' => w'.cell? _ = some _) rfl rfl hS.cell (fun _ hc => Yl_load rfl rfl hc) rfl rfl ?_ | refine GO_hard rfl rfl ?_))
  refine X_callg _ rfl rfl rfl rfl rfl (big_ v.no 4 _ (by omega)) ?_
  rintro _ w ⟨p, rfl, hS'⟩
  replace hS := hS.plus hS'
  clear hS'
  repeat (first | (refine X_id ?_; first | refine X_buildSlice rfl rfl rfl rfl rfl rfl rfl rfl hS (fun _ _ hS _ => ?_)) | (refine GO_id ?_; first | refine GO_hard rfl rfl ?_) | (refine Keep_id ?_; first | refine And.intro (by repeat (first | exact trivial | refine And.intro (.inl (by decide +kernel)) ?_ | refine And.intro (.inr (by first | assumption | exact hS.cell | exact cell_at (by assumption) | exact hS.cellI (by omega) | exact hS.cellIP (by omega) | exact hS.cellsN | exact ((hr.rd hS).cellX (by omega) hx) | exact ((hr2.rd hS).cellX (by omega) hx2) | exact hS.cellB (by omega) | exact hS.cellBA (by omega) | exact (hb.rd hS).cellB' (by omega) | exact (hb2.rd hS).cellB' (by omega) | exact (hg.rd hS).cellI (by omega) | exact (hg2.rd hS).cellI (by omega) | exact ((hr.rd hS).cellF (by first | omega | (dsimp only; omega)) hx) | exact ((hr2.rd hS).cellF (by first | omega | (dsimp only; omega)) hx2) | exact hS.cellO 0 (by omega) | exact hS.cellO 1 (by omega) | exact hS.cellIA (by omega) | exact (hg.rd hS).cellIA (by omega) | exact (hg2.rd hS).cellIA (by omega) | exact cell_at (hc.rd hS).pts | exact hb.rd hS | exact (hr.rd hS).cellsF7 (by first | omega | (dsimp only; omega)) hst4 rfl | exact (hr2.rd hS).cellsF7 (by first | omega | (dsimp only; omega)) hst4 rfl | exact hS.cellO 4 (by omega) | exact hS.cellO 5 (by omega) | exact hS.cellO 6 (by omega) | exact hS.cellO 7 (by omega) | exact hS.cellO 8 (by omega) | exact hS.cellO 9 (by omega) | exact hS.cellO 10 (by omega) | exact hS.cellO 11 (by omega) | exact hS.cellO 12 (by omega) | exact hS.cellO 13 (by omega) | exact hS.cellO 2 (by omega) | exact hS.cellO 3 (by omega))) ?_)) ?_))
  refine X_append rfl rfl rfl rfl rfl hS (by simp) hLc (hS.rd (List.mem_cons_self ..)).own_row rfl (fun u hu => by
   simp only [List.mem_cons, List.not_mem_nil, or_false] at hu
   rcases hu with rfl | rfl <;> rfl) (by omega) (by simp only [maxLen]; omega) (fun a' c' w hS hc' hnil => ?_)
  repeat (first | (refine G_id ?_; first | refine G_nil ?_ | refine G_plain rfl rfl ?_) | (refine X_id ?_; first | refine X_yl (Yl_move rfl rfl) rfl rfl ?_ | refine X_yl (Yl_add rfl rfl rfl (w64 (by omega) (by omega))) rfl rfl ?_) | (refine C_id ?_; first | refine C_region ?_) | (refine E_id ?_; first | refine E_code ?_ | refine E_blk_n ?_) | (refine GO_id ?_; first | refine GO_nil ?_ | refine GO_pure rfl rfl (fun _ => Yl_assign rfl rfl) rfl rfl ?_) | (refine Keep_id ?_; first | refine And.intro (by repeat (first | exact trivial | refine And.intro (.inl (by decide +kernel)) ?_ | refine And.intro (.inr (by first | assumption | exact hS.cell | exact cell_at (by assumption) | exact hS.cellI (by omega) | exact hS.cellIP (by omega) | exact hS.cellsN | exact ((hr.rd hS).cellX (by omega) hx) | exact ((hr2.rd hS).cellX (by omega) hx2) | exact hS.cellB (by omega) | exact hS.cellBA (by omega) | exact (hb.rd hS).cellB' (by omega) | exact (hb2.rd hS).cellB' (by omega) | exact (hg.rd hS).cellI (by omega) | exact (hg2.rd hS).cellI (by omega) | exact ((hr.rd hS).cellF (by first | omega | (dsimp only; omega)) hx) | exact ((hr2.rd hS).cellF (by first | omega | (dsimp only; omega)) hx2) | exact hS.cellO 0 (by omega) | exact hS.cellO 1 (by omega) | exact hS.cellIA (by omega) | exact (hg.rd hS).cellIA (by omega) | exact (hg2.rd hS).cellIA (by omega) | exact cell_at (hc.rd hS).pts | exact hb.rd hS | exact (hr.rd hS).cellsF7 (by first | omega | (dsimp only; omega)) hst4 rfl | exact (hr2.rd hS).cellsF7 (by first | omega | (dsimp only; omega)) hst4 rfl | exact hS.cellO 4 (by omega) | exact hS.cellO 5 (by omega) | exact hS.cellO 6 (by omega) | exact hS.cellO 7 (by omega) | exact hS.cellO 8 (by omega) | exact hS.cellO 9 (by omega) | exact hS.cellO 10 (by omega) | exact hS.cellO 11 (by omega) | exact hS.cellO 12 (by omega) | exact hS.cellO 13 (by omega) | exact hS.cellO 2 (by omega) | exact hS.cellO 3 (by omega))) ?_)) ?_))
  refine E_round (z := (i, a5, c5, L, O)) (i + 1, a', c', L ++ [(⟨some ⟨p, 0, none⟩, 4, bigB v.no 4⟩ : Bs), v.x], O ++ [(⟨some ⟨p, 0, none⟩, 4, bigB v.no 4⟩ : Bs)]) ⟨rfl, ?_, rfl, rfl, rfl, trivial⟩ ⟨by simp only; omega, ?_, by simp; omega, by simp; omega, ?_, ?_⟩ (by simp only; omega)
  ·show some _ = some _
   simp
  ·have hi : i < l.length := hlt
   rw [List.take_succ_eq_append_getElem hi]
   have hv : l[i] = v := by
    have := List.getElem?_eq_getElem hi
    rw [hx0] at this
    exact (Option.some.inj this).symm
   rw [hv]
   simp only [texts, List.map_append, List.flatMap_append, List.flatMap_cons, List.flatMap_nil, List.map_cons, List.map_nil] at hT ⊢
   rw [hT]
   simp
  ·intro x hx
   simp only [List.mem_append, List.mem_cons, List.not_mem_nil, or_false] at hx ⊢
   rcases hx with hx | rfl | rfl
   ·rcases hO x hx with h | h
    ·exact .inl (.inl h)
    ·exact .inr h
   ·exact .inl (.inr rfl)
   ·exact .inr ⟨v, List.mem_of_getElem? hx0, rfl⟩
  ·skip
   have hS := hS.pick [2, 3, 0, 2]
   replace hS := hS.rdsPut 4
   have hS := hS.pick [1, 0, 0]
   simpa [Bs.val, bigB_length] using hS
 ·obtain rfl : i = l.length := by omega
  repeat (first | (refine G_id ?_; first | refine G_nil ?_ | refine G_plain rfl rfl ?_) | (refine X_id ?_; first | refine X_yl (Yl_move rfl rfl) rfl rfl ?_ | refine X_yl (Yl_lss_f rfl rfl rfl (by omega)) rfl rfl ?_) | (refine C_id ?_; first | refine C_seq ?_ | refine C_region ?_ | refine C_exit ?_ | refine C_cond_f rfl ?_) | (refine E_id ?_; first | refine E_code ?_ | refine E_then_exit ?_ | refine E_blk_same ?_))
  have hB := Bss.ofRd (w := w) (a := a5) (l := L) ((hS.rd (List.mem_cons_self ..)).own_row) (fun x hx => by
   rcases hO x hx with h | ⟨v, hv, rfl⟩
   ·have h1 : Ro w noF (rds O) := (hS.rd (by simp)).ro
    exact (h1.rds x h).start
   ·exact (hW.all v hv).rd hS)
  have hTT : texts L = sumTexts number (l.map Wr.data) := by
   rw [hT, List.take_length]
   simp [sumTexts, Wr.data, List.flatMap_map]
  have hl32 : LenO (bv (digest rd fs (texts L))) 32 := ⟨by rw [bv_length]; exact digest_length _ _ _⟩
  refine X_callq _ rfl rfl rfl rfl rfl hS (framed_ _ c5 L rd fs _ (by rw [hTT]; exact hn) (by omega) (hG.mono fun r hr => (hr.rd hS).ro) hB) ?_
  rintro _ w rfl hS
  clear hB
  repeat (first | (refine G_id ?_; first | refine G_nil ?_ | refine G_plain rfl rfl ?_) | (refine X_id ?_; first | refine X_store rfl rfl rfl rfl hS (fun _ hS _ => ?_)) | (refine C_id ?_; first | refine C_ret ?_) | (refine E_id ?_; first | refine E_code ?_ | refine E_ret1 rfl (by first | exact Rv_tmp rfl | exact Rv_cell rfl (run_load1 hS.cell) | exact Rv_cell rfl (run_loadN hS.cellsN)) (Ret.mk ?_)))
  refine ⟨?_, hS.drops⟩
  rw [hTT]
  unfold sumB
  rfl
end Cr
namespace Cr
open Go Go.Proofs
set_option maxRecDepth 100000
set_option maxHeartbeats 4000000
attribute [local irreducible] Calls

def badW (x : Int × List UInt8) : Bool := decide (x.1 < 0) || decide (¬ (x.2.length : Int) = 64)
def twiceTo (l : List (Int × List UInt8)) : Nat → Bool
 | 0 => false
 | i + 1 => twiceTo l i || decide ((l.getD i (0, [])).1 ∈ (l.take i).map (·.1))
def checkM (l : List (Int × List UInt8)) : Int := if l.any badW then 1 else if twiceTo l l.length then 8 else 0
def seenTo (l : List (Int × List UInt8)) : Nat → List (Int × Value)
 | 0 => []
 | i + 1 => setM (l.getD i (0, [])).1 (.bool true) (seenTo l i)
theorem getM_setM (k k' : Int) (v : Value) : ∀ L, getM k (setM k' v L) = if k = k' then some v else getM k L
 | [] => by by_cases h : k = k' <;> simp [setM, getM, h]
 | x :: L => by
  unfold setM
  by_cases h : k' = x.1
  ·subst h
   by_cases h2 : k = x.1 <;> simp [getM, h2]
  ·rw [if_neg h]
   unfold getM
   rw [getM_setM k k' v L]
   by_cases h1 : k = x.1
   ·have : ¬ k = k' := fun e => h (by rw [← e, h1])
    simp [h1, Ne.symm h]
   ·simp [h1]
theorem getM_seen (l : List (Int × List UInt8)) (k : Int) : ∀ i, i ≤ l.length → (getM k (seenTo l i)).getD (.bool false) = .bool (decide (k ∈ (l.take i).map (·.1)))
 | 0, _ => by simp [seenTo, getM]
 | i + 1, h => by
  have ih := getM_seen l k i (by omega)
  simp only [seenTo]
  rw [getM_setM, List.take_succ_eq_append_getElem (by omega)]
  have e : l.getD i (0, []) = l[i] := by simp [List.getD_eq_getElem?_getD, show i < l.length by omega]
  have e2 : (l.take i ++ [l[i]]).map (·.1) = (l.take i).map (·.1) ++ [l[i].1] := by rw [List.map_append]; rfl
  rw [e, e2]
  simp only [List.mem_append, List.mem_singleton]
  by_cases hk : k = l[i].1
  ·rw [if_pos hk, decide_eq_true (Or.inr hk)]; rfl
  ·rw [if_neg hk, ih]
   congr 1
   exact decide_eq_decide.2 ⟨Or.inl, fun h => h.resolve_right hk⟩
theorem check_ (a : Option Addr) (c : Nat) (l : List Wr) (W : World) (hW : Wrs W noF a l) (hl : l.length ≤ 1048576) (hx64 : ∀ v ∈ l, v.x.s.length ≤ 140737488355328) :
  Calls Tryz.prog 142 #[.slice a l.length c] W (Ret fun v w => v = .int .i64 (checkM (l.map Wr.data)) ∧ St W noF [] w) := by
 have hS := St.start W
 obtain ⟨d, hd⟩ : ∃ d, d = l.map Wr.data := ⟨_, rfl⟩
 rw [← hd]
 have hdl : d.length = l.length := by rw [hd]; simp
 refine calls_C Tryz.func142 rfl Tryz.ntmps142 rfl ?_
 repeat (first | (refine G_id ?_; first | refine G_nil ?_ | refine G_plain rfl rfl ?_) | (refine X_id ?_; first | refine X_yl (Yl_assign rfl rfl) rfl rfl ?_) | (refine C_id ?_; first | refine C_seq ?_ | refine C_region ?_) | (refine E_id ?_; first | refine E_code ?_))
 refine X_makeMap (Value.int .i64) rfl rfl rfl hS (fun r w hS => ?_)
 repeat (first | (refine G_id ?_; first | refine G_nil ?_ | refine G_plain rfl rfl ?_) | (refine X_id ?_; first | refine X_yl (Yl_move rfl rfl) rfl rfl ?_ | refine X_yl (Yl_assign rfl rfl) rfl rfl ?_ | refine X_yl (Yl_len rfl rfl) rfl rfl ?_) | (refine C_id ?_; first | refine C_seq ?_ | refine C_region ?_ | refine C_block ?_) | (refine E_id ?_; first | refine E_code ?_))
 refine C_loop (α := Nat) (fun i => [(3, .map (some r)), (4, .bool (twiceTo d i)), (8, .slice a l.length c), (9, .int .i64 (l.length : Nat)), (10, .int .i64 (i : Nat))])
  (fun i w => i ≤ l.length ∧ (∀ x ∈ d.take i, badW x = false) ∧ St W noF [mapr (Value.int .i64) r (seenTo d i)] w) (fun i => l.length - i) 0 ⟨rfl, rfl, rfl, rfl, rfl, trivial⟩ ⟨Nat.zero_le _, by simp, hS⟩ ?_
 clear hS
 rintro i w ⟨hi, hbad, hS⟩
 by_cases hlt : i < l.length
 ·have hx0 : l[i]? = some l[i] := List.getElem?_eq_getElem hlt
  generalize l[i] = v at hx0
  have hv64 := hx64 v (List.mem_of_getElem? hx0)
  have hdi : d[i]? = some v.data := by rw [hd]; simp [hx0]
  have hdg : d.getD i (0, []) = (v.no, v.x.s) := by rw [List.getD_eq_getElem?_getD, hdi]; rfl
  have hr := hW.row
  have hxs : ((l.flatMap Wr.cells).drop (i * 2)).take 2 = [.int .i64 v.no, .slice v.x.a v.x.s.length v.x.c] := wr_seg hx0
  obtain ⟨ab, ao, rfl⟩ := (hW.row.rd hS).base (by intro e; rw [e] at hxs; simp at hxs)
  have hbadr : badW v.data = true → checkM d = 1 := fun h => by
   unfold checkM
   rw [if_pos (List.any_eq_true.2 ⟨_, List.mem_of_getElem? hdi, h⟩)]
  by_cases hn : v.no < 0
  ·repeat (first | (refine G_id ?_; first | refine G_nil ?_ | refine G_plain rfl rfl ?_ | refine G_no rfl rfl rfl rfl rfl rfl ?_) | (refine X_id ?_; first | refine X_yl (Yl_move rfl rfl) rfl rfl ?_ | refine X_yl (Yl_assign rfl rfl) rfl rfl ?_ | refine X_yl (Yl_fieldAddr0 rfl rfl rfl) rfl rfl ?_ | refine X_yl (Yl_pick_t rfl rfl rfl) rfl rfl ?_ | refine X_yl (Yl_lss_t rfl rfl rfl (by omega)) rfl rfl ?_ | refine X_yl (Yl_indexAddr rfl rfl rfl (by omega) (by omega) (by first | assumption | exact ⟨_, _, rfl⟩)) rfl rfl ?_ | refine X_yl (Yl_load rfl rfl hS.cell) rfl rfl ?_ | refine X_yl (Yl_loadN rfl rfl ((hr.rd hS).cellsX (by omega) hxs rfl)) rfl rfl ?_ | refine X_store rfl rfl rfl rfl hS (fun _ hS _ => ?_) | refine X_alloc rfl rfl rfl hS (fun _ _ hS _ => ?_)) | (refine C_id ?_; first | refine C_seq ?_ | refine C_region ?_ | refine C_block ?_ | refine C_ret ?_ | refine C_skip ?_ | refine C_cond_t rfl ?_) | (refine E_id ?_; first | refine E_code ?_ | refine E_then_ret ?_ | refine E_blk_ret ?_ | refine E_ret1 rfl (Rv_tmp rfl) (Ret.mk ?_)))
   exact ⟨by rw [hbadr (by simp [badW, Wr.data, hn])], hS.drops⟩
  ·by_cases h64 : (v.x.s.length : Int) = 64
   ·have hgood : badW v.data = false := by unfold badW Wr.data; rw [decide_eq_false hn]; simp [h64]
    obtain ⟨b, hb⟩ : ∃ b, b = twiceTo d i := ⟨_, rfl⟩
    rw [← hb]
    have ht : twiceTo d (i + 1) = (b || decide (v.no ∈ (d.take i).map (·.1))) := by rw [twiceTo, hdg, ← hb]
    have hb1 : ∀ x ∈ d.take (i + 1), badW x = false := fun x hx => by
     have hid : i < d.length := by omega
     rw [List.take_succ_eq_append_getElem hid] at hx
     have hvd : d[i] = v.data := by
      have := List.getElem?_eq_getElem hid
      rw [hdi] at this
      exact (Option.some.inj this).symm
     rw [hvd] at hx
     rcases List.mem_append.1 hx with h | h
     ·exact hbad x h
     ·rw [List.mem_singleton.1 h]; exact hgood
    cases b
    ·repeat (first | (refine G_id ?_; first | refine G_nil ?_ | refine G_plain rfl rfl ?_ | refine G_yes rfl rfl rfl rfl ?_) | (refine X_id ?_; first | refine X_yl (Yl_move rfl rfl) rfl rfl ?_ | refine X_yl (Yl_fieldAddr0 rfl rfl rfl) rfl rfl ?_ | refine X_yl (Yl_pick_f rfl rfl rfl) rfl rfl ?_ | refine X_yl (Yl_len rfl rfl) rfl rfl ?_ | refine X_yl (Yl_neq_f rfl rfl rfl (by omega)) rfl rfl ?_ | refine X_yl (Yl_lss_t rfl rfl rfl (by omega)) rfl rfl ?_ | refine X_yl (Yl_lss_f rfl rfl rfl (by omega)) rfl rfl ?_ | refine X_yl (Yl_indexAddr rfl rfl rfl (by omega) (by omega) (by first | assumption | exact ⟨_, _, rfl⟩)) rfl rfl ?_ | refine X_yl (Yl_load rfl rfl hS.cell) rfl rfl ?_ | refine X_yl (Yl_loadN rfl rfl ((hr.rd hS).cellsX (by omega) hxs rfl)) rfl rfl ?_ | refine X_store rfl rfl rfl rfl hS (fun _ hS _ => ?_) | refine X_alloc rfl rfl rfl hS (fun _ _ hS _ => ?_)) | (refine C_id ?_; first | refine C_seq ?_ | refine C_region ?_ | refine C_block ?_ | refine C_skip ?_ | refine C_cond_t rfl ?_ | refine C_cond_f rfl ?_) | (refine E_id ?_; first | refine E_code ?_))
     refine X_yl (Yl_lookup (mk := Value.int .i64) (k := v.no) rfl rfl rfl (hS.rd (List.mem_cons_of_mem _ (List.mem_cons_self ..)))) rfl rfl ?_
     rw [getM_seen d v.no i (by omega)]
     repeat (first | (refine G_id ?_; first | refine G_nil ?_ | refine G_plain rfl rfl ?_) | (refine X_id ?_; first | refine X_yl (Yl_move rfl rfl) rfl rfl ?_ | refine X_yl (Yl_assign rfl rfl) rfl rfl ?_ | refine X_yl (Yl_fieldAddr0 rfl rfl rfl) rfl rfl ?_ | refine X_yl (Yl_pick_f rfl rfl rfl) rfl rfl ?_ | refine X_yl (Yl_load rfl rfl hS.cell) rfl rfl ?_) | (refine C_id ?_; first | refine C_region ?_) | (refine E_id ?_; first | refine E_code ?_))
     replace hS := hS.pick [1]
     refine X_mapUpdate (mk := Value.int .i64) (k := v.no) rfl rfl rfl rfl rfl hS (fun w hS => ?_)
     repeat (first | (refine G_id ?_; first | refine G_nil ?_ | refine G_plain rfl rfl ?_) | (refine X_id ?_; first | refine X_yl (Yl_move rfl rfl) rfl rfl ?_ | refine X_yl (Yl_add rfl rfl rfl (w64 (by omega) (by omega))) rfl rfl ?_) | (refine C_id ?_; first | refine C_region ?_) | (refine E_id ?_; first | refine E_code ?_ | refine E_blk_n ?_))
     refine E_round (i + 1) ⟨rfl, by rw [ht]; rfl, rfl, rfl, rfl, trivial⟩ ⟨by omega, hb1, ?_⟩ (by omega)
     simp only [seenTo, hdg]
     exact hS
    ·repeat (first | (refine G_id ?_; first | refine G_nil ?_ | refine G_plain rfl rfl ?_ | refine G_yes rfl rfl rfl rfl ?_ | refine G_no rfl rfl rfl rfl rfl rfl ?_) | (refine X_id ?_; first | refine X_yl (Yl_move rfl rfl) rfl rfl ?_ | refine X_yl (Yl_assign rfl rfl) rfl rfl ?_ | refine X_yl (Yl_fieldAddr0 rfl rfl rfl) rfl rfl ?_ | refine X_yl (Yl_pick_t rfl rfl rfl) rfl rfl ?_ | refine X_yl (Yl_pick_f rfl rfl rfl) rfl rfl ?_ | refine X_yl (Yl_len rfl rfl) rfl rfl ?_ | refine X_yl (Yl_neq_f rfl rfl rfl (by omega)) rfl rfl ?_ | refine X_yl (Yl_lss_t rfl rfl rfl (by omega)) rfl rfl ?_ | refine X_yl (Yl_lss_f rfl rfl rfl (by omega)) rfl rfl ?_ | refine X_yl (Yl_indexAddr rfl rfl rfl (by omega) (by omega) (by first | assumption | exact ⟨_, _, rfl⟩)) rfl rfl ?_ | refine X_yl (Yl_load rfl rfl hS.cell) rfl rfl ?_ | refine X_yl (Yl_loadN rfl rfl ((hr.rd hS).cellsX (by omega) hxs rfl)) rfl rfl ?_ | refine X_store rfl rfl rfl rfl hS (fun _ hS _ => ?_) | refine X_alloc rfl rfl rfl hS (fun _ _ hS _ => ?_)) | (refine C_id ?_; first | refine C_seq ?_ | refine C_region ?_ | refine C_block ?_ | refine C_skip ?_ | refine C_cond_t rfl ?_ | refine C_cond_f rfl ?_) | (refine E_id ?_; first | refine E_code ?_))
     replace hS := hS.pick [1]
     refine X_mapUpdate (mk := Value.int .i64) (k := v.no) rfl rfl rfl rfl rfl hS (fun w hS => ?_)
     repeat (first | (refine G_id ?_; first | refine G_nil ?_ | refine G_plain rfl rfl ?_) | (refine X_id ?_; first | refine X_yl (Yl_move rfl rfl) rfl rfl ?_ | refine X_yl (Yl_add rfl rfl rfl (w64 (by omega) (by omega))) rfl rfl ?_) | (refine C_id ?_; first | refine C_region ?_) | (refine E_id ?_; first | refine E_code ?_ | refine E_blk_n ?_))
     refine E_round (i + 1) ⟨rfl, by rw [ht]; rfl, rfl, rfl, rfl, trivial⟩ ⟨by omega, hb1, ?_⟩ (by omega)
     simp only [seenTo, hdg]
     exact hS
   ·repeat (first | (refine G_id ?_; first | refine G_nil ?_ | refine G_plain rfl rfl ?_ | refine G_yes rfl rfl rfl rfl ?_) | (refine X_id ?_; first | refine X_yl (Yl_move rfl rfl) rfl rfl ?_ | refine X_yl (Yl_assign rfl rfl) rfl rfl ?_ | refine X_yl (Yl_fieldAddr0 rfl rfl rfl) rfl rfl ?_ | refine X_yl (Yl_pick_f rfl rfl rfl) rfl rfl ?_ | refine X_yl (Yl_len rfl rfl) rfl rfl ?_ | refine X_yl (Yl_neq_t rfl rfl rfl (by omega)) rfl rfl ?_ | refine X_yl (Yl_lss_t rfl rfl rfl (by omega)) rfl rfl ?_ | refine X_yl (Yl_lss_f rfl rfl rfl (by omega)) rfl rfl ?_ | refine X_yl (Yl_indexAddr rfl rfl rfl (by omega) (by omega) (by first | assumption | exact ⟨_, _, rfl⟩)) rfl rfl ?_ | refine X_yl (Yl_load rfl rfl hS.cell) rfl rfl ?_ | refine X_yl (Yl_loadN rfl rfl ((hr.rd hS).cellsX (by omega) hxs rfl)) rfl rfl ?_ | refine X_store rfl rfl rfl rfl hS (fun _ hS _ => ?_) | refine X_alloc rfl rfl rfl hS (fun _ _ hS _ => ?_)) | (refine C_id ?_; first | refine C_seq ?_ | refine C_region ?_ | refine C_block ?_ | refine C_ret ?_ | refine C_skip ?_ | refine C_cond_t rfl ?_) | (refine E_id ?_; first | refine E_code ?_ | refine E_then_ret ?_ | refine E_blk_ret ?_ | refine E_ret1 rfl (Rv_tmp rfl) (Ret.mk ?_)))
    exact ⟨by rw [hbadr (by simp [badW, Wr.data, h64])], hS.drops⟩
 ·obtain rfl : i = l.length := by omega
  have hany : d.any badW = false := by
   rw [← hdl, List.take_length] at hbad
   simpa using hbad
  cases ht : twiceTo d l.length
  ·rw [show checkM d = 0 by unfold checkM; rw [if_neg (by simp [hany]), hdl, ht]; rfl]
   repeat (first | (refine G_id ?_; first | refine G_nil ?_ | refine G_plain rfl rfl ?_) | (refine X_id ?_; first | refine X_yl (Yl_move rfl rfl) rfl rfl ?_ | refine X_yl (Yl_assign rfl rfl) rfl rfl ?_ | refine X_yl (Yl_lss_f rfl rfl rfl (by omega)) rfl rfl ?_) | (refine C_id ?_; first | refine C_seq ?_ | refine C_region ?_ | refine C_ret ?_ | refine C_skip ?_ | refine C_exit ?_ | refine C_cond_f rfl ?_) | (refine E_id ?_; first | refine E_code ?_ | refine E_then_exit ?_ | refine E_blk_same ?_ | refine E_ret1 rfl (Rv_tmp rfl) (Ret.mk ?_)))
   exact ⟨rfl, hS.drops⟩
  ·rw [show checkM d = 8 by unfold checkM; rw [if_neg (by simp [hany]), hdl, ht]; rfl]
   repeat (first | (refine G_id ?_; first | refine G_nil ?_ | refine G_plain rfl rfl ?_) | (refine X_id ?_; first | refine X_yl (Yl_move rfl rfl) rfl rfl ?_ | refine X_yl (Yl_assign rfl rfl) rfl rfl ?_ | refine X_yl (Yl_lss_f rfl rfl rfl (by omega)) rfl rfl ?_) | (refine C_id ?_; first | refine C_seq ?_ | refine C_region ?_ | refine C_ret ?_ | refine C_exit ?_ | refine C_cond_t rfl ?_ | refine C_cond_f rfl ?_) | (refine E_id ?_; first | refine E_code ?_ | refine E_then_ret ?_ | refine E_then_exit ?_ | refine E_blk_same ?_ | refine E_ret1 rfl (Rv_tmp rfl) (Ret.mk ?_)))
   exact ⟨rfl, hS.drops⟩
end Cr
namespace Cr
open Go Go.Proofs
set_option maxRecDepth 100000
set_option maxHeartbeats 4000000
attribute [local irreducible] Calls

abbrev logCells (p : Nat) (o s m : Int) (j : Nat) (done : Int) (rd : Bool) : List Value := [.pointer (some ⟨p, 0, none⟩), .int .u32 o, .int .i32 s, .int .u32 m, .int .i64 (j : Nat), .int .i64 done, .bool rd]
abbrev logAt (lp p : Nat) (o s m : Int) (j : Nat) (done : Int) (rd : Bool) : Res := pts lp (.cells (logCells p o s m j done rd).toArray 230)
section
variable (lp p : Nat) (o s m : Int) (j : Nat) (done : Int) (rd : Bool) (D : DiskM) (W : World)
theorem wsectors_ (hL : Rd W (logAt lp p o s m j done rd)) (hD : Rd W (disk p D)) (hj : j ≤ 4096) :
  Calls Tryz.prog 171 #[.pointer (some ⟨lp, 0, none⟩)] W (Ret fun v w => v = .int .i64 ((D.laid.length : Int) - 1 - j) ∧ St W noF [] w) := by
 have hc := hL.pts
 have hS := St.start W
 have hm := hD.disk.1.most
 have hLo := hL.ro
 have hDo := hD.ro
 refine calls_C Tryz.func171 rfl Tryz.ntmps171 rfl ?_
 repeat (first | (refine G_id ?_; first | refine G_nil ?_ | refine G_plain rfl rfl ?_) | (refine X_id ?_; first | refine X_yl (Yl_move rfl rfl) rfl rfl ?_ | refine X_yl (Yl_assign rfl rfl) rfl rfl ?_ | refine X_yl (Yl_eqlNil_some rfl rfl rfl) rfl rfl ?_) | (refine C_id ?_; first | refine C_seq ?_ | refine C_region ?_ | refine C_skip ?_ | refine C_cond_f rfl ?_) | (refine E_id ?_; first | refine E_code ?_))
 refine C_ord (.s 0 (.s 1 (.s 2 (.s 3 (.s 6 (.s 7 (.s 8 (.s 9 (.h 4 (.s 5 (.s 10 (.s 11 .nil))) .no))))))))) mixed (by kernel_rfl) rfl ?_
 have hS := hS.drew
 have hc := (hLo.rd hS).pts
 repeat (first | (refine X_id ?_; first | (refine X_callg 124 rfl rfl rfl rfl rfl (sectors_ p D _ (hDo.rd hS)) ?_; rintro _ _ ⟨rfl, rfl⟩)) | (refine C_id ?_; first | refine C_ret ?_) | (refine E_id ?_; first | refine E_code ?_ | refine E_ret1 rfl (Rv_tmp rfl) (Ret.mk ?_)) | (refine GO_id ?_; first | refine GO_nil ?_ | refine GO_pure rfl rfl (fun _ => Yl_move rfl rfl) rfl rfl ?_ | refine GO_pure rfl rfl (fun _ => Yl_assign rfl rfl) rfl rfl ?_ | refine GO_pure rfl rfl (fun _ => Yl_nilCheck rfl rfl) rfl rfl ?_ | refine GO_pure rfl rfl (fun _ => Yl_fieldAddr0 rfl rfl rfl) rfl rfl ?_ | refine GO_pure rfl rfl (fun _ => Yl_sub rfl rfl rfl (w64 (by omega) (by omega))) rfl rfl ?_ | refine GO_read (fun w' => w'.cell? _ = some _) rfl rfl (cell_at (by assumption)) (fun _ hc => Yl_load rfl rfl hc) rfl rfl ?_ | refine GO_hard rfl rfl ?_) | (refine Keep_id ?_; first | refine And.intro (by repeat (first | exact trivial | refine And.intro (.inl (by decide +kernel)) ?_ | refine And.intro (.inr (by first | assumption | exact hS.cell | exact cell_at (by assumption) | exact hS.cellI (by omega) | exact hS.cellIP (by omega) | exact hS.cellsN | exact ((hr.rd hS).cellX (by omega) hx) | exact ((hr2.rd hS).cellX (by omega) hx2) | exact hS.cellB (by omega) | exact hS.cellBA (by omega) | exact (hb.rd hS).cellB' (by omega) | exact (hb2.rd hS).cellB' (by omega) | exact (hg.rd hS).cellI (by omega) | exact (hg2.rd hS).cellI (by omega) | exact ((hr.rd hS).cellF (by first | omega | (dsimp only; omega)) hx) | exact ((hr2.rd hS).cellF (by first | omega | (dsimp only; omega)) hx2) | exact hS.cellO 0 (by omega) | exact hS.cellO 1 (by omega) | exact hS.cellIA (by omega) | exact (hg.rd hS).cellIA (by omega) | exact (hg2.rd hS).cellIA (by omega) | exact cell_at (hc.rd hS).pts | exact hb.rd hS | exact (hr.rd hS).cellsF7 (by first | omega | (dsimp only; omega)) hst4 rfl | exact (hr2.rd hS).cellsF7 (by first | omega | (dsimp only; omega)) hst4 rfl | exact hS.cellO 4 (by omega) | exact hS.cellO 5 (by omega) | exact hS.cellO 6 (by omega) | exact hS.cellO 7 (by omega) | exact hS.cellO 8 (by omega) | exact hS.cellO 9 (by omega) | exact hS.cellO 10 (by omega) | exact hS.cellO 11 (by omega) | exact hS.cellO 12 (by omega) | exact hS.cellO 13 (by omega) | exact hS.cellO 2 (by omega) | exact hS.cellO 3 (by omega))) ?_)) ?_))
 exact ⟨rfl, hS⟩
theorem wmost_ (hL : Rd W (logAt lp p o s m j done rd)) (hj : j ≤ 4096) :
  Calls Tryz.prog 144 #[.pointer (some ⟨lp, 0, none⟩)] W (Ret fun v w => v = .int .i64 ((j : Int) / 2) ∧ W = w) := by
 have hc := hL.pts
 have hS := St.start W
 refine calls_C Tryz.func144 rfl Tryz.ntmps144 rfl ?_
 repeat (first | (refine G_id ?_; first | refine G_nil ?_ | refine G_plain rfl rfl ?_) | (refine X_id ?_; first | refine X_yl (Yl_move rfl rfl) rfl rfl ?_ | refine X_yl (Yl_assign rfl rfl) rfl rfl ?_ | refine X_yl (Yl_nilCheck rfl rfl) rfl rfl ?_ | refine X_yl (Yl_fieldAddr0 rfl rfl rfl) rfl rfl ?_ | refine X_yl (Yl_quoE rfl rfl rfl (by omega) (by omega) (by omega)) rfl rfl ?_ | refine X_yl (Yl_eqlNil_some rfl rfl rfl) rfl rfl ?_ | refine X_yl (Yl_load rfl rfl (cell_at (by assumption))) rfl rfl ?_) | (refine C_id ?_; first | refine C_seq ?_ | refine C_region ?_ | refine C_ret ?_ | refine C_skip ?_ | refine C_cond_f rfl ?_) | (refine E_id ?_; first | refine E_code ?_ | refine E_ret1 rfl (Rv_tmp rfl) (Ret.mk ?_)))
 exact ⟨rfl, rfl⟩
def hasM (n : Int) (l : List (Int × List UInt8)) : Bool := l.all fun x => decide (x.1 < n)
theorem whas_ (a : Option Addr) (c : Nat) (l : List Wr) (hL : Rd W (logAt lp p o s m j done rd)) (hD : Rd W (disk p D)) (hj : j ≤ 4096) (hW : Wrs W noF a l) (hl : l.length ≤ 1048576) :
  Calls Tryz.prog 143 #[.pointer (some ⟨lp, 0, none⟩), .slice a l.length c] W (Ret fun v w => v = .bool (hasM ((D.laid.length : Int) - 1 - j) (l.map Wr.data)) ∧ St W noF [] w) := by
 have hS := St.start W
 have hLo := hL.ro
 have hDo := hD.ro
 obtain ⟨n, hn⟩ : ∃ n, n = (D.laid.length : Int) - 1 - j := ⟨_, rfl⟩
 rw [← hn]
 refine calls_C Tryz.func143 rfl Tryz.ntmps143 rfl ?_
 repeat (first | (refine G_id ?_; first | refine G_nil ?_ | refine G_plain rfl rfl ?_) | (refine X_id ?_; first | refine X_yl (Yl_move rfl rfl) rfl rfl ?_ | refine X_yl (Yl_assign rfl rfl) rfl rfl ?_ | refine X_yl (Yl_len rfl rfl) rfl rfl ?_) | (refine C_id ?_; first | refine C_seq ?_ | refine C_region ?_ | refine C_block ?_) | (refine E_id ?_; first | refine E_code ?_))
 refine C_loop (α := Nat) (fun i => [(0, .pointer (some ⟨lp, 0, none⟩)), (7, .slice a l.length c), (8, .int .i64 (l.length : Nat)), (9, .int .i64 (i : Nat))])
  (fun i w => i ≤ l.length ∧ (∀ v ∈ l.take i, v.no < n) ∧ St W noF [] w) (fun i => l.length - i) 0 ⟨rfl, rfl, rfl, rfl, trivial⟩ ⟨Nat.zero_le _, by simp, hS⟩ ?_
 clear hS
 rintro i w ⟨hi, hok, hS⟩
 by_cases hlt : i < l.length
 ·have hx0 : l[i]? = some l[i] := List.getElem?_eq_getElem hlt
  have htk := List.take_succ_eq_append_getElem hlt
  generalize l[i] = v at hx0 htk
  have hr := hW.row
  have hxs : ((l.flatMap Wr.cells).drop (i * 2)).take 2 = [.int .i64 v.no, .slice v.x.a v.x.s.length v.x.c] := wr_seg hx0
  obtain ⟨ab, ao, rfl⟩ := (hW.row.rd hS).base (by intro e; rw [e] at hxs; simp at hxs)
  by_cases hno : v.no < n
  ·repeat (first | (refine G_id ?_; first | refine G_nil ?_ | refine G_plain rfl rfl ?_) | (refine X_id ?_; first | refine X_yl (Yl_lss_t rfl rfl rfl (by omega)) rfl rfl ?_ | refine X_yl (Yl_indexAddr rfl rfl rfl (by omega) (by omega) (by first | assumption | exact ⟨_, _, rfl⟩)) rfl rfl ?_ | refine X_yl (Yl_loadN rfl rfl ((hr.rd hS).cellsX (by omega) hxs rfl)) rfl rfl ?_ | refine X_store rfl rfl rfl rfl hS (fun _ hS _ => ?_) | refine X_alloc rfl rfl rfl hS (fun _ _ hS _ => ?_)) | (refine C_id ?_; first | refine C_seq ?_ | refine C_region ?_ | refine C_block ?_ | refine C_skip ?_ | refine C_cond_t rfl ?_) | (refine E_id ?_; first | refine E_code ?_))
   refine C_ord (.s 0 (.s 1 (.s 2 (.h 3 (.s 4 .nil) .no)))) mixed (by kernel_rfl) rfl ?_
   have hS := hS.drew
   repeat (first | (refine G_id ?_; first | refine G_nil ?_ | refine G_plain rfl rfl ?_) | (refine X_id ?_; first | (refine X_callq 171 rfl rfl rfl rfl rfl hS (wsectors_ lp p o s m j done rd D _ (hLo.rd hS) (hDo.rd hS) hj) ?_; rintro _ _ rfl hS) | refine X_yl (Yl_move rfl rfl) rfl rfl ?_ | refine X_yl (Yl_add rfl rfl rfl (w64 (by omega) (by omega))) rfl rfl ?_) | (refine C_id ?_; first | refine C_region ?_ | refine C_skip ?_ | refine C_cond_f rfl ?_) | (refine E_id ?_; first | refine E_code ?_ | refine E_blk_n ?_) | (refine GO_id ?_; first | refine GO_nil ?_ | refine GO_pure rfl rfl (fun _ => Yl_move rfl rfl) rfl rfl ?_ | refine GO_pure rfl rfl (fun _ => Yl_fieldAddr0 rfl rfl rfl) rfl rfl ?_ | refine GO_pure rfl rfl (fun _ => Yl_geq_f rfl rfl rfl (by omega)) rfl rfl ?_ | refine GO_read (fun w' => w'.cell? _ = some _) rfl rfl hS.cell (fun _ hc => Yl_load rfl rfl hc) rfl rfl ?_ | refine GO_hard rfl rfl ?_) | (refine Keep_id ?_; first | refine And.intro (by repeat (first | exact trivial | refine And.intro (.inl (by decide +kernel)) ?_ | refine And.intro (.inr (by first | assumption | exact hS.cell | exact cell_at (by assumption) | exact hS.cellI (by omega) | exact hS.cellIP (by omega) | exact hS.cellsN | exact ((hr.rd hS).cellX (by omega) hx) | exact ((hr2.rd hS).cellX (by omega) hx2) | exact hS.cellB (by omega) | exact hS.cellBA (by omega) | exact (hb.rd hS).cellB' (by omega) | exact (hb2.rd hS).cellB' (by omega) | exact (hg.rd hS).cellI (by omega) | exact (hg2.rd hS).cellI (by omega) | exact ((hr.rd hS).cellF (by first | omega | (dsimp only; omega)) hx) | exact ((hr2.rd hS).cellF (by first | omega | (dsimp only; omega)) hx2) | exact hS.cellO 0 (by omega) | exact hS.cellO 1 (by omega) | exact hS.cellIA (by omega) | exact (hg.rd hS).cellIA (by omega) | exact (hg2.rd hS).cellIA (by omega) | exact cell_at (hc.rd hS).pts | exact hb.rd hS | exact (hr.rd hS).cellsF7 (by first | omega | (dsimp only; omega)) hst4 rfl | exact (hr2.rd hS).cellsF7 (by first | omega | (dsimp only; omega)) hst4 rfl | exact hS.cellO 4 (by omega) | exact hS.cellO 5 (by omega) | exact hS.cellO 6 (by omega) | exact hS.cellO 7 (by omega) | exact hS.cellO 8 (by omega) | exact hS.cellO 9 (by omega) | exact hS.cellO 10 (by omega) | exact hS.cellO 11 (by omega) | exact hS.cellO 12 (by omega) | exact hS.cellO 13 (by omega) | exact hS.cellO 2 (by omega) | exact hS.cellO 3 (by omega))) ?_)) ?_))
   refine E_round (i + 1) ⟨rfl, rfl, rfl, rfl, trivial⟩ ⟨by omega, ?_, hS.drops⟩ (by omega)
   rw [htk]
   intro x hx
   rcases List.mem_append.1 hx with h | h
   ·exact hok x h
   ·rw [List.mem_singleton.1 h]; exact hno
  ·repeat (first | (refine G_id ?_; first | refine G_nil ?_ | refine G_plain rfl rfl ?_) | (refine X_id ?_; first | refine X_yl (Yl_lss_t rfl rfl rfl (by omega)) rfl rfl ?_ | refine X_yl (Yl_indexAddr rfl rfl rfl (by omega) (by omega) (by first | assumption | exact ⟨_, _, rfl⟩)) rfl rfl ?_ | refine X_yl (Yl_loadN rfl rfl ((hr.rd hS).cellsX (by omega) hxs rfl)) rfl rfl ?_ | refine X_store rfl rfl rfl rfl hS (fun _ hS _ => ?_) | refine X_alloc rfl rfl rfl hS (fun _ _ hS _ => ?_)) | (refine C_id ?_; first | refine C_seq ?_ | refine C_region ?_ | refine C_block ?_ | refine C_skip ?_ | refine C_cond_t rfl ?_) | (refine E_id ?_; first | refine E_code ?_))
   refine C_ord (.s 0 (.s 1 (.s 2 (.h 3 (.s 4 .nil) .no)))) mixed (by kernel_rfl) rfl ?_
   have hS := hS.drew
   repeat (first | (refine G_id ?_; first | refine G_nil ?_ | refine G_plain rfl rfl ?_) | (refine X_id ?_; first | (refine X_callq 171 rfl rfl rfl rfl rfl hS (wsectors_ lp p o s m j done rd D _ (hLo.rd hS) (hDo.rd hS) hj) ?_; rintro _ _ rfl hS) | refine X_yl (Yl_assign rfl rfl) rfl rfl ?_) | (refine C_id ?_; first | refine C_seq ?_ | refine C_region ?_ | refine C_ret ?_ | refine C_cond_t rfl ?_) | (refine E_id ?_; first | refine E_code ?_ | refine E_then_ret ?_ | refine E_blk_ret ?_ | refine E_ret1 rfl (Rv_tmp rfl) (Ret.mk ?_)) | (refine GO_id ?_; first | refine GO_nil ?_ | refine GO_pure rfl rfl (fun _ => Yl_move rfl rfl) rfl rfl ?_ | refine GO_pure rfl rfl (fun _ => Yl_fieldAddr0 rfl rfl rfl) rfl rfl ?_ | refine GO_pure rfl rfl (fun _ => Yl_geq_t rfl rfl rfl (by omega)) rfl rfl ?_ | refine GO_read (fun w' => w'.cell? _ = some _) rfl rfl hS.cell (fun _ hc => Yl_load rfl rfl hc) rfl rfl ?_ | refine GO_hard rfl rfl ?_) | (refine Keep_id ?_; first | refine And.intro (by repeat (first | exact trivial | refine And.intro (.inl (by decide +kernel)) ?_ | refine And.intro (.inr (by first | assumption | exact hS.cell | exact cell_at (by assumption) | exact hS.cellI (by omega) | exact hS.cellIP (by omega) | exact hS.cellsN | exact ((hr.rd hS).cellX (by omega) hx) | exact ((hr2.rd hS).cellX (by omega) hx2) | exact hS.cellB (by omega) | exact hS.cellBA (by omega) | exact (hb.rd hS).cellB' (by omega) | exact (hb2.rd hS).cellB' (by omega) | exact (hg.rd hS).cellI (by omega) | exact (hg2.rd hS).cellI (by omega) | exact ((hr.rd hS).cellF (by first | omega | (dsimp only; omega)) hx) | exact ((hr2.rd hS).cellF (by first | omega | (dsimp only; omega)) hx2) | exact hS.cellO 0 (by omega) | exact hS.cellO 1 (by omega) | exact hS.cellIA (by omega) | exact (hg.rd hS).cellIA (by omega) | exact (hg2.rd hS).cellIA (by omega) | exact cell_at (hc.rd hS).pts | exact hb.rd hS | exact (hr.rd hS).cellsF7 (by first | omega | (dsimp only; omega)) hst4 rfl | exact (hr2.rd hS).cellsF7 (by first | omega | (dsimp only; omega)) hst4 rfl | exact hS.cellO 4 (by omega) | exact hS.cellO 5 (by omega) | exact hS.cellO 6 (by omega) | exact hS.cellO 7 (by omega) | exact hS.cellO 8 (by omega) | exact hS.cellO 9 (by omega) | exact hS.cellO 10 (by omega) | exact hS.cellO 11 (by omega) | exact hS.cellO 12 (by omega) | exact hS.cellO 13 (by omega) | exact hS.cellO 2 (by omega) | exact hS.cellO 3 (by omega))) ?_)) ?_))
   refine ⟨?_, hS.drops⟩
   have : hasM n (l.map Wr.data) = false := by
    unfold hasM
    rw [List.all_eq_false]
    exact ⟨v.data, List.mem_map.2 ⟨v, List.mem_of_getElem? hx0, rfl⟩, by simp [Wr.data, hno]⟩
   rw [this]
 ·obtain rfl : i = l.length := by omega
  repeat (first | (refine G_id ?_; first | refine G_nil ?_ | refine G_plain rfl rfl ?_) | (refine X_id ?_; first | refine X_yl (Yl_assign rfl rfl) rfl rfl ?_ | refine X_yl (Yl_lss_f rfl rfl rfl (by omega)) rfl rfl ?_) | (refine C_id ?_; first | refine C_seq ?_ | refine C_region ?_ | refine C_ret ?_ | refine C_exit ?_ | refine C_cond_f rfl ?_) | (refine E_id ?_; first | refine E_code ?_ | refine E_then_exit ?_ | refine E_blk_same ?_ | refine E_ret1 rfl (Rv_tmp rfl) (Ret.mk ?_)))
  refine ⟨?_, hS⟩
  have : hasM n (l.map Wr.data) = true := by
   unfold hasM
   rw [List.all_eq_true]
   intro x hx
   obtain ⟨v, hv, rfl⟩ := List.mem_map.1 hx
   rw [List.take_length] at hok
   exact decide_eq_true (hok v hv)
  rw [this]
end

/-! ### steps -/
def stepW (x : Int × DiskM) (no : Int) (b : List UInt8) : Int × DiskM := if x.1 = 0 then x.2.write no b else x
def stepF (x : Int × DiskM) : Int × DiskM := if x.1 = 0 then x.2.flush else x
abbrev stepAt (sp p : Nat) (e : Int) : Res := pts sp (.cells #[.pointer (some ⟨p, 0, none⟩), .int .i64 e] 251)
theorem swrite_ (sp p : Nat) (x : Int × DiskM) (no : Int) (a : Option Addr) (n c : Nat) (b : List UInt8) (W : World) (F : Nat → Prop) (hS : St W F [stepAt sp p x.1, disk p x.2] W) (hb : Ro W F (bytes a b)) (hn : b.length = n) (hline : x.2.line.length < 1073741824) :
  Calls Tryz.prog 146 #[.pointer (some ⟨sp, 0, none⟩), .int .i64 no, .slice a n c] W (Ret fun _ w => True ∧ St W F [stepAt sp p (stepW x no b).1, disk p (stepW x no b).2] w) := by
 obtain ⟨e, D⟩ := x
 simp only at hS hline ⊢
 by_cases he : e = 0
 ·subst he
  refine calls_C Tryz.func146 rfl Tryz.ntmps146 rfl ?_
  repeat (first | (refine G_id ?_; first | refine G_nil ?_ | refine G_plain rfl rfl ?_) | (refine X_id ?_; first | refine X_yl (Yl_move rfl rfl) rfl rfl ?_ | refine X_yl (Yl_nilCheck rfl rfl) rfl rfl ?_ | refine X_yl (Yl_fieldAddr0 rfl rfl rfl) rfl rfl ?_ | refine X_yl (Yl_eql_t rfl rfl rfl (by omega)) rfl rfl ?_ | refine X_yl (Yl_load rfl rfl hS.cell) rfl rfl ?_) | (refine C_id ?_; first | refine C_seq ?_ | refine C_region ?_ | refine C_cond_t rfl ?_) | (refine E_id ?_; first | refine E_code ?_))
  obtain ⟨_, hc, hr, hw, hbk⟩ := hS.call [false, true]
  refine X_callg _ rfl rfl rfl rfl rfl (write_ p D no a n c b _ _ hc (hw _ hb) hn hline) ?_
  rintro _ w ⟨rfl, hS⟩
  replace hS := hbk hS
  clear hc hr hw hbk
  repeat (first | (refine G_id ?_; first | refine G_nil ?_ | refine G_plain rfl rfl ?_) | (refine X_id ?_; first | refine X_yl (Yl_nilCheck rfl rfl) rfl rfl ?_ | refine X_yl (Yl_fieldAddr0 rfl rfl rfl) rfl rfl ?_ | refine X_store rfl rfl rfl rfl hS (fun _ hS _ => ?_)) | (refine E_id ?_; first | refine E_end0 rfl (Ret.mk ?_)))
  refine ⟨trivial, ?_⟩
  simp only [stepW, if_true]
  have hS := hS.pick [1, 0]
  exact hS
 ·refine calls_C Tryz.func146 rfl Tryz.ntmps146 rfl ?_
  repeat (first | (refine G_id ?_; first | refine G_nil ?_ | refine G_plain rfl rfl ?_) | (refine X_id ?_; first | refine X_yl (Yl_move rfl rfl) rfl rfl ?_ | refine X_yl (Yl_nilCheck rfl rfl) rfl rfl ?_ | refine X_yl (Yl_fieldAddr0 rfl rfl rfl) rfl rfl ?_ | refine X_yl (Yl_eql_f rfl rfl rfl (by omega)) rfl rfl ?_ | refine X_yl (Yl_load rfl rfl hS.cell) rfl rfl ?_) | (refine C_id ?_; first | refine C_seq ?_ | refine C_region ?_ | refine C_skip ?_ | refine C_cond_f rfl ?_) | (refine E_id ?_; first | refine E_code ?_ | refine E_end0 rfl (Ret.mk ?_)))
  refine ⟨trivial, ?_⟩
  simp only [stepW, if_neg he]
  exact hS
theorem sflush_ (sp p : Nat) (x : Int × DiskM) (W : World) (F : Nat → Prop) (hS : St W F [stepAt sp p x.1, disk p x.2] W) (hline : x.2.line.length < 1073741824) :
  Calls Tryz.prog 148 #[.pointer (some ⟨sp, 0, none⟩)] W (Ret fun _ w => True ∧ St W F [stepAt sp p (stepF x).1, disk p (stepF x).2] w) := by
 obtain ⟨e, D⟩ := x
 simp only at hS hline ⊢
 by_cases he : e = 0
 ·subst he
  refine calls_C Tryz.func148 rfl Tryz.ntmps148 rfl ?_
  repeat (first | (refine G_id ?_; first | refine G_nil ?_ | refine G_plain rfl rfl ?_) | (refine X_id ?_; first | refine X_yl (Yl_move rfl rfl) rfl rfl ?_ | refine X_yl (Yl_nilCheck rfl rfl) rfl rfl ?_ | refine X_yl (Yl_fieldAddr0 rfl rfl rfl) rfl rfl ?_ | refine X_yl (Yl_eql_t rfl rfl rfl (by omega)) rfl rfl ?_ | refine X_yl (Yl_load rfl rfl hS.cell) rfl rfl ?_) | (refine C_id ?_; first | refine C_seq ?_ | refine C_region ?_ | refine C_cond_t rfl ?_) | (refine E_id ?_; first | refine E_code ?_))
  obtain ⟨_, hc, hr, hw, hbk⟩ := hS.call [false, true]
  refine X_callg _ rfl rfl rfl rfl rfl (flush_ p D _ _ hc hline) ?_
  rintro _ w ⟨rfl, hS⟩
  replace hS := hbk hS
  clear hc hr hw hbk
  repeat (first | (refine G_id ?_; first | refine G_nil ?_ | refine G_plain rfl rfl ?_) | (refine X_id ?_; first | refine X_yl (Yl_nilCheck rfl rfl) rfl rfl ?_ | refine X_yl (Yl_fieldAddr0 rfl rfl rfl) rfl rfl ?_ | refine X_store rfl rfl rfl rfl hS (fun _ hS _ => ?_)) | (refine E_id ?_; first | refine E_end0 rfl (Ret.mk ?_)))
  refine ⟨trivial, ?_⟩
  simp only [stepF, if_true]
  have hS := hS.pick [1, 0]
  exact hS
 ·refine calls_C Tryz.func148 rfl Tryz.ntmps148 rfl ?_
  repeat (first | (refine G_id ?_; first | refine G_nil ?_ | refine G_plain rfl rfl ?_) | (refine X_id ?_; first | refine X_yl (Yl_move rfl rfl) rfl rfl ?_ | refine X_yl (Yl_nilCheck rfl rfl) rfl rfl ?_ | refine X_yl (Yl_fieldAddr0 rfl rfl rfl) rfl rfl ?_ | refine X_yl (Yl_eql_f rfl rfl rfl (by omega)) rfl rfl ?_ | refine X_yl (Yl_load rfl rfl hS.cell) rfl rfl ?_) | (refine C_id ?_; first | refine C_seq ?_ | refine C_region ?_ | refine C_skip ?_ | refine C_cond_f rfl ?_) | (refine E_id ?_; first | refine E_code ?_ | refine E_end0 rfl (Ret.mk ?_)))
  refine ⟨trivial, ?_⟩
  simp only [stepF, if_neg he]
  exact hS
end Cr
namespace Cr
open Go Go.Proofs
set_option maxRecDepth 100000
set_option maxHeartbeats 4000000
attribute [local irreducible] Calls

theorem write_line (D : DiskM) (no : Int) (b : List UInt8) : (D.write no b).2.line.length ≤ D.line.length + 1 ∧ (D.write no b).2.laid.length = D.laid.length := by
 unfold DiskM.write
 split
 ·simp
 ·split
  ·simp
  ·split <;> simp [DiskM.used]
theorem flush_line (D : DiskM) : D.flush.2.line.length ≤ D.line.length ∧ D.flush.2.laid.length = D.laid.length := by
 unfold DiskM.flush
 split
 ·simp
 ·split <;> simp [DiskM.used, DiskM.flushed, layOn_length]
theorem stepW_line (x : Int × DiskM) (no : Int) (b : List UInt8) : (stepW x no b).2.line.length ≤ x.2.line.length + 1 ∧ (stepW x no b).2.laid.length = x.2.laid.length := by
 unfold stepW
 split
 ·exact write_line x.2 no b
 ·simp
theorem stepF_line (x : Int × DiskM) : (stepF x).2.line.length ≤ x.2.line.length ∧ (stepF x).2.laid.length = x.2.laid.length := by
 unfold stepF
 split
 ·exact flush_line x.2
 ·simp
def putsM (k : Int) (x : Int × DiskM) (l : List (Int × List UInt8)) : Int × DiskM := l.foldl (fun x v => stepW x (k + v.1) v.2) x
theorem putsM_snoc (k : Int) (x : Int × DiskM) {l : List (Int × List UInt8)} {i : Nat} {v : Int × List UInt8} (h : l[i]? = some v) : putsM k x (l.take (i + 1)) = stepW (putsM k x (l.take i)) (k + v.1) v.2 := by
 obtain ⟨hi, rfl⟩ := List.getElem?_eq_some_iff.1 h
 rw [List.take_succ_eq_append_getElem hi]
 unfold putsM
 rw [List.foldl_append]
 rfl
theorem putsM_line (k : Int) : ∀ (l : List (Int × List UInt8)) (x : Int × DiskM), (putsM k x l).2.line.length ≤ x.2.line.length + l.length ∧ (putsM k x l).2.laid.length = x.2.laid.length
 | [], x => by simp [putsM]
 | v :: l, x => by
  have h1 := stepW_line x (k + v.1) v.2
  have h2 := putsM_line k l (stepW x (k + v.1) v.2)
  simp only [putsM, List.foldl_cons, List.length_cons] at h2 ⊢
  exact ⟨by omega, by rw [h2.2, h1.2]⟩
def layM (rd fs : List Int) (j : Nat) (x : Int × DiskM) (number : Int) (l : List (Int × List UInt8)) : Int × DiskM := stepF (stepW (stepF (putsM (1 + j) x l)) 0 (frontB rd fs number))
theorem wlay_ (lp sp p : Nat) (o s m : Int) (j : Nat) (done : Int) (rdn : Bool) (x : Int × DiskM) (number : Int) (a : Option Addr) (c : Nat) (l : List Wr) (rd fs : List Int) (W : World) (F : Nat → Prop) (hG : Gl W F rd fs) (hW : Wrs W F a l)
  (hj : j ≤ 4096) (hl : l.length ≤ 1048576) (hno : ∀ v ∈ l, -4611686018427387904 ≤ v.no ∧ v.no ≤ 4611686018427387904) (hline : x.2.line.length + l.length + 1 < 1073741824) (hS : St W F [logAt lp p o s m j done rdn, stepAt sp p x.1, disk p x.2] W) :
  Calls Tryz.prog 149 #[.pointer (some ⟨lp, 0, none⟩), .pointer (some ⟨sp, 0, none⟩), .int .i64 number, .slice a l.length c] W (Ret fun v w => v = .int .i64 (layM rd fs j x number (l.map Wr.data)).1 ∧
   St W F [logAt lp p o s m j (if (layM rd fs j x number (l.map Wr.data)).1 = 0 then number else done) rdn, stepAt sp p (layM rd fs j x number (l.map Wr.data)).1, disk p (layM rd fs j x number (l.map Wr.data)).2] w) := by
 obtain ⟨d, hd⟩ : ∃ d, d = l.map Wr.data := ⟨_, rfl⟩
 have hdl : d.length = l.length := by rw [hd]; simp
 rw [← hd]
 refine calls_C Tryz.func149 rfl Tryz.ntmps149 rfl ?_
 repeat (first | (refine G_id ?_; first | refine G_nil ?_ | refine G_plain rfl rfl ?_) | (refine X_id ?_; first | refine X_yl (Yl_move rfl rfl) rfl rfl ?_ | refine X_yl (Yl_assign rfl rfl) rfl rfl ?_ | refine X_yl (Yl_len rfl rfl) rfl rfl ?_) | (refine C_id ?_; first | refine C_seq ?_ | refine C_region ?_ | refine C_block ?_) | (refine E_id ?_; first | refine E_code ?_))
 refine C_loop (α := Nat) (fun i => [(0, .pointer (some ⟨lp, 0, none⟩)), (1, .pointer (some ⟨sp, 0, none⟩)), (2, .int .i64 number), (11, .slice a l.length c), (12, .int .i64 (l.length : Nat)), (13, .int .i64 (i : Nat))])
  (fun i w => i ≤ l.length ∧ St W F [logAt lp p o s m j done rdn, stepAt sp p (putsM (1 + j) x (d.take i)).1, disk p (putsM (1 + j) x (d.take i)).2] w) (fun i => l.length - i) 0 ⟨rfl, rfl, rfl, rfl, rfl, rfl, trivial⟩ ⟨Nat.zero_le _, hS⟩ ?_
 clear hS
 rintro i w ⟨hi, hS⟩
 have hlt1 := putsM_line (1 + j) (d.take i) x
 rw [List.length_take] at hlt1
 by_cases hlt : i < l.length
 ·have hx0 : l[i]? = some l[i] := List.getElem?_eq_getElem hlt
  generalize l[i] = v at hx0
  have hvm := List.mem_of_getElem? hx0
  have hdi : d[i]? = some (v.no, v.x.s) := by rw [hd]; simp [hx0, Wr.data]
  have hsn := putsM_snoc (1 + j) x hdi
  have hv := hno v hvm
  have hv1 := hv.1
  have hv2 := hv.2
  have hr := hW.row
  have hxs : ((l.flatMap Wr.cells).drop (i * 2)).take 2 = [.int .i64 v.no, .slice v.x.a v.x.s.length v.x.c] := wr_seg hx0
  obtain ⟨ab, ao, rfl⟩ := (hW.row.rd hS).base (by intro e; rw [e] at hxs; simp at hxs)
  obtain ⟨X, hX⟩ : ∃ X, X = putsM (1 + j) x (d.take i) := ⟨_, rfl⟩
  rw [← hX] at hS hlt1 hsn
  repeat (first | (refine G_id ?_; first | refine G_nil ?_ | refine G_plain rfl rfl ?_) | (refine X_id ?_; first | refine X_yl (Yl_lss_t rfl rfl rfl (by omega)) rfl rfl ?_ | refine X_yl (Yl_indexAddr rfl rfl rfl (by omega) (by omega) (by first | assumption | exact ⟨_, _, rfl⟩)) rfl rfl ?_ | refine X_yl (Yl_loadN rfl rfl ((hr.rd hS).cellsX (by omega) hxs rfl)) rfl rfl ?_ | refine X_store rfl rfl rfl rfl hS (fun _ hS _ => ?_) | refine X_alloc rfl rfl rfl hS (fun _ _ hS _ => ?_)) | (refine C_id ?_; first | refine C_seq ?_ | refine C_region ?_ | refine C_block ?_ | refine C_skip ?_ | refine C_cond_t rfl ?_) | (refine E_id ?_; first | refine E_code ?_))
  refine C_ord (.s 0 (.s 1 (.s 2 (.s 3 (.s 4 (.s 5 (.s 6 (.s 7 (.s 8 (.s 9 (.s 10 (.h 11 .nil .no)))))))))))) mixed (by kernel_rfl) rfl ?_
  have hS := hS.drew
  repeat (first | (refine GO_id ?_; first | refine GO_pure rfl rfl (fun _ => Yl_move rfl rfl) rfl rfl ?_ | refine GO_pure rfl rfl (fun _ => Yl_nilCheck rfl rfl) rfl rfl ?_ | refine GO_pure rfl rfl (fun _ => Yl_fieldAddr0 rfl rfl rfl) rfl rfl ?_ | refine GO_pure rfl rfl (fun _ => Yl_add rfl rfl rfl (w64 (by omega) (by omega))) rfl rfl ?_ | refine GO_read (fun w' => w'.cell? _ = some _) rfl rfl hS.cell (fun _ hc => Yl_load rfl rfl hc) rfl rfl ?_ | refine GO_hard rfl rfl ?_))
  obtain ⟨_, hc, hr, hw, hbk⟩ := hS.call [false, false, true, true]
  refine X_callg _ rfl rfl rfl rfl rfl (swrite_ sp p X _ _ _ _ v.x.s _ _ hc (hw _ (hW.all v hvm)) rfl (by omega)) ?_
  rintro _ w ⟨_, hS⟩
  replace hS := hbk hS
  clear hc hr hw hbk
  repeat (first | (refine G_id ?_; first | refine G_nil ?_ | refine G_plain rfl rfl ?_) | (refine X_id ?_; first | refine X_yl (Yl_move rfl rfl) rfl rfl ?_ | refine X_yl (Yl_add rfl rfl rfl (w64 (by omega) (by omega))) rfl rfl ?_) | (refine C_id ?_; first | refine C_region ?_) | (refine E_id ?_; first | refine E_code ?_ | refine E_blk_n ?_) | (refine GO_id ?_; first | refine GO_nil ?_) | (refine Keep_id ?_; first | refine And.intro (by repeat (first | exact trivial | refine And.intro (.inl (by decide +kernel)) ?_ | refine And.intro (.inr (by first | assumption | exact hS.cell | exact cell_at (by assumption) | exact hS.cellI (by omega) | exact hS.cellIP (by omega) | exact hS.cellsN | exact ((hr.rd hS).cellX (by omega) hx) | exact ((hr2.rd hS).cellX (by omega) hx2) | exact hS.cellB (by omega) | exact hS.cellBA (by omega) | exact (hb.rd hS).cellB' (by omega) | exact (hb2.rd hS).cellB' (by omega) | exact (hg.rd hS).cellI (by omega) | exact (hg2.rd hS).cellI (by omega) | exact ((hr.rd hS).cellF (by first | omega | (dsimp only; omega)) hx) | exact ((hr2.rd hS).cellF (by first | omega | (dsimp only; omega)) hx2) | exact hS.cellO 0 (by omega) | exact hS.cellO 1 (by omega) | exact hS.cellIA (by omega) | exact (hg.rd hS).cellIA (by omega) | exact (hg2.rd hS).cellIA (by omega) | exact cell_at (hc.rd hS).pts | exact hb.rd hS | exact (hr.rd hS).cellsF7 (by first | omega | (dsimp only; omega)) hst4 rfl | exact (hr2.rd hS).cellsF7 (by first | omega | (dsimp only; omega)) hst4 rfl | exact hS.cellO 4 (by omega) | exact hS.cellO 5 (by omega) | exact hS.cellO 6 (by omega) | exact hS.cellO 7 (by omega) | exact hS.cellO 8 (by omega) | exact hS.cellO 9 (by omega) | exact hS.cellO 10 (by omega) | exact hS.cellO 11 (by omega) | exact hS.cellO 12 (by omega) | exact hS.cellO 13 (by omega) | exact hS.cellO 2 (by omega) | exact hS.cellO 3 (by omega))) ?_)) ?_))
  refine E_round (i + 1) ⟨rfl, rfl, rfl, rfl, rfl, rfl, trivial⟩ ⟨by omega, ?_⟩ (by omega)
  rw [hsn]
  have hS := hS.pick [3, 0, 0]
  exact hS
 ·obtain rfl : i = l.length := by omega
  rw [List.take_of_length_le (by omega)] at hS hlt1
  obtain ⟨X, hX⟩ : ∃ X, X = putsM (1 + j) x d := ⟨_, rfl⟩
  rw [← hX] at hS hlt1
  have h2 := stepF_line X
  repeat (first | (refine G_id ?_; first | refine G_nil ?_ | refine G_plain rfl rfl ?_) | (refine X_id ?_; first | refine X_yl (Yl_move rfl rfl) rfl rfl ?_ | refine X_yl (Yl_lss_f rfl rfl rfl (by omega)) rfl rfl ?_) | (refine C_id ?_; first | refine C_seq ?_ | refine C_region ?_ | refine C_exit ?_ | refine C_cond_f rfl ?_) | (refine E_id ?_; first | refine E_code ?_ | refine E_then_exit ?_ | refine E_blk_same ?_))
  obtain ⟨_, hc, hr, hw, hbk⟩ := hS.call [false, true, true]
  refine X_callg _ rfl rfl rfl rfl rfl (sflush_ sp p X _ _ hc (by omega)) ?_
  rintro _ w ⟨_, hS⟩
  replace hS := hbk hS
  clear hc hr hw hbk
  repeat (first | (refine G_id ?_; first | refine G_nil ?_ | refine G_plain rfl rfl ?_) | (refine X_id ?_; first | refine X_yl (Yl_move rfl rfl) rfl rfl ?_) | (refine C_id ?_; first | refine C_seq ?_ | refine C_region ?_) | (refine E_id ?_; first | refine E_code ?_))
  refine X_callg _ rfl rfl rfl rfl rfl (front_ number rd fs _ (hG.mono fun r hr => (hr.rd hS).ro)) ?_
  rintro _ w ⟨r, k, rfl, hS'⟩
  replace hS := hS.plus hS'
  clear hS'
  repeat (first | (refine G_id ?_; first | refine G_plain rfl rfl ?_))
  have h3 := stepW_line (stepF X) 0 (frontB rd fs number)
  obtain ⟨_, hc, hr, hw, hbk⟩ := hS.call [false, true, true, false]
  refine X_callg _ rfl rfl rfl rfl rfl (swrite_ sp p (stepF X) 0 _ 64 k (frontB rd fs number) _ _ hc (hr _ (List.mem_cons_self ..)) (frontB_length ..) (by omega)) ?_
  rintro _ w ⟨_, hS⟩
  replace hS := hbk hS
  clear hc hr hw hbk
  repeat (first | (refine G_id ?_; first | refine G_nil ?_ | refine G_plain rfl rfl ?_) | (refine X_id ?_; first | refine X_yl (Yl_move rfl rfl) rfl rfl ?_) | (refine C_id ?_; first | refine C_seq ?_ | refine C_region ?_) | (refine E_id ?_; first | refine E_code ?_))
  obtain ⟨_, hc, hr, hw, hbk⟩ := hS.call [true, true, false, false]
  refine X_callg _ rfl rfl rfl rfl rfl (sflush_ sp p (stepW (stepF X) 0 (frontB rd fs number)) _ _ hc (by omega)) ?_
  rintro _ w ⟨_, hS⟩
  replace hS := hbk hS
  clear hc hr hw hbk
  have hlay : layM rd fs j x number d = stepF (stepW (stepF X) 0 (frontB rd fs number)) := by unfold layM; rw [← hX]
  obtain ⟨Y, hY⟩ : ∃ Y, Y = layM rd fs j x number d := ⟨_, rfl⟩
  rw [← hlay, ← hY] at hS
  rw [← hY]
  clear hlay
  obtain ⟨e, D⟩ := Y
  simp only at hS ⊢
  by_cases he : e = 0
  ·subst he
   repeat (first | (refine G_id ?_; first | refine G_nil ?_ | refine G_plain rfl rfl ?_) | (refine X_id ?_; first | refine X_yl (Yl_move rfl rfl) rfl rfl ?_ | refine X_yl (Yl_assign rfl rfl) rfl rfl ?_ | refine X_yl (Yl_nilCheck rfl rfl) rfl rfl ?_ | refine X_yl (Yl_fieldAddr0 rfl rfl rfl) rfl rfl ?_ | refine X_yl (Yl_eql_t rfl rfl rfl (by omega)) rfl rfl ?_ | refine X_yl (Yl_load rfl rfl hS.cell) rfl rfl ?_ | refine X_store rfl rfl rfl rfl hS (fun _ hS _ => ?_)) | (refine C_id ?_; first | refine C_seq ?_ | refine C_region ?_ | refine C_ret ?_ | refine C_cond_t rfl ?_) | (refine E_id ?_; first | refine E_code ?_ | refine E_ret1 rfl (Rv_tmp rfl) (Ret.mk ?_)))
   refine ⟨rfl, ?_⟩
   rw [if_pos rfl]
   have hS := hS.pick [3, 0, 0]
   exact hS
  ·repeat (first | (refine G_id ?_; first | refine G_nil ?_ | refine G_plain rfl rfl ?_) | (refine X_id ?_; first | refine X_yl (Yl_move rfl rfl) rfl rfl ?_ | refine X_yl (Yl_assign rfl rfl) rfl rfl ?_ | refine X_yl (Yl_nilCheck rfl rfl) rfl rfl ?_ | refine X_yl (Yl_fieldAddr0 rfl rfl rfl) rfl rfl ?_ | refine X_yl (Yl_eql_f rfl rfl rfl (by omega)) rfl rfl ?_ | refine X_yl (Yl_load rfl rfl hS.cell) rfl rfl ?_) | (refine C_id ?_; first | refine C_seq ?_ | refine C_region ?_ | refine C_ret ?_ | refine C_skip ?_ | refine C_cond_f rfl ?_) | (refine E_id ?_; first | refine E_code ?_ | refine E_ret1 rfl (Rv_tmp rfl) (Ret.mk ?_)))
   refine ⟨rfl, ?_⟩
   rw [if_neg he]
   have hS := hS.pick [3, 0, 0]
   exact hS
end Cr
