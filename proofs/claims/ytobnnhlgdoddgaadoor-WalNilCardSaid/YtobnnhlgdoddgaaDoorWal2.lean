/-
  Layer 4 (wal): full, front, note.
-/
import Derived.Test.YtobnnhlgdoddgaaDoorWal1
import Derived.Test.YtobnnhlgdoddgaaDoorBlk5
namespace Cr
open Go Go.Proofs
set_option maxRecDepth 100000
set_option maxHeartbeats 4000000
attribute [local irreducible] Calls

def fullB (l : List UInt8) : List UInt8 := (l ++ List.replicate 64 0).take 64
theorem fullB_length (l : List UInt8) : (fullB l).length = 64 := by simp [fullB]
theorem own_part {T e c : Nat} {a : Option Addr} {cs cs' : List Value} (n : Nat) (h : cs.take n = cs') : ∀ g, own T e a c cs g → row a cs' g := fun g hg => by
  have := own_to_row g hg
  subst h
  rcases this with ⟨rfl, h0⟩ | ⟨b, off, cells, T', fz, hb, hp, hc⟩
  · exact .inl ⟨by simp, h0⟩
  · refine .inr ⟨b, off, cells, T', fz, hb, hp, fun i v hv => ?_⟩
    rw [List.getElem?_take] at hv
    split at hv
    · exact hc i v hv
    · cases hv
theorem full_ (ab ao c : Nat) (l : List Bs) (W : World) (hB : Bss W noF (some ⟨ab, ao, none⟩) l) (h2 : 2 ≤ l.length) (hc : l.length ≤ c) (hl : l.length ≤ 1099511627776) (hn : (joined l).length ≤ 1099511627776) :
    Calls Tryd.prog 40 #[.slice (some ⟨ab, ao, none⟩) l.length c] W (Ret fun v w => ∃ p k, v = .slice (some ⟨p, 0, none⟩) 64 k ∧ St W noF [bytes (some ⟨p, 0, none⟩) (fullB (joined l))] w) := by
  have hS := St.start W
  refine calls_C Tryd.func40 rfl Tryd.ntmps40 rfl ?_
  repeat (first | (refine G_id ?_; first | refine G_nil ?_ | refine G_plain rfl rfl ?_) | (refine X_id ?_; first | refine X_yl (Yl_move rfl rfl) rfl rfl ?_ | refine X_yl (Yl_assign rfl rfl) rfl rfl ?_) | (refine C_id ?_; first | refine C_seq ?_ | refine C_region ?_) | (refine E_id ?_; first | refine E_code ?_))
  refine X_callg _ rfl rfl rfl rfl rfl (join_ ab ao c l _ hB h2 hc hl hn) ?_
  rintro _ w ⟨p, rfl, hS'⟩
  replace hS := hS.plus hS'
  clear hS'
  repeat (first | (refine G_id ?_; first | refine G_plain rfl rfl ?_))
  refine X_appendZ_grow (m := 64) rfl rfl rfl rfl rfl rfl hS (hS.rd (List.mem_cons_self ..)) (by simp) (by omega) (by omega) (by omega) (by simp only [maxLen]; omega) (fun b k w hS hk => ?_)
  repeat (first | (refine G_id ?_; first | refine G_plain rfl rfl ?_))
  refine X_yl (Yl_slice (l := 0) (h := 64) rfl rfl rfl rfl (.inr ⟨_, _, rfl, by omega, by omega, by omega⟩) (.inl ⟨rfl, rfl⟩)) rfl rfl ?_
  rw [sub_zero]
  repeat (first | (refine G_id ?_; first | refine G_nil ?_ | refine G_plain rfl rfl ?_) | (refine X_id ?_; first | refine X_yl (Yl_assign rfl rfl) rfl rfl ?_) | (refine C_id ?_; first | refine C_ret ?_) | (refine E_id ?_; first | refine E_code ?_ | refine E_ret1 rfl (Rv_tmp rfl) (Ret.mk ?_)))
  refine ⟨b, k, rfl, (hS.pick [0]).head fun h hh => own_part 64 ?_ h hh⟩
  unfold fullB
  rw [bv_rep, ← bv_append, ← bv_take]
theorem Bss.ofRd {w : World} {a : Option Addr} {l : List Bs} (hr : Rd w (Cr.row a (l.map Bs.val))) (hall : ∀ x ∈ l, Rd w (bytes x.a x.s)) : Bss w noF a l := ⟨hr.ro, fun x hx => (hall x hx).ro⟩
theorem Rd.ptsB {w : World} {b : Nat} {s : List UInt8} {T : TypeId} (h : Rd w (Cr.pts b (.cells (bv s).toArray T))) : Rd w (bytes (some ⟨b, 0, none⟩) s) := h.mono fun g hg => ⟨g, row_pts g hg, fun _ _ e => e⟩

/-! ### front -/
def frontB (rd fs : List Int) (n : Int) : List UInt8 := fullB (bigB n 8 ++ digest rd fs [bigB n 8])
theorem frontB_length (rd fs : List Int) (n : Int) : (frontB rd fs n).length = 64 := fullB_length _
theorem front_ (n : Int) (rd fs : List Int) (W : World) (hG : Gl W noF rd fs) :
    Calls Tryd.prog 42 #[.int .i64 n] W (Ret fun v w => ∃ p k, v = .slice (some ⟨p, 0, none⟩) 64 k ∧ St W noF [bytes (some ⟨p, 0, none⟩) (frontB rd fs n)] w) := by
  have hS := St.start W
  refine calls_C Tryd.func42 rfl Tryd.ntmps42 rfl ?_
  repeat (first | (refine G_id ?_; first | refine G_nil ?_ | refine G_plain rfl rfl ?_) | (refine X_id ?_; first | refine X_yl (Yl_move rfl rfl) rfl rfl ?_ | refine X_yl (Yl_assign rfl rfl) rfl rfl ?_) | (refine C_id ?_; first | refine C_seq ?_ | refine C_region ?_) | (refine E_id ?_; first | refine E_code ?_))
  refine X_callg _ rfl rfl rfl rfl rfl (big_ n 8 _ (by omega)) ?_
  rintro _ w ⟨p, rfl, hS'⟩
  replace hS := hS.plus hS'
  clear hS'
  repeat (first | (refine G_id ?_; first | refine G_nil ?_ | refine G_plain rfl rfl ?_) | (refine X_id ?_; first | refine X_yl (Yl_move rfl rfl) rfl rfl ?_ | refine X_yl (Yl_assign rfl rfl) rfl rfl ?_ | refine X_buildSlice rfl rfl rfl rfl rfl rfl rfl rfl hS (fun _ _ hS _ => ?_)) | (refine C_id ?_; first | refine C_seq ?_ | refine C_region ?_) | (refine E_id ?_; first | refine E_code ?_))
  rename_i q wq _
  have hB := Bss.ofRd (w := wq) (a := some ⟨q, 0, none⟩) (l := [⟨some ⟨p, 0, none⟩, 8, bigB n 8⟩]) (by simpa [Bs.val, bigB_length] using (hS.rd (List.mem_cons_self ..)).own_row) (fun x hx => by
    simp only [List.mem_singleton] at hx
    subst hx
    exact (hS.rd (List.mem_cons_of_mem _ (List.mem_cons_self ..))).ptsB)
  have hfl : (framed (texts [⟨some ⟨p, 0, none⟩, 8, bigB n 8⟩])).length < 1152921504606846976 := by simp [framed, texts, frameB_length, bigB_length]
  have hl32 : LenO (bv (digest rd fs (texts [⟨some ⟨p, 0, none⟩, 8, bigB n 8⟩]))) 32 := ⟨by rw [bv_length]; exact digest_length _ _ _⟩
  refine X_callq _ rfl rfl rfl rfl rfl hS (framed_ _ 1 _ rd fs _ hfl (by simp) (hG.mono fun r hr => (hr.rd hS).ro) hB) ?_
  rintro _ w rfl hS
  clear hB hfl
  repeat (first | (refine G_id ?_; first | refine G_nil ?_ | refine G_plain rfl rfl ?_) | (refine X_id ?_; first | refine X_yl (Yl_move rfl rfl) rfl rfl ?_ | refine X_yl (Yl_slice_arr rfl rfl) rfl rfl ?_ | refine X_store rfl rfl rfl rfl hS (fun _ hS _ => ?_) | refine X_alloc rfl rfl rfl hS (fun _ _ hS _ => ?_) | refine X_buildSlice rfl rfl rfl rfl rfl rfl rfl rfl hS (fun _ _ hS _ => ?_)) | (refine C_id ?_; first | refine C_seq ?_ | refine C_region ?_) | (refine E_id ?_; first | refine E_code ?_))
  rename_i b4 _ _ _ _ _ _ b6 w6 _
  have hB := Bss.ofRd (w := w6) (a := some ⟨b6, 0, none⟩) (l := [⟨some ⟨p, 0, none⟩, 8, bigB n 8⟩, ⟨some ⟨b4, 0, none⟩, 32, digest rd fs [bigB n 8]⟩]) (by simpa [Bs.val, bigB_length, digest_length] using (hS.rd (List.mem_cons_self ..)).own_row) (fun x hx => by
    simp only [List.mem_cons, List.not_mem_nil, or_false] at hx
    rcases hx with rfl | rfl
    · exact (hS.rd (by simp)).ptsB (T := 5)
    · exact (hS.rd (List.mem_cons_of_mem _ (List.mem_cons_self ..))).ptsB)
  refine X_callg _ rfl rfl rfl rfl rfl (full_ b6 0 2 _ _ hB (by simp) (by simp) (by simp) (by simp [joined, bigB_length, digest_length])) ?_
  rintro _ w ⟨r, k, rfl, hS'⟩
  replace hS := hS.plus hS'
  clear hS' hB
  repeat (first | (refine G_id ?_; first | refine G_nil ?_ | refine G_plain rfl rfl ?_) | (refine X_id ?_; first | refine X_yl (Yl_assign rfl rfl) rfl rfl ?_) | (refine C_id ?_; first | refine C_ret ?_) | (refine E_id ?_; first | refine E_code ?_ | refine E_ret1 rfl (Rv_tmp rfl) (Ret.mk ?_)))
  refine ⟨r, k, rfl, ?_⟩
  have := hS.pick [0]
  unfold frontB
  simpa [joined] using this

/-! ### note -/
def noteB (number at_ count no : Int) (d : List UInt8) : List UInt8 := fullB (bigB number 8 ++ (bigB at_ 4 ++ (bigB count 4 ++ (bigB no 4 ++ d))))
theorem noteB_length (number at_ count no : Int) (d : List UInt8) : (noteB number at_ count no d).length = 64 := fullB_length _
theorem note_ (number at_ count no : Int) (d : List UInt8) (hd : d.length = 32) (W : World) :
    Calls Tryd.prog 28 #[.int .i64 number, .int .i64 at_, .int .i64 count, .int .i64 no, .agg (bv d).toArray] W (Ret fun v w => ∃ p k, v = .slice (some ⟨p, 0, none⟩) 64 k ∧ St W noF [bytes (some ⟨p, 0, none⟩) (noteB number at_ count no d)] w) := by
  have hS := St.start W
  have hl32 : LenO (bv d) 32 := ⟨by rw [bv_length]; exact hd⟩
  refine calls_C Tryd.func28 rfl Tryd.ntmps28 rfl ?_
  repeat (first | (refine G_id ?_; first | refine G_nil ?_ | refine G_plain rfl rfl ?_) | (refine X_id ?_; first | refine X_yl (Yl_assign rfl rfl) rfl rfl ?_ | refine X_box rfl rfl rfl rfl hS (fun _ _ hS _ => ?_)) | (refine C_id ?_; first | refine C_seq ?_ | refine C_region ?_) | (refine E_id ?_; first | refine E_code ?_))
  rename_i bd _ _
  refine C_ord [(0, true), (2, true), (4, true), (6, true), (8, true), (1, false), (3, false), (5, false), (7, false), (9, false), (10, false), (11, true)] mixed (by kernel_rfl) rfl ?_
  have hS := hS.drew
  repeat (first | (refine GO_id ?_; first | refine GO_pure rfl rfl (fun _ => Yl_move rfl rfl) rfl rfl ?_ | refine GO_pure rfl rfl (fun _ => Yl_slice_arr rfl rfl) rfl rfl ?_ | refine GO_hard rfl rfl ?_))
  refine X_callg _ rfl rfl rfl rfl rfl (big_ number 8 _ (by omega)) ?_
  rintro _ w ⟨p1, rfl, hS'⟩
  replace hS := hS.plus hS'
  clear hS'
  repeat (first | (refine GO_id ?_; first | refine GO_hard rfl rfl ?_) | (refine Keep_id ?_; first | refine And.intro (by repeat (first | exact trivial | refine And.intro (.inl (by decide +kernel)) ?_ | refine And.intro (.inr (by first | assumption | exact hS.cell | exact cell_at (by assumption) | exact hS.cellI (by omega) | exact hS.cellIP (by omega) | exact hS.cellsN | exact ((hr.rd hS).cellX (by omega) hx) | exact ((hr2.rd hS).cellX (by omega) hx2) | exact hS.cellB (by omega) | exact hS.cellBA (by omega) | exact (hb.rd hS).cellB' (by omega) | exact (hb2.rd hS).cellB' (by omega) | exact (hg.rd hS).cellI (by omega) | exact (hg2.rd hS).cellI (by omega) | exact ((hr.rd hS).cellF (by first | omega | (dsimp only; omega)) hx) | exact ((hr2.rd hS).cellF (by first | omega | (dsimp only; omega)) hx2))) ?_)) ?_))
  refine X_callg _ rfl rfl rfl rfl rfl (big_ at_ 4 _ (by omega)) ?_
  rintro _ w ⟨p2, rfl, hS'⟩
  replace hS := hS.plus hS'
  clear hS'
  repeat (first | (refine GO_id ?_; first | refine GO_hard rfl rfl ?_) | (refine Keep_id ?_; first | refine And.intro (by repeat (first | exact trivial | refine And.intro (.inl (by decide +kernel)) ?_ | refine And.intro (.inr (by first | assumption | exact hS.cell | exact cell_at (by assumption) | exact hS.cellI (by omega) | exact hS.cellIP (by omega) | exact hS.cellsN | exact ((hr.rd hS).cellX (by omega) hx) | exact ((hr2.rd hS).cellX (by omega) hx2) | exact hS.cellB (by omega) | exact hS.cellBA (by omega) | exact (hb.rd hS).cellB' (by omega) | exact (hb2.rd hS).cellB' (by omega) | exact (hg.rd hS).cellI (by omega) | exact (hg2.rd hS).cellI (by omega) | exact ((hr.rd hS).cellF (by first | omega | (dsimp only; omega)) hx) | exact ((hr2.rd hS).cellF (by first | omega | (dsimp only; omega)) hx2))) ?_)) ?_))
  refine X_callg _ rfl rfl rfl rfl rfl (big_ count 4 _ (by omega)) ?_
  rintro _ w ⟨p3, rfl, hS'⟩
  replace hS := hS.plus hS'
  clear hS'
  repeat (first | (refine GO_id ?_; first | refine GO_hard rfl rfl ?_) | (refine Keep_id ?_; first | refine And.intro (by repeat (first | exact trivial | refine And.intro (.inl (by decide +kernel)) ?_ | refine And.intro (.inr (by first | assumption | exact hS.cell | exact cell_at (by assumption) | exact hS.cellI (by omega) | exact hS.cellIP (by omega) | exact hS.cellsN | exact ((hr.rd hS).cellX (by omega) hx) | exact ((hr2.rd hS).cellX (by omega) hx2) | exact hS.cellB (by omega) | exact hS.cellBA (by omega) | exact (hb.rd hS).cellB' (by omega) | exact (hb2.rd hS).cellB' (by omega) | exact (hg.rd hS).cellI (by omega) | exact (hg2.rd hS).cellI (by omega) | exact ((hr.rd hS).cellF (by first | omega | (dsimp only; omega)) hx) | exact ((hr2.rd hS).cellF (by first | omega | (dsimp only; omega)) hx2))) ?_)) ?_))
  refine X_callg _ rfl rfl rfl rfl rfl (big_ no 4 _ (by omega)) ?_
  rintro _ w ⟨p4, rfl, hS'⟩
  replace hS := hS.plus hS'
  clear hS'
  repeat (first | (refine X_id ?_; first | refine X_buildSlice rfl rfl rfl rfl rfl rfl rfl rfl hS (fun _ _ hS _ => ?_)) | (refine GO_id ?_; first | refine GO_hard rfl rfl ?_) | (refine Keep_id ?_; first | refine And.intro (by repeat (first | exact trivial | refine And.intro (.inl (by decide +kernel)) ?_ | refine And.intro (.inr (by first | assumption | exact hS.cell | exact cell_at (by assumption) | exact hS.cellI (by omega) | exact hS.cellIP (by omega) | exact hS.cellsN | exact ((hr.rd hS).cellX (by omega) hx) | exact ((hr2.rd hS).cellX (by omega) hx2) | exact hS.cellB (by omega) | exact hS.cellBA (by omega) | exact (hb.rd hS).cellB' (by omega) | exact (hb2.rd hS).cellB' (by omega) | exact (hg.rd hS).cellI (by omega) | exact (hg2.rd hS).cellI (by omega) | exact ((hr.rd hS).cellF (by first | omega | (dsimp only; omega)) hx) | exact ((hr2.rd hS).cellF (by first | omega | (dsimp only; omega)) hx2))) ?_)) ?_))
  rename_i b6 w6 _
  have hB := Bss.ofRd (w := w6) (a := some ⟨b6, 0, none⟩) (l := [⟨some ⟨p1, 0, none⟩, 8, bigB number 8⟩, ⟨some ⟨p2, 0, none⟩, 4, bigB at_ 4⟩, ⟨some ⟨p3, 0, none⟩, 4, bigB count 4⟩, ⟨some ⟨p4, 0, none⟩, 4, bigB no 4⟩, ⟨some ⟨bd, 0, none⟩, 32, d⟩])
    (by simpa [Bs.val, bigB_length, hd] using (hS.rd (List.mem_cons_self ..)).own_row) (fun x hx => by
      simp only [List.mem_cons, List.not_mem_nil, or_false] at hx
      rcases hx with rfl | rfl | rfl | rfl | rfl
      · exact (hS.rd (by simp)).ptsB (T := 5)
      · exact (hS.rd (by simp)).ptsB (T := 5)
      · exact (hS.rd (by simp)).ptsB (T := 5)
      · exact (hS.rd (by simp)).ptsB (T := 5)
      · exact (hS.rd (by simp)).ptsB (T := 78))
  refine X_callg _ rfl rfl rfl rfl rfl (full_ b6 0 5 _ _ hB (by simp) (by simp) (by simp) (by simp [joined, bigB_length, hd])) ?_
  rintro _ w ⟨r, k, rfl, hS'⟩
  replace hS := hS.plus hS'
  clear hS' hB
  repeat (first | (refine C_id ?_; first | refine C_ret ?_) | (refine E_id ?_; first | refine E_code ?_ | refine E_ret1 rfl (Rv_tmp rfl) (Ret.mk ?_)) | (refine GO_id ?_; first | refine GO_nil ?_ | refine GO_pure rfl rfl (fun _ => Yl_assign rfl rfl) rfl rfl ?_) | (refine Keep_id ?_; first | refine And.intro (by repeat (first | exact trivial | refine And.intro (.inl (by decide +kernel)) ?_ | refine And.intro (.inr (by first | assumption | exact hS.cell | exact cell_at (by assumption) | exact hS.cellI (by omega) | exact hS.cellIP (by omega) | exact hS.cellsN | exact ((hr.rd hS).cellX (by omega) hx) | exact ((hr2.rd hS).cellX (by omega) hx2) | exact hS.cellB (by omega) | exact hS.cellBA (by omega) | exact (hb.rd hS).cellB' (by omega) | exact (hb2.rd hS).cellB' (by omega) | exact (hg.rd hS).cellI (by omega) | exact (hg2.rd hS).cellI (by omega) | exact ((hr.rd hS).cellF (by first | omega | (dsimp only; omega)) hx) | exact ((hr2.rd hS).cellF (by first | omega | (dsimp only; omega)) hx2))) ?_)) ?_))
  refine ⟨r, k, rfl, ?_⟩
  have := hS.pick [0]
  unfold noteB
  simpa [joined] using this
end Cr
