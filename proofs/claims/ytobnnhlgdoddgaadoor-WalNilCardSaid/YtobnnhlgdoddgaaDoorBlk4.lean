/-
  Layer 1 (block): lay, Flush, Read.
-/
import Derived.Test.YtobnnhlgdoddgaaDoorBlk3
import Derived.Test.YtobnnhlgdoddgaaDoorBwd
namespace Cr
open Go Go.Proofs
set_option maxRecDepth 100000
set_option maxHeartbeats 4000000

theorem flatMap_len {α β : Type} {f : α → List β} {n : Nat} {l : List α} (h : ∀ x ∈ l, (f x).length = n) : (l.flatMap f).length = l.length * n := by
  induction l with
  | nil => simp
  | cons x l ih =>
    have := ih fun y hy => h y (List.mem_cons_of_mem _ hy)
    have h0 := h x (List.mem_cons_self ..)
    simp only [List.flatMap_cons, List.length_append, List.length_cons, h0, this, Nat.succ_mul]
    omega
theorem flatMap_seg {α β : Type} {f : α → List β} {n : Nat} {l : List α} (h : ∀ x ∈ l, (f x).length = n) {k : Nat} {x : α} (hx : l[k]? = some x) : ((l.flatMap f).drop (k * n)).take n = f x := by
  induction l generalizing k with
  | nil => simp at hx
  | cons y l ih =>
    have h0 := h y (List.mem_cons_self ..)
    cases k with
    | zero =>
      have e : y = x := by simpa using hx
      subst e
      simp [List.flatMap_cons, ← h0]
    | succ k =>
      have hx' : l[k]? = some x := by simpa using hx
      have := ih (fun z hz => h z (List.mem_cons_of_mem _ hz)) hx'
      rw [List.flatMap_cons, List.drop_append, h0, show (k + 1) * n - n = k * n by rw [Nat.succ_mul]; omega, List.drop_of_length_le (by rw [h0, Nat.succ_mul]; omega)]
      simpa using this
theorem splice_here (l m vs : List Value) (n : Nat) (hn : l.length = n) (r : List Value) (hr : r.length = vs.length) : splice (l ++ (r ++ m)) n vs = l ++ (vs ++ m) := by
  subst hn
  simp [splice, ← hr]
theorem flatMap_set {α : Type} {f : α → List Value} {n : Nat} {l : List α} (h : ∀ x ∈ l, (f x).length = n) {k : Nat} {y : α} (hy : (f y).length = n) (hk : k < l.length) : splice (l.flatMap f) (k * n) (f y) = (l.set k y).flatMap f := by
  induction l generalizing k with
  | nil => simp at hk
  | cons x l ih =>
    have h0 := h x (List.mem_cons_self ..)
    cases k with
    | zero =>
      simp only [List.flatMap_cons, List.set_cons_zero, Nat.zero_mul, splice]
      simp [hy, ← h0]
    | succ k =>
      have := ih (fun z hz => h z (List.mem_cons_of_mem _ hz)) (k := k) (by simpa using hk)
      simp only [List.flatMap_cons, List.set_cons_succ]
      rw [← this]
      unfold splice
      rw [List.take_append, List.drop_append, h0, show (k + 1) * n - n = k * n by rw [Nat.succ_mul]; omega, List.take_of_length_le (by rw [h0, Nat.succ_mul]; omega), List.drop_of_length_le (by rw [h0, Nat.succ_mul]; omega),
        show (k + 1) * n + (f y).length - n = k * n + (f y).length by rw [Nat.succ_mul]; omega]
      simp

def layOn (l : List (List UInt8)) (xs : List (Int × List UInt8)) : List (List UInt8) := xs.foldl (fun l x => l.set x.1.toNat x.2) l
theorem layOn_length (xs : List (Int × List UInt8)) : ∀ l, (layOn l xs).length = l.length := by
  induction xs with
  | nil => intro l; rfl
  | cons x xs ih => intro l; simp [layOn, List.foldl_cons] at ih ⊢; rw [ih]; simp
theorem layOn_64 (xs : List (Int × List UInt8)) (hx : ∀ x ∈ xs, x.2.length = 64) : ∀ l, (∀ s ∈ l, s.length = 64) → ∀ s ∈ layOn l xs, s.length = 64 := by
  induction xs with
  | nil => intro l h; exact h
  | cons x xs ih =>
    intro l h
    refine ih (fun y hy => hx y (List.mem_cons_of_mem _ hy)) _ fun s hs => ?_
    rcases List.mem_or_eq_of_mem_set hs with h' | rfl
    · exact h s h'
    · exact hx x (List.mem_cons_self ..)
theorem layOn_take {l : List (List UInt8)} {xs : List (Int × List UInt8)} {k : Nat} {x : Int × List UInt8} (hx : xs[k]? = some x) : layOn l (xs.take (k + 1)) = (layOn l (xs.take k)).set x.1.toNat x.2 := by
  have : xs.take (k + 1) = xs.take k ++ [x] := by
    rw [List.take_add_one, hx]; rfl
  rw [this, layOn, List.foldl_append]; rfl

theorem always_ (x : Value) (W : World) : Calls Tryd.prog 59 #[x] W (Ret fun v w => v = .bool true ∧ W = w) := by
  refine calls_C Tryd.func59 rfl Tryd.ntmps59 rfl ?_
  repeat (first | (refine G_id ?_; first | refine G_nil ?_ | refine G_plain rfl rfl ?_) | (refine X_id ?_; first | refine X_yl (Yl_assign rfl rfl) rfl rfl ?_) | (refine C_id ?_; first | refine C_seq ?_ | refine C_region ?_ | refine C_ret ?_) | (refine E_id ?_; first | refine E_code ?_ | refine E_ret1 rfl (Rv_tmp rfl) (Ret.mk ?_)))
  exact ⟨rfl, rfl⟩
def DiskM.flushed (D : DiskM) : DiskM := { D with laid := layOn D.laid D.line, line := [] }
theorem DiskM.flushed_ok {D : DiskM} (h : D.ok) : D.flushed.ok := by
  obtain ⟨h1, h2, h3, h4, h5, h6⟩ := h
  refine ⟨layOn_64 _ (fun x hx => (h2 x hx).1) _ h1, fun x hx => (by cases hx), ?_, ?_, h5, h6⟩ <;> simpa [DiskM.flushed, layOn_length] using (by assumption)
theorem lay_ (p : Nat) (D : DiskM) (W : World) (F : Nat → Prop) (hS : St W F [disk p D] W) (hline : D.line.length < 1073741824) :
    Calls Tryd.prog 58 #[.pointer (some ⟨p, 0, none⟩), .func (.func 59) #[] #[]] W (Ret fun _ w => True ∧ St W F [disk p D.flushed] w) := by
  obtain ⟨hok, al, cl, ai, ci, c1, c2, hS⟩ := hS.openDisk
  refine calls_C Tryd.func58 rfl Tryd.ntmps58 rfl ?_
  repeat (first | (refine G_id ?_; first | refine G_nil ?_ | refine G_plain rfl rfl ?_) | (refine X_id ?_; first | refine X_yl (Yl_move rfl rfl) rfl rfl ?_ | refine X_yl (Yl_assign rfl rfl) rfl rfl ?_ | refine X_yl (Yl_nilCheck rfl rfl) rfl rfl ?_ | refine X_yl (Yl_fieldAddr0 rfl rfl rfl) rfl rfl ?_ | refine X_yl (Yl_len rfl rfl) rfl rfl ?_ | refine X_yl (Yl_load rfl rfl hS.cell) rfl rfl ?_) | (refine C_id ?_; first | refine C_seq ?_ | refine C_label ?_ | refine C_scope rfl ?_ | refine C_region ?_ | refine C_block ?_) | (refine E_id ?_; first | refine E_code ?_))
  refine C_loop (α := Nat) (fun k => [(0, .pointer (some ⟨p, 0, none⟩)), (1, .func (.func 59) #[] #[]), (5, .int .i64 (k : Nat)), (11, .slice ai D.line.length ci), (12, .int .i64 (D.line.length : Nat)), (13, .int .i64 (k : Nat))])
    (fun k w => k ≤ D.line.length ∧ St W F [pts p (.cells #[.bool D.off, .bool D.armed, .int .i64 D.left, .slice al D.laid.length cl, .slice ai D.line.length ci, .int .i64 D.writes, .int .i64 D.flushes] 59),
      own 99 64 al cl (laidCells (layOn D.laid (D.line.take k))), own 101 65 ai ci (lineCells D.line)] w) (fun k => D.line.length - k) 0 ⟨rfl, rfl, rfl, rfl, rfl, rfl, trivial⟩ ⟨Nat.zero_le _, hS⟩ ?_
  clear hS
  rintro k w ⟨hk, hS⟩
  by_cases hlt : k < D.line.length
  · obtain ⟨x, hx⟩ : ∃ x, D.line[k]? = some x := ⟨_, List.getElem?_eq_getElem hlt⟩
    have hxm := List.mem_of_getElem? hx
    have hln : ∀ x ∈ D.line, (Value.int .i64 x.1 :: bv x.2).length = 65 := fun x hx => by simp [(hok.line64 x hx).1]
    have hseg : CellsAt w (adr ai (k * 65)) (.int .i64 x.1 :: bv x.2) := by
      have := (hS.rd (List.mem_cons_of_mem _ (List.mem_cons_of_mem _ (List.mem_cons_self ..)))).own_row.seg (k * 65) 65
      rwa [show ((lineCells D.line).drop (k * 65)).take 65 = _ from flatMap_seg hln hx] at this
    obtain ⟨ab, ao, hae⟩ := (hS.rd (List.mem_cons_of_mem _ (List.mem_cons_of_mem _ (List.mem_cons_self ..)))).own_row.base (by intro e; have h := lineCells_length fun x hx => (hok.line64 x hx).1; rw [e] at h; simp at h; omega)
    subst hae
    have hx64 := (hok.line64 x hxm).1
    have hx0 := (hok.line64 x hxm).2.1
    have hx1 := (hok.line64 x hxm).2.2
    have hl64 := layOn_64 (D.line.take k) (fun y hy => (hok.line64 y (List.mem_of_mem_take hy)).1) _ hok.laid64
    have hlay := laidCells_length hl64
    rw [layOn_length] at hlay
    obtain ⟨lb, lo, rfl⟩ := (hS.rd (List.mem_cons_of_mem _ (List.mem_cons_self ..))).own_row.base (by intro e; rw [e] at hlay; simp at hlay; omega)
    have hlen : LenIs (bv x.2) 64 := ⟨by simp [(hok.line64 x hxm).1]⟩
    repeat (first | (refine G_id ?_; first | refine G_nil ?_ | refine G_plain rfl rfl ?_) | (refine X_id ?_; first | refine X_yl (Yl_move rfl rfl) rfl rfl ?_ | refine X_yl (Yl_lss_t rfl rfl rfl (by omega)) rfl rfl ?_ | refine X_yl (Yl_indexAddr rfl rfl rfl (by omega) (by omega) (by first | assumption | exact ⟨_, _, rfl⟩)) rfl rfl ?_) | (refine C_id ?_; first | refine C_seq ?_ | refine C_region ?_ | refine C_block ?_ | refine C_skip ?_ | refine C_cond_t rfl ?_) | (refine E_id ?_; first | refine E_code ?_))
    refine X_yl (Yl_loadAgg rfl rfl hseg (by simp [(hok.line64 x hxm).1])) rfl rfl ?_
    repeat (first | (refine G_id ?_; first | refine G_nil ?_ | refine G_plain rfl rfl ?_) | (refine X_id ?_; first | refine X_yl (Yl_move rfl rfl) rfl rfl ?_ | refine X_yl (Yl_assign rfl rfl) rfl rfl ?_ | refine X_store rfl rfl rfl rfl hS (fun _ hS _ => ?_) | refine X_alloc rfl rfl rfl hS (fun _ _ hS _ => ?_)) | (refine C_id ?_; first | refine C_seq ?_ | refine C_region ?_) | (refine E_id ?_; first | refine E_code ?_))
    refine X_callg 59 rfl rfl rfl rfl rfl (always_ _ _) ?_
    rintro _ _ ⟨rfl, rfl⟩
    repeat (first | (refine G_id ?_; first | refine G_nil ?_ | refine G_plain rfl rfl ?_) | (refine X_id ?_; first | refine X_yl (Yl_not_t rfl rfl) rfl rfl ?_) | (refine C_id ?_; first | refine C_seq ?_ | refine C_skip ?_ | refine C_cond_f rfl ?_) | (refine E_id ?_; first | refine E_code ?_))
    refine C_ord [(0, true), (1, true), (2, true), (3, true), (4, true), (5, true), (6, true), (7, true), (8, true), (9, false)] mixed (by kernel_rfl) rfl ?_
    have hS := hS.drew
    repeat (first | (refine GO_id ?_; first | refine GO_pure rfl rfl (fun _ => Yl_move rfl rfl) rfl rfl ?_ | refine GO_pure rfl rfl (fun _ => Yl_nilCheck rfl rfl) rfl rfl ?_ | refine GO_pure rfl rfl (fun _ => Yl_fieldAddr0 rfl rfl rfl) rfl rfl ?_ | refine GO_pure rfl rfl (fun _ => Yl_indexAddr rfl rfl rfl (by omega) (by omega) (by first | assumption | exact ⟨_, _, rfl⟩)) rfl rfl ?_ | refine GO_read (fun w' => w'.cell? _ = some _) rfl rfl hS.cell (fun _ hc => Yl_load rfl rfl hc) rfl rfl ?_ | refine GO_read (fun w' => CellsN w' _ _ _) rfl rfl hS.cellsN (fun _ hc => Yl_loadN rfl rfl hc) rfl rfl ?_ | refine GO_hard rfl rfl ?_))
    refine X_storeOwnN (a := some ⟨lb, lo, none⟩) (i := x.1.toNat * 64) rfl rfl ?_ rfl (bv_one) (by simp [hx64]) rfl hS (by simp [hx64, hlay]; omega) (by omega) (fun w hS => ?_)
    · rfl
    repeat (first | (refine G_id ?_; first | refine G_nil ?_ | refine G_plain rfl rfl ?_) | (refine X_id ?_; first | refine X_yl (Yl_move rfl rfl) rfl rfl ?_ | refine X_yl (Yl_assign rfl rfl) rfl rfl ?_ | refine X_yl (Yl_add rfl rfl rfl (w64 (by omega) (by omega))) rfl rfl ?_) | (refine C_id ?_; first | refine C_region ?_) | (refine E_id ?_; first | refine E_code ?_ | refine E_blk_n ?_) | (refine GO_id ?_; first | refine GO_nil ?_) | (refine Keep_id ?_; first | refine And.intro (by repeat (first | exact trivial | refine And.intro (.inl (by decide +kernel)) ?_ | refine And.intro (.inr (by first | assumption | exact hS.cell | exact cell_at (by assumption) | exact hS.cellI (by omega) | exact hS.cellIP (by omega) | exact hS.cellsN | exact ((hr.rd hS).cellX (by omega) hx) | exact ((hr2.rd hS).cellX (by omega) hx2) | exact hS.cellB (by omega) | exact hS.cellBA (by omega) | exact (hb.rd hS).cellB' (by omega) | exact (hb2.rd hS).cellB' (by omega) | exact (hg.rd hS).cellI (by omega) | exact (hg2.rd hS).cellI (by omega) | exact ((hr.rd hS).cellF (by first | omega | (dsimp only; omega)) hx) | exact ((hr2.rd hS).cellF (by first | omega | (dsimp only; omega)) hx2))) ?_)) ?_))
    refine E_round (k + 1) ⟨rfl, rfl, rfl, rfl, rfl, rfl, trivial⟩ ⟨hlt, ?_⟩ (by omega)
    rw [layOn_take hx]
    have hS := hS.pick [2, 0, 1]
    rwa [show splice (laidCells (layOn D.laid (D.line.take k))) (x.1.toNat * 64) (bv x.2) = _ from flatMap_set (fun y hy => by simp [hl64 y hy]) (by simp [hx64]) (by rw [layOn_length]; omega)] at hS
  · obtain rfl : k = D.line.length := by omega
    repeat (first | (refine G_id ?_; first | refine G_nil ?_ | refine G_plain rfl rfl ?_) | (refine X_id ?_; first | refine X_yl (Yl_move rfl rfl) rfl rfl ?_ | refine X_yl (Yl_assign rfl rfl) rfl rfl ?_ | refine X_yl (Yl_nilCheck rfl rfl) rfl rfl ?_ | refine X_yl (Yl_fieldAddr0 rfl rfl rfl) rfl rfl ?_ | refine X_yl (Yl_lss_f rfl rfl rfl (by omega)) rfl rfl ?_ | refine X_store rfl rfl rfl rfl hS (fun _ hS _ => ?_)) | (refine C_id ?_; first | refine C_seq ?_ | refine C_region ?_ | refine C_ret ?_ | refine C_exit ?_ | refine C_cond_f rfl ?_) | (refine E_id ?_; first | refine E_code ?_ | refine E_noGoto (fun _ h => by cases h) ?_ | refine E_then_exit ?_ | refine E_blk_same ?_ | refine E_ret1 rfl (Rv_tmp rfl) (Ret.mk ?_)))
    refine ⟨trivial, ?_⟩
    refine St.shutDisk (D := D.flushed) (al := al) (ai := none) (cl := cl) (ci := 0) (DiskM.flushed_ok hok) (by simpa [DiskM.flushed, layOn_length]) (by simp [DiskM.flushed]) ?_
    have hS := ((hS.pick [0, 0]).own_none 101 65 none).pick [1, 1, 0]
    rw [List.take_length] at hS
    simpa [DiskM.flushed, layOn_length, lineCells] using hS
/-! ### Flush -/
def DiskM.flush (D : DiskM) : Int × DiskM :=
  if D.off then (9, D) else if useB D.off D.armed D.left = false then (9, D.used)
  else (0, { D.used.flushed with flushes := IntKind.i64.wrap (D.flushes + 1) })
theorem DiskM.flush_use {D : DiskM} (h : D.off = false) (hu : useB D.off D.armed D.left = false) : D.flush = (9, D.used) := by
  unfold DiskM.flush
  rw [if_neg (by simp [h]), if_pos hu]
theorem DiskM.flush_yes {D : DiskM} (h : D.off = false) (hu : useB D.off D.armed D.left = true) : D.flush = (0, { D.used.flushed with flushes := IntKind.i64.wrap (D.flushes + 1) }) := by
  unfold DiskM.flush
  rw [if_neg (by simp [h]), if_neg (by simp [hu])]
theorem flush_ (p : Nat) (D : DiskM) (W : World) (F : Nat → Prop) (hS : St W F [disk p D] W) (hline : D.line.length < 1073741824) :
    Calls Tryd.prog 41 #[.pointer (some ⟨p, 0, none⟩)] W (Ret fun v w => v = .int .i64 D.flush.1 ∧ St W F [disk p D.flush.2] w) := by
  have hd := hS.rd (List.mem_cons_self ..)
  have hon := on_ p D W hd
  have hok := hd.disk.1
  cases hoff : D.off
  · rw [hoff] at hon
    refine calls_C Tryd.func41 rfl Tryd.ntmps41 rfl ?_
    repeat (first | (refine G_id ?_; first | refine G_nil ?_ | refine G_plain rfl rfl ?_ | refine G_yes rfl rfl rfl rfl ?_) | (refine X_id ?_; first | (refine X_callg 19 rfl rfl rfl rfl rfl hon ?_; rintro _ _ ⟨rfl, rfl⟩) | refine X_yl (Yl_move rfl rfl) rfl rfl ?_ | refine X_yl (Yl_assign rfl rfl) rfl rfl ?_ | refine X_yl (Yl_nilCheck rfl rfl) rfl rfl ?_ | refine X_yl (Yl_fieldAddr0 rfl rfl rfl) rfl rfl ?_ | refine X_yl (Yl_not_t rfl rfl) rfl rfl ?_) | (refine C_id ?_; first | refine C_seq ?_ | refine C_region ?_) | (refine E_id ?_; first | refine E_code ?_))
    obtain ⟨hok, al, cl, ai, ci, c1, c2, hS⟩ := hS.openDisk
    cases huse : useB D.off D.armed D.left
    · skip
      obtain ⟨_, hc, hr, hw, hbk⟩ := hS.call [true, false, false]
      refine X_callg _ rfl rfl rfl rfl rfl (use_ p D.off D.armed D.left _ _ _ _ hok.left0 hok.left1 hc) ?_
      rintro _ w ⟨rfl, hS⟩
      replace hS := hbk hS
      clear hc hr hw hbk
      rw [huse]
      repeat (first | (refine G_id ?_; first | refine G_nil ?_ | refine G_plain rfl rfl ?_ | refine G_yes rfl rfl rfl rfl ?_) | (refine X_id ?_; first | refine X_yl (Yl_assign rfl rfl) rfl rfl ?_ | refine X_yl (Yl_pick_f rfl rfl rfl) rfl rfl ?_ | refine X_yl (Yl_not_f rfl rfl) rfl rfl ?_) | (refine C_id ?_; first | refine C_seq ?_ | refine C_region ?_ | refine C_ret ?_ | refine C_cond_t rfl ?_) | (refine E_id ?_; first | refine E_code ?_ | refine E_then_ret ?_ | refine E_ret1 rfl (Rv_tmp rfl) (Ret.mk ?_)))
      rw [DiskM.flush_use hoff huse]
      exact ⟨rfl, St.shutDisk (DiskM.used_ok hok) c1 c2 hS⟩
    · skip
      obtain ⟨_, hc, hr, hw, hbk⟩ := hS.call [true, false, false]
      refine X_callg _ rfl rfl rfl rfl rfl (use_ p D.off D.armed D.left _ _ _ _ hok.left0 hok.left1 hc) ?_
      rintro _ w ⟨rfl, hS⟩
      replace hS := hbk hS
      clear hc hr hw hbk
      rw [huse]
      replace hS : St W F [disk p D.used] w := St.shutDisk (DiskM.used_ok hok) c1 c2 hS
      repeat (first | (refine G_id ?_; first | refine G_nil ?_ | refine G_plain rfl rfl ?_ | refine G_yes rfl rfl rfl rfl ?_) | (refine X_id ?_; first | refine X_yl (Yl_move rfl rfl) rfl rfl ?_ | refine X_yl (Yl_pick_f rfl rfl rfl) rfl rfl ?_ | refine X_yl (Yl_not_t rfl rfl) rfl rfl ?_) | (refine C_id ?_; first | refine C_seq ?_ | refine C_region ?_ | refine C_skip ?_ | refine C_cond_f rfl ?_) | (refine E_id ?_; first | refine E_code ?_))
      obtain ⟨_, hc, hr, hw, hbk⟩ := hS.call [true]
      refine X_callg _ rfl rfl rfl rfl rfl (lay_ p D.used _ _ hc hline) ?_
      rintro _ w ⟨_, hS⟩
      replace hS := hbk hS
      clear hc hr hw hbk
      obtain ⟨hok2, al2, cl2, ai2, ci2, d1, d2, hS⟩ := hS.openDisk
      repeat (first | (refine G_id ?_; first | refine G_nil ?_ | refine G_plain rfl rfl ?_) | (refine X_id ?_; first | refine X_yl (Yl_move rfl rfl) rfl rfl ?_ | refine X_yl (Yl_nilCheck rfl rfl) rfl rfl ?_ | refine X_yl (Yl_fieldAddr0 rfl rfl rfl) rfl rfl ?_) | (refine C_id ?_; first | refine C_seq ?_ | refine C_region ?_) | (refine E_id ?_; first | refine E_code ?_))
      obtain ⟨_, hc, hr, hw, hbk⟩ := hS.call [true, false, false]
      refine X_callg _ rfl rfl rfl rfl rfl (add64_ p 6 D.flushes 1 _ _ _ _ _ hc) ?_
      rintro _ w ⟨rfl, hS⟩
      replace hS := hbk hS
      clear hc hr hw hbk
      repeat (first | (refine G_id ?_; first | refine G_nil ?_ | refine G_plain rfl rfl ?_) | (refine X_id ?_; first | refine X_yl (Yl_assign rfl rfl) rfl rfl ?_) | (refine C_id ?_; first | refine C_seq ?_ | refine C_region ?_ | refine C_ret ?_) | (refine E_id ?_; first | refine E_code ?_ | refine E_ret1 rfl (Rv_tmp rfl) (Ret.mk ?_)))
      rw [DiskM.flush_yes hoff huse]
      exact ⟨rfl, St.shutDisk (D := { D.used.flushed with flushes := IntKind.i64.wrap (D.flushes + 1) }) ⟨hok2.1, hok2.2, hok2.3, hok2.4, hok2.5, hok2.6⟩ d1 d2 hS⟩
  · rw [hoff] at hon
    refine calls_C Tryd.func41 rfl Tryd.ntmps41 rfl ?_
    repeat (first | (refine G_id ?_; first | refine G_nil ?_ | refine G_plain rfl rfl ?_ | refine G_no rfl rfl rfl rfl rfl rfl ?_) | (refine X_id ?_; first | (refine X_callg 19 rfl rfl rfl rfl rfl hon ?_; rintro _ _ ⟨rfl, rfl⟩) | refine X_yl (Yl_move rfl rfl) rfl rfl ?_ | refine X_yl (Yl_assign rfl rfl) rfl rfl ?_ | refine X_yl (Yl_pick_t rfl rfl rfl) rfl rfl ?_ | refine X_yl (Yl_not_f rfl rfl) rfl rfl ?_) | (refine C_id ?_; first | refine C_seq ?_ | refine C_region ?_ | refine C_ret ?_ | refine C_cond_t rfl ?_) | (refine E_id ?_; first | refine E_code ?_ | refine E_then_ret ?_ | refine E_ret1 rfl (Rv_tmp rfl) (Ret.mk ?_)))
    exact ⟨by simp [DiskM.flush, hoff], by simpa [DiskM.flush, hoff] using hS⟩

/-! ### Read -/
theorem row_pts {b : Nat} {l : List Value} {T : TypeId} : ∀ h, pts b (.cells l.toArray T (0, 0)) h → row (some ⟨b, 0, none⟩) l h := fun _ hg => .inr ⟨b, 0, l.toArray, T, (0, 0), rfl, hg, fun j v hv => by simpa using hv⟩
theorem row_pts_mid {b off n : Nat} {l cs : List Value} {T : TypeId} (hs : (l.drop off).take n = cs) : ∀ h, pts b (.cells l.toArray T (0, 0)) h → row (some ⟨b, off, none⟩) cs h := fun _ hg => .inr ⟨b, off, l.toArray, T, (0, 0), rfl, hg, fun j v hv => by
  subst hs
  rw [List.getElem?_take] at hv
  split at hv
  · rw [List.getElem?_drop] at hv
    simpa using hv
  · cases hv⟩
theorem St.row_none {W : World} {F : Nat → Prop} {rs : List Res} {w : World} (hS : St W F rs w) : St W F (row none [] :: rs) w :=
  hS.imp fun h hh => ⟨fun _ => none, h, .inl ⟨rfl, fun _ => rfl⟩, hh, fun _ => .inl rfl, fun _ => by simp⟩
theorem St.more {W : World} {F : Nat → Prop} {rs : List Res} {w : World} (hS : St W noF rs w) : St W F rs w := by
  obtain ⟨h, hs, s⟩ := hS
  exact ⟨h, hs, s.agrees, fun b o e => (s.foot b o e).elim (fun h => h.elim) .inr, s.size, s.os, s.tape, s.output, fun k hk _ => s.kept k hk (fun h => h)⟩
theorem St.kept {W : World} {rs : List Res} {w : World} {b : Nat} {o : Obj} (hS : St W noF rs w) (h : W.heap[b]? = some o) : w.heap[b]? = some o := by
  have : Rd W (pts b o) := ⟨single b o, rfl, fun k o' e => by obtain ⟨rfl, rfl⟩ := of_single e; exact h⟩
  exact (this.ro.rd hS).pts
theorem on_b (p : Nat) (D : DiskM) (b : Bool) (hb : D.off = b) (W : World) (hd : Rd W (disk p D)) : Calls Tryd.prog 19 #[.pointer (some ⟨p, 0, none⟩)] W (Ret fun v w => v = .bool (!b) ∧ W = w) := by
  subst hb; exact on_ p D W hd
theorem has_b (p : Nat) (D : DiskM) (no : Int) (b : Bool) (hb : inDisk D no = b) (W : World) (hd : Rd W (disk p D)) : Calls Tryd.prog 43 #[.pointer (some ⟨p, 0, none⟩), .int .i64 no] W (Ret fun v w => v = .bool b ∧ W = w) := by
  subst hb; exact has_ p D no W hd
theorem backward_mk (a : Option Addr) (n c : Nat) (W : World) : Calls Tryd.prog 44 #[.slice a n c] W
    (Ret fun v w => ∃ bx, v = .func (.func 60) #[] #[.pointer (some ⟨bx, 0, none⟩)] ∧ St W noF [pts bx (.cells #[.slice a n c] 52)] w) := by
  have hS := St.start W
  refine calls_C Tryd.func44 rfl Tryd.ntmps44 rfl ?_
  repeat (first | (refine G_id ?_; first | refine G_nil ?_ | refine G_plain rfl rfl ?_) | (refine X_id ?_; first | refine X_yl (Yl_assign rfl rfl) rfl rfl ?_ | refine X_yl (Yl_makeFunc rfl rfl rfl) rfl rfl ?_ | refine X_box rfl rfl rfl rfl hS (fun _ _ hS _ => ?_)) | (refine C_id ?_; first | refine C_seq ?_ | refine C_region ?_ | refine C_ret ?_) | (refine E_id ?_; first | refine E_code ?_ | refine E_ret1 rfl (Rv_tmp rfl) (Ret.mk ?_)))
  exact ⟨_, rfl, hS⟩
/-- What is read of a disk: the error, and the bytes. -/
def DiskM.find (D : DiskM) (no : Int) : List UInt8 := match D.line.reverse.find? (fun x => x.1 == no) with | some x => x.2 | none => D.laid.getD no.toNat []
def DiskM.read (D : DiskM) (no : Int) : Int × List UInt8 := if D.off then (9, []) else if inDisk D no = false then (1, []) else (0, D.find no)
end Cr
