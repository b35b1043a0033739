/-
  The law WalOrder: what it computes.
  A law's arguments, opened: bytes, lists of writes. What is read of them, by the reading that the row gives.
  A law's argument, opened: a slice of writes (a number, and bytes).
  The law WalOrder holds: for every two lists of writes it returns true, and the lists read as they did; the package-level tables of package digest are as the program's text lays them.
-/
import Derived.Test.YtobnnhlgdoddgaaDoorOrd8
import Derived.Test.YtobnnhlgdoddgaaDoorOrd7
import Derived.Test.YtobnnhlgdoddgaaDoorOrd5
import Derived.Deep.SlicePairs
import Derived.Carry
namespace Cr
open Go Go.Proofs
set_option maxRecDepth 100000
set_option maxHeartbeats 8000000
attribute [local irreducible] Calls

theorem order_open (rd fs : List Int) : openM rd fs (newDisk 37) 24 = ⟨0, newDisk 37, 0, false⟩ := by kernel_rfl
theorem order_quiet : Quiet (newDisk 37) 37 := ⟨rfl, rfl, rfl⟩
theorem ToZ.ok.le {z : ToZ} {d : List (Int × List UInt8)} (h : z.ok d) : (∀ v ∈ z.L1, v.x.s.length ≤ 65) ∧ (∀ v ∈ z.L2, v.x.s.length ≤ 65) := by
  have key : ∀ (L : List Wr), L.map Wr.data = ((d.take z.i).map fun v => (v.1, toB v.2)) → ∀ v ∈ L, v.x.s.length ≤ 65 := fun L e v hv => by
    have : v.data ∈ L.map Wr.data := List.mem_map.2 ⟨v, hv, rfl⟩
    rw [e] at this
    obtain ⟨u, _, hu⟩ := List.mem_map.1 this
    have e2 : v.x.s = toB u.2 := congrArg Prod.snd hu.symm
    rw [e2]; exact toB_le _
  exact ⟨key _ h.d1, key _ h.d2⟩
/-- Two writes' lists in memory: what To gives. -/
structure Two (z : ToZ) (x : List (Int × List UInt8)) : Prop where
  d1 : z.L1.map Wr.data = x
  d2 : z.L2.map Wr.data = x
  o1 : ∀ v ∈ z.L1, v.x ∈ z.O
  o2 : ∀ v ∈ z.L2, v.x ∈ z.O
  n1 : z.L1.length ≤ 10
  n2 : z.L2.length ≤ 10
  l1 : ∀ v ∈ z.L1, v.x.s.length ≤ 65
theorem Two.len {z : ToZ} {x : List (Int × List UInt8)} (h : Two z x) : z.L2.length = x.length := by rw [← h.d2]; simp
theorem Two.w1 {z : ToZ} {x : List (Int × List UInt8)} (h : Two z x) {w : World} {F : Nat → Prop} (hr : ∀ r ∈ z.res, Ro w F r) : Wrs w F z.a1 z.L1 :=
  ⟨(hr _ (List.mem_cons_self ..)).own_row, fun v hv => (hr _ (List.mem_cons_of_mem _ (List.mem_cons_of_mem _ (List.mem_cons_self ..)))).rds _ (h.o1 v hv)⟩
theorem Two.w2 {z : ToZ} {x : List (Int × List UInt8)} (h : Two z x) {w : World} {F : Nat → Prop} (hr : ∀ r ∈ z.res, Ro w F r) : Wrs w F z.a2 z.L2 :=
  ⟨(hr _ (List.mem_cons_of_mem _ (List.mem_cons_self ..))).own_row, fun v hv => (hr _ (List.mem_cons_of_mem _ (List.mem_cons_of_mem _ (List.mem_cons_self ..)))).rds _ (h.o2 v hv)⟩
theorem Two.get {z : ToZ} {x : List (Int × List UInt8)} (h : Two z x) {i : Nat} {v : Wr} (hv : z.L2[i]? = some v) : v.data ∈ x := by
  rw [← h.d2]; exact List.mem_map.2 ⟨v, List.mem_of_getElem? hv, rfl⟩
/-- Both lists, in one resource: it's read from here on. -/
def both (z y : ToZ) : Res := Sep [Sep z.res, Sep y.res]
theorem both_ro {z y : ToZ} {w : World} {F : Nat → Prop} (h : Ro w F (both z y)) : (∀ r ∈ z.res, Ro w F r) ∧ (∀ r ∈ y.res, Ro w F r) :=
  ⟨fun r hr => (h.sep (Sep z.res) (List.mem_cons_self ..)).sep r hr, fun r hr => (h.sep (Sep y.res) (List.mem_cons_of_mem _ (List.mem_cons_self ..))).sep r hr⟩
theorem St.toSep {W : World} {F : Nat → Prop} {rs : List Res} {w : World} (hS : St W F rs w) : St W F [Sep rs] w :=
  hS.imp fun h hh => ⟨h, fun _ => none, hh, fun _ => rfl, fun _ => .inr rfl, fun _ => by simp⟩
abbrev logsAt (b : Nat) (x y : Value) : Res := pts b (.cells #[x, y] 27)
abbrev logOn (q : Nat × Nat) (done : Int) (D : DiskM) : List Res := [logAt q.1 q.2 1 0 0 24 done false, disk q.2 D]
abbrev sixR (b : Nat) (z y : ToZ) (q q' : Nat × Nat) (d d' : Int) (D D' : DiskM) : List Res :=
  [logsAt b (.pointer (some ⟨q.1, 0, none⟩)) (.pointer (some ⟨q'.1, 0, none⟩)), both z y, logAt q.1 q.2 1 0 0 24 d false, disk q.2 D, logAt q'.1 q'.2 1 0 0 24 d' false, disk q'.2 D']
def logsR (W : World) (b : Nat) (z y : ToZ) : List (Nat × Nat) → World → Prop
  | [], w => St W noF [logsAt b (.pointer none) (.pointer none), both z y] w
  | [q], w => St W noF [logsAt b (.pointer (some ⟨q.1, 0, none⟩)) (.pointer none), both z y, logAt q.1 q.2 1 0 0 24 0 false, disk q.2 (newDisk 37)] w
  | [q, q'], w => St W noF [logsAt b (.pointer (some ⟨q.1, 0, none⟩)) (.pointer (some ⟨q'.1, 0, none⟩)), both z y, logAt q.1 q.2 1 0 0 24 0 false, disk q.2 (newDisk 37), logAt q'.1 q'.2 1 0 0 24 0 false, disk q'.2 (newDisk 37)] w
  | _, _ => False
theorem walOrder_ (a b : Option Addr) (ca cb : Nat) (l m : List Wr) (rd fs : List Int) (W : World) (hG : Gl W noF rd fs) (hl : Wrs W noF a l) (hm : Wrs W noF b m) :
    Calls Tryd.prog 3 #[.slice a l.length ca, .slice b m.length cb] W (Ret fun v w => v = .bool true ∧ St W noF [] w) := by
  have hS := St.start W
  refine calls_C Tryd.func3 rfl Tryd.ntmps3 rfl ?_
  repeat (first | (refine G_id ?_; first | refine G_nil ?_ | refine G_plain rfl rfl ?_) | (refine X_id ?_; first | refine X_yl (Yl_move rfl rfl) rfl rfl ?_ | refine X_yl (Yl_assign rfl rfl) rfl rfl ?_) | (refine C_id ?_; first | refine C_seq ?_ | refine C_region ?_) | (refine E_id ?_; first | refine E_code ?_))
  refine X_callg _ rfl rfl rfl rfl rfl (to_ a ca l _ hl) ?_
  rintro _ w ⟨z, rfl, ok1, _, n1, hS'⟩
  replace hS := hS.plus hS'.toSep
  clear hS'
  repeat (first | (refine G_id ?_; first | refine G_nil ?_ | refine G_plain rfl rfl ?_) | (refine X_id ?_; first | refine X_yl (Yl_move rfl rfl) rfl rfl ?_ | refine X_yl (Yl_assign rfl rfl) rfl rfl ?_ | refine X_yl (Yl_extract rfl rfl) rfl rfl ?_) | (refine C_id ?_; first | refine C_seq ?_ | refine C_region ?_) | (refine E_id ?_; first | refine E_code ?_))
  refine X_callg _ rfl rfl rfl rfl rfl (to_ b cb m _ ⟨(hm.row.rd hS).ro, fun v hv => ((hm.all v hv).rd hS).ro⟩) ?_
  rintro _ w ⟨y, rfl, ok2, _, n2, hS'⟩
  replace hS := hS.plus hS'.toSep
  clear hS'
  obtain ⟨dx, hx⟩ : ∃ dx, Two z dx := ⟨_, ok1.d1, ok1.d2, ok1.o1, ok1.o2, by rw [ok1.n1]; exact n1, by rw [ok1.n2]; exact n1, ok1.le.1⟩
  obtain ⟨dy, hy⟩ : ∃ dy, Two y dy := ⟨_, ok2.d1, ok2.d2, ok2.o1, ok2.o2, by rw [ok2.n1]; exact n2, by rw [ok2.n2]; exact n2, ok2.le.1⟩
  clear ok1 ok2 n1 n2
  replace hS : St W noF [both z y] w := (hS.pick [1, 0]).toSep
  have hxn := hx.n1
  have hyn := hy.n1
  have hxn2 := hx.n2
  have hyn2 := hy.n2
  repeat (first | (refine G_id ?_; first | refine G_nil ?_ | refine G_plain rfl rfl ?_) | (refine X_id ?_; first | refine X_yl (Yl_move rfl rfl) rfl rfl ?_ | refine X_yl (Yl_assign rfl rfl) rfl rfl ?_ | refine X_yl (Yl_extract rfl rfl) rfl rfl ?_ | refine X_alloc rfl rfl rfl hS (fun _ _ hS _ => ?_)) | (refine C_id ?_; first | refine C_seq ?_ | refine C_region ?_ | refine C_block ?_) | (refine E_id ?_; first | refine E_code ?_))
  rename_i b9 _ _
  refine C_joinB (α := (Nat × Nat) × (Nat × Nat)) (fun _ => [(5, .slice z.a1 z.L1.length z.c1), (6, .slice z.a2 z.L2.length z.c2), (7, .slice y.a1 y.L1.length y.c1), (8, .slice y.a2 y.L2.length y.c2), (9, .pointer (some ⟨b9, 0, none⟩))])
    (fun q w => logsR W b9 z y [q.1, q.2] w) ?_ ?_
  · refine C_loop (α := List (Nat × Nat)) (fun L => [(5, .slice z.a1 z.L1.length z.c1), (6, .slice z.a2 z.L2.length z.c2), (7, .slice y.a1 y.L1.length y.c1), (8, .slice y.a2 y.L2.length y.c2), (9, .pointer (some ⟨b9, 0, none⟩)), (10, .int .i64 (L.length : Nat))])
      (fun L w => logsR W b9 z y L w) (fun L => 2 - L.length) [] ⟨rfl, rfl, rfl, rfl, rfl, rfl, trivial⟩ hS ?_
    clear hS
    intro L w hL
    match L, hL with
    | [], hL =>
      have hS : St W noF [_, _] w := hL
      have e0 : ([] : List (Nat × Nat)).length = 0 := rfl
      clear hL
      repeat (first | (refine G_id ?_; first | refine G_nil ?_ | refine G_plain rfl rfl ?_) | (refine X_id ?_; first | refine X_yl (Yl_move rfl rfl) rfl rfl ?_ | refine X_yl (Yl_lss_t rfl rfl rfl (by omega)) rfl rfl ?_) | (refine C_id ?_; first | refine C_seq ?_ | refine C_region ?_ | refine C_block ?_ | refine C_skip ?_ | refine C_cond_t rfl ?_) | (refine E_id ?_; first | refine E_code ?_))
      refine X_callg _ rfl rfl rfl rfl rfl (new_ 37 _ (by omega) (by omega)) ?_
      rintro _ w ⟨p, rfl, hS'⟩
      replace hS := hS.plus hS'
      clear hS'
      repeat (first | (refine G_id ?_; first | refine G_nil ?_ | refine G_plain rfl rfl ?_) | (refine X_id ?_; first | refine X_yl (Yl_move rfl rfl) rfl rfl ?_ | refine X_yl (Yl_assign rfl rfl) rfl rfl ?_ | refine X_yl (Yl_extract rfl rfl) rfl rfl ?_) | (refine C_id ?_; first | refine C_seq ?_ | refine C_region ?_) | (refine E_id ?_; first | refine E_code ?_))
      have hopen := open_ p (newDisk 37) 24 rd fs
      rw [order_open] at hopen
      obtain ⟨_, hc, hr, hw, hbk⟩ := hS.call [true, false, false]
      refine X_callg _ rfl rfl rfl rfl rfl (hopen _ _ (hG.mono hw) (by simp [newDisk]) hc) ?_
      rintro _ w (⟨h, _⟩ | ⟨_, lp, rfl, hS⟩)
      · exact absurd rfl h
      replace hS := hbk hS
      clear hc hr hw hbk hopen
      have hS := hS.pick [2, 2, 0, 0]
      repeat (first | (refine G_id ?_; first | refine G_nil ?_ | refine G_plain rfl rfl ?_) | (refine X_id ?_; first | refine X_yl (Yl_move rfl rfl) rfl rfl ?_ | refine X_yl (Yl_assign rfl rfl) rfl rfl ?_ | refine X_yl (Yl_extract rfl rfl) rfl rfl ?_ | refine X_yl (Yl_neq_f rfl rfl rfl (by omega)) rfl rfl ?_ | refine X_yl (Yl_indexAddr_arr rfl rfl rfl (by omega) (by omega)) rfl rfl ?_) | (refine C_id ?_; first | refine C_seq ?_ | refine C_region ?_ | refine C_skip ?_ | refine C_cond_f rfl ?_) | (refine E_id ?_; first | refine E_code ?_))
      refine X_store (off := 0) rfl rfl rfl rfl hS (fun _ hS _ => ?_)
      repeat (first | (refine G_id ?_; first | refine G_nil ?_ | refine G_plain rfl rfl ?_) | (refine X_id ?_; first | refine X_yl (Yl_move rfl rfl) rfl rfl ?_ | refine X_yl (Yl_assign rfl rfl) rfl rfl ?_ | refine X_yl (Yl_add rfl rfl rfl (w64 (by omega) (by omega))) rfl rfl ?_) | (refine C_id ?_; first | refine C_region ?_) | (refine E_id ?_; first | refine E_code ?_ | refine E_blk_n ?_))
      refine E_round (z := []) [(lp, p)] ⟨rfl, rfl, rfl, rfl, rfl, rfl, trivial⟩ hS (by simp only [List.length_cons, List.length_nil]; omega)
    | [q], hL =>
      have hS : St W noF [_, _, _, _] w := hL
      have e0 : [q].length = 1 := rfl
      clear hL
      repeat (first | (refine G_id ?_; first | refine G_nil ?_ | refine G_plain rfl rfl ?_) | (refine X_id ?_; first | refine X_yl (Yl_move rfl rfl) rfl rfl ?_ | refine X_yl (Yl_lss_t rfl rfl rfl (by omega)) rfl rfl ?_) | (refine C_id ?_; first | refine C_seq ?_ | refine C_region ?_ | refine C_block ?_ | refine C_skip ?_ | refine C_cond_t rfl ?_) | (refine E_id ?_; first | refine E_code ?_))
      refine X_callg _ rfl rfl rfl rfl rfl (new_ 37 _ (by omega) (by omega)) ?_
      rintro _ w ⟨p, rfl, hS'⟩
      replace hS := hS.plus hS'
      clear hS'
      repeat (first | (refine G_id ?_; first | refine G_nil ?_ | refine G_plain rfl rfl ?_) | (refine X_id ?_; first | refine X_yl (Yl_move rfl rfl) rfl rfl ?_ | refine X_yl (Yl_assign rfl rfl) rfl rfl ?_ | refine X_yl (Yl_extract rfl rfl) rfl rfl ?_) | (refine C_id ?_; first | refine C_seq ?_ | refine C_region ?_) | (refine E_id ?_; first | refine E_code ?_))
      have hopen := open_ p (newDisk 37) 24 rd fs
      rw [order_open] at hopen
      obtain ⟨_, hc, hr, hw, hbk⟩ := hS.call [true, false, false, false, false]
      refine X_callg _ rfl rfl rfl rfl rfl (hopen _ _ (hG.mono hw) (by simp [newDisk]) hc) ?_
      rintro _ w (⟨h, _⟩ | ⟨_, lp, rfl, hS⟩)
      · exact absurd rfl h
      replace hS := hbk hS
      clear hc hr hw hbk hopen
      have hS := hS.pick [2, 2, 2, 2, 0, 0]
      repeat (first | (refine G_id ?_; first | refine G_nil ?_ | refine G_plain rfl rfl ?_) | (refine X_id ?_; first | refine X_yl (Yl_move rfl rfl) rfl rfl ?_ | refine X_yl (Yl_assign rfl rfl) rfl rfl ?_ | refine X_yl (Yl_extract rfl rfl) rfl rfl ?_ | refine X_yl (Yl_neq_f rfl rfl rfl (by omega)) rfl rfl ?_ | refine X_yl (Yl_indexAddr_arr rfl rfl rfl (by omega) (by omega)) rfl rfl ?_) | (refine C_id ?_; first | refine C_seq ?_ | refine C_region ?_ | refine C_skip ?_ | refine C_cond_f rfl ?_) | (refine E_id ?_; first | refine E_code ?_))
      refine X_store (off := 1) rfl rfl rfl rfl hS (fun _ hS _ => ?_)
      repeat (first | (refine G_id ?_; first | refine G_nil ?_ | refine G_plain rfl rfl ?_) | (refine X_id ?_; first | refine X_yl (Yl_move rfl rfl) rfl rfl ?_ | refine X_yl (Yl_assign rfl rfl) rfl rfl ?_ | refine X_yl (Yl_add rfl rfl rfl (w64 (by omega) (by omega))) rfl rfl ?_) | (refine C_id ?_; first | refine C_region ?_) | (refine E_id ?_; first | refine E_code ?_ | refine E_blk_n ?_))
      refine E_round (z := [q]) [q, (lp, p)] ⟨rfl, rfl, rfl, rfl, rfl, rfl, trivial⟩ hS (by simp only [List.length_cons, List.length_nil]; omega)
    | [q, q'], hL =>
      have hS : St W noF [_, _, _, _, _, _] w := hL
      have e0 : [q, q'].length = 2 := rfl
      repeat (first | (refine G_id ?_; first | refine G_nil ?_ | refine G_plain rfl rfl ?_) | (refine X_id ?_; first | refine X_yl (Yl_move rfl rfl) rfl rfl ?_ | refine X_yl (Yl_lss_f rfl rfl rfl (by omega)) rfl rfl ?_) | (refine C_id ?_; first | refine C_seq ?_ | refine C_region ?_ | refine C_exit ?_ | refine C_cond_f rfl ?_) | (refine E_id ?_; first | refine E_code ?_ | refine E_then_exit ?_ | refine E_blk_same ?_))
      exact E_mid (q, q') ⟨rfl, rfl, rfl, rfl, rfl, trivial⟩ hL
    | _ :: _ :: _ :: _, hL => exact hL.elim
  clear hS
  rintro ⟨q, q'⟩ w hL
  have hS : St W noF [logsAt b9 (.pointer (some ⟨q.1, 0, none⟩)) (.pointer (some ⟨q'.1, 0, none⟩)), both z y, logAt q.1 q.2 1 0 0 24 0 false, disk q.2 (newDisk 37), logAt q'.1 q'.2 1 0 0 24 0 false, disk q'.2 (newDisk 37)] w := hL
  clear hL
  have hbt : ∀ (w : World) (rs : List Res), St W noF rs w → both z y ∈ rs → Wrs w noF z.a1 z.L1 ∧ Wrs w noF z.a2 z.L2 ∧ Wrs w noF y.a1 y.L1 ∧ Wrs w noF y.a2 y.L2 := fun w rs h hm => by
    have h1 := both_ro (h.rd hm).ro
    exact ⟨hx.w1 h1.1, hx.w2 h1.1, hy.w1 h1.2, hy.w2 h1.2⟩
  have hkn : ∀ (w : World) (rs : List Res), St W noF rs w → Calls Tryd.prog 9 #[] w (Ret fun v w' => v = .bool true ∧ St w noF [] w') := fun w rs h => known_ rd fs w (hG.mono fun r hr => (hr.rd h).ro)
  repeat (first | (refine G_id ?_; first | refine G_plain rfl rfl ?_) | (refine X_id ?_; first | refine X_yl (Yl_move rfl rfl) rfl rfl ?_) | (refine C_id ?_; first | refine C_seq ?_ | refine C_region ?_))
  refine X_callq _ rfl rfl rfl rfl rfl hS (rcheck_ z.a2 z.c2 z.L2 12 12 _ (hbt _ _ hS (by simp)).2.1 (by omega)) ?_
  rintro _ w rfl hS
  rw [hx.d2]
  by_cases cx : rcheckM dx 12 12 = 0
  · rw [cx]
    repeat (first | (refine G_id ?_; first | refine G_plain rfl rfl ?_ | refine G_yes rfl rfl rfl rfl ?_) | (refine X_id ?_; first | refine X_yl (Yl_move rfl rfl) rfl rfl ?_ | refine X_yl (Yl_neq_f rfl rfl rfl (by omega)) rfl rfl ?_))
    refine X_callq _ rfl rfl rfl rfl rfl hS (rcheck_ y.a2 y.c2 y.L2 12 12 _ (hbt _ _ hS (by simp)).2.2.2 (by omega)) ?_
    rintro _ w rfl hS
    rw [hy.d2]
    by_cases cy : rcheckM dy 12 12 = 0
    · rw [cy]
      repeat (first | (refine G_id ?_; first | refine G_nil ?_ | refine G_plain rfl rfl ?_ | refine G_yes rfl rfl rfl rfl ?_) | (refine X_id ?_; first | refine X_yl (Yl_assign rfl rfl) rfl rfl ?_ | refine X_yl (Yl_pick_f rfl rfl rfl) rfl rfl ?_ | refine X_yl (Yl_neq_f rfl rfl rfl (by omega)) rfl rfl ?_) | (refine C_id ?_; first | refine C_seq ?_ | refine C_region ?_ | refine C_block ?_ | refine C_skip ?_ | refine C_cond_f rfl ?_) | (refine E_id ?_; first | refine E_code ?_))
      refine C_joinB (α := Unit) (fun _ => [(5, .slice z.a1 z.L1.length z.c1), (6, .slice z.a2 z.L2.length z.c2), (7, .slice y.a1 y.L1.length y.c1), (8, .slice y.a2 y.L2.length y.c2), (9, .pointer (some ⟨b9, 0, none⟩))])
        (fun _ w => unlike dx dy ∧ St W noF (sixR b9 z y q q' 0 0 (newDisk 37) (newDisk 37)) w) ?_ ?_
      · obtain ⟨F2, hS2, hro, _, hbk⟩ := hS.call []
        clear hS
        have hS := hS2
        clear hS2
        have hb2 := both_ro (hro (both z y) (by simp))
        have hwx := hx.w2 hb2.1
        have hwy := hy.w2 hb2.2
        refine C_loop (α := Nat) (fun i => [(5, .slice z.a1 z.L1.length z.c1), (6, .slice z.a2 z.L2.length z.c2), (7, .slice y.a1 y.L1.length y.c1), (8, .slice y.a2 y.L2.length y.c2), (9, .pointer (some ⟨b9, 0, none⟩)), (15, .int .i64 (i : Nat))])
          (fun i w' => i ≤ z.L2.length ∧ unlike (dx.take i) dy ∧ St w F2 [] w') (fun i => z.L2.length - i) 0 ⟨rfl, rfl, rfl, rfl, rfl, rfl, trivial⟩ ⟨Nat.zero_le _, fun _ h => by simp at h, hS⟩ ?_
        clear hS
        rintro i w2 ⟨hi, hun, hS⟩
        by_cases h1 : i < z.L2.length
        · have hx0 : z.L2[i]? = some z.L2[i] := List.getElem?_eq_getElem h1
          generalize z.L2[i] = u at hx0
          have hdu : dx[i]? = some u.data := by rw [← hx.d2]; simp [hx0]
          have hr := hwx.row
          have hx := wr_no hx0
          obtain ⟨xb, xo, hxa⟩ := (hr.rd hS).base (by intro e; rw [e] at hx; simp at hx)
          rw [hxa] at hr ⊢
          repeat (first | (refine G_id ?_; first | refine G_nil ?_ | refine G_plain rfl rfl ?_) | (refine X_id ?_; first | refine X_yl (Yl_move rfl rfl) rfl rfl ?_ | refine X_yl (Yl_assign rfl rfl) rfl rfl ?_ | refine X_yl (Yl_len rfl rfl) rfl rfl ?_ | refine X_yl (Yl_lss_t rfl rfl rfl (by omega)) rfl rfl ?_) | (refine C_id ?_; first | refine C_seq ?_ | refine C_region ?_ | refine C_block ?_ | refine C_skip ?_ | refine C_cond_t rfl ?_) | (refine E_id ?_; first | refine E_code ?_))
          refine C_loop (α := Nat) (fun k => [(5, .slice z.a1 z.L1.length z.c1), (6, .slice (some ⟨xb, xo, none⟩) z.L2.length z.c2), (7, .slice y.a1 y.L1.length y.c1), (8, .slice y.a2 y.L2.length y.c2), (9, .pointer (some ⟨b9, 0, none⟩)), (15, .int .i64 (i : Nat)), (16, .int .i64 (k : Nat))])
            (fun k w' => k ≤ y.L2.length ∧ (∀ v ∈ dy.take k, u.no ≠ v.1) ∧ St w F2 [] w') (fun k => y.L2.length - k) 0 ⟨rfl, rfl, rfl, rfl, rfl, rfl, rfl, trivial⟩ ⟨Nat.zero_le _, fun _ h => by simp at h, hS⟩ ?_
          clear hS
          rintro k w3 ⟨hk, hne, hS⟩
          by_cases h2 : k < y.L2.length
          · have hy0 : y.L2[k]? = some y.L2[k] := List.getElem?_eq_getElem h2
            generalize y.L2[k] = v at hy0
            have hdv : dy[k]? = some v.data := by rw [← hy.d2]; simp [hy0]
            have hr2 := hwy.row
            have hx2 := wr_no hy0
            obtain ⟨yb, yo, hya⟩ := (hr2.rd hS).base (by intro e; rw [e] at hx2; simp at hx2)
            rw [hya] at hr2 ⊢
            by_cases hq : u.no = v.no
            · repeat (first | (refine G_id ?_; first | refine G_nil ?_ | refine G_plain rfl rfl ?_) | (refine X_id ?_; first | refine X_yl (Yl_move rfl rfl) rfl rfl ?_ | refine X_yl (Yl_len rfl rfl) rfl rfl ?_ | refine X_yl (Yl_lss_t rfl rfl rfl (by omega)) rfl rfl ?_) | (refine C_id ?_; first | refine C_seq ?_ | refine C_region ?_ | refine C_block ?_ | refine C_skip ?_ | refine C_cond_t rfl ?_) | (refine E_id ?_; first | refine E_code ?_))
              refine C_ord [(0, true), (1, true), (2, true), (3, true), (4, true), (5, true), (6, true), (7, true), (8, true), (9, true), (10, true)] mixed (by kernel_rfl) rfl ?_
              have hS := hS.drew
              repeat (first | (refine G_id ?_; first | refine G_nil ?_ | refine G_plain rfl rfl ?_) | (refine X_id ?_; first | (refine X_callq 9 rfl rfl rfl rfl rfl hS (hkn _ _ (hbk hS)) ?_; rintro _ _ rfl hS) | refine X_yl (Yl_assign rfl rfl) rfl rfl ?_) | (refine C_id ?_; first | refine C_seq ?_ | refine C_region ?_ | refine C_ret ?_ | refine C_cond_t rfl ?_) | (refine E_id ?_; first | refine E_code ?_ | refine E_then_ret ?_ | refine E_blk_ret ?_ | refine E_ret1 rfl (Rv_tmp rfl) (Ret.mk ?_)) | (refine GO_id ?_; first | refine GO_nil ?_ | refine GO_pure rfl rfl (fun _ => Yl_move rfl rfl) rfl rfl ?_ | refine GO_pure rfl rfl (fun _ => Yl_fieldAddr rfl rfl rfl) rfl rfl ?_ | refine GO_pure rfl rfl (fun _ => Yl_eql_t rfl rfl rfl (by omega)) rfl rfl ?_ | refine GO_pure rfl rfl (fun _ => Yl_indexAddr rfl rfl rfl (by omega) (by omega) (by first | assumption | exact ⟨_, _, rfl⟩)) rfl rfl ?_ | refine GO_read (fun w' => w'.cell? _ = some _) rfl rfl ((hr.rd hS).cellX (by omega) hx) (fun _ hc => Yl_load rfl rfl hc) rfl rfl ?_ | refine GO_read (fun w' => w'.cell? _ = some _) rfl rfl ((hr2.rd hS).cellX (by omega) hx2) (fun _ hc => Yl_load rfl rfl hc) rfl rfl ?_))
              exact ⟨rfl, (hbk hS).drops⟩
            · repeat (first | (refine G_id ?_; first | refine G_nil ?_ | refine G_plain rfl rfl ?_) | (refine X_id ?_; first | refine X_yl (Yl_move rfl rfl) rfl rfl ?_ | refine X_yl (Yl_len rfl rfl) rfl rfl ?_ | refine X_yl (Yl_lss_t rfl rfl rfl (by omega)) rfl rfl ?_) | (refine C_id ?_; first | refine C_seq ?_ | refine C_region ?_ | refine C_block ?_ | refine C_skip ?_ | refine C_cond_t rfl ?_) | (refine E_id ?_; first | refine E_code ?_))
              refine C_ord [(0, true), (1, true), (2, true), (3, true), (4, true), (5, true), (6, true), (7, true), (8, true), (9, true), (10, true)] mixed (by kernel_rfl) rfl ?_
              have hS := hS.drew
              repeat (first | (refine G_id ?_; first | refine G_nil ?_ | refine G_plain rfl rfl ?_) | (refine X_id ?_; first | refine X_yl (Yl_move rfl rfl) rfl rfl ?_ | refine X_yl (Yl_assign rfl rfl) rfl rfl ?_ | refine X_yl (Yl_add rfl rfl rfl (w64 (by omega) (by omega))) rfl rfl ?_) | (refine C_id ?_; first | refine C_region ?_ | refine C_skip ?_ | refine C_cond_f rfl ?_) | (refine E_id ?_; first | refine E_code ?_ | refine E_blk_n ?_) | (refine GO_id ?_; first | refine GO_nil ?_ | refine GO_pure rfl rfl (fun _ => Yl_move rfl rfl) rfl rfl ?_ | refine GO_pure rfl rfl (fun _ => Yl_fieldAddr rfl rfl rfl) rfl rfl ?_ | refine GO_pure rfl rfl (fun _ => Yl_eql_f rfl rfl rfl (by omega)) rfl rfl ?_ | refine GO_pure rfl rfl (fun _ => Yl_indexAddr rfl rfl rfl (by omega) (by omega) (by first | assumption | exact ⟨_, _, rfl⟩)) rfl rfl ?_ | refine GO_read (fun w' => w'.cell? _ = some _) rfl rfl ((hr.rd hS).cellX (by omega) hx) (fun _ hc => Yl_load rfl rfl hc) rfl rfl ?_ | refine GO_read (fun w' => w'.cell? _ = some _) rfl rfl ((hr2.rd hS).cellX (by omega) hx2) (fun _ hc => Yl_load rfl rfl hc) rfl rfl ?_))
              refine E_round (k + 1) ⟨rfl, rfl, rfl, rfl, rfl, rfl, rfl, trivial⟩ ⟨by omega, ?_, hS⟩ (by omega)
              rw [List.take_add_one, hdv]
              intro e he
              rcases List.mem_append.1 he with h | h
              · exact hne e h
              · simp only [Option.toList, List.mem_singleton] at h
                rw [h]; exact hq
          · obtain rfl : k = y.L2.length := by omega
            repeat (first | (refine G_id ?_; first | refine G_nil ?_ | refine G_plain rfl rfl ?_) | (refine X_id ?_; first | refine X_yl (Yl_move rfl rfl) rfl rfl ?_ | refine X_yl (Yl_assign rfl rfl) rfl rfl ?_ | refine X_yl (Yl_len rfl rfl) rfl rfl ?_ | refine X_yl (Yl_lss_f rfl rfl rfl (by omega)) rfl rfl ?_ | refine X_yl (Yl_add rfl rfl rfl (w64 (by omega) (by omega))) rfl rfl ?_) | (refine C_id ?_; first | refine C_seq ?_ | refine C_region ?_ | refine C_exit ?_ | refine C_cond_f rfl ?_) | (refine E_id ?_; first | refine E_code ?_ | refine E_then_exit ?_ | refine E_blk_same ?_ | refine E_blk_n ?_))
            refine E_round (i + 1) ⟨rfl, rfl, rfl, rfl, rfl, rfl, trivial⟩ ⟨by omega, ?_, hS⟩ (by omega)
            rw [hy.len, List.take_length] at hne
            rw [List.take_add_one, hdu]
            intro e he
            rcases List.mem_append.1 he with h | h
            · exact hun e h
            · simp only [Option.toList, List.mem_singleton] at h
              rw [h]; exact hne
        · obtain rfl : i = z.L2.length := by omega
          repeat (first | (refine G_id ?_; first | refine G_nil ?_ | refine G_plain rfl rfl ?_) | (refine X_id ?_; first | refine X_yl (Yl_move rfl rfl) rfl rfl ?_ | refine X_yl (Yl_len rfl rfl) rfl rfl ?_ | refine X_yl (Yl_lss_f rfl rfl rfl (by omega)) rfl rfl ?_) | (refine C_id ?_; first | refine C_seq ?_ | refine C_region ?_ | refine C_exit ?_ | refine C_cond_f rfl ?_) | (refine E_id ?_; first | refine E_code ?_ | refine E_then_exit ?_ | refine E_blk_same ?_))
          refine E_mid () ⟨rfl, rfl, rfl, rfl, rfl, trivial⟩ ⟨?_, hbk hS⟩
          rw [hx.len, List.take_length] at hun; exact hun
      clear hS
      rintro _ w ⟨hun, hS⟩
      simp only [sixR] at hS
      obtain ⟨A, hA⟩ : ∃ A, A = commitM rd fs (newDisk 37) 24 0 dx := ⟨_, rfl⟩
      obtain ⟨B, hB⟩ : ∃ B, B = commitM rd fs A.2.1 24 A.2.2 dy := ⟨_, rfl⟩
      obtain ⟨Cc, hC⟩ : ∃ Cc, Cc = commitM rd fs (newDisk 37) 24 0 dy := ⟨_, rfl⟩
      obtain ⟨E, hE⟩ : ∃ E, E = commitM rd fs Cc.2.1 24 Cc.2.2 dx := ⟨_, rfl⟩
      obtain ⟨dA, dB, dC, dE, hdata⟩ := order_law rd fs order_quiet rfl cx cy hun hA hB hC hE
      have hxr : ∀ v ∈ dx, wreadM E.2.1 24 v.1 = (0, v.2) := fun v hv => read_law dE cx hv
      have l1 := dA.line
      have l2 := dB.line
      have l3 := dC.line
      have l4 := dE.line
      have a1 := dA.lo
      have a2 := dC.lo
      have hcs : ∀ (w : World) (rs : List Res), St W noF (logsAt b9 (.pointer (some ⟨q.1, 0, none⟩)) (.pointer (some ⟨q'.1, 0, none⟩)) :: rs) w → w.cell? ⟨b9, 0, none⟩ = some (.pointer (some ⟨q.1, 0, none⟩)) ∧ w.cell? ⟨b9, 1, none⟩ = some (.pointer (some ⟨q'.1, 0, none⟩)) := fun w rs h => ⟨h.cell, h.cell⟩
      obtain ⟨hc0, hc1⟩ := hcs _ _ hS
      repeat (first | (refine G_id ?_; first | refine G_plain rfl rfl ?_) | (refine X_id ?_; first | refine X_yl (Yl_move rfl rfl) rfl rfl ?_ | refine X_yl (Yl_indexAddr_arr rfl rfl rfl (by omega) (by omega)) rfl rfl ?_ | refine X_yl (Yl_load rfl rfl (by assumption)) rfl rfl ?_) | (refine C_id ?_; first | refine C_seq ?_ | refine C_region ?_))
      obtain ⟨_, hc, hro, hw, hbk⟩ := hS.call [false, false, true, true, false, false]
      have hb2 := both_ro (hro (both z y) (by simp))
      refine X_callg _ rfl rfl rfl rfl rfl (commit_ q.1 q.2 1 0 0 24 0 false (newDisk 37) _ _ z.L1 rd fs _ _ (hG.mono hw) (hx.w1 hb2.1) (by omega) (by omega) (by omega) (fun v hv => by have := hx.l1 v hv; omega) (by simp [newDisk]) hc) ?_
      rintro _ w ⟨rfl, hS⟩
      replace hS := hbk hS
      clear hc hro hw hbk hb2
      rw [hx.d1, ← hA] at hS
      rw [hx.d1, ← hA, dA.e]
      have hS := hS.pick [2, 2, 0, 0, 0, 0]
      obtain ⟨hc0, hc1⟩ := hcs _ _ hS
      repeat (first | (refine G_id ?_; first | refine G_plain rfl rfl ?_ | refine G_yes rfl rfl rfl rfl ?_) | (refine X_id ?_; first | refine X_yl (Yl_move rfl rfl) rfl rfl ?_ | refine X_yl (Yl_eql_t rfl rfl rfl (by omega)) rfl rfl ?_ | refine X_yl (Yl_indexAddr_arr rfl rfl rfl (by omega) (by omega)) rfl rfl ?_ | refine X_yl (Yl_load rfl rfl (by assumption)) rfl rfl ?_))
      obtain ⟨_, hc, hro, hw, hbk⟩ := hS.call [false, false, true, true, false, false]
      have hb2 := both_ro (hro (both z y) (by simp))
      refine X_callg _ rfl rfl rfl rfl rfl (commit_ q.1 q.2 1 0 0 24 A.2.2 false (A.2.1) _ _ y.L1 rd fs _ _ (hG.mono hw) (hy.w1 hb2.2) (by omega) (by omega) (by omega) (fun v hv => by have := hy.l1 v hv; omega) (by rw [l1]; simp) hc) ?_
      rintro _ w ⟨rfl, hS⟩
      replace hS := hbk hS
      clear hc hro hw hbk hb2
      rw [hy.d1, ← hB] at hS
      rw [hy.d1, ← hB, dB.e]
      have hS := hS.pick [2, 2, 0, 0, 0, 0]
      obtain ⟨hc0, hc1⟩ := hcs _ _ hS
      repeat (first | (refine G_id ?_; first | refine G_plain rfl rfl ?_ | refine G_yes rfl rfl rfl rfl ?_) | (refine X_id ?_; first | refine X_yl (Yl_move rfl rfl) rfl rfl ?_ | refine X_yl (Yl_pick_t rfl rfl rfl) rfl rfl ?_ | refine X_yl (Yl_eql_t rfl rfl rfl (by omega)) rfl rfl ?_ | refine X_yl (Yl_indexAddr_arr rfl rfl rfl (by omega) (by omega)) rfl rfl ?_ | refine X_yl (Yl_load rfl rfl (by assumption)) rfl rfl ?_))
      obtain ⟨_, hc, hro, hw, hbk⟩ := hS.call [false, false, false, false, true, true]
      have hb2 := both_ro (hro (both z y) (by simp))
      refine X_callg _ rfl rfl rfl rfl rfl (commit_ q'.1 q'.2 1 0 0 24 0 false (newDisk 37) _ _ y.L1 rd fs _ _ (hG.mono hw) (hy.w1 hb2.2) (by omega) (by omega) (by omega) (fun v hv => by have := hy.l1 v hv; omega) (by simp [newDisk]) hc) ?_
      rintro _ w ⟨rfl, hS⟩
      replace hS := hbk hS
      clear hc hro hw hbk hb2
      rw [hy.d1, ← hC] at hS
      rw [hy.d1, ← hC, dC.e]
      have hS := hS.pick [2, 2, 2, 2, 0, 0]
      obtain ⟨hc0, hc1⟩ := hcs _ _ hS
      repeat (first | (refine G_id ?_; first | refine G_plain rfl rfl ?_ | refine G_yes rfl rfl rfl rfl ?_) | (refine X_id ?_; first | refine X_yl (Yl_move rfl rfl) rfl rfl ?_ | refine X_yl (Yl_pick_t rfl rfl rfl) rfl rfl ?_ | refine X_yl (Yl_eql_t rfl rfl rfl (by omega)) rfl rfl ?_ | refine X_yl (Yl_indexAddr_arr rfl rfl rfl (by omega) (by omega)) rfl rfl ?_ | refine X_yl (Yl_load rfl rfl (by assumption)) rfl rfl ?_))
      obtain ⟨_, hc, hro, hw, hbk⟩ := hS.call [false, false, false, false, true, true]
      have hb2 := both_ro (hro (both z y) (by simp))
      refine X_callg _ rfl rfl rfl rfl rfl (commit_ q'.1 q'.2 1 0 0 24 Cc.2.2 false (Cc.2.1) _ _ z.L1 rd fs _ _ (hG.mono hw) (hx.w1 hb2.1) (by omega) (by omega) (by omega) (fun v hv => by have := hx.l1 v hv; omega) (by rw [l3]; simp) hc) ?_
      rintro _ w ⟨rfl, hS⟩
      replace hS := hbk hS
      clear hc hro hw hbk hb2
      rw [hx.d1, ← hE] at hS
      rw [hx.d1, ← hE, dE.e]
      have hS := hS.pick [2, 2, 2, 2, 0, 0]
      obtain ⟨hc0, hc1⟩ := hcs _ _ hS
      repeat (first | (refine G_id ?_; first | refine G_nil ?_ | refine G_plain rfl rfl ?_ | refine G_yes rfl rfl rfl rfl ?_) | (refine X_id ?_; first | refine X_yl (Yl_assign rfl rfl) rfl rfl ?_ | refine X_yl (Yl_pick_t rfl rfl rfl) rfl rfl ?_ | refine X_yl (Yl_eql_t rfl rfl rfl (by omega)) rfl rfl ?_) | (refine C_id ?_; first | refine C_seq ?_ | refine C_region ?_ | refine C_block ?_) | (refine E_id ?_; first | refine E_code ?_))
      refine C_joinB (α := Unit) (fun _ => [(9, .pointer (some ⟨b9, 0, none⟩)), (17, .bool true)]) (fun _ w => St W noF (sixR b9 z y q q' B.2.2 E.2.2 B.2.1 E.2.1) w) ?_ ?_
      · obtain ⟨F2, hS2, hro, _, hbk⟩ := hS.call []
        clear hS
        have hS := hS2
        clear hS2
        have hb2 := both_ro (hro (both z y) (by simp))
        have hwx := hx.w2 hb2.1
        have hlg := hro (logsAt b9 (.pointer (some ⟨q.1, 0, none⟩)) (.pointer (some ⟨q'.1, 0, none⟩))) (by simp)
        have hlp := hro (logAt q'.1 q'.2 1 0 0 24 E.2.2 false) (by simp)
        have hdp := hro (disk q'.2 E.2.1) (by simp)
        refine C_loop (α := Nat) (fun i => [(6, .slice z.a2 z.L2.length z.c2), (9, .pointer (some ⟨b9, 0, none⟩)), (17, .bool true), (18, .int .i64 (i : Nat))])
          (fun i w' => i ≤ z.L2.length ∧ St w F2 [] w') (fun i => z.L2.length - i) 0 ⟨rfl, rfl, rfl, rfl, trivial⟩ ⟨Nat.zero_le _, hS⟩ ?_
        clear hS
        rintro i w2 ⟨hi, hS⟩
        by_cases h1 : i < z.L2.length
        · have hx0 : z.L2[i]? = some z.L2[i] := List.getElem?_eq_getElem h1
          generalize z.L2[i] = u at hx0
          have hu := hx.get hx0
          have hxu : wreadM E.2.1 24 u.no = (0, u.x.s) := hxr u.data hu
          have hu64 : u.x.s.length = 64 := (check_good (rcheck_ok cx).1 u.data hu).2
          have hwu := hwx.all u (List.mem_of_getElem? hx0)
          have hr := hwx.row
          have hr2 := hwx.row
          have hx := wr_no hx0
          have hx2 := wr_b hx0
          obtain ⟨xb, xo, hxa⟩ := (hr.rd hS).base (by intro e; rw [e] at hx; simp at hx)
          rw [hxa] at hr hr2 ⊢
          have hc1 : w2.cell? ⟨b9, 1, none⟩ = some (.pointer (some ⟨q'.1, 0, none⟩)) := cell_at ((hlg.rd hS).pts)
          repeat (first | (refine G_id ?_; first | refine G_nil ?_ | refine G_plain rfl rfl ?_) | (refine X_id ?_; first | refine X_yl (Yl_move rfl rfl) rfl rfl ?_ | refine X_yl (Yl_len rfl rfl) rfl rfl ?_ | refine X_yl (Yl_lss_t rfl rfl rfl (by omega)) rfl rfl ?_) | (refine C_id ?_; first | refine C_seq ?_ | refine C_region ?_ | refine C_block ?_ | refine C_skip ?_ | refine C_cond_t rfl ?_) | (refine E_id ?_; first | refine E_code ?_))
          refine C_ord [(0, true), (1, true), (2, true), (3, true), (4, true), (5, true), (6, true), (7, false), (8, true), (9, true), (10, true), (11, true), (12, true)] mixed (by kernel_rfl) rfl ?_
          have hS := hS.drew
          have hc1 : w2.drew.cell? ⟨b9, 1, none⟩ = some (.pointer (some ⟨q'.1, 0, none⟩)) := cell_at ((hlg.rd hS).pts)
          repeat (first | (refine GO_id ?_; first | refine GO_pure rfl rfl (fun _ => Yl_move rfl rfl) rfl rfl ?_ | refine GO_pure rfl rfl (fun _ => Yl_fieldAddr rfl rfl rfl) rfl rfl ?_ | refine GO_pure rfl rfl (fun _ => Yl_indexAddr_arr rfl rfl rfl (by omega) (by omega)) rfl rfl ?_ | refine GO_pure rfl rfl (fun _ => Yl_indexAddr rfl rfl rfl (by omega) (by omega) (by first | assumption | exact ⟨_, _, rfl⟩)) rfl rfl ?_ | refine GO_read (fun w' => w'.cell? _ = some _) rfl rfl (by assumption) (fun _ hc => Yl_load rfl rfl hc) rfl rfl ?_ | refine GO_read (fun w' => w'.cell? _ = some _) rfl rfl ((hr.rd hS).cellX (by omega) hx) (fun _ hc => Yl_load rfl rfl hc) rfl rfl ?_ | refine GO_hard rfl rfl ?_))
          refine X_callg _ rfl rfl rfl rfl rfl (wread_ q'.1 q'.2 1 0 0 24 E.2.2 false E.2.1 u.no _ (hlp.rd hS) (hdp.rd hS) (by omega) (by rw [l4]; simp)) ?_
          rw [hxu]
          rintro _ w3 ⟨ra, rc, rfl, _, hS'⟩
          replace hS := hS.plus hS'
          clear hS'
          simp only at hS ⊢
          repeat (first | (refine G_id ?_; first | refine G_plain rfl rfl ?_ | refine G_yes rfl rfl rfl rfl ?_) | (refine X_id ?_; first | refine X_yl (Yl_move rfl rfl) rfl rfl ?_ | refine X_yl (Yl_fieldAddr rfl rfl rfl) rfl rfl ?_ | refine X_yl (Yl_pick_t rfl rfl rfl) rfl rfl ?_ | refine X_yl (Yl_eql_t rfl rfl rfl (by omega)) rfl rfl ?_ | refine X_yl (Yl_indexAddr rfl rfl rfl (by omega) (by omega) (by first | assumption | exact ⟨_, _, rfl⟩)) rfl rfl ?_ | refine X_yl (Yl_load rfl rfl ((hr2.rd hS).cellF (by first | omega | (dsimp only; omega)) hx2)) rfl rfl ?_) | (refine C_id ?_; first | refine C_region ?_) | (refine E_id ?_; first | refine E_code ?_) | (refine GO_id ?_; first | refine GO_nil ?_ | refine GO_pure rfl rfl (fun _ => Yl_move rfl rfl) rfl rfl ?_ | refine GO_pure rfl rfl (fun _ => Yl_assign rfl rfl) rfl rfl ?_ | refine GO_pure rfl rfl (fun _ => Yl_extract rfl rfl) rfl rfl ?_) | (refine Keep_id ?_; first | refine And.intro (by repeat (first | exact trivial | refine And.intro (.inl (by decide +kernel)) ?_ | refine And.intro (.inr (by first | assumption | exact hS.cell | exact cell_at (by assumption) | exact hS.cellI (by omega) | exact hS.cellIP (by omega) | exact hS.cellsN | exact ((hr.rd hS).cellX (by omega) hx) | exact ((hr2.rd hS).cellX (by omega) hx2) | exact hS.cellB (by omega) | exact hS.cellBA (by omega) | exact (hb.rd hS).cellB' (by omega) | exact (hb2.rd hS).cellB' (by omega) | exact (hg.rd hS).cellI (by omega) | exact (hg2.rd hS).cellI (by omega) | exact ((hr.rd hS).cellF (by first | omega | (dsimp only; omega)) hx) | exact ((hr2.rd hS).cellF (by first | omega | (dsimp only; omega)) hx2))) ?_)) ?_))
          have hsame := same_ ra u.x.a rc u.x.c u.x.s u.x.s _ (hS.rd (List.mem_cons_self ..)) (hwu.rd hS) (by omega)
          rw [decide_eq_true rfl] at hsame
          refine X_callq _ rfl rfl rfl rfl rfl hS hsame ?_
          rintro _ w4 rfl hS
          repeat (first | (refine G_id ?_; first | refine G_nil ?_ | refine G_plain rfl rfl ?_) | (refine X_id ?_; first | refine X_yl (Yl_move rfl rfl) rfl rfl ?_ | refine X_yl (Yl_assign rfl rfl) rfl rfl ?_ | refine X_yl (Yl_pick_t rfl rfl rfl) rfl rfl ?_ | refine X_yl (Yl_add rfl rfl rfl (w64 (by omega) (by omega))) rfl rfl ?_) | (refine C_id ?_; first | refine C_region ?_) | (refine E_id ?_; first | refine E_code ?_ | refine E_blk_n ?_))
          exact E_round (i + 1) ⟨rfl, rfl, rfl, rfl, trivial⟩ ⟨by omega, hS.drops⟩ (by omega)
        · repeat (first | (refine G_id ?_; first | refine G_nil ?_ | refine G_plain rfl rfl ?_) | (refine X_id ?_; first | refine X_yl (Yl_move rfl rfl) rfl rfl ?_ | refine X_yl (Yl_len rfl rfl) rfl rfl ?_ | refine X_yl (Yl_lss_f rfl rfl rfl (by omega)) rfl rfl ?_) | (refine C_id ?_; first | refine C_seq ?_ | refine C_region ?_ | refine C_exit ?_ | refine C_cond_f rfl ?_) | (refine E_id ?_; first | refine E_code ?_ | refine E_then_exit ?_ | refine E_blk_same ?_))
          exact E_mid () ⟨rfl, rfl, trivial⟩ (hbk hS)
      clear hS hc0 hc1
      rintro _ w hS
      simp only [sixR] at hS
      repeat (first | (refine C_id ?_; first | refine C_seq ?_))
      refine C_ord [(0, false), (1, true), (2, true), (3, true), (4, true), (5, true), (6, true), (8, true), (9, true), (7, false), (10, false), (11, false), (12, true), (13, true)] mixed (by kernel_rfl) rfl ?_
      have hS := hS.drew
      repeat (first | (refine GO_id ?_; first | refine GO_hard rfl rfl ?_))
      refine X_callq _ rfl rfl rfl rfl rfl hS (hkn _ _ hS) ?_
      rintro _ w rfl hS
      obtain ⟨hc0, hc1⟩ := hcs _ _ hS
      repeat (first | (refine GO_id ?_; first | refine GO_pure rfl rfl (fun _ => Yl_move rfl rfl) rfl rfl ?_ | refine GO_pure rfl rfl (fun _ => Yl_pick_t rfl rfl rfl) rfl rfl ?_ | refine GO_yes rfl rfl rfl rfl (fun _ => Yl_move rfl rfl) rfl rfl ?_ | refine GO_yes rfl rfl rfl rfl (fun _ => Yl_indexAddr_arr rfl rfl rfl (by omega) (by omega)) rfl rfl ?_ | refine GO_hard_yes rfl rfl rfl rfl ?_ | refine GO_yes_read (fun w' => w'.cell? _ = some _) rfl rfl rfl rfl (by assumption) (fun _ hc => Yl_load rfl rfl hc) rfl rfl ?_) | (refine Keep_id ?_; first | refine And.intro (by repeat (first | exact trivial | refine And.intro (.inl (by decide +kernel)) ?_ | refine And.intro (.inr (by first | assumption | exact hS.cell | exact cell_at (by assumption) | exact hS.cellI (by omega) | exact hS.cellIP (by omega) | exact hS.cellsN | exact ((hr.rd hS).cellX (by omega) hx) | exact ((hr2.rd hS).cellX (by omega) hx2) | exact hS.cellB (by omega) | exact hS.cellBA (by omega) | exact (hb.rd hS).cellB' (by omega) | exact (hb2.rd hS).cellB' (by omega) | exact (hg.rd hS).cellI (by omega) | exact (hg2.rd hS).cellI (by omega) | exact ((hr.rd hS).cellF (by first | omega | (dsimp only; omega)) hx) | exact ((hr2.rd hS).cellF (by first | omega | (dsimp only; omega)) hx2))) ?_)) ?_))
      refine X_callg _ rfl rfl rfl rfl rfl (data_ q.1 q.2 1 0 0 24 B.2.2 false B.2.1 _ (hS.rd (by simp)) (hS.rd (by simp)) dB.q.off (by omega) (by rw [dB.q.len]; omega) (by rw [l2]; simp)) ?_
      rintro _ w ⟨r1, k1, rfl, hS'⟩
      replace hS := hS.plus hS'
      clear hS'
      have hS := hS.pick [1, 1, 1, 1, 1, 1, 0]
      obtain ⟨hc0, hc1⟩ := hcs _ _ hS
      repeat (first | (refine GO_id ?_; first | refine GO_hard_yes rfl rfl rfl rfl ?_) | (refine Keep_id ?_; first | refine And.intro (by repeat (first | exact trivial | refine And.intro (.inl (by decide +kernel)) ?_ | refine And.intro (.inr (by first | assumption | exact hS.cell | exact cell_at (by assumption) | exact hS.cellI (by omega) | exact hS.cellIP (by omega) | exact hS.cellsN | exact ((hr.rd hS).cellX (by omega) hx) | exact ((hr2.rd hS).cellX (by omega) hx2) | exact hS.cellB (by omega) | exact hS.cellBA (by omega) | exact (hb.rd hS).cellB' (by omega) | exact (hb2.rd hS).cellB' (by omega) | exact (hg.rd hS).cellI (by omega) | exact (hg2.rd hS).cellI (by omega) | exact ((hr.rd hS).cellF (by first | omega | (dsimp only; omega)) hx) | exact ((hr2.rd hS).cellF (by first | omega | (dsimp only; omega)) hx2))) ?_)) ?_))
      refine X_callg _ rfl rfl rfl rfl rfl (data_ q'.1 q'.2 1 0 0 24 E.2.2 false E.2.1 _ (hS.rd (by simp)) (hS.rd (by simp)) dE.q.off (by omega) (by rw [dE.q.len]; omega) (by rw [l4]; simp)) ?_
      rintro _ w ⟨r2, k2, rfl, hS'⟩
      replace hS := hS.plus hS'
      clear hS'
      rw [← hdata] at hS ⊢
      have hsame := same_ r1 r2 k1 k2 (dataM B.2.1 24) (dataM B.2.1 24) _ (hS.rd (by simp)) (hS.rd (by simp)) (by
        have := dataTo_le (hS.rd (show disk q.2 B.2.1 ∈ _ by simp)).disk.1 (j := 24) 12 (by rw [dB.q.len]; omega)
        have e : dataM B.2.1 24 = dataTo B.2.1 24 12 := by unfold dataM dataTo; rw [dB.q.len]
        rw [e]; omega)
      rw [decide_eq_true rfl] at hsame
      repeat (first | (refine GO_id ?_; first | refine GO_hard_yes rfl rfl rfl rfl ?_) | (refine Keep_id ?_; first | refine And.intro (by repeat (first | exact trivial | refine And.intro (.inl (by decide +kernel)) ?_ | refine And.intro (.inr (by first | assumption | exact hS.cell | exact cell_at (by assumption) | exact hS.cellI (by omega) | exact hS.cellIP (by omega) | exact hS.cellsN | exact ((hr.rd hS).cellX (by omega) hx) | exact ((hr2.rd hS).cellX (by omega) hx2) | exact hS.cellB (by omega) | exact hS.cellBA (by omega) | exact (hb.rd hS).cellB' (by omega) | exact (hb2.rd hS).cellB' (by omega) | exact (hg.rd hS).cellI (by omega) | exact (hg2.rd hS).cellI (by omega) | exact ((hr.rd hS).cellF (by first | omega | (dsimp only; omega)) hx) | exact ((hr2.rd hS).cellF (by first | omega | (dsimp only; omega)) hx2))) ?_)) ?_))
      refine X_callq _ rfl rfl rfl rfl rfl hS hsame ?_
      rintro _ w rfl hS
      repeat (first | (refine C_id ?_; first | refine C_ret ?_) | (refine E_id ?_; first | refine E_code ?_ | refine E_ret1 rfl (Rv_tmp rfl) (Ret.mk ?_)) | (refine GO_id ?_; first | refine GO_nil ?_ | refine GO_pure rfl rfl (fun _ => Yl_assign rfl rfl) rfl rfl ?_ | refine GO_pure rfl rfl (fun _ => Yl_pick_t rfl rfl rfl) rfl rfl ?_) | (refine Keep_id ?_; first | refine And.intro (by repeat (first | exact trivial | refine And.intro (.inl (by decide +kernel)) ?_ | refine And.intro (.inr (by first | assumption | exact hS.cell | exact cell_at (by assumption) | exact hS.cellI (by omega) | exact hS.cellIP (by omega) | exact hS.cellsN | exact ((hr.rd hS).cellX (by omega) hx) | exact ((hr2.rd hS).cellX (by omega) hx2) | exact hS.cellB (by omega) | exact hS.cellBA (by omega) | exact (hb.rd hS).cellB' (by omega) | exact (hb2.rd hS).cellB' (by omega) | exact (hg.rd hS).cellI (by omega) | exact (hg2.rd hS).cellI (by omega) | exact ((hr.rd hS).cellF (by first | omega | (dsimp only; omega)) hx) | exact ((hr2.rd hS).cellF (by first | omega | (dsimp only; omega)) hx2))) ?_)) ?_))
      exact ⟨rfl, hS.drops⟩
    · repeat (first | (refine G_id ?_; first | refine G_nil ?_ | refine G_plain rfl rfl ?_ | refine G_yes rfl rfl rfl rfl ?_) | (refine X_id ?_; first | (refine X_callq 9 rfl rfl rfl rfl rfl hS (hkn _ _ hS) ?_; rintro _ _ rfl hS) | refine X_yl (Yl_assign rfl rfl) rfl rfl ?_ | refine X_yl (Yl_pick_f rfl rfl rfl) rfl rfl ?_ | refine X_yl (Yl_neq_t rfl rfl rfl (by omega)) rfl rfl ?_) | (refine C_id ?_; first | refine C_seq ?_ | refine C_region ?_ | refine C_ret ?_ | refine C_cond_t rfl ?_) | (refine E_id ?_; first | refine E_code ?_ | refine E_then_ret ?_ | refine E_ret1 rfl (Rv_tmp rfl) (Ret.mk ?_)))
      exact ⟨rfl, hS.drops⟩
  · repeat (first | (refine G_id ?_; first | refine G_nil ?_ | refine G_plain rfl rfl ?_ | refine G_no rfl rfl rfl rfl rfl rfl ?_) | (refine X_id ?_; first | (refine X_callq 9 rfl rfl rfl rfl rfl hS (hkn _ _ hS) ?_; rintro _ _ rfl hS) | refine X_yl (Yl_move rfl rfl) rfl rfl ?_ | refine X_yl (Yl_assign rfl rfl) rfl rfl ?_ | refine X_yl (Yl_pick_t rfl rfl rfl) rfl rfl ?_ | refine X_yl (Yl_neq_t rfl rfl rfl (by omega)) rfl rfl ?_) | (refine C_id ?_; first | refine C_seq ?_ | refine C_region ?_ | refine C_ret ?_ | refine C_cond_t rfl ?_) | (refine E_id ?_; first | refine E_code ?_ | refine E_then_ret ?_ | refine E_ret1 rfl (Rv_tmp rfl) (Ret.mk ?_)))
    exact ⟨rfl, hS.drops⟩
end Cr
namespace Cr
open Go Go.Proofs Go.ChangeShapes Go.WideShapes Go.Deep
section
variable {H : Type} {enc : TypeId × Value → H} {P : Program} {w : World} {base : Nat} {sp : Nat → Bool} {held : Bool}
theorem Rd.ofCellsA {a : Addr} {l : List Value} (h : ∀ i v, l[i]? = some v → w.cell? (a.add i) = some v) : Rd w (row (some a) l) := by
  cases l with
  | nil => exact Rd_nil w _
  | cons x r =>
    have h0 := h 0 x rfl
    have hsp : a.spot = none := by
      have := World.cell?_spot h0
      simpa [Addr.add] using this
    obtain ⟨b, off, spot⟩ := a
    obtain rfl : spot = none := hsp
    unfold World.cell? at h0
    split at h0
    · rename_i c t fz hb
      have hb : w.heap[b]? = some (.cells c t fz) := by simpa [Addr.add] using hb
      refine ⟨single b (.cells c t fz), .inr ⟨b, off, c, t, fz, rfl, rfl, fun i v hv => ?_⟩, fun k o e => ?_⟩
      · have := h i v hv
        have e : (⟨b, off, none⟩ : Addr).add i = ⟨b, off + i, none⟩ := by
          unfold Addr.add; split
          · rename_i h; subst h; rfl
          · rfl
        rw [e, cell_of_row w b (off + i) c t fz hb] at this
        exact this
      · obtain ⟨rfl, rfl⟩ := of_single e
        exact hb
    · cases h0
theorem u8_back {n : Int} (h : (Lit.int .u8 n).wf = true) : Value.int .u8 n = .int .u8 ((UInt8.ofNat n.toNat).toNat : Int) := by
  simp only [Lit.wf, Bool.and_eq_true, decide_eq_true_eq] at h
  have h1 : 0 ≤ n := h.1
  have h2 : n ≤ 255 := h.2
  congr 1
  have : (UInt8.ofNat n.toNat).toNat = n.toNat := by rw [UInt8.toNat_ofNat']; omega
  rw [this]; omega
/-- A slice of bytes. -/
theorem open_bytes {t e : TypeId} {fuel : Nat} {cs : List Value} {x : DataW H × List MemPlace} (ht : P.underlying t = some (.slice e)) (he : P.underlying e = some (.int .u8)) (hc : P.cellsOf e = 1)
    (h : DataW.trod enc P w base sp held fuel t cs = some x) : ∃ a s c, cs = [.slice a s.length c] ∧ s.length ≤ c ∧ c ≤ maxLen ∧ Rd w (bytes a s) := by
  rcases open_ints ht he hc h with ⟨rfl, _⟩ | ⟨a, len, cap, zs, rfl, _, hl, hm, hz, _, hcell, hwf⟩
  · exact ⟨none, [], 0, rfl, Nat.le_refl _, Nat.zero_le _, Rd_nil w _⟩
  · have hlz : len ≤ zs.length := by rw [hz]; split <;> omega
    have e1 : bv ((zs.take len).map fun n => UInt8.ofNat n.toNat) = (zs.take len).map fun n => Value.int .u8 n := by
      unfold bv
      rw [List.map_map]
      refine List.map_congr_left fun n hn => ?_
      exact (u8_back (hwf n (List.mem_of_mem_take hn))).symm
    have e2 : ((zs.take len).map fun n => UInt8.ofNat n.toNat).length = len := by simp; omega
    refine ⟨some a, (zs.take len).map fun n => UInt8.ofNat n.toNat, cap, by rw [e2], by rw [e2]; exact hl, hm, ?_⟩
    unfold bytes
    rw [e1]
    refine Rd.ofCellsA fun i v hv => ?_
    rw [List.getElem?_map, List.getElem?_take] at hv
    split at hv
    · rename_i hi
      rw [hcell i (by omega)]
      have h3 : zs[i]? = some zs[i] := List.getElem?_eq_getElem (by omega)
      rw [h3] at hv
      rw [List.getD_eq_getElem?_getD, h3]
      exact hv
    · cases hv
end
end Cr
namespace Cr
open Go Go.Proofs Go.ChangeShapes Go.WideShapes Go.Deep
section
variable {H : Type} {enc : TypeId × Value → H} {P : Program} {w : World} {base : Nat} {sp : Nat → Bool} {held : Bool}
theorem open_writes {t e b1 : TypeId} {f0 f1 : Field} {fuel : Nat} {cs : List Value} {x : DataW H × List MemPlace} (ht : P.underlying t = some (.slice e)) (he : P.underlying e = some (.struct #[f0, f1]))
    (ce : P.cellsOf e = 2) (o0 : f0.offset = 0) (o1 : f1.offset = 1) (c0 : P.cellsOf f0.type = 1) (c1 : P.cellsOf f1.type = 1)
    (u0 : P.underlying f0.type = some (.int .i64)) (u1 : P.underlying f1.type = some (.slice b1)) (ub : P.underlying b1 = some (.int .u8)) (cb : P.cellsOf b1 = 1)
    (h : DataW.trod enc P w base sp held fuel t cs = some x) : ∃ a l c, cs = [.slice a l.length c] ∧ l.length ≤ c ∧ c ≤ maxLen ∧ Wrs w noF a l := by
  rcases open_slice_pairs ht he ce o0 o1 c0 c1 h with ⟨rfl, _⟩ | ⟨a, len, cap, m, n, V0, V1, D0, D1, P0, P1, rfl, _, hl, hm, hmm, _, hx⟩
  · exact ⟨none, [], 0, rfl, Nat.le_refl _, Nat.zero_le _, Ro_nil _ _ _, fun _ h => (List.not_mem_nil h).elim⟩
  · have hlm : len ≤ m := by rw [hmm]; split <;> omega
    have each : ∀ i, i < len → ∃ q : Int × Option Addr × Nat × List UInt8, V0 i = .int .i64 q.1 ∧ V1 i = .slice q.2.1 q.2.2.2.length q.2.2.1 ∧ Rd w (bytes q.2.1 q.2.2.2) := fun i hi => by
      obtain ⟨_, _, g0, g1⟩ := hx i (by omega)
      obtain ⟨z, hz, _⟩ := DataW.trod_int u0 g0
      obtain ⟨ab, s, c, hs, _, _, hr⟩ := open_bytes u1 ub cb g1
      exact ⟨(z, ab, c, s), by simpa using hz, by simpa using hs, hr⟩
    obtain ⟨q, hq⟩ := choose_lt each
    let f : Nat → Wr := fun i => ⟨(q i).1, (q i).2.1, (q i).2.2.1, (q i).2.2.2⟩
    have hlen : ((List.range len).map f).length = len := by simp
    refine ⟨some a, (List.range len).map f, cap, by rw [hlen], by rw [hlen]; exact hl, hm, (Rd.ofCellsA fun k v hv => ?_).ro, fun v hv => ?_⟩
    · have hk : k / 2 < len := by
        have := (List.getElem?_eq_some_iff.1 hv).1
        rw [flatMap_len (n := 2) (fun _ _ => rfl), hlen] at this
        omega
      have hget : ((List.range len).map f)[k / 2]? = some (f (k / 2)) := by simp [hk]
      have hsg := wr_seg hget
      have hv2 : ((((List.range len).map f).flatMap Wr.cells).drop (k / 2 * 2)).take 2 = (f (k / 2)).cells := hsg
      have hv3 := congrArg (·[k % 2]?) hv2
      simp only [List.getElem?_take, List.getElem?_drop] at hv3
      rw [if_pos (by omega), show k / 2 * 2 + k % 2 = k by omega, hv] at hv3
      obtain ⟨g0, g1, _, _⟩ := hx (k / 2) (by omega)
      obtain ⟨e0, e1, _⟩ := hq (k / 2) hk
      rcases Nat.mod_two_eq_zero_or_one k with h2 | h2
      · rw [show k = k / 2 * 2 by omega, g0, e0]
        rw [h2] at hv3
        exact hv3.symm
      · rw [show k = k / 2 * 2 + 1 by omega, g1, e1]
        rw [h2] at hv3
        exact hv3.symm
    · obtain ⟨i, hi, rfl⟩ := List.mem_map.1 hv
      exact (hq i (List.mem_range.1 hi)).2.2.ro
end
end Cr
namespace Go.Proofs.YtobnnhlgdoddgaaDoor
open Go.ChangeShapes Go.WideShapes Go.ChangeAt Go.RowKit
set_option maxRecDepth 100000

theorem arg_writes {H : Type} {enc : TypeId × Value → H} {W : World} {base : Nat} {v : Value} {d : DataW H} {p : List MemPlace} (hval : Value.okWide Tryd.prog W .any base 22 v) (h : DataW.Trod enc Tryd.prog W 0 (fun _ => true) true 22 v d p) :
    ∃ a l c, v = .slice a l.length c ∧ Cr.Wrs W Cr.noF a l := by
  obtain ⟨a, n, c, rfl⟩ := okWide_slice Tryd.underlying22 hval
  obtain ⟨fuel, hf⟩ := h
  obtain ⟨a', l, c', e, _, _, hw⟩ := Cr.open_writes Tryd.underlying22 Tryd.underlying38 (by kernel_rfl) rfl rfl (by kernel_rfl) (by kernel_rfl) Tryd.underlying3 Tryd.underlying36 Tryd.underlying5 (by kernel_rfl) hf
  have e : [Value.slice a n c] = [.slice a' l.length c'] := e
  simp only [List.cons.injEq, Value.slice.injEq, and_true] at e
  obtain ⟨rfl, rfl, rfl⟩ := e
  exact ⟨a, l, c, rfl, hw⟩
theorem walOrder_contract (H : Type) (enc : TypeId × Value → H) (W : World) (base : Nat) (args : Array Value) (ds gs : List (DataW H)) (before : List MemPlace)
    (hval : ∀ (j : Nat) t v, Tryd.f3.params[j]? = some t → args[j]? = some v → Value.okWide Tryd.prog W .any base t v)
    (hW : DataW.Whole enc Tryd.prog Tryd.f3.params.toList Rows.walOrderSpec.vars false W args.toList ds gs before) (hL : laidMetH Tryd.prog Rows.walOrderRow.laid W) :
    Calls Tryd.prog 3 args W fun e W' => ∃ v, e = .returned v ∧ Rows.walOrderSpec.post enc Tryd.prog Tryd.f3 false true false false W args v W' := by
  have hW' := hW
  obtain ⟨p, q, hA0, hV, rfl, hfz, hnd⟩ := hW
  have hA : DataW.TrodAll enc Tryd.prog W 0 (fun _ => true) true Tryd.f3.params.toList args.toList ds p := hA0
  rw [Tryd.params3] at hA hval
  obtain ⟨rfl, rfl⟩ := trodVars_none hV
  have hAk := hA
  obtain ⟨v0, vs0, d0, ds0, p0, q0, hargs, rfl, rfl, h0, r0⟩ := trodAll_cons hA
  obtain ⟨v1, vs1, d1, ds1, p1, q1, hargs1, rfl, rfl, h1, r1⟩ := trodAll_cons r0
  obtain ⟨rfl, rfl, rfl⟩ := trodAll_nil r1
  subst hargs1
  obtain rfl : args = #[v0, v1] := by cases args; simp_all
  obtain ⟨a, l, ca, rfl, hl⟩ := arg_writes (hval 0 22 v0 rfl rfl) h0
  obtain ⟨b, m, cb, rfl, hm⟩ := arg_writes (hval 1 22 v1 rfl rfl) h1
  clear hA0
  simp only [List.append_nil] at hW' hAk
  refine (Cr.walOrder_ a b ca cb l m _ _ W (Cr.gl_of_laid hL) hl hm).mono fun e W' ⟨v, he, hv, hS⟩ => ?_
  subst he hv
  have hb := hS.toBelow
  exact ⟨_, rfl, post_of_law (pa := p0 ++ p1) (pv := []) hW' (fun _ _ _ => trodAll_cons_mk (shut_bool Tryd.underlying4 _) trodAll_mk0)
    (fun sp hsp => trodAll_stays lawLaid hb (fun t ht => by
      obtain rfl : t = 22 := by simpa using (show t ∈ [22, 22] from ht)
      exact ⟨by kernel_rfl, of_decide_eq_true (by kernel_rfl)⟩) hAk hW'.lt hsp) (fun _ _ => rfl) (by simp)
    (hb.frame _) (fun _ h => hb.frozen h) (ok_one (by kernel_rfl) rfl (okWide_bool_mk Tryd.underlying4 _))⟩
theorem walOrder_laid (os : Os) : laidMet Tryd.prog Rows.walOrderRow.laid ((lawWorld os).forCall (fun _ _ => 0) ⟨#[], #[.slice none 0 0, .slice none 0 0], []⟩).memory :=
  laidMet_of_run' 8 (by kernel_rfl) (by kernel_rfl)
theorem walOrder_reads (os : Os) {H : Type} (enc : TypeId × Value → H) : ∃ places, DataW.whole enc Tryd.prog ((lawWorld os).forCall (fun _ _ => 0) ⟨#[], #[.slice none 0 0, .slice none 0 0], []⟩).memory Tryd.f3.params.toList Rows.walOrderSpec.vars false #[Value.slice none 0 0, .slice none 0 0].toList 8 = some ([.nil, .nil], [], places) :=
  ⟨[], by kernel_rfl⟩
theorem walOrder_lifted (os : Os) (started : os.Started) (H : Type) (enc : TypeId × Value → H) (F : Stop.Interp) :
    ReturnsInHanded {} Tryd.checked os 3 .any ((OpenSpec.ofChange Rows.walOrderSpec).preRow enc Tryd.prog Tryd.f3 Rows.walOrderRow.domain false Rows.walOrderRow.laid) (((OpenSpec.ofChange Rows.walOrderSpec).at F).post enc Tryd.prog Tryd.f3 false true false false) := by
  obtain ⟨places, hx⟩ := walOrder_reads os enc
  refine returnsInHanded_of_row (C := Tryd.checked) (s := OpenSpec.ofChange Rows.walOrderSpec) lawOwn started (by kernel_rfl) Tryd.func3
    (witness_row_at (enc := enc) (C := Tryd.checked) false (lawWorld os) #[.slice none 0 0, .slice none 0 0] rfl (by kernel_rfl) (by kernel_rfl) (by kernel_rfl)
      (OpenSpec.preRow_of_cond 8 hx (by kernel_rfl) (fun k hk => by cases hk) (by kernel_rfl) (walOrder_laid os))) ?_
  intro W base args ds gs before hval hW _ _ _ hL _ _
  exact walOrder_contract H enc W base args ds gs before hval hW hL
theorem walOrder_said : Rows.WalOrderSaid :=
  OpenClaim.holds_of_cond 3 Tryd.f3 rfl rfl rfl rfl rfl rfl rfl ⟨rfl, rfl, rfl, rfl, rfl⟩ rfl rfl rfl rfl rfl (by kernel_rfl) Tryd.func3 (by kernel_rfl)
    (of_decide_eq_true (by kernel_rfl)) (by unfold Func.isWrapper; first | (rw [if_pos (by decide +kernel)]; kernel_rfl) | (rw [if_neg (by decide +kernel)]; exact ⟨rfl, rfl⟩))
    (fun os started H enc _ F => by rw [OpenClaim.pre_eq_preRow]; exact walOrder_lifted os started H enc F)
theorem walOrder_plain (f : FuncId) (fn : Func) (hf : Tryd.pinned.checked.prog.funcNamed Rows.walOrderRow.func = some f) (hfn : Tryd.pinned.checked.prog.funcs[f]? = some fn) :
    false = Tryd.pinned.checked.prog.looks [] ∧ ∀ (j : Nat) t, fn.params[j]? = some t → Tryd.pinned.checked.prog.wantsStandIn t = false := by
  obtain rfl : f = 3 := Option.some.inj ((show Tryd.prog.funcNamed Rows.walOrderRow.func = some 3 by kernel_rfl).symm.trans hf) |>.symm
  obtain rfl : fn = Tryd.f3 := (Option.some.inj (Tryd.func3.symm.trans hfn)).symm
  refine ⟨by kernel_rfl, fun j t ht => ?_⟩
  rw [Tryd.params3] at ht
  obtain rfl : t = 22 := by simpa using Array.mem_of_getElem? ht
  exact (show Tryd.prog.wantsStandIn 22 = false by kernel_rfl)
theorem walOrder_card : Rows.WalOrderCardSaid :=
  Claim7.holds_tied_plain_at .later [] _ _ _ _ walOrder_said (fun _ h => by cases h) (by kernel_rfl) (fun _ h => by cases h) walOrder_row_tie rfl ⟨rfl, rfl⟩ (by kernel_rfl) rfl walOrder_plain (by kernel_rfl)
end Go.Proofs.YtobnnhlgdoddgaaDoor
