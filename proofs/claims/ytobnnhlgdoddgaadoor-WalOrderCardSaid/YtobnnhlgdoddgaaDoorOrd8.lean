/-
  Two more rules of the walk: a join behind a test (the rest is walked once), and an assertion in the middle.
  The laws' helpers of layer 4: Full, To, the document's Check.
  The document's Check of a transaction.
  The plain law of layer 4: what transactions leave behind on a disk that is on and not armed. No program is in sight.
  All data of a log.
-/
import Derived.Test.YtobnnhlgdoddgaaDoorOrd1
import Derived.Test.YtobnnhlgdoddgaaDoorOrd5
import Derived.Test.YtobnnhlgdoddgaaDoorOrd6
import Derived.Test.YtobnnhlgdoddgaaDoorOrd7
namespace Cr
open Go
section
variable {P : Program} {Q : Exit → Act → World → Prop} {N : Nat} {ds : Md} {σ : Env} {w : World} {x y : Code}
theorem wpIn_weaken {F : Fence} {n : Nat} {c : Code} {Q Q' : Exit → Act → World → Prop} {a : Act} (hq : ∀ e a w, Q e a w → Q' e a w) (h : c.wpIn F n P Q a w) : c.wpIn F n P Q' a w := by
  intro b k cs hro hb hr
  obtain ⟨e, a', w', hQ, harr⟩ := h b k cs hro hb hr
  exact ⟨e, a', w', hq _ _ _ hQ, harr⟩
/-- What holds between two parts of a sequence. -/
def Mid {α : Type} (S : α → Env) (R : α → World → Prop) (N : Nat) (ds : Md) : Act → World → Prop := fun a w => ∃ z, Fr (S z) N ds a ∧ R z w
theorem C_mid {α : Type} (S : α → Env) (R : α → World → Prop) (h1 : C P x (Exit.then (Mid S R N ds) Q) N ds σ w) (h2 : ∀ z w, R z w → C P y Q N ds (S z) w) : C P (.seq x y) Q N ds σ w := ⟨fun a ha =>
  wpIn_seq (wpIn_weaken (fun e a w hh => by
    cases e with
    | normal => obtain ⟨z, hF, hR⟩ := hh; exact (h2 z w hR).run a hF
    | exit id => exact hh
    | goto l => exact hh
    | ret => exact hh
    | panic ch => exact hh
    | outgrown => exact hh) (h1.run a ha))⟩
/-- The same behind the walk's own step into a sequence. -/
theorem C_join {α : Type} (S : α → Env) (R : α → World → Prop) (h1 : C P x (Exit.then (Mid S R N ds) Q) N ds σ w) (h2 : ∀ z w, R z w → C P y Q N ds (S z) w) : C P x (Exit.then (y.wpIn (Fc ds) 0 P Q) Q) N ds σ w := ⟨fun a ha =>
  wpIn_weaken (fun e a w hh => by
    cases e with
    | normal => obtain ⟨z, hF, hR⟩ := hh; exact (h2 z w hR).run a hF
    | exit id => exact hh
    | goto l => exact hh
    | ret => exact hh
    | panic ch => exact hh
    | outgrown => exact hh) (h1.run a ha)⟩
theorem inBlock_mono {Q1 Q2 : Exit → Act → World → Prop} {id : Nat} (hq : ∀ e a w, Q1 e a w → Q2 e a w) : ∀ e a w, Exit.inBlock id Q1 e a w → Exit.inBlock id Q2 e a w := fun e a w h => by
  cases e with
  | exit id' =>
    by_cases he : id' = id
    · simp only [Exit.inBlock, if_pos he] at h ⊢; exact hq _ _ _ h
    · simp only [Exit.inBlock, if_neg he] at h ⊢; exact hq _ _ _ h
  | _ => exact hq _ _ _ h
/-- The same where the walk stands inside a block. -/
theorem C_joinB {α : Type} {id : Nat} (S : α → Env) (R : α → World → Prop) (h1 : C P x (Exit.inBlock id (Exit.then (Mid S R N ds) Q)) N ds σ w) (h2 : ∀ z w, R z w → C P y Q N ds (S z) w) : C P x (Exit.inBlock id (Exit.then (y.wpIn (Fc ds) 0 P Q) Q)) N ds σ w := ⟨fun a ha =>
  wpIn_weaken (inBlock_mono fun e a w hh => by
    cases e with
    | normal => obtain ⟨z, hF, hR⟩ := hh; exact (h2 z w hR).run a hF
    | exit id => exact hh
    | goto l => exact hh
    | ret => exact hh
    | panic ch => exact hh
    | outgrown => exact hh) (h1.run a ha)⟩
theorem E_mid {α : Type} {S : α → Env} {R : α → World → Prop} (z : α) (hσ : subs σ (S z)) (hR : R z w) : E (Exit.then (Mid S R N ds) Q) .normal N ds σ w := ⟨fun _ ha => ⟨z, ha.sub hσ, hR⟩⟩
theorem Rd.cellF {b off o' i : Nat} {cs : List Value} {v : Value} (H : Rd w (row (some ⟨b, off, none⟩) cs)) (hi : o' = off + i) (h : cs[i]? = some v) : w.cell? ⟨b, o', none⟩ = some v := by
  subst hi; exact H.cells i v h
end
end Cr
namespace Cr
open Go Go.Proofs
set_option maxRecDepth 100000
set_option maxHeartbeats 8000000
attribute [local irreducible] Calls

def fillTo (b : List UInt8) (i : Nat) : List UInt8 := b.take i ++ List.replicate (64 - i) 0
theorem fillTo_length {b : List UInt8} {i : Nat} (h : i ≤ b.length) (h' : i ≤ 64) : (fillTo b i).length = 64 := by simp [fillTo]; omega
theorem fillTo_set {b : List UInt8} {i : Nat} (h : i < b.length) (h' : i < 64) : (fillTo b i).set i (b.getD i 0) = fillTo b (i + 1) := by
  unfold fillTo
  rw [List.take_succ_eq_append_getElem h, show 64 - i = (64 - (i + 1)) + 1 by omega, List.replicate_succ, List.set_append_right _ _ (by simp; omega)]
  have e : i - (b.take i).length = 0 := by simp; omega
  rw [e, List.set_cons_zero, List.append_assoc]
  simp [List.getD_eq_getElem?_getD, h]
theorem fillTo_end {b : List UInt8} {i : Nat} (h : i ≤ b.length) (h' : i ≤ 64) (h2 : i = 64 ∨ i = b.length) : fillTo b i = fullB b := by
  unfold fillTo fullB
  rw [List.take_append, List.take_replicate]
  rcases h2 with rfl | rfl
  · simp; omega
  · rw [List.take_length, List.take_of_length_le h']
    congr 2; omega
theorem lfull_ (a : Option Addr) (c : Nat) (b : List UInt8) (W : World) (hb : Rd W (bytes a b)) :
    Calls Tryd.prog 18 #[.slice a b.length c] W (Ret fun v w => ∃ p, v = .slice (some ⟨p, 0, none⟩) 64 64 ∧ St W noF [pts p (.cells (bv (fullB b)).toArray 5)] w) := by
  have hS := St.start W
  refine calls_C Tryd.func18 rfl Tryd.ntmps18 rfl ?_
  repeat (first | (refine G_id ?_; first | refine G_nil ?_ | refine G_plain rfl rfl ?_) | (refine X_id ?_; first | refine X_yl (Yl_assign rfl rfl) rfl rfl ?_) | (refine C_id ?_; first | refine C_seq ?_ | refine C_region ?_) | (refine E_id ?_; first | refine E_code ?_))
  refine X_makeB (c := 64) rfl rfl rfl (by omega) (by omega) rfl rfl hS (fun p w hS => ?_)
  repeat (first | (refine G_id ?_; first | refine G_nil ?_ | refine G_plain rfl rfl ?_) | (refine X_id ?_; first | refine X_yl (Yl_assign rfl rfl) rfl rfl ?_) | (refine C_id ?_; first | refine C_seq ?_ | refine C_region ?_ | refine C_block ?_) | (refine E_id ?_; first | refine E_code ?_))
  refine C_loop (α := Nat) (fun i => [(0, .slice a b.length c), (3, .slice (some ⟨p, 0, none⟩) 64 64), (4, .int .i64 (i : Nat))])
    (fun i w => i ≤ b.length ∧ i ≤ 64 ∧ St W noF [pts p (.cells (bv (fillTo b i)).toArray 5)] w) (fun i => 64 - i) 0 ⟨rfl, rfl, rfl, trivial⟩ ⟨Nat.zero_le _, Nat.zero_le _, hS⟩ ?_
  clear hS
  rintro i w ⟨hi, hi64, hS⟩
  have hlen := fillTo_length hi hi64
  by_cases h1 : i < b.length
  · by_cases h2 : i < 64
    · obtain ⟨ab, ao, rfl⟩ := hb.base (by intro e; have := bv_length b; rw [e] at this; simp at this; omega)
      have hbo := hb.ro
      have ei : (i : Int).toNat * 1 = i := by omega
      clear hb
      have hb := hbo
      obtain ⟨L, hL⟩ : ∃ L, L = fillTo b i := ⟨_, rfl⟩
      rw [← hL] at hS hlen
      repeat (first | (refine G_id ?_; first | refine G_nil ?_ | refine G_plain rfl rfl ?_ | refine G_yes rfl rfl rfl rfl ?_) | (refine X_id ?_; first | refine X_yl (Yl_move rfl rfl) rfl rfl ?_ | refine X_yl (Yl_assign rfl rfl) rfl rfl ?_ | refine X_yl (Yl_pick_t rfl rfl rfl) rfl rfl ?_ | refine X_yl (Yl_len rfl rfl) rfl rfl ?_ | refine X_yl (Yl_lss_t rfl rfl rfl (by omega)) rfl rfl ?_ | refine X_yl (Yl_indexAddr rfl rfl rfl (by omega) (by omega) (by first | assumption | exact ⟨_, _, rfl⟩)) rfl rfl ?_ | refine X_yl (Yl_add rfl rfl rfl (w64 (by omega) (by omega))) rfl rfl ?_ | refine X_yl (Yl_load rfl rfl ((hb.rd hS).cellB' (by omega))) rfl rfl ?_ | refine X_storeBA rfl rfl rfl rfl hS (by omega) (fun _ hS => ?_)) | (refine C_id ?_; first | refine C_seq ?_ | refine C_region ?_ | refine C_block ?_ | refine C_skip ?_ | refine C_cond_t rfl ?_) | (refine E_id ?_; first | refine E_code ?_ | refine E_blk_n ?_))
      rw [show 0 + (i : Int).toNat * 1 = i by omega, ei] at hS
      refine E_round (i + 1) ⟨rfl, rfl, rfl, trivial⟩ ⟨by omega, by omega, ?_⟩ (by omega)
      rw [← fillTo_set h1 h2, ← hL]
      exact hS
    · repeat (first | (refine G_id ?_; first | refine G_nil ?_ | refine G_plain rfl rfl ?_ | refine G_yes rfl rfl rfl rfl ?_) | (refine X_id ?_; first | refine X_yl (Yl_move rfl rfl) rfl rfl ?_ | refine X_yl (Yl_assign rfl rfl) rfl rfl ?_ | refine X_yl (Yl_pick_t rfl rfl rfl) rfl rfl ?_ | refine X_yl (Yl_len rfl rfl) rfl rfl ?_ | refine X_yl (Yl_lss_t rfl rfl rfl (by omega)) rfl rfl ?_ | refine X_yl (Yl_lss_f rfl rfl rfl (by omega)) rfl rfl ?_) | (refine C_id ?_; first | refine C_seq ?_ | refine C_region ?_ | refine C_ret ?_ | refine C_exit ?_ | refine C_cond_f rfl ?_) | (refine E_id ?_; first | refine E_code ?_ | refine E_then_exit ?_ | refine E_blk_same ?_ | refine E_ret1 rfl (Rv_tmp rfl) (Ret.mk ?_)))
      exact ⟨p, rfl, by rw [← fillTo_end hi hi64 (.inl (by omega))]; exact hS⟩
  · repeat (first | (refine G_id ?_; first | refine G_nil ?_ | refine G_plain rfl rfl ?_ | refine G_no rfl rfl rfl rfl rfl rfl ?_) | (refine X_id ?_; first | refine X_yl (Yl_move rfl rfl) rfl rfl ?_ | refine X_yl (Yl_assign rfl rfl) rfl rfl ?_ | refine X_yl (Yl_pick_f rfl rfl rfl) rfl rfl ?_ | refine X_yl (Yl_len rfl rfl) rfl rfl ?_ | refine X_yl (Yl_lss_f rfl rfl rfl (by omega)) rfl rfl ?_) | (refine C_id ?_; first | refine C_seq ?_ | refine C_region ?_ | refine C_ret ?_ | refine C_exit ?_ | refine C_cond_f rfl ?_) | (refine E_id ?_; first | refine E_code ?_ | refine E_then_exit ?_ | refine E_blk_same ?_ | refine E_ret1 rfl (Rv_tmp rfl) (Ret.mk ?_)))
    exact ⟨p, rfl, by rw [← fillTo_end hi hi64 (.inr (by omega))]; exact hS⟩

/-! ### To -/
theorem wr_len (l : List Wr) : (l.flatMap Wr.cells).length = l.length * 2 := flatMap_len (fun _ _ => rfl)
theorem wr_no {l : List Wr} {i : Nat} {v : Wr} (h : l[i]? = some v) : (l.flatMap Wr.cells)[i * 2]? = some (.int .i64 v.no) := by
  have := congrArg (·[0]?) (wr_seg h)
  simpa [List.getElem?_take, Wr.cells] using this
theorem wr_b {l : List Wr} {i : Nat} {v : Wr} (h : l[i]? = some v) : (l.flatMap Wr.cells)[i * 2 + 1]? = some (.slice v.x.a v.x.s.length v.x.c) := by
  have := congrArg (·[1]?) (wr_seg h)
  simpa [List.getElem?_take, Wr.cells] using this
def toB (s : List UInt8) : List UInt8 := if s.length = 65 then s else fullB s
def toD (l : List (Int × List UInt8)) : List (Int × List UInt8) := (l.take 10).map fun v => (v.1, toB v.2)
theorem toB_length (s : List UInt8) : (toB s).length = 64 ∨ (toB s).length = 65 := by
  unfold toB; split
  · exact .inr (by assumption)
  · exact .inl (fullB_length _)
theorem toB_le (s : List UInt8) : (toB s).length ≤ 65 := by have := toB_length s; omega
structure ToZ where
  i : Nat
  a1 : Option Addr
  c1 : Nat
  L1 : List Wr
  a2 : Option Addr
  c2 : Nat
  L2 : List Wr
  O : List Bs
structure ToZ.ok (z : ToZ) (d : List (Int × List UInt8)) : Prop where
  d1 : z.L1.map Wr.data = (d.take z.i).map fun v => (v.1, toB v.2)
  d2 : z.L2.map Wr.data = (d.take z.i).map fun v => (v.1, toB v.2)
  n1 : z.L1.length = z.i
  n2 : z.L2.length = z.i
  k1 : z.L1.length ≤ z.c1
  k2 : z.L2.length ≤ z.c2
  o1 : ∀ v ∈ z.L1, v.x ∈ z.O
  o2 : ∀ v ∈ z.L2, v.x ∈ z.O
def ToZ.res (z : ToZ) : List Res := [own 48 2 z.a1 z.c1 (z.L1.flatMap Wr.cells), own 38 2 z.a2 z.c2 (z.L2.flatMap Wr.cells), rds z.O]
theorem to_ (a : Option Addr) (c : Nat) (l : List Wr) (W : World) (hW : Wrs W noF a l) :
    Calls Tryd.prog 5 #[.slice a l.length c] W (Ret fun v w => ∃ z : ToZ, v = .tuple #[.slice z.a1 z.L1.length z.c1, .slice z.a2 z.L2.length z.c2] ∧ z.ok (l.map Wr.data) ∧ (z.i = l.length ∨ z.i = 10) ∧ z.i ≤ 10 ∧ St W noF z.res w) := by
  have hS := St.start W
  refine calls_C Tryd.func5 rfl Tryd.ntmps5 rfl ?_
  repeat (first | (refine G_id ?_; first | refine G_nil ?_ | refine G_plain rfl rfl ?_) | (refine X_id ?_; first | refine X_yl (Yl_assign rfl rfl) rfl rfl ?_) | (refine C_id ?_; first | refine C_seq ?_ | refine C_region ?_ | refine C_block ?_) | (refine E_id ?_; first | refine E_code ?_))
  refine C_loop (α := ToZ) (fun z => [(0, .slice a l.length c), (4, .slice z.a1 z.L1.length z.c1), (5, .slice z.a2 z.L2.length z.c2), (6, .int .i64 (z.i : Nat))])
    (fun z w => z.i ≤ l.length ∧ z.i ≤ 10 ∧ z.ok (l.map Wr.data) ∧ St W noF z.res w) (fun z => 10 - z.i) ⟨0, none, 0, [], none, 0, [], []⟩ ⟨rfl, rfl, rfl, rfl, trivial⟩
    ⟨Nat.zero_le _, Nat.zero_le _, ⟨rfl, rfl, rfl, rfl, Nat.le_refl _, Nat.le_refl _, fun _ h => (List.not_mem_nil h).elim, fun _ h => (List.not_mem_nil h).elim⟩, ((hS.rdsNil.own_none 38 2 none).own_none 48 2 none)⟩ ?_
  clear hS
  rintro ⟨i, a1, c1, L1, a2, c2, L2, O⟩ w ⟨hi, hi10, hok, hS⟩
  obtain ⟨d1, d2, n1, n2, k1, k2, o1, o2⟩ := hok
  simp only [ToZ.res] at hi hi10 hS d1 d2 n1 n2 k1 k2 o1 o2 ⊢
  by_cases h1 : i < l.length
  · by_cases h2 : i < 10
    · have hx0 : l[i]? = some l[i] := List.getElem?_eq_getElem h1
      have hlv : l.take (i + 1) = l.take i ++ [l[i]] := List.take_succ_eq_append_getElem h1
      generalize l[i] = v at hx0 hlv
      have hvm := List.mem_of_getElem? hx0
      have hr := hW.row
      have hr2 := hW.row
      have hx := wr_no hx0
      have hx2 := wr_b hx0
      obtain ⟨ab, ao, rfl⟩ := (hW.row.rd hS).base (by intro e; rw [e] at hx; simp at hx)
      repeat (first | (refine G_id ?_; first | refine G_nil ?_ | refine G_plain rfl rfl ?_ | refine G_yes rfl rfl rfl rfl ?_) | (refine X_id ?_; first | refine X_yl (Yl_move rfl rfl) rfl rfl ?_ | refine X_yl (Yl_assign rfl rfl) rfl rfl ?_ | refine X_yl (Yl_fieldAddr rfl rfl rfl) rfl rfl ?_ | refine X_yl (Yl_pick_t rfl rfl rfl) rfl rfl ?_ | refine X_yl (Yl_len rfl rfl) rfl rfl ?_ | refine X_yl (Yl_lss_t rfl rfl rfl (by omega)) rfl rfl ?_ | refine X_yl (Yl_neq rfl rfl rfl) rfl rfl ?_ | refine X_yl (Yl_indexAddr rfl rfl rfl (by omega) (by omega) (by first | assumption | exact ⟨_, _, rfl⟩)) rfl rfl ?_ | refine X_yl (Yl_load rfl rfl ((hr2.rd hS).cellF (by first | omega | (dsimp only; omega)) hx2)) rfl rfl ?_) | (refine C_id ?_; first | refine C_seq ?_ | refine C_region ?_ | refine C_block ?_ | refine C_skip ?_ | refine C_cond_t rfl ?_) | (refine E_id ?_; first | refine E_code ?_))
      have hlen := toB_le v.x.s
      refine C_join (α := Option Addr × Nat × List Bs) (fun z => [(0, .slice (some ⟨ab, ao, none⟩) l.length c), (4, .slice a1 L1.length c1), (5, .slice a2 L2.length c2), (6, .int .i64 (i : Nat)), (7, .slice z.1 (toB v.x.s).length z.2.1)])
        (fun z w => (⟨z.1, z.2.1, toB v.x.s⟩ ∈ z.2.2 ∨ Ro W noF (bytes z.1 (toB v.x.s))) ∧ (∀ x ∈ O, x ∈ z.2.2) ∧ St W noF [own 48 2 a1 c1 (L1.flatMap Wr.cells), own 38 2 a2 c2 (L2.flatMap Wr.cells), rds z.2.2] w) ?_ ?_
      · by_cases h65 : v.x.s.length = 65
        · repeat (first | (refine C_id ?_; first | refine C_skip ?_ | refine C_cond_df rfl (by first | assumption | omega) ?_))
          refine E_mid (v.x.a, v.x.c, O) ⟨rfl, rfl, rfl, rfl, ?_, trivial⟩ ⟨.inr ?_, fun _ h => h, hS⟩
          · show some _ = some _
            simp [toB, h65]
          · simp only [toB, h65, if_true]; exact hW.all v hvm
        · repeat (first | (refine G_id ?_; first | refine G_plain rfl rfl ?_) | (refine X_id ?_; first | refine X_yl (Yl_move rfl rfl) rfl rfl ?_) | (refine C_id ?_; first | refine C_region ?_ | refine C_cond_dt rfl (by first | assumption | omega) ?_))
          refine X_callg _ rfl rfl rfl rfl rfl (lfull_ v.x.a v.x.c v.x.s _ ((hW.all v hvm).rd hS)) ?_
          rintro _ w ⟨p, rfl, hS'⟩
          replace hS := hS.plus hS'
          clear hS'
          repeat (first | (refine G_id ?_; first | refine G_nil ?_ | refine G_plain rfl rfl ?_) | (refine X_id ?_; first | refine X_yl (Yl_assign rfl rfl) rfl rfl ?_))
          have hS := hS.pick [0, 2, 0, 0]
          replace hS := hS.rdsPut 64
          have hS := hS.pick [1, 1, 0]
          refine E_mid (some ⟨p, 0, none⟩, 64, O ++ [⟨some ⟨p, 0, none⟩, 64, fullB v.x.s⟩]) ⟨rfl, rfl, rfl, rfl, ?_, trivial⟩ ⟨.inl ?_, fun _ h => List.mem_append_left _ h, hS⟩
          · show some _ = some _
            simp [toB, h65, fullB_length]
          · simp [toB, h65]
      · clear hS
        rintro ⟨a7, c7, O7⟩ w ⟨h7, hO7, hS⟩
        simp only at h7 hO7 hS ⊢
        have h7r : ∀ (w' : World) (rs : List Res), St W noF rs w' → rds O7 ∈ rs → Rd w' (bytes a7 (toB v.x.s)) := fun w' rs h hm => by
          rcases h7 with h' | h'
          · exact ((h.rd hm).ro.rds _ h').start
          · exact h'.rd h
        repeat (first | (refine C_id ?_; first | refine C_seq ?_))
        refine C_ord [(0, true), (1, true), (2, true), (3, true), (4, true), (5, true), (7, true), (6, false), (8, false), (9, true), (10, false), (11, false), (12, true)] mixed (by kernel_rfl) rfl ?_
        have hS := hS.drew
        repeat (first | (refine X_id ?_; first | refine X_buildSlice rfl rfl rfl rfl rfl rfl rfl rfl hS (fun _ _ hS _ => ?_)) | (refine GO_id ?_; first | refine GO_pure rfl rfl (fun _ => Yl_move rfl rfl) rfl rfl ?_ | refine GO_pure rfl rfl (fun _ => Yl_fieldAddr rfl rfl rfl) rfl rfl ?_ | refine GO_pure rfl rfl (fun _ => Yl_indexAddr rfl rfl rfl (by omega) (by omega) (by first | assumption | exact ⟨_, _, rfl⟩)) rfl rfl ?_ | refine GO_read (fun w' => w'.cell? _ = some _) rfl rfl ((hr.rd hS).cellX (by omega) hx) (fun _ hc => Yl_load rfl rfl hc) rfl rfl ?_ | refine GO_hard rfl rfl ?_) | (refine Keep_id ?_; first | refine And.intro (by repeat (first | exact trivial | refine And.intro (.inl (by decide +kernel)) ?_ | refine And.intro (.inr (by first | assumption | exact hS.cell | exact cell_at (by assumption) | exact hS.cellI (by omega) | exact hS.cellIP (by omega) | exact hS.cellsN | exact ((hr.rd hS).cellX (by omega) hx) | exact ((hr2.rd hS).cellX (by omega) hx2) | exact hS.cellB (by omega) | exact hS.cellBA (by omega) | exact (hb.rd hS).cellB' (by omega) | exact (hb2.rd hS).cellB' (by omega) | exact (hg.rd hS).cellI (by omega) | exact (hg2.rd hS).cellI (by omega) | exact ((hr.rd hS).cellF (by first | omega | (dsimp only; omega)) hx) | exact ((hr2.rd hS).cellF (by first | omega | (dsimp only; omega)) hx2))) ?_)) ?_))
        refine X_append rfl rfl rfl rfl rfl hS rfl (Nat.le_refl _) (h7r _ _ hS (by simp)) (by simp) bv_one (by omega) (by simp only [maxLen]; omega) (fun p1 k1' w hS hk1 _ => ?_)
        repeat (first | (refine X_id ?_; first | refine X_buildSlice rfl rfl rfl rfl rfl rfl rfl rfl hS (fun _ _ hS _ => ?_)) | (refine GO_id ?_; first | refine GO_pure rfl rfl (fun _ => Yl_build rfl rfl rfl) rfl rfl ?_ | refine GO_hard rfl rfl ?_) | (refine Keep_id ?_; first | refine And.intro (by repeat (first | exact trivial | refine And.intro (.inl (by decide +kernel)) ?_ | refine And.intro (.inr (by first | assumption | exact hS.cell | exact cell_at (by assumption) | exact hS.cellI (by omega) | exact hS.cellIP (by omega) | exact hS.cellsN | exact ((hr.rd hS).cellX (by omega) hx) | exact ((hr2.rd hS).cellX (by omega) hx2) | exact hS.cellB (by omega) | exact hS.cellBA (by omega) | exact (hb.rd hS).cellB' (by omega) | exact (hb2.rd hS).cellB' (by omega) | exact (hg.rd hS).cellI (by omega) | exact (hg2.rd hS).cellI (by omega) | exact ((hr.rd hS).cellF (by first | omega | (dsimp only; omega)) hx) | exact ((hr2.rd hS).cellF (by first | omega | (dsimp only; omega)) hx2))) ?_)) ?_))
        refine X_append rfl rfl rfl rfl rfl hS (wr_len L1) k1 (hS.rd (List.mem_cons_self ..)).own_row rfl (fun u hu => by
          simp only [List.mem_cons, List.not_mem_nil, or_false] at hu
          rcases hu with rfl | rfl <;> rfl) (by omega) (by simp only [maxLen]; omega) (fun a1' c1' w hS hc1 _ => ?_)
        repeat (first | (refine E_id ?_; first | refine E_code ?_) | (refine GO_id ?_; first | refine GO_nil ?_ | refine GO_pure rfl rfl (fun _ => Yl_assign rfl rfl) rfl rfl ?_) | (refine Keep_id ?_; first | refine And.intro (by repeat (first | exact trivial | refine And.intro (.inl (by decide +kernel)) ?_ | refine And.intro (.inr (by first | assumption | exact hS.cell | exact cell_at (by assumption) | exact hS.cellI (by omega) | exact hS.cellIP (by omega) | exact hS.cellsN | exact ((hr.rd hS).cellX (by omega) hx) | exact ((hr2.rd hS).cellX (by omega) hx2) | exact hS.cellB (by omega) | exact hS.cellBA (by omega) | exact (hb.rd hS).cellB' (by omega) | exact (hb2.rd hS).cellB' (by omega) | exact (hg.rd hS).cellI (by omega) | exact (hg2.rd hS).cellI (by omega) | exact ((hr.rd hS).cellF (by first | omega | (dsimp only; omega)) hx) | exact ((hr2.rd hS).cellF (by first | omega | (dsimp only; omega)) hx2))) ?_)) ?_))
        have e0 : 0 + (toB v.x.s).length = (toB v.x.s).length := Nat.zero_add _
        rw [e0] at hS ⊢
        refine C_ord [(0, true), (1, true), (2, true), (3, true), (4, true), (5, true), (7, true), (6, false), (8, false), (9, true), (10, false), (11, false), (12, true)] mixed (by kernel_rfl) rfl ?_
        have hS := hS.drew
        repeat (first | (refine X_id ?_; first | refine X_buildSlice rfl rfl rfl rfl rfl rfl rfl rfl hS (fun _ _ hS _ => ?_)) | (refine GO_id ?_; first | refine GO_pure rfl rfl (fun _ => Yl_move rfl rfl) rfl rfl ?_ | refine GO_pure rfl rfl (fun _ => Yl_fieldAddr rfl rfl rfl) rfl rfl ?_ | refine GO_pure rfl rfl (fun _ => Yl_indexAddr rfl rfl rfl (by omega) (by omega) (by first | assumption | exact ⟨_, _, rfl⟩)) rfl rfl ?_ | refine GO_read (fun w' => w'.cell? _ = some _) rfl rfl ((hr.rd hS).cellX (by omega) hx) (fun _ hc => Yl_load rfl rfl hc) rfl rfl ?_ | refine GO_hard rfl rfl ?_) | (refine Keep_id ?_; first | refine And.intro (by repeat (first | exact trivial | refine And.intro (.inl (by decide +kernel)) ?_ | refine And.intro (.inr (by first | assumption | exact hS.cell | exact cell_at (by assumption) | exact hS.cellI (by omega) | exact hS.cellIP (by omega) | exact hS.cellsN | exact ((hr.rd hS).cellX (by omega) hx) | exact ((hr2.rd hS).cellX (by omega) hx2) | exact hS.cellB (by omega) | exact hS.cellBA (by omega) | exact (hb.rd hS).cellB' (by omega) | exact (hb2.rd hS).cellB' (by omega) | exact (hg.rd hS).cellI (by omega) | exact (hg2.rd hS).cellI (by omega) | exact ((hr.rd hS).cellF (by first | omega | (dsimp only; omega)) hx) | exact ((hr2.rd hS).cellF (by first | omega | (dsimp only; omega)) hx2))) ?_)) ?_))
        refine X_append rfl rfl rfl rfl rfl hS rfl (Nat.le_refl _) (h7r _ _ hS (by simp)) (by simp) bv_one (by omega) (by simp only [maxLen]; omega) (fun p2 k2' w hS hk2 _ => ?_)
        repeat (first | (refine X_id ?_; first | refine X_buildSlice rfl rfl rfl rfl rfl rfl rfl rfl hS (fun _ _ hS _ => ?_)) | (refine GO_id ?_; first | refine GO_pure rfl rfl (fun _ => Yl_build rfl rfl rfl) rfl rfl ?_ | refine GO_hard rfl rfl ?_) | (refine Keep_id ?_; first | refine And.intro (by repeat (first | exact trivial | refine And.intro (.inl (by decide +kernel)) ?_ | refine And.intro (.inr (by first | assumption | exact hS.cell | exact cell_at (by assumption) | exact hS.cellI (by omega) | exact hS.cellIP (by omega) | exact hS.cellsN | exact ((hr.rd hS).cellX (by omega) hx) | exact ((hr2.rd hS).cellX (by omega) hx2) | exact hS.cellB (by omega) | exact hS.cellBA (by omega) | exact (hb.rd hS).cellB' (by omega) | exact (hb2.rd hS).cellB' (by omega) | exact (hg.rd hS).cellI (by omega) | exact (hg2.rd hS).cellI (by omega) | exact ((hr.rd hS).cellF (by first | omega | (dsimp only; omega)) hx) | exact ((hr2.rd hS).cellF (by first | omega | (dsimp only; omega)) hx2))) ?_)) ?_))
        refine X_append rfl rfl rfl rfl rfl hS (wr_len L2) k2 (hS.rd (List.mem_cons_self ..)).own_row rfl (fun u hu => by
          simp only [List.mem_cons, List.not_mem_nil, or_false] at hu
          rcases hu with rfl | rfl <;> rfl) (by omega) (by simp only [maxLen]; omega) (fun a2' c2' w hS hc2 _ => ?_)
        repeat (first | (refine G_id ?_; first | refine G_nil ?_ | refine G_plain rfl rfl ?_) | (refine X_id ?_; first | refine X_yl (Yl_move rfl rfl) rfl rfl ?_ | refine X_yl (Yl_assign rfl rfl) rfl rfl ?_ | refine X_yl (Yl_add rfl rfl rfl (w64 (by omega) (by omega))) rfl rfl ?_) | (refine C_id ?_; first | refine C_region ?_) | (refine E_id ?_; first | refine E_code ?_ | refine E_blk_n ?_) | (refine GO_id ?_; first | refine GO_nil ?_ | refine GO_pure rfl rfl (fun _ => Yl_assign rfl rfl) rfl rfl ?_) | (refine Keep_id ?_; first | refine And.intro (by repeat (first | exact trivial | refine And.intro (.inl (by decide +kernel)) ?_ | refine And.intro (.inr (by first | assumption | exact hS.cell | exact cell_at (by assumption) | exact hS.cellI (by omega) | exact hS.cellIP (by omega) | exact hS.cellsN | exact ((hr.rd hS).cellX (by omega) hx) | exact ((hr2.rd hS).cellX (by omega) hx2) | exact hS.cellB (by omega) | exact hS.cellBA (by omega) | exact (hb.rd hS).cellB' (by omega) | exact (hb2.rd hS).cellB' (by omega) | exact (hg.rd hS).cellI (by omega) | exact (hg2.rd hS).cellI (by omega) | exact ((hr.rd hS).cellF (by first | omega | (dsimp only; omega)) hx) | exact ((hr2.rd hS).cellF (by first | omega | (dsimp only; omega)) hx2))) ?_)) ?_))
        rw [e0] at hS ⊢
        have hS := hS.pick [2, 5, 4, 2, 0]
        replace hS := hS.head (fun _ h => h.row)
        replace hS := St.rdsCons (x := ⟨p2, k2', toB v.x.s⟩) hS
        have hS := hS.pick [1, 0, 0, 0]
        replace hS := hS.head (fun _ h => h.row)
        replace hS := St.rdsCons (x := ⟨p1, k1', toB v.x.s⟩) hS
        have hS := hS.pick [1, 1, 0]
        have hdt : ((l.map Wr.data).take (i + 1)).map (fun v => (v.1, toB v.2)) = (((l.map Wr.data).take i).map fun v => (v.1, toB v.2)) ++ [(v.no, toB v.x.s)] := by
          rw [← List.map_take, hlv]; simp [Wr.data]
        refine E_round (z := ToZ.mk i a1 c1 L1 a2 c2 L2 O) (ToZ.mk (i + 1) a1' c1' (L1 ++ [⟨v.no, p1, k1', toB v.x.s⟩]) a2' c2' (L2 ++ [⟨v.no, p2, k2', toB v.x.s⟩]) (O7 ++ [⟨p2, k2', toB v.x.s⟩] ++ [⟨p1, k1', toB v.x.s⟩])) ⟨rfl, ?_, ?_, rfl, trivial⟩ ⟨h1, h2, ⟨?_, ?_, ?_, ?_, ?_, ?_, ?_, ?_⟩, ?_⟩ (by simp only; omega)
        · show some _ = some _
          simp
        · show some _ = some _
          simp
        · simp only; rw [hdt, ← d1]; simp [Wr.data]
        · simp only; rw [hdt, ← d2]; simp [Wr.data]
        · simp [n1]
        · simp [n2]
        · simpa using hc1
        · simpa using hc2
        · intro x hx
          simp only [List.mem_append, List.mem_cons, List.not_mem_nil, or_false] at hx ⊢
          rcases hx with hx | rfl
          · exact .inl (.inl (hO7 _ (o1 x hx)))
          · exact .inr rfl
        · intro x hx
          simp only [List.mem_append, List.mem_cons, List.not_mem_nil, or_false] at hx ⊢
          rcases hx with hx | rfl
          · exact .inl (.inl (hO7 _ (o2 x hx)))
          · exact .inl (.inr rfl)
        · simpa [ToZ.res, Wr.cells] using hS
    · repeat (first | (refine G_id ?_; first | refine G_nil ?_ | refine G_plain rfl rfl ?_ | refine G_yes rfl rfl rfl rfl ?_) | (refine X_id ?_; first | refine X_yl (Yl_move rfl rfl) rfl rfl ?_ | refine X_yl (Yl_assign rfl rfl) rfl rfl ?_ | refine X_yl (Yl_pick_t rfl rfl rfl) rfl rfl ?_ | refine X_yl (Yl_len rfl rfl) rfl rfl ?_ | refine X_yl (Yl_lss_t rfl rfl rfl (by omega)) rfl rfl ?_ | refine X_yl (Yl_lss_f rfl rfl rfl (by omega)) rfl rfl ?_) | (refine C_id ?_; first | refine C_seq ?_ | refine C_region ?_ | refine C_ret ?_ | refine C_exit ?_ | refine C_cond_f rfl ?_) | (refine E_id ?_; first | refine E_code ?_ | refine E_then_exit ?_ | refine E_blk_same ?_ | refine E_ret2 rfl (Rv_tmp rfl) (Rv_tmp rfl) (Ret.mk ?_)))
      exact ⟨⟨i, a1, c1, L1, a2, c2, L2, O⟩, rfl, ⟨d1, d2, n1, n2, k1, k2, o1, o2⟩, .inr (show i = 10 by omega), hi10, hS⟩
  · repeat (first | (refine G_id ?_; first | refine G_nil ?_ | refine G_plain rfl rfl ?_ | refine G_no rfl rfl rfl rfl rfl rfl ?_) | (refine X_id ?_; first | refine X_yl (Yl_move rfl rfl) rfl rfl ?_ | refine X_yl (Yl_assign rfl rfl) rfl rfl ?_ | refine X_yl (Yl_pick_f rfl rfl rfl) rfl rfl ?_ | refine X_yl (Yl_len rfl rfl) rfl rfl ?_ | refine X_yl (Yl_lss_f rfl rfl rfl (by omega)) rfl rfl ?_) | (refine C_id ?_; first | refine C_seq ?_ | refine C_region ?_ | refine C_ret ?_ | refine C_exit ?_ | refine C_cond_f rfl ?_) | (refine E_id ?_; first | refine E_code ?_ | refine E_then_exit ?_ | refine E_blk_same ?_ | refine E_ret2 rfl (Rv_tmp rfl) (Rv_tmp rfl) (Ret.mk ?_)))
    exact ⟨⟨i, a1, c1, L1, a2, c2, L2, O⟩, rfl, ⟨d1, d2, n1, n2, k1, k2, o1, o2⟩, .inl (show i = l.length by omega), hi10, hS⟩
end Cr
namespace Cr
open Go Go.Proofs
set_option maxRecDepth 100000
set_option maxHeartbeats 8000000
attribute [local irreducible] Calls

def rcheckM (l : List (Int × List UInt8)) (n most : Int) : Int := if l.any badW then 1 else if twiceTo l l.length then 8 else if hasM n l = false then 1 else if most < (l.length : Int) then 6 else 0
theorem any_take_bad {d : List (Int × List UInt8)} {x : Int × List UInt8} (h : x ∈ d) (hb : badW x = true) : d.any badW = true := List.any_eq_true.2 ⟨x, h, hb⟩
theorem twice_of {d : List (Int × List UInt8)} {i k : Nat} (hi : i < d.length) (hk : k < i) (h : (d.getD k (0, [])).1 = (d.getD i (0, [])).1) : ∀ n, i < n → twiceTo d n = true
  | 0, h' => absurd h' (by omega)
  | n + 1, h' => by
    simp only [twiceTo]
    rcases Nat.lt_or_ge i n with hlt | hge
    · rw [twice_of hi hk h n hlt]; rfl
    · obtain rfl : n = i := by omega
      have hm : (d.getD n (0, [])).1 ∈ (d.take n).map (·.1) := by
        rw [← h, List.getD_eq_getElem?_getD, List.getElem?_eq_getElem (show k < d.length by omega)]
        exact List.mem_map.2 ⟨d[k], List.mem_iff_getElem.2 ⟨k, by simp; omega, by simp⟩, rfl⟩
      rw [decide_eq_true hm]; simp
theorem rcheck_ (a : Option Addr) (c : Nat) (l : List Wr) (n most : Int) (W : World) (hW : Wrs W noF a l) (hl : l.length ≤ 1048576) :
    Calls Tryd.prog 8 #[.slice a l.length c, .int .i64 n, .int .i64 most] W (Ret fun v w => v = .int .i64 (rcheckM (l.map Wr.data) n most) ∧ St W noF [] w) := by
  have hS := St.start W
  obtain ⟨d, hd⟩ : ∃ d, d = l.map Wr.data := ⟨_, rfl⟩
  rw [← hd]
  have hdl : d.length = l.length := by rw [hd]; simp
  have hget : ∀ {i : Nat} {v : Wr}, l[i]? = some v → d[i]? = some v.data ∧ d.getD i (0, []) = v.data := fun {i v} h => by
    have : d[i]? = some v.data := by rw [hd]; simp [h]
    exact ⟨this, by rw [List.getD_eq_getElem?_getD, this]; rfl⟩
  have hr := hW.row
  have hr2 := hW.row
  refine calls_C Tryd.func8 rfl Tryd.ntmps8 rfl ?_
  repeat (first | (refine G_id ?_; first | refine G_nil ?_ | refine G_plain rfl rfl ?_) | (refine X_id ?_; first | refine X_yl (Yl_assign rfl rfl) rfl rfl ?_) | (refine C_id ?_; first | refine C_seq ?_ | refine C_region ?_ | refine C_block ?_) | (refine E_id ?_; first | refine E_code ?_))
  refine C_joinB (α := Unit) (fun _ => [(0, .slice a l.length c), (1, .int .i64 n), (2, .int .i64 most)]) (fun _ w => d.any badW = false ∧ St W noF [] w) ?_ ?_
  · refine C_loop (α := Nat) (fun i => [(0, .slice a l.length c), (1, .int .i64 n), (2, .int .i64 most), (7, .int .i64 (i : Nat))])
      (fun i w => i ≤ l.length ∧ (d.take i).any badW = false ∧ St W noF [] w) (fun i => l.length - i) 0 ⟨rfl, rfl, rfl, rfl, trivial⟩ ⟨Nat.zero_le _, by simp, hS⟩ ?_
    clear hS
    rintro i w ⟨hi, hgood, hS⟩
    by_cases h1 : i < l.length
    · have hx0 : l[i]? = some l[i] := List.getElem?_eq_getElem h1
      generalize l[i] = v at hx0
      have hdv := hget hx0
      have hx := wr_no hx0
      have hx2 := wr_b hx0
      obtain ⟨ab, ao, rfl⟩ := (hW.row.rd hS).base (by intro e; rw [e] at hx; simp at hx)
      have hbad : badW v.data = true → d.any badW = true := any_take_bad (List.mem_of_getElem? hdv.1)
      by_cases hno : v.no < 0
      · repeat (first | (refine G_id ?_; first | refine G_nil ?_ | refine G_plain rfl rfl ?_ | refine G_no rfl rfl rfl rfl rfl rfl ?_) | (refine X_id ?_; first | refine X_yl (Yl_move rfl rfl) rfl rfl ?_ | refine X_yl (Yl_assign rfl rfl) rfl rfl ?_ | refine X_yl (Yl_fieldAddr rfl rfl rfl) rfl rfl ?_ | refine X_yl (Yl_pick_t rfl rfl rfl) rfl rfl ?_ | refine X_yl (Yl_len rfl rfl) rfl rfl ?_ | refine X_yl (Yl_lss_t rfl rfl rfl (by omega)) rfl rfl ?_ | refine X_yl (Yl_indexAddr rfl rfl rfl (by omega) (by omega) (by first | assumption | exact ⟨_, _, rfl⟩)) rfl rfl ?_ | refine X_yl (Yl_load rfl rfl ((hr.rd hS).cellX (by omega) hx)) rfl rfl ?_) | (refine C_id ?_; first | refine C_seq ?_ | refine C_region ?_ | refine C_block ?_ | refine C_ret ?_ | refine C_skip ?_ | refine C_cond_t rfl ?_) | (refine E_id ?_; first | refine E_code ?_ | refine E_then_ret ?_ | refine E_blk_ret ?_ | refine E_ret1 rfl (Rv_tmp rfl) (Ret.mk ?_)))
        refine ⟨?_, hS⟩
        rw [rcheckM, if_pos (hbad (by simp [badW, Wr.data, hno]))]
      · by_cases h64 : (v.x.s.length : Int) = 64
        · repeat (first | (refine G_id ?_; first | refine G_nil ?_ | refine G_plain rfl rfl ?_ | refine G_yes rfl rfl rfl rfl ?_) | (refine X_id ?_; first | refine X_yl (Yl_move rfl rfl) rfl rfl ?_ | refine X_yl (Yl_assign rfl rfl) rfl rfl ?_ | refine X_yl (Yl_fieldAddr rfl rfl rfl) rfl rfl ?_ | refine X_yl (Yl_pick_f rfl rfl rfl) rfl rfl ?_ | refine X_yl (Yl_len rfl rfl) rfl rfl ?_ | refine X_yl (Yl_neq_f rfl rfl rfl (by omega)) rfl rfl ?_ | refine X_yl (Yl_lss_t rfl rfl rfl (by omega)) rfl rfl ?_ | refine X_yl (Yl_lss_f rfl rfl rfl (by omega)) rfl rfl ?_ | refine X_yl (Yl_indexAddr rfl rfl rfl (by omega) (by omega) (by first | assumption | exact ⟨_, _, rfl⟩)) rfl rfl ?_ | refine X_yl (Yl_add rfl rfl rfl (w64 (by omega) (by omega))) rfl rfl ?_ | refine X_yl (Yl_load rfl rfl ((hr.rd hS).cellX (by omega) hx)) rfl rfl ?_ | refine X_yl (Yl_load rfl rfl ((hr2.rd hS).cellF (by first | omega | (dsimp only; omega)) hx2)) rfl rfl ?_) | (refine C_id ?_; first | refine C_seq ?_ | refine C_region ?_ | refine C_block ?_ | refine C_skip ?_ | refine C_cond_t rfl ?_ | refine C_cond_f rfl ?_) | (refine E_id ?_; first | refine E_code ?_ | refine E_blk_n ?_))
          refine E_round (i + 1) ⟨rfl, rfl, rfl, rfl, trivial⟩ ⟨by omega, ?_, hS⟩ (by omega)
          rw [List.take_add_one, hdv.1, List.any_append, hgood]
          simp [badW, Wr.data, hno, h64]
        · repeat (first | (refine G_id ?_; first | refine G_nil ?_ | refine G_plain rfl rfl ?_ | refine G_yes rfl rfl rfl rfl ?_) | (refine X_id ?_; first | refine X_yl (Yl_move rfl rfl) rfl rfl ?_ | refine X_yl (Yl_assign rfl rfl) rfl rfl ?_ | refine X_yl (Yl_fieldAddr rfl rfl rfl) rfl rfl ?_ | refine X_yl (Yl_pick_f rfl rfl rfl) rfl rfl ?_ | refine X_yl (Yl_len rfl rfl) rfl rfl ?_ | refine X_yl (Yl_neq_t rfl rfl rfl (by omega)) rfl rfl ?_ | refine X_yl (Yl_lss_t rfl rfl rfl (by omega)) rfl rfl ?_ | refine X_yl (Yl_lss_f rfl rfl rfl (by omega)) rfl rfl ?_ | refine X_yl (Yl_indexAddr rfl rfl rfl (by omega) (by omega) (by first | assumption | exact ⟨_, _, rfl⟩)) rfl rfl ?_ | refine X_yl (Yl_load rfl rfl ((hr.rd hS).cellX (by omega) hx)) rfl rfl ?_ | refine X_yl (Yl_load rfl rfl ((hr2.rd hS).cellF (by first | omega | (dsimp only; omega)) hx2)) rfl rfl ?_) | (refine C_id ?_; first | refine C_seq ?_ | refine C_region ?_ | refine C_block ?_ | refine C_ret ?_ | refine C_skip ?_ | refine C_cond_t rfl ?_) | (refine E_id ?_; first | refine E_code ?_ | refine E_then_ret ?_ | refine E_blk_ret ?_ | refine E_ret1 rfl (Rv_tmp rfl) (Ret.mk ?_)))
          refine ⟨?_, hS⟩
          rw [rcheckM, if_pos (hbad (by simp [badW, Wr.data, h64]))]
    · obtain rfl : i = l.length := by omega
      repeat (first | (refine G_id ?_; first | refine G_nil ?_ | refine G_plain rfl rfl ?_) | (refine X_id ?_; first | refine X_yl (Yl_move rfl rfl) rfl rfl ?_ | refine X_yl (Yl_len rfl rfl) rfl rfl ?_ | refine X_yl (Yl_lss_f rfl rfl rfl (by omega)) rfl rfl ?_) | (refine C_id ?_; first | refine C_seq ?_ | refine C_region ?_ | refine C_exit ?_ | refine C_cond_f rfl ?_) | (refine E_id ?_; first | refine E_code ?_ | refine E_then_exit ?_ | refine E_blk_same ?_))
      refine E_mid () ⟨rfl, rfl, rfl, trivial⟩ ⟨?_, hS⟩
      rw [← hdl, List.take_length] at hgood; exact hgood
  clear hS
  rintro _ w ⟨hbad, hS⟩
  repeat (first | (refine G_id ?_; first | refine G_nil ?_ | refine G_plain rfl rfl ?_) | (refine X_id ?_; first | refine X_yl (Yl_assign rfl rfl) rfl rfl ?_) | (refine C_id ?_; first | refine C_seq ?_ | refine C_region ?_ | refine C_block ?_) | (refine E_id ?_; first | refine E_code ?_))
  refine C_joinB (α := Unit) (fun _ => [(0, .slice a l.length c), (1, .int .i64 n), (2, .int .i64 most)]) (fun _ w => twiceTo d d.length = false ∧ St W noF [] w) ?_ ?_
  · refine C_loop (α := Nat) (fun i => [(0, .slice a l.length c), (1, .int .i64 n), (2, .int .i64 most), (8, .int .i64 (i : Nat))])
      (fun i w => i ≤ l.length ∧ twiceTo d i = false ∧ St W noF [] w) (fun i => l.length - i) 0 ⟨rfl, rfl, rfl, rfl, trivial⟩ ⟨Nat.zero_le _, rfl, hS⟩ ?_
    clear hS
    rintro i w ⟨hi, htw, hS⟩
    by_cases h1 : i < l.length
    · have hx0 : l[i]? = some l[i] := List.getElem?_eq_getElem h1
      generalize l[i] = v at hx0
      have hdv := hget hx0
      have hx2 := wr_no hx0
      obtain ⟨ab, ao, rfl⟩ := (hW.row.rd hS).base (by intro e; rw [e] at hx2; simp at hx2)
      repeat (first | (refine G_id ?_; first | refine G_nil ?_ | refine G_plain rfl rfl ?_) | (refine X_id ?_; first | refine X_yl (Yl_move rfl rfl) rfl rfl ?_ | refine X_yl (Yl_assign rfl rfl) rfl rfl ?_ | refine X_yl (Yl_len rfl rfl) rfl rfl ?_ | refine X_yl (Yl_lss_t rfl rfl rfl (by omega)) rfl rfl ?_) | (refine C_id ?_; first | refine C_seq ?_ | refine C_region ?_ | refine C_block ?_ | refine C_skip ?_ | refine C_cond_t rfl ?_) | (refine E_id ?_; first | refine E_code ?_))
      refine C_loop (α := Nat) (fun k => [(0, .slice (some ⟨ab, ao, none⟩) l.length c), (1, .int .i64 n), (2, .int .i64 most), (8, .int .i64 (i : Nat)), (9, .int .i64 (k : Nat))])
        (fun k w => k ≤ i ∧ (∀ x ∈ d.take k, ¬ x.1 = v.no) ∧ St W noF [] w) (fun k => i - k) 0 ⟨rfl, rfl, rfl, rfl, rfl, trivial⟩ ⟨Nat.zero_le _, by simp, hS⟩ ?_
      clear hS
      rintro k w ⟨hk, hno, hS⟩
      by_cases h2 : k < i
      · have hx1 : l[k]? = some l[k] := List.getElem?_eq_getElem (by omega)
        generalize l[k] = u at hx1
        have hdu := hget hx1
        have hx := wr_no hx1
        by_cases hq : u.no = v.no
        · repeat (first | (refine G_id ?_; first | refine G_nil ?_ | refine G_plain rfl rfl ?_) | (refine X_id ?_; first | refine X_yl (Yl_move rfl rfl) rfl rfl ?_ | refine X_yl (Yl_lss_t rfl rfl rfl (by omega)) rfl rfl ?_) | (refine C_id ?_; first | refine C_seq ?_ | refine C_region ?_ | refine C_block ?_ | refine C_skip ?_ | refine C_cond_t rfl ?_) | (refine E_id ?_; first | refine E_code ?_))
          refine C_ord [(0, true), (1, true), (2, true), (3, true), (4, true), (5, true), (6, true), (7, true), (8, true), (9, true), (10, true)] mixed (by kernel_rfl) rfl ?_
          have hS := hS.drew
          repeat (first | (refine G_id ?_; first | refine G_nil ?_ | refine G_plain rfl rfl ?_) | (refine X_id ?_; first | refine X_yl (Yl_assign rfl rfl) rfl rfl ?_) | (refine C_id ?_; first | refine C_seq ?_ | refine C_region ?_ | refine C_ret ?_ | refine C_cond_t rfl ?_) | (refine E_id ?_; first | refine E_code ?_ | refine E_then_ret ?_ | refine E_blk_ret ?_ | refine E_ret1 rfl (Rv_tmp rfl) (Ret.mk ?_)) | (refine GO_id ?_; first | refine GO_nil ?_ | refine GO_pure rfl rfl (fun _ => Yl_move rfl rfl) rfl rfl ?_ | refine GO_pure rfl rfl (fun _ => Yl_fieldAddr rfl rfl rfl) rfl rfl ?_ | refine GO_pure rfl rfl (fun _ => Yl_eql_t rfl rfl rfl (by omega)) rfl rfl ?_ | refine GO_pure rfl rfl (fun _ => Yl_indexAddr rfl rfl rfl (by omega) (by omega) (by first | assumption | exact ⟨_, _, rfl⟩)) rfl rfl ?_ | refine GO_read (fun w' => w'.cell? _ = some _) rfl rfl ((hr.rd hS).cellX (by omega) hx) (fun _ hc => Yl_load rfl rfl hc) rfl rfl ?_ | refine GO_read (fun w' => w'.cell? _ = some _) rfl rfl ((hr2.rd hS).cellX (by omega) hx2) (fun _ hc => Yl_load rfl rfl hc) rfl rfl ?_))
          refine ⟨?_, hS⟩
          rw [rcheckM, if_neg (by simp [hbad]), if_pos (twice_of (i := i) (k := k) (by omega) h2 (by rw [hdu.2, hdv.2]; exact hq) _ (by omega))]
        · repeat (first | (refine G_id ?_; first | refine G_nil ?_ | refine G_plain rfl rfl ?_) | (refine X_id ?_; first | refine X_yl (Yl_move rfl rfl) rfl rfl ?_ | refine X_yl (Yl_lss_t rfl rfl rfl (by omega)) rfl rfl ?_) | (refine C_id ?_; first | refine C_seq ?_ | refine C_region ?_ | refine C_block ?_ | refine C_skip ?_ | refine C_cond_t rfl ?_) | (refine E_id ?_; first | refine E_code ?_))
          refine C_ord [(0, true), (1, true), (2, true), (3, true), (4, true), (5, true), (6, true), (7, true), (8, true), (9, true), (10, true)] mixed (by kernel_rfl) rfl ?_
          have hS := hS.drew
          repeat (first | (refine G_id ?_; first | refine G_nil ?_ | refine G_plain rfl rfl ?_) | (refine X_id ?_; first | refine X_yl (Yl_move rfl rfl) rfl rfl ?_ | refine X_yl (Yl_assign rfl rfl) rfl rfl ?_ | refine X_yl (Yl_add rfl rfl rfl (w64 (by omega) (by omega))) rfl rfl ?_) | (refine C_id ?_; first | refine C_region ?_ | refine C_skip ?_ | refine C_cond_f rfl ?_) | (refine E_id ?_; first | refine E_code ?_ | refine E_blk_n ?_) | (refine GO_id ?_; first | refine GO_nil ?_ | refine GO_pure rfl rfl (fun _ => Yl_move rfl rfl) rfl rfl ?_ | refine GO_pure rfl rfl (fun _ => Yl_fieldAddr rfl rfl rfl) rfl rfl ?_ | refine GO_pure rfl rfl (fun _ => Yl_eql_f rfl rfl rfl (by omega)) rfl rfl ?_ | refine GO_pure rfl rfl (fun _ => Yl_indexAddr rfl rfl rfl (by omega) (by omega) (by first | assumption | exact ⟨_, _, rfl⟩)) rfl rfl ?_ | refine GO_read (fun w' => w'.cell? _ = some _) rfl rfl ((hr.rd hS).cellX (by omega) hx) (fun _ hc => Yl_load rfl rfl hc) rfl rfl ?_ | refine GO_read (fun w' => w'.cell? _ = some _) rfl rfl ((hr2.rd hS).cellX (by omega) hx2) (fun _ hc => Yl_load rfl rfl hc) rfl rfl ?_))
          refine E_round (k + 1) ⟨rfl, rfl, rfl, rfl, rfl, trivial⟩ ⟨by omega, ?_, hS⟩ (by omega)
          rw [List.take_add_one, hdu.1]
          intro x hx
          rcases List.mem_append.1 hx with h | h
          · exact hno x h
          · simp only [Option.toList, List.mem_singleton] at h
            rw [h]; exact hq
      · obtain rfl : k = i := by omega
        repeat (first | (refine G_id ?_; first | refine G_nil ?_ | refine G_plain rfl rfl ?_) | (refine X_id ?_; first | refine X_yl (Yl_move rfl rfl) rfl rfl ?_ | refine X_yl (Yl_assign rfl rfl) rfl rfl ?_ | refine X_yl (Yl_lss_f rfl rfl rfl (by omega)) rfl rfl ?_ | refine X_yl (Yl_add rfl rfl rfl (w64 (by omega) (by omega))) rfl rfl ?_) | (refine C_id ?_; first | refine C_seq ?_ | refine C_region ?_ | refine C_exit ?_ | refine C_cond_f rfl ?_) | (refine E_id ?_; first | refine E_code ?_ | refine E_then_exit ?_ | refine E_blk_same ?_ | refine E_blk_n ?_))
        refine E_round (k + 1) ⟨rfl, rfl, rfl, rfl, trivial⟩ ⟨by omega, ?_, hS⟩ (by omega)
        simp only [twiceTo, htw, Bool.false_or]
        rw [hdv.2]
        refine decide_eq_false fun h => ?_
        obtain ⟨x, hx, e⟩ := List.mem_map.1 h
        exact hno x hx e
    · obtain rfl : i = l.length := by omega
      repeat (first | (refine G_id ?_; first | refine G_nil ?_ | refine G_plain rfl rfl ?_) | (refine X_id ?_; first | refine X_yl (Yl_move rfl rfl) rfl rfl ?_ | refine X_yl (Yl_len rfl rfl) rfl rfl ?_ | refine X_yl (Yl_lss_f rfl rfl rfl (by omega)) rfl rfl ?_) | (refine C_id ?_; first | refine C_seq ?_ | refine C_region ?_ | refine C_exit ?_ | refine C_cond_f rfl ?_) | (refine E_id ?_; first | refine E_code ?_ | refine E_then_exit ?_ | refine E_blk_same ?_))
      refine E_mid () ⟨rfl, rfl, rfl, trivial⟩ ⟨?_, hS⟩
      rw [hdl]; exact htw
  clear hS
  rintro _ w ⟨htw, hS⟩
  repeat (first | (refine G_id ?_; first | refine G_nil ?_ | refine G_plain rfl rfl ?_) | (refine X_id ?_; first | refine X_yl (Yl_assign rfl rfl) rfl rfl ?_) | (refine C_id ?_; first | refine C_seq ?_ | refine C_region ?_ | refine C_block ?_) | (refine E_id ?_; first | refine E_code ?_))
  refine C_joinB (α := Unit) (fun _ => [(0, .slice a l.length c), (1, .int .i64 n), (2, .int .i64 most)]) (fun _ w => hasM n d = true ∧ St W noF [] w) ?_ ?_
  · refine C_loop (α := Nat) (fun i => [(0, .slice a l.length c), (1, .int .i64 n), (2, .int .i64 most), (10, .int .i64 (i : Nat))])
      (fun i w => i ≤ l.length ∧ hasM n (d.take i) = true ∧ St W noF [] w) (fun i => l.length - i) 0 ⟨rfl, rfl, rfl, rfl, trivial⟩ ⟨Nat.zero_le _, rfl, hS⟩ ?_
    clear hS
    rintro i w ⟨hi, hh, hS⟩
    by_cases h1 : i < l.length
    · have hx0 : l[i]? = some l[i] := List.getElem?_eq_getElem h1
      generalize l[i] = v at hx0
      have hdv := hget hx0
      have hx := wr_no hx0
      obtain ⟨ab, ao, rfl⟩ := (hW.row.rd hS).base (by intro e; rw [e] at hx; simp at hx)
      by_cases hno : n ≤ v.no
      · repeat (first | (refine G_id ?_; first | refine G_nil ?_ | refine G_plain rfl rfl ?_) | (refine X_id ?_; first | refine X_yl (Yl_move rfl rfl) rfl rfl ?_ | refine X_yl (Yl_assign rfl rfl) rfl rfl ?_ | refine X_yl (Yl_fieldAddr rfl rfl rfl) rfl rfl ?_ | refine X_yl (Yl_len rfl rfl) rfl rfl ?_ | refine X_yl (Yl_lss_t rfl rfl rfl (by omega)) rfl rfl ?_ | refine X_yl (Yl_geq_t rfl rfl rfl (by omega)) rfl rfl ?_ | refine X_yl (Yl_indexAddr rfl rfl rfl (by omega) (by omega) (by first | assumption | exact ⟨_, _, rfl⟩)) rfl rfl ?_ | refine X_yl (Yl_load rfl rfl ((hr.rd hS).cellX (by omega) hx)) rfl rfl ?_) | (refine C_id ?_; first | refine C_seq ?_ | refine C_region ?_ | refine C_block ?_ | refine C_ret ?_ | refine C_skip ?_ | refine C_cond_t rfl ?_) | (refine E_id ?_; first | refine E_code ?_ | refine E_then_ret ?_ | refine E_blk_ret ?_ | refine E_ret1 rfl (Rv_tmp rfl) (Ret.mk ?_)))
        refine ⟨?_, hS⟩
        have : hasM n d = false := by
          unfold hasM
          rw [List.all_eq_false]
          exact ⟨v.data, List.mem_of_getElem? hdv.1, fun h => by have := of_decide_eq_true h; simp only [Wr.data] at this; omega⟩
        rw [rcheckM, if_neg (by simp [hbad]), if_neg (by simp [htw]), if_pos this]
      · repeat (first | (refine G_id ?_; first | refine G_nil ?_ | refine G_plain rfl rfl ?_) | (refine X_id ?_; first | refine X_yl (Yl_move rfl rfl) rfl rfl ?_ | refine X_yl (Yl_assign rfl rfl) rfl rfl ?_ | refine X_yl (Yl_fieldAddr rfl rfl rfl) rfl rfl ?_ | refine X_yl (Yl_len rfl rfl) rfl rfl ?_ | refine X_yl (Yl_lss_t rfl rfl rfl (by omega)) rfl rfl ?_ | refine X_yl (Yl_geq_f rfl rfl rfl (by omega)) rfl rfl ?_ | refine X_yl (Yl_indexAddr rfl rfl rfl (by omega) (by omega) (by first | assumption | exact ⟨_, _, rfl⟩)) rfl rfl ?_ | refine X_yl (Yl_add rfl rfl rfl (w64 (by omega) (by omega))) rfl rfl ?_ | refine X_yl (Yl_load rfl rfl ((hr.rd hS).cellX (by omega) hx)) rfl rfl ?_) | (refine C_id ?_; first | refine C_seq ?_ | refine C_region ?_ | refine C_block ?_ | refine C_skip ?_ | refine C_cond_t rfl ?_ | refine C_cond_f rfl ?_) | (refine E_id ?_; first | refine E_code ?_ | refine E_blk_n ?_))
        refine E_round (i + 1) ⟨rfl, rfl, rfl, rfl, trivial⟩ ⟨by omega, ?_, hS⟩ (by omega)
        unfold hasM at hh ⊢
        rw [List.take_add_one, hdv.1, List.all_append, hh]
        simp only [Option.toList, List.all_cons, List.all_nil, Wr.data, Bool.true_and, Bool.and_true, decide_eq_true_eq]; omega
    · obtain rfl : i = l.length := by omega
      repeat (first | (refine G_id ?_; first | refine G_nil ?_ | refine G_plain rfl rfl ?_) | (refine X_id ?_; first | refine X_yl (Yl_move rfl rfl) rfl rfl ?_ | refine X_yl (Yl_len rfl rfl) rfl rfl ?_ | refine X_yl (Yl_lss_f rfl rfl rfl (by omega)) rfl rfl ?_) | (refine C_id ?_; first | refine C_seq ?_ | refine C_region ?_ | refine C_exit ?_ | refine C_cond_f rfl ?_) | (refine E_id ?_; first | refine E_code ?_ | refine E_then_exit ?_ | refine E_blk_same ?_))
      refine E_mid () ⟨rfl, rfl, rfl, trivial⟩ ⟨?_, hS⟩
      rw [← hdl, List.take_length] at hh; exact hh
  clear hS
  rintro _ w ⟨hh, hS⟩
  have hv : rcheckM d n most = if most < (l.length : Int) then 6 else 0 := by
    rw [rcheckM, if_neg (by simp [hbad]), if_neg (by simp [htw]), if_neg (by simp [hh]), hdl]
  by_cases hm : most < (l.length : Int)
  · repeat (first | (refine G_id ?_; first | refine G_nil ?_ | refine G_plain rfl rfl ?_) | (refine X_id ?_; first | refine X_yl (Yl_move rfl rfl) rfl rfl ?_ | refine X_yl (Yl_assign rfl rfl) rfl rfl ?_ | refine X_yl (Yl_len rfl rfl) rfl rfl ?_ | refine X_yl (Yl_gtr_t rfl rfl rfl (by omega)) rfl rfl ?_) | (refine C_id ?_; first | refine C_seq ?_ | refine C_region ?_ | refine C_ret ?_ | refine C_cond_t rfl ?_) | (refine E_id ?_; first | refine E_code ?_ | refine E_then_ret ?_ | refine E_ret1 rfl (Rv_tmp rfl) (Ret.mk ?_)))
    exact ⟨by rw [hv, if_pos hm], hS⟩
  · repeat (first | (refine G_id ?_; first | refine G_nil ?_ | refine G_plain rfl rfl ?_) | (refine X_id ?_; first | refine X_yl (Yl_move rfl rfl) rfl rfl ?_ | refine X_yl (Yl_assign rfl rfl) rfl rfl ?_ | refine X_yl (Yl_len rfl rfl) rfl rfl ?_ | refine X_yl (Yl_gtr_f rfl rfl rfl (by omega)) rfl rfl ?_) | (refine C_id ?_; first | refine C_seq ?_ | refine C_region ?_ | refine C_ret ?_ | refine C_skip ?_ | refine C_cond_f rfl ?_) | (refine E_id ?_; first | refine E_code ?_ | refine E_ret1 rfl (Rv_tmp rfl) (Ret.mk ?_)))
    exact ⟨by rw [hv, if_neg hm], hS⟩
end Cr
namespace Cr
open Go Go.Proofs
structure Quiet (D : DiskM) (n : Nat) : Prop where
  off : D.off = false
  armed : D.armed = false
  len : D.laid.length = n
structure Qs (x : Int × DiskM) (n : Nat) (laid : List (List UInt8)) (line : List (Int × List UInt8)) : Prop where
  e : x.1 = 0
  q : Quiet x.2 n
  laid : x.2.laid = laid
  line : x.2.line = line
theorem Qs.len {x : Int × DiskM} {n : Nat} {laid : List (List UInt8)} {line : List (Int × List UInt8)} (h : Qs x n laid line) : laid.length = n := by rw [← h.laid]; exact h.q.len
theorem Qs.write {x : Int × DiskM} {n : Nat} {laid : List (List UInt8)} {line : List (Int × List UInt8)} (h : Qs x n laid line) {no : Int} {b : List UInt8} (h0 : 0 ≤ no) (h1 : no < n) (hb : b.length = 64) : Qs (stepW x no b) n laid (line ++ [(no, b)]) := by
  obtain ⟨e, ⟨qo, qa, ql⟩, hl, hn⟩ := h
  have hu : useB x.2.off x.2.armed x.2.left = true := by rw [qo, qa]; rfl
  have hw := DiskM.write_yes (D := x.2) (no := no) (b := b) qo (by simp [inDisk, h0, ql, h1]) hb hu
  unfold stepW
  rw [if_pos e, hw]
  refine ⟨rfl, ⟨?_, qa, ql⟩, hl, by simp [hn]⟩
  show useOff x.2.off x.2.armed x.2.left = false
  rw [qo, qa]; rfl
theorem Qs.flush {x : Int × DiskM} {n : Nat} {laid : List (List UInt8)} {line : List (Int × List UInt8)} (h : Qs x n laid line) : Qs (stepF x) n (layOn laid line) [] := by
  obtain ⟨e, ⟨qo, qa, ql⟩, hl, hn⟩ := h
  have hu : useB x.2.off x.2.armed x.2.left = true := by rw [qo, qa]; rfl
  have hw := DiskM.flush_yes (D := x.2) qo hu
  unfold stepF
  rw [if_pos e, hw]
  refine ⟨rfl, ⟨?_, qa, ?_⟩, ?_, rfl⟩
  · show useOff x.2.off x.2.armed x.2.left = false
    rw [qo, qa]; rfl
  · show (layOn x.2.laid x.2.line).length = n
    rw [layOn_length]; exact ql
  · show layOn x.2.laid x.2.line = _
    rw [hl, hn]
theorem Qs.puts (k : Int) {n : Nat} {laid : List (List UInt8)} : ∀ (l : List (Int × List UInt8)) {x : Int × DiskM} {line : List (Int × List UInt8)}, Qs x n laid line → (∀ v ∈ l, 0 ≤ k + v.1 ∧ k + v.1 < n ∧ v.2.length = 64) → Qs (putsM k x l) n laid (line ++ l.map fun v => (k + v.1, v.2))
  | [], _, _, h, _ => by simpa [putsM] using h
  | v :: l, x, line, h, hl => by
    have hv := hl v (List.mem_cons_self ..)
    have := Qs.puts k l (h.write hv.1 hv.2.1 hv.2.2) fun u hu => hl u (List.mem_cons_of_mem _ hu)
    simpa [putsM] using this
theorem Qs.notes (m : Int) (d : List UInt8) (l : List (Int × List UInt8)) {n : Nat} {laid : List (List UInt8)} {x : Int × DiskM} {line : List (Int × List UInt8)} (h : Qs x n laid line) (hl : ∀ v ∈ l, v.2.length = 64) (hn : 2 * l.length < n) :
    ∀ i, i ≤ l.length → ∃ L, (∀ v ∈ L, 0 ≤ v.1 ∧ v.1 < 1 + 2 * (l.length : Int)) ∧ Qs (notesTo m d l x i) n laid (line ++ L)
  | 0, _ => ⟨[], by simp, by simpa [notesTo] using h⟩
  | i + 1, hi => by
    obtain ⟨L, hL, hq⟩ := Qs.notes m d l h hl hn i (by omega)
    have hv : (l.getD i (0, [])).2.length = 64 := by
      rw [List.getD_eq_getElem?_getD, List.getElem?_eq_getElem (by omega)]
      exact hl _ (List.getElem_mem _)
    have h1 := hq.write (no := 1 + 2 * (i : Nat)) (b := noteB m (i : Nat) (l.length : Nat) (l.getD i (0, [])).1 d) (by omega) (by omega) (noteB_length ..)
    have h2 := h1.write (no := 1 + 2 * (i : Nat) + 1) (b := (l.getD i (0, [])).2) (by omega) (by omega) hv
    refine ⟨L ++ [(1 + 2 * ((i : Nat) : Int), noteB m (i : Nat) (l.length : Nat) (l.getD i (0, [])).1 d), (1 + 2 * ((i : Nat) : Int) + 1, (l.getD i (0, [])).2)], ?_, by simpa [notesTo, noteStep, List.append_assoc] using h2⟩
    intro v hv
    rcases List.mem_append.1 hv with hv | hv
    · exact hL v hv
    · simp only [List.mem_cons, List.not_mem_nil, or_false] at hv
      rcases hv with rfl | rfl <;> (simp only; omega)
/-- What a list of writes leaves at a place. -/
def lastOf (l : List (Int × List UInt8)) (m : Int) : Option (List UInt8) := (l.reverse.find? fun v => v.1 == m).map (·.2)
theorem lastOf_cons (v : Int × List UInt8) (l : List (Int × List UInt8)) (m : Int) : lastOf (v :: l) m = (lastOf l m).or (if v.1 = m then some v.2 else none) := by
  unfold lastOf
  rw [List.reverse_cons, List.find?_append]
  cases h : l.reverse.find? fun v => v.1 == m with
  | some x => simp
  | none => by_cases e : v.1 = m <;> simp [e]
theorem lastOf_none {l : List (Int × List UInt8)} {m : Int} (h : ∀ v ∈ l, v.1 ≠ m) : lastOf l m = none := by
  unfold lastOf
  rw [List.find?_eq_none.2 (fun v hv => by simpa using h v (List.mem_reverse.1 hv))]; rfl
theorem lastOf_map (k m : Int) : ∀ l : List (Int × List UInt8), lastOf (l.map fun v => (k + v.1, v.2)) (k + m) = lastOf l m
  | [] => rfl
  | v :: l => by
    rw [List.map_cons, lastOf_cons, lastOf_cons, lastOf_map k m l]
    congr 1
    by_cases e : v.1 = m
    · rw [if_pos e, if_pos (by rw [e])]
    · rw [if_neg e, if_neg (fun h => e (Int.add_left_cancel h))]
theorem lastOf_some {l : List (Int × List UInt8)} {m : Int} {s : List UInt8} (h : lastOf l m = some s) : (m, s) ∈ l := by
  unfold lastOf at h
  obtain ⟨v, hv, rfl⟩ := Option.map_eq_some_iff.1 h
  have h1 := List.mem_of_find?_eq_some hv
  have h2 := List.find?_some hv
  simp only [beq_iff_eq] at h2
  subst h2
  exact List.mem_reverse.1 h1
theorem layOn_get : ∀ (xs : List (Int × List UInt8)) (l : List (List UInt8)) (k : Nat), k < l.length → (∀ v ∈ xs, 0 ≤ v.1) → (layOn l xs).getD k [] = (lastOf xs k).getD (l.getD k [])
  | [], _, _, _, _ => rfl
  | v :: xs, l, k, hk, hx => by
    have hv := hx v (List.mem_cons_self ..)
    have ih := layOn_get xs (l.set v.1.toNat v.2) k (by simpa using hk) fun u hu => hx u (List.mem_cons_of_mem _ hu)
    have e : layOn l (v :: xs) = layOn (l.set v.1.toNat v.2) xs := rfl
    rw [e, ih, lastOf_cons]
    cases lastOf xs k with
    | some s => rfl
    | none =>
      simp only [Option.getD_none, Option.none_or]
      rw [List.getD_eq_getElem?_getD, List.getElem?_set]
      by_cases e2 : v.1.toNat = k
      · rw [if_pos e2, if_pos (by omega), if_pos (by omega)]; rfl
      · rw [if_neg e2, if_neg (by omega)]; simp [List.getD_eq_getElem?_getD]
structure Done (R : Int × DiskM × Int) (D : DiskM) (j n : Nat) (done : Int) (l : List (Int × List UInt8)) : Prop where
  e : R.1 = 0
  q : Quiet R.2.1 n
  line : R.2.1.line = []
  lo : done ≤ R.2.2
  hi : R.2.2 ≤ done + 1
  at_ : ∀ k, 1 + j + k < n → R.2.1.laid.getD (1 + j + k) [] = (lastOf l (k : Nat)).getD (D.laid.getD (1 + j + k) [])
theorem rcheck_ok {l : List (Int × List UInt8)} {n most : Int} (h : rcheckM l n most = 0) : checkM l = 0 ∧ hasM n l = true ∧ (l.length : Int) ≤ most := by
  unfold rcheckM at h
  unfold checkM
  by_cases h1 : l.any badW = true
  · rw [if_pos h1] at h; cases h
  · rw [if_neg h1] at h ⊢
    by_cases h2 : twiceTo l l.length = true
    · rw [if_pos h2] at h; cases h
    · rw [if_neg h2] at h ⊢
      by_cases h3 : hasM n l = false
      · rw [if_pos h3] at h; cases h
      · rw [if_neg h3] at h
        by_cases h4 : most < (l.length : Int)
        · rw [if_pos h4] at h; cases h
        · exact ⟨rfl, by simpa using h3, by omega⟩
theorem commit_good (rd fs : List Int) {D : DiskM} {j n : Nat} {done : Int} {l : List (Int × List UInt8)} (hq : Quiet D n) (hline : D.line = []) (hr : rcheckM l ((n : Int) - 1 - j) ((j : Int) / 2) = 0) (hd : done < last) :
    Done (commitM rd fs D j done l) D j n done l := by
  obtain ⟨hc, hh, hm⟩ := rcheck_ok hr
  have hgood : ∀ v ∈ l, 0 ≤ v.1 ∧ v.1 < (n : Int) - 1 - j ∧ v.2.length = 64 := fun v hv => by
    have h1 := check_good hc v hv
    have h2 := List.all_eq_true.1 hh v hv
    exact ⟨h1.1, of_decide_eq_true h2, h1.2⟩
  unfold commitM
  rw [if_neg (by simp [hq.off]), if_neg (by simpa using hc), hq.len, if_neg (by simp [hh]), if_neg (by omega)]
  by_cases h0 : l = []
  · rw [if_pos h0]
    subst h0
    exact ⟨rfl, hq, hline, Int.le_refl _, by simp only; omega, fun k hk => rfl⟩
  · rw [if_neg h0]
    have hlen : 0 < l.length := List.length_pos_iff.2 h0
    obtain ⟨v0, hv0⟩ := List.exists_mem_of_ne_nil l h0
    have hv0 := hgood v0 hv0
    have hq0 : Qs (0, D) n D.laid [] := ⟨rfl, hq, rfl, hline⟩
    obtain ⟨L, hL, h1⟩ := hq0.notes (done + 1) (sumB rd fs (done + 1) l) l (fun v hv => (hgood v hv).2.2) (by omega) l.length (Nat.le_refl _)
    have h2 := Qs.puts (1 + j) l h1.flush (fun v hv => by have := hgood v hv; omega)
    have h3 := (h2.flush.write (no := 0) (b := frontB rd fs (done + 1)) (by omega) (by omega) (fullB_length _)).flush
    have e : putM rd fs D j done l = stepF (stepW (stepF (putsM (1 + j) (stepF (notesTo (done + 1) (sumB rd fs (done + 1) l) l (0, D) l.length)) l)) 0 (frontB rd fs (done + 1))) := rfl
    rw [← e] at h3
    refine ⟨h3.e, h3.q, h3.line, ?_, ?_, fun k hk => ?_⟩
    · simp only [h3.e, if_true]; omega
    · simp only [h3.e, if_true]; omega
    · simp only
      rw [h3.laid]
      have l1 : D.laid.length = n := hq.len
      rw [layOn_get _ _ _ (by rw [layOn_length, layOn_length, l1]; exact hk) (fun v hv => by simp only [List.nil_append, List.mem_singleton] at hv; rw [hv]; exact Int.le_refl _),
        lastOf_none (l := [] ++ [(0, frontB rd fs (done + 1))]) (fun v hv => by simp only [List.nil_append, List.mem_singleton] at hv; rw [hv]; simp only; omega), Option.getD_none,
        layOn_get _ _ _ (by rw [layOn_length, l1]; exact hk) (fun v hv => by
          simp only [List.nil_append, List.mem_map] at hv
          obtain ⟨u, hu, rfl⟩ := hv
          have := hgood u hu
          simp only; omega),
        show ((1 + j + k : Nat) : Int) = (1 + (j : Int)) + (k : Nat) by omega, List.nil_append, lastOf_map]
      congr 1
      rw [layOn_get _ _ _ (by rw [l1]; exact hk) (fun v hv => (hL v (by simpa using hv)).1), lastOf_none (fun v hv => by have := hL v (by simpa using hv); omega)]
      rfl
/-! ### two logs, one behind the other -/
def dataM (D : DiskM) (j : Nat) : List UInt8 := (List.range (D.laid.length - 1 - j)).flatMap fun k => D.find (1 + (j : Int) + ((k : Nat) : Int))
theorem find_quiet {D : DiskM} (h : D.line = []) (no : Int) : D.find no = D.laid.getD no.toNat [] := by unfold DiskM.find; rw [h]; rfl
def unlike (x y : List (Int × List UInt8)) : Prop := ∀ u ∈ x, ∀ v ∈ y, u.1 ≠ v.1
theorem order_law (rd fs : List Int) {D0 : DiskM} {j n : Nat} {x y : List (Int × List UInt8)} (hq : Quiet D0 n) (hline : D0.line = []) (hx : rcheckM x ((n : Int) - 1 - j) ((j : Int) / 2) = 0) (hy : rcheckM y ((n : Int) - 1 - j) ((j : Int) / 2) = 0) (hu : unlike x y)
    {A B C E : Int × DiskM × Int} (hA : A = commitM rd fs D0 j 0 x) (hB : B = commitM rd fs A.2.1 j A.2.2 y) (hC : C = commitM rd fs D0 j 0 y) (hE : E = commitM rd fs C.2.1 j C.2.2 x) :
    Done A D0 j n 0 x ∧ Done B A.2.1 j n A.2.2 y ∧ Done C D0 j n 0 y ∧ Done E C.2.1 j n C.2.2 x ∧ dataM B.2.1 j = dataM E.2.1 j := by
  have h0 : (0 : Int) < last := by unfold last; omega
  have dA : Done A D0 j n 0 x := hA ▸ commit_good rd fs hq hline hx h0
  have dC : Done C D0 j n 0 y := hC ▸ commit_good rd fs hq hline hy h0
  have dB : Done B A.2.1 j n A.2.2 y := hB ▸ commit_good rd fs dA.q dA.line hy (by have := dA.hi; unfold last; omega)
  have dE : Done E C.2.1 j n C.2.2 x := hE ▸ commit_good rd fs dC.q dC.line hx (by have := dC.hi; unfold last; omega)
  refine ⟨dA, dB, dC, dE, ?_⟩
  unfold dataM
  rw [dB.q.len, dE.q.len]
  rw [List.flatMap_def, List.flatMap_def]
  congr 1
  apply List.map_congr_left
  intro k hk
  have hk' := List.mem_range.1 hk
  rw [find_quiet dB.line, find_quiet dE.line, show ((1 : Int) + j + (k : Nat)).toNat = 1 + j + k by omega, dB.at_ k (by omega), dE.at_ k (by omega), dA.at_ k (by omega), dC.at_ k (by omega)]
  cases h1 : lastOf x (k : Nat) with
  | none => simp
  | some s =>
    cases h2 : lastOf y (k : Nat) with
    | none => simp
    | some t => exact absurd rfl (hu ((k : Nat), s) (lastOf_some h1) ((k : Nat), t) (lastOf_some h2))
theorem lastOf_only {l : List (Int × List UInt8)} (h : twiceTo l l.length = false) {v : Int × List UInt8} (hv : v ∈ l) : lastOf l v.1 = some v.2 := by
  obtain ⟨i, hi, rfl⟩ := List.mem_iff_getElem.1 hv
  cases h1 : lastOf l l[i].1 with
  | none =>
    unfold lastOf at h1
    rw [Option.map_eq_none_iff, List.find?_eq_none] at h1
    have := h1 l[i] (List.mem_reverse.2 (List.getElem_mem _))
    simp at this
  | some s =>
    obtain ⟨k, hk, hk'⟩ := List.mem_iff_getElem.1 (lastOf_some h1)
    have hg : ∀ {a : Nat} (ha : a < l.length), l.getD a (0, []) = l[a] := fun ha => by simp [List.getD_eq_getElem?_getD, ha]
    rcases Nat.lt_trichotomy k i with hlt | rfl | hlt
    · have := twice_of (d := l) hi hlt (by rw [hg hk, hg hi, hk']) l.length hi
      rw [this] at h; cases h
    · rw [hk']
    · have := twice_of (d := l) hk hlt (by rw [hg hk, hg hi, hk']) l.length hk
      rw [this] at h; cases h
theorem read_law {E : Int × DiskM × Int} {D : DiskM} {j n : Nat} {done : Int} {x : List (Int × List UInt8)} (dE : Done E D j n done x) (hx : rcheckM x ((n : Int) - 1 - j) ((j : Int) / 2) = 0) {v : Int × List UInt8} (hv : v ∈ x) : wreadM E.2.1 j v.1 = (0, v.2) := by
  obtain ⟨hc, hh, _⟩ := rcheck_ok hx
  have h1 := check_good hc v hv
  have h2 := of_decide_eq_true (List.all_eq_true.1 hh v hv)
  obtain ⟨m, hm⟩ : ∃ m : Nat, v.1 = m := ⟨v.1.toNat, by omega⟩
  have htw : twiceTo x x.length = false := by
    unfold rcheckM at hx
    by_cases h3 : twiceTo x x.length = true
    · rw [if_pos h3] at hx; split at hx <;> cases hx
    · simpa using h3
  unfold wreadM DiskM.read
  rw [if_neg (by simp [dE.q.off]), dE.q.len, if_neg (by omega), if_neg (by simp [dE.q.off]), if_neg (by simp [inDisk, dE.q.len]; omega), find_quiet dE.line, hm, show ((1 : Int) + j + (m : Nat)).toNat = 1 + j + m by omega, dE.at_ m (by omega), ← hm, lastOf_only htw hv]
  rfl
end Cr
namespace Cr
open Go Go.Proofs
set_option maxRecDepth 100000
set_option maxHeartbeats 8000000
attribute [local irreducible] Calls

def dataTo (D : DiskM) (j i : Nat) : List UInt8 := (List.range i).flatMap fun k => D.find (1 + (j : Int) + ((k : Nat) : Int))
theorem find_len {D : DiskM} (h : D.ok) {no : Int} (hn : inDisk D no = true) : (D.find no).length = 64 := by
  unfold DiskM.find
  split
  · rename_i x hx
    exact (h.line64 x (List.mem_reverse.1 (List.mem_of_find?_eq_some hx))).1
  · have h2 := of_decide_eq_true hn
    rw [List.getD_eq_getElem?_getD, List.getElem?_eq_getElem (show no.toNat < D.laid.length by omega)]
    exact h.laid64 _ (List.getElem_mem _)
theorem dataTo_le {D : DiskM} (h : D.ok) {j : Nat} : ∀ i, 1 + j + i ≤ D.laid.length → (dataTo D j i).length = 64 * i
  | 0, _ => rfl
  | i + 1, hi => by
    have ih := dataTo_le h (j := j) i (by omega)
    unfold dataTo at ih ⊢
    rw [List.range_succ, List.flatMap_append, List.length_append, ih]
    simp only [List.flatMap_cons, List.flatMap_nil, List.append_nil]
    rw [find_len h (by simp [inDisk]; omega)]; omega
theorem dataTo_succ (D : DiskM) (j i : Nat) : dataTo D j (i + 1) = dataTo D j i ++ D.find (1 + j + i) := by simp [dataTo, List.range_succ]
theorem data_ (lp p : Nat) (o s m : Int) (j : Nat) (done : Int) (rdn : Bool) (D : DiskM) (W : World) (hL : Rd W (logAt lp p o s m j done rdn)) (hD : Rd W (disk p D)) (hoff : D.off = false) (hj : j ≤ 4096) (hjl : 1 + j ≤ D.laid.length) (hline : D.line.length < 1073741824) :
    Calls Tryd.prog 13 #[.pointer (some ⟨lp, 0, none⟩)] W (Ret fun v w => ∃ a c, v = .slice a (dataM D j).length c ∧ St W noF [bytes a (dataM D j)] w) := by
  have hS := St.start W
  have hok := hD.disk.1
  have hmost := hok.most
  have hLo := hL.ro
  have hDo := hD.ro
  obtain ⟨n, hn⟩ : ∃ n : Nat, n = D.laid.length - 1 - j := ⟨_, rfl⟩
  have hse : (D.laid.length : Int) - 1 - j = (n : Nat) := by omega
  have hdm : dataM D j = dataTo D j n := by unfold dataM dataTo; rw [hn]
  rw [hdm]
  refine calls_C Tryd.func13 rfl Tryd.ntmps13 rfl ?_
  repeat (first | (refine G_id ?_; first | refine G_nil ?_ | refine G_plain rfl rfl ?_) | (refine X_id ?_; first | refine X_yl (Yl_assign rfl rfl) rfl rfl ?_) | (refine C_id ?_; first | refine C_seq ?_ | refine C_region ?_ | refine C_block ?_) | (refine E_id ?_; first | refine E_code ?_))
  refine C_loop (α := Nat × Option Addr × Nat) (fun z => [(0, .pointer (some ⟨lp, 0, none⟩)), (3, .slice z.2.1 (dataTo D j z.1).length z.2.2), (4, .int .i64 (z.1 : Nat))])
    (fun z w => z.1 ≤ n ∧ (dataTo D j z.1).length ≤ z.2.2 ∧ St W noF [own 5 1 z.2.1 z.2.2 (bv (dataTo D j z.1))] w) (fun z => n - z.1) (0, none, 0) ⟨rfl, rfl, rfl, trivial⟩ ⟨Nat.zero_le _, Nat.le_refl _, hS.own_none _ _ _⟩ ?_
  clear hS
  rintro ⟨i, a, c⟩ w ⟨hi, hc, hS⟩
  simp only at hi hc hS ⊢
  have hsec := fun w (hS : Rd w (logAt lp p o s m j done rdn)) (hD : Rd w (disk p D)) => wsectors_ lp p o s m j done rdn D w hS hD hj
  simp only [hse] at hsec
  have hdl := dataTo_le hok (j := j) i (by omega)
  by_cases hlt : i < n
  · have hrd : wreadM D j (i : Nat) = (0, D.find (1 + j + i)) := by
      unfold wreadM DiskM.read
      rw [if_neg (by simp [hoff]), if_neg (by omega), if_neg (by simp [hoff]), if_neg (by simp [inDisk]; omega)]
    have hfl := find_len hok (no := 1 + j + i) (by simp [inDisk]; omega)
    repeat (first | (refine G_id ?_; first | refine G_nil ?_ | refine G_plain rfl rfl ?_) | (refine X_id ?_; first | (refine X_callq 14 rfl rfl rfl rfl rfl hS (hsec _ (hLo.rd hS) (hDo.rd hS)) ?_; rintro _ _ rfl hS) | refine X_yl (Yl_move rfl rfl) rfl rfl ?_ | refine X_yl (Yl_lss_t rfl rfl rfl (by omega)) rfl rfl ?_) | (refine C_id ?_; first | refine C_seq ?_ | refine C_region ?_ | refine C_block ?_ | refine C_skip ?_ | refine C_cond_t rfl ?_) | (refine E_id ?_; first | refine E_code ?_))
    refine X_callg _ rfl rfl rfl rfl rfl (wread_ lp p o s m j done rdn D (i : Nat) _ (hLo.rd hS) (hDo.rd hS) hj hline) ?_
    rw [hrd]
    rintro _ w ⟨ra, rc, rfl, _, hS'⟩
    replace hS := hS.plus hS'
    clear hS'
    simp only at hS ⊢
    repeat (first | (refine G_id ?_; first | refine G_nil ?_ | refine G_plain rfl rfl ?_) | (refine X_id ?_; first | refine X_yl (Yl_move rfl rfl) rfl rfl ?_ | refine X_yl (Yl_assign rfl rfl) rfl rfl ?_ | refine X_yl (Yl_extract rfl rfl) rfl rfl ?_ | refine X_yl (Yl_neq_f rfl rfl rfl (by omega)) rfl rfl ?_) | (refine C_id ?_; first | refine C_seq ?_ | refine C_region ?_ | refine C_skip ?_ | refine C_cond_f rfl ?_) | (refine E_id ?_; first | refine E_code ?_))
    refine X_append rfl rfl rfl rfl rfl hS (by simp) hc (hS.rd (List.mem_cons_self ..)) (by simp) bv_one (by omega) (by simp only [maxLen]; omega) (fun a' c' w hS hc' _ => ?_)
    repeat (first | (refine G_id ?_; first | refine G_nil ?_ | refine G_plain rfl rfl ?_) | (refine X_id ?_; first | refine X_yl (Yl_move rfl rfl) rfl rfl ?_ | refine X_yl (Yl_assign rfl rfl) rfl rfl ?_ | refine X_yl (Yl_add rfl rfl rfl (w64 (by omega) (by omega))) rfl rfl ?_) | (refine C_id ?_; first | refine C_region ?_) | (refine E_id ?_; first | refine E_code ?_ | refine E_blk_n ?_))
    refine E_round (z := (i, a, c)) (i + 1, a', c') ⟨rfl, ?_, rfl, trivial⟩ ⟨by simp only; omega, by simp only; rw [dataTo_succ]; simpa using hc', ?_⟩ (by simp only; omega)
    · show some _ = some _
      rw [dataTo_succ]; simp
    · simp only
      rw [dataTo_succ, bv_append]
      exact hS.pick [0]
  · obtain rfl : i = n := by omega
    repeat (first | (refine G_id ?_; first | refine G_nil ?_ | refine G_plain rfl rfl ?_) | (refine X_id ?_; first | (refine X_callq 14 rfl rfl rfl rfl rfl hS (hsec _ (hLo.rd hS) (hDo.rd hS)) ?_; rintro _ _ rfl hS) | refine X_yl (Yl_move rfl rfl) rfl rfl ?_ | refine X_yl (Yl_assign rfl rfl) rfl rfl ?_ | refine X_yl (Yl_lss_f rfl rfl rfl (by omega)) rfl rfl ?_) | (refine C_id ?_; first | refine C_seq ?_ | refine C_region ?_ | refine C_ret ?_ | refine C_exit ?_ | refine C_cond_f rfl ?_) | (refine E_id ?_; first | refine E_code ?_ | refine E_then_exit ?_ | refine E_blk_same ?_ | refine E_ret1 rfl (Rv_tmp rfl) (Ret.mk ?_)))
    exact ⟨a, c, rfl, hS.head fun _ h => h.row⟩
end Cr
