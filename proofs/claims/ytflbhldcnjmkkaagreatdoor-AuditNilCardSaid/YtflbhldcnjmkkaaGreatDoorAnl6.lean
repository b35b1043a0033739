/-
  Package codec: a reader reads a list, given that it reads values.
  Package codec: a reader reads a value: the parse in plain words (pv) is what it does.
  Package codec: Next and Decode: what bytes say (dec).
  Arrays of strings, structs of strings and numbers, errors that may be nil: compared. Over any program.
  audit.Check: what is wrong with a record (rchk); strings.Fields and slices.Contains off the shelf.
  A segment of a row that can be read. Over any program.
  Package codec: values made: Text, Int, Of; a leaf copied.
  The builtin min. Over any program.
  How long a leaf's bytes are.
  Layer 27: the laws' helpers cut and To; how long a record's bytes are.
  Package codec: what is wrong with a value: nothing, at leaves and lists of leaves.
-/
import Derived.Test.YtflbhldcnjmkkaaGreatDoorAnl5
import Derived.Test.YtflbhldcnjmkkaaGreatDoorAnl4
import Derived.Laws.StructEq
import Derived.Test.YtflbhldcnjmkkaaGreatDoorAnl2
namespace Cr
open Go Go.Proofs
set_option maxRecDepth 100000
set_option maxHeartbeats 4000000
attribute [local irreducible] Calls

theorem row_pts {b : Nat} {l : List Value} {T : TypeId} : ∀ h, pts b (.cells l.toArray T (0, 0)) h → row (some ⟨b, 0, none⟩) l h := fun _ hg => .inr ⟨b, 0, l.toArray, T, (0, 0), rfl, hg, fun j v hv => by simpa using hv⟩
/-- What value tells. -/
def VRes (p : Nat) (a : Option Addr) (s : List UInt8) (c : Nat) (W : World) (F : Nat → Prop) (r : Option (Top × List UInt8)) (v : Value) (w : World) : Prop :=
  match r with
  | some (t, l) => ∃ cs, v = .agg (List.toArray cs) ∧ ∃ i, i ≤ s.length ∧ s.drop i = l ∧ St W F [topR t cs, Rdr p a s.length c i 0] w
  | none => ∃ k n a1 n1 c1 a2 n2 c2, v = .agg (List.toArray [.int .i64 k, .int .i64 n, .slice a1 n1 c1, .slice a2 n2 c2]) ∧ ∃ i e, i ≤ s.length ∧ e ≠ 0 ∧ St W F [Rdr p a s.length c i e] w
/-- What list tells. -/
def LRes (p : Nat) (a : Option Addr) (s : List UInt8) (c : Nat) (W : World) (F : Nat → Prop) (r : Option (List Leaf × List UInt8)) (v : Value) (w : World) : Prop :=
  match r with
  | some (x, l) => ∃ b q, v = .slice b x.length q ∧ ∃ i, i ≤ s.length ∧ s.drop i = l ∧ St W F [listR b x, Rdr p a s.length c i 0] w
  | none => ∃ b m q, v = .slice b m q ∧ ∃ i e, i ≤ s.length ∧ e ≠ 0 ∧ St W F [Rdr p a s.length c i e] w
def ValueOk (p : Nat) (a : Option Addr) (s : List UInt8) (c : Nat) (f : Nat) : Prop :=
  ∀ (i deep : Nat) (W : World) (F : Nat → Prop), i ≤ s.length → deep ≤ 9 → 2 * (s.length - i) + 1 ≤ f → Lg W F → Ro W F (bytes a s) → St W F [Rdr p a s.length c i 0] W →
    Calls Tryz.prog 231 #[.pointer (some ⟨p, 0, none⟩), .int .i64 (deep : Nat)] W (Ret fun v w => VRes p a s c W F (pv f deep (s.drop i)) v w)
def ListOk (p : Nat) (a : Option Addr) (s : List UInt8) (c : Nat) (f : Nat) : Prop :=
  ∀ (i deep : Nat) (W : World) (F : Nat → Prop), s[i]? = some 40 → deep ≤ 9 → 2 * (s.length - (i + 1)) + 2 ≤ f → Lg W F → Ro W F (bytes a s) → St W F [Rdr p a s.length c i 0] W →
    Calls Tryz.prog 277 #[.pointer (some ⟨p, 0, none⟩), .int .i64 (deep : Nat)] W (Ret fun v w => LRes p a s c W F (if 8 < deep then none else pl f deep (s.drop (i + 1))) v w)

theorem pv_nil (f deep : Nat) : pv f deep [] = none := by cases f <;> simp [pv]
theorem pl_step (f deep : Nat) (l : List UInt8) (h : l.head? ≠ some 41) : pl (f + 1) deep l = match pv f (deep + 1) l with
    | none => none
    | some (t, r') => match pl f deep r' with
      | none => none
      | some (x, r'') => some (t.shut :: x, r'') := by
  cases l with
  | nil => rw [pv_nil]; simp [pl]
  | cons c l =>
    rw [pl, if_neg (fun e => h (by rw [e]; rfl))]
    cases pv f (deep + 1) (c :: l) with
    | none => rfl
    | some q =>
      obtain ⟨t, r'⟩ := q
      simp only
      cases pl f deep r' with
      | none => rfl
      | some q => rfl
/-- Where a list's loop stands: z: what is left to do, and the slice. -/
def LInv (top p : Nat) (a : Option Addr) (s : List UInt8) (c : Nat) (deep : Nat) (res : Option (List Leaf × List UInt8)) (W : World) (F : Nat → Prop) (z : Nat × Option Addr × Nat × Nat) (w : World) : Prop :=
  (∃ f i x rows, z.1 = f + 1 ∧ deep ≤ 8 ∧ f ≤ top ∧ z.2.2.1 = x.length ∧ x.length ≤ z.2.2.2 ∧ i ≤ s.length ∧ x.length ≤ i ∧ 2 * (s.length - i) + 2 ≤ f ∧ res = (pl f deep (s.drop i)).map (fun q => (x ++ q.1, q.2)) ∧ rows.flatten.length = x.length * 4 ∧
    St W F [own 149 4 z.2.1 z.2.2.2 rows.flatten, leavesR x rows, Rdr p a s.length c i 0] w) ∨
  (res = none ∧ ∃ i e, i ≤ s.length ∧ e ≠ 0 ∧ St W F [Rdr p a s.length c i e] w)
def LFin (p : Nat) (a : Option Addr) (s : List UInt8) (c : Nat) (res : Option (List Leaf × List UInt8)) (W : World) (F : Nat → Prop) (z : Option Addr × Nat × Nat) (w : World) : Prop :=
  (∃ i x rows, z.2.1 = x.length ∧ s[i]? = some 41 ∧ res = some (x, s.drop (i + 1)) ∧
    St W F [own 149 4 z.1 z.2.2 rows.flatten, leavesR x rows, Rdr p a s.length c i 0] w) ∨
  (res = none ∧ ∃ i e, i ≤ s.length ∧ e ≠ 0 ∧ St W F [Rdr p a s.length c i e] w)
theorem list_of (p : Nat) (a : Option Addr) (s : List UInt8) (c : Nat) (hl : s.length ≤ 1099511627776) (f : Nat) (hv : ∀ g, g < f → ValueOk p a s c g) : ListOk p a s c f := by
  intro i deep W F hi hd hf hG hb hS
  have hil := (List.getElem?_eq_some_iff.1 hi).1
  obtain ⟨res, hres⟩ : ∃ res, res = (if 8 < deep then none else pl f deep (s.drop (i + 1))) := ⟨_, rfl⟩
  rw [← hres]
  refine calls_C Tryz.func277 rfl Tryz.ntmps277 rfl ?_
  repeat (first | (refine G_id ?_; first | refine G_nil ?_ | refine G_plain rfl rfl ?_) | (refine X_id ?_; first | refine X_yl (Yl_move rfl rfl) rfl rfl ?_ | refine X_yl (Yl_assign rfl rfl) rfl rfl ?_) | (refine C_id ?_; first | refine C_seq ?_ | refine C_region ?_) | (refine E_id ?_; first | refine E_code ?_))
  obtain ⟨_, hc, hr, hw, hbk⟩ := hS.call [true]
  refine X_callg _ rfl rfl rfl rfl rfl (take_ p a s c i 0 40 _ _ hc (hw _ hb) hl) ?_
  rintro _ w ⟨rfl, hS⟩
  replace hS := hbk hS
  clear hc hr hw hbk
  rw [show takeP s i 0 40 = (i + 1, 0) by unfold takeP; rw [if_neg (by simp), if_neg (by simpa using hil), if_pos hi]] at hS
  simp only at hS
  by_cases h8 : 8 < deep
  case' pos =>
    rw [if_pos h8] at hres
    repeat (first | (refine G_id ?_; first | refine G_nil ?_ | refine G_plain rfl rfl ?_) | (refine X_id ?_; first | refine X_yl (Yl_move rfl rfl) rfl rfl ?_ | refine X_yl (Yl_gtr_t rfl rfl rfl (by omega)) rfl rfl ?_) | (refine C_id ?_; first | refine C_seq ?_ | refine C_region ?_ | refine C_cond_t rfl ?_) | (refine E_id ?_; first | refine E_code ?_))
    obtain ⟨_, hc, hr, hw, hbk⟩ := hS.call [true]
    refine X_callg _ rfl rfl rfl rfl rfl (wrong_ p a s.length c (i + 1) 0 18 _ _ hc) ?_
    rintro _ w ⟨rfl, hS⟩
    replace hS := hbk hS
    clear hc hr hw hbk
    repeat (first | (refine G_id ?_; first | refine G_nil ?_ | refine G_plain rfl rfl ?_) | (refine X_id ?_; first | refine X_yl (Yl_assign rfl rfl) rfl rfl ?_) | (refine C_id ?_; first | refine C_seq ?_ | refine C_region ?_ | refine C_block ?_) | (refine E_id ?_; first | refine E_code ?_))
    have hI : ∃ z0, LInv f p a s c deep res W F (z0, none, 0, 0) _ := ⟨0, .inr ⟨hres, _, 18, hil, by decide, hS⟩⟩
  case' neg =>
    rw [if_neg h8] at hres
    repeat (first | (refine G_id ?_; first | refine G_nil ?_ | refine G_plain rfl rfl ?_) | (refine X_id ?_; first | refine X_yl (Yl_move rfl rfl) rfl rfl ?_ | refine X_yl (Yl_assign rfl rfl) rfl rfl ?_ | refine X_yl (Yl_gtr_f rfl rfl rfl (by omega)) rfl rfl ?_) | (refine C_id ?_; first | refine C_seq ?_ | refine C_region ?_ | refine C_block ?_ | refine C_skip ?_ | refine C_cond_f rfl ?_) | (refine E_id ?_; first | refine E_code ?_))
    have hI : ∃ z0, LInv f p a s c deep res W F (z0, none, 0, 0) _ := ⟨f + 1, .inl ⟨f, i + 1, [], [], rfl, by omega, Nat.le_refl _, rfl, Nat.le_refl _, hil, Nat.zero_le _, hf, by rw [hres]; cases pl f deep (s.drop (i + 1)) <;> simp, rfl, (hS.leaves_nil).own_none _ _ _⟩⟩
  all_goals
    obtain ⟨z0, hI⟩ := hI
    clear hS hres
    refine C_joinB (α := Option Addr × Nat × Nat) (fun z => [(0, .pointer (some ⟨p, 0, none⟩)), (5, .slice z.1 z.2.1 z.2.2)]) (LFin p a s c res W F) ?_ ?_
    · refine C_loop (α := Nat × Option Addr × Nat × Nat) (fun z => [(0, .pointer (some ⟨p, 0, none⟩)), (1, .int .i64 (deep : Nat)), (5, .slice z.2.1 z.2.2.1 z.2.2.2)]) (LInv f p a s c deep res W F) (fun z => z.1) (z0, none, 0, 0) ⟨rfl, rfl, rfl, trivial⟩ hI ?_
      clear hI
      rintro ⟨m, b, n, q⟩ w (⟨g, j, x, rows, hm, hd8, hgf, hn, hnq, hj, hxj, hg, hr, hrl, hS⟩ | ⟨hr, j, e, hj, he, hS⟩)
      · simp only at hm hn hnq hS
        subst hm hn
        have hq41 := is_ p a s c j 0 41
        obtain ⟨g', rfl⟩ : ∃ g', g = g' + 1 := ⟨g - 1, by omega⟩
        by_cases h41 : s[j]? = some 41
        · simp only [decide_eq_true h41] at hq41
          repeat (first | (refine G_id ?_; first | refine G_nil ?_ | refine G_plain rfl rfl ?_ | refine G_yes rfl rfl rfl rfl ?_) | (refine X_id ?_; first | (refine X_callq 276 rfl rfl rfl rfl rfl hS (hq41 _ (hS.rd (List.mem_cons_of_mem _ (List.mem_cons_of_mem _ (List.mem_cons_self ..)))) (hb.rd hS)) ?_; rintro _ _ rfl hS) | refine X_yl (Yl_move rfl rfl) rfl rfl ?_ | refine X_yl (Yl_nilCheck rfl rfl) rfl rfl ?_ | refine X_yl (Yl_fieldAddr0 rfl rfl rfl) rfl rfl ?_ | refine X_yl (Yl_pick_t rfl rfl rfl) rfl rfl ?_ | refine X_yl (Yl_not_t rfl rfl) rfl rfl ?_ | refine X_yl (Yl_eql_t rfl rfl rfl (by omega)) rfl rfl ?_ | refine X_yl (Yl_load rfl rfl hS.cell) rfl rfl ?_) | (refine C_id ?_; first | refine C_seq ?_ | refine C_region ?_ | refine C_exit ?_ | refine C_cond_f rfl ?_) | (refine E_id ?_; first | refine E_code ?_ | refine E_then_exit ?_ | refine E_blk_same ?_))
          refine E_mid (b, x.length, q) ⟨rfl, rfl, trivial⟩ (.inl ⟨j, x, rows, rfl, h41, ?_, hS⟩)
          obtain ⟨hjl, hje⟩ := List.getElem?_eq_some_iff.1 h41
          rw [hr, List.drop_eq_getElem_cons hjl, hje, pl, if_pos rfl]
          simp
        · simp only [decide_eq_false h41] at hq41
          rw [pl_step g' deep _ (by rw [List.head?_drop]; exact h41)] at hr
          repeat (first | (refine G_id ?_; first | refine G_nil ?_ | refine G_plain rfl rfl ?_ | refine G_yes rfl rfl rfl rfl ?_) | (refine X_id ?_; first | (refine X_callq 276 rfl rfl rfl rfl rfl hS (hq41 _ (hS.rd (List.mem_cons_of_mem _ (List.mem_cons_of_mem _ (List.mem_cons_self ..)))) (hb.rd hS)) ?_; rintro _ _ rfl hS) | refine X_yl (Yl_move rfl rfl) rfl rfl ?_ | refine X_yl (Yl_nilCheck rfl rfl) rfl rfl ?_ | refine X_yl (Yl_fieldAddr0 rfl rfl rfl) rfl rfl ?_ | refine X_yl (Yl_pick_t rfl rfl rfl) rfl rfl ?_ | refine X_yl (Yl_not_f rfl rfl) rfl rfl ?_ | refine X_yl (Yl_eql_t rfl rfl rfl (by omega)) rfl rfl ?_ | refine X_yl (Yl_add rfl rfl rfl (w64 (by omega) (by omega))) rfl rfl ?_ | refine X_yl (Yl_load rfl rfl hS.cell) rfl rfl ?_) | (refine C_id ?_; first | refine C_seq ?_ | refine C_region ?_ | refine C_block ?_ | refine C_skip ?_ | refine C_cond_t rfl ?_) | (refine E_id ?_; first | refine E_code ?_))
          obtain ⟨_, hc, _, hw, hbk⟩ := hS.call [false, false, true]
          refine X_callg _ rfl rfl rfl rfl rfl (hv g' (by omega) j (deep + 1) _ _ hj (by omega) (by omega) (hG.mono hw) (hw _ hb) hc) ?_
          rintro v w hV
          cases hp : pv g' (deep + 1) (s.drop j) with
          | none =>
            rw [hp] at hV hr
            obtain ⟨k1, k2, a1, n1, c1, a2, n2, c2, rfl, j', e', hj', he', hS⟩ := hV
            replace hS := hbk hS
            clear hbk hw hc
            simp only at hr
            repeat (first | (refine G_id ?_; first | refine G_plain rfl rfl ?_) | (refine X_id ?_; first | refine X_buildSlice rfl rfl rfl rfl rfl rfl rfl rfl hS (fun _ _ hS _ => ?_)))
            have hnw := (hS.rd (List.mem_cons_self ..)).own_row
            refine X_append rfl rfl rfl rfl rfl hS hrl hnq hnw rfl (by simp [Value.oneCell']) (by dsimp only; omega) (by simp only [maxLen]; omega) (fun b' q' w hS hq' _ => ?_)
            repeat (first | (refine G_id ?_; first | refine G_nil ?_ | refine G_plain rfl rfl ?_) | (refine X_id ?_; first | refine X_yl (Yl_assign rfl rfl) rfl rfl ?_) | (refine E_id ?_; first | refine E_blk_n ?_))
            exact E_round (z := (g' + 1 + 1, b, x.length, q)) (0, b', x.length + 1, q') ⟨rfl, rfl, rfl, trivial⟩ (.inr ⟨by rw [hr]; rfl, j', e', hj', he', hS.took⟩) (by simp)
          | some u =>
            obtain ⟨t, l⟩ := u
            rw [hp] at hV hr
            obtain ⟨cs, rfl, j', hj', hdl, hS⟩ := hV
            replace hS := hbk hS
            clear hbk hw hc
            obtain ⟨k1, k2, a1, n1, c1, a2, n2, c2, rfl⟩ := hS.top_cells
            replace hS := hS.shut
            have hlen := (p_len g').1 _ _ _ _ hp
            rw [← hdl] at hlen hr
            simp only [List.length_drop] at hlen
            simp only at hr
            repeat (first | (refine G_id ?_; first | refine G_plain rfl rfl ?_) | (refine X_id ?_; first | refine X_buildSlice rfl rfl rfl rfl rfl rfl rfl rfl hS (fun _ _ hS _ => ?_)))
            have hnw := (hS.rd (List.mem_cons_self ..)).own_row
            refine X_append rfl rfl rfl rfl rfl hS hrl hnq hnw rfl (by simp [Value.oneCell']) (by dsimp only; omega) (by simp only [maxLen]; omega) (fun b' q' w hS hq' _ => ?_)
            repeat (first | (refine G_id ?_; first | refine G_nil ?_ | refine G_plain rfl rfl ?_) | (refine X_id ?_; first | refine X_yl (Yl_assign rfl rfl) rfl rfl ?_) | (refine E_id ?_; first | refine E_blk_n ?_))
            have hS : St W F [leavesR x rows, leafR t.shut [.int .i64 k1, .int .i64 k2, .slice a1 n1 c1, .slice a2 n2 c2], own 149 4 b' q' (rows.flatten ++ [.int .i64 k1, .int .i64 k2, .slice a1 n1 c1, .slice a2 n2 c2]), Rdr p a s.length c j' 0] w := hS.took
            replace hS := hS.leaves_snoc
            refine E_round (z := (g' + 1 + 1, b, x.length, q)) (g' + 1, b', x.length + 1, q') ⟨rfl, rfl, rfl, trivial⟩ (.inl ⟨g', j', x ++ [t.shut], rows ++ [[.int .i64 k1, .int .i64 k2, .slice a1 n1 c1, .slice a2 n2 c2]], rfl, hd8, by omega, by simp, by simpa using hq', hj', by simp; omega, by omega, ?_, by simp [hrl]; omega, ?_⟩) (by simp)
            · rw [hr]
              cases pl g' deep (s.drop j') with
              | none => rfl
              | some q => simp
            · rw [List.flatten_append]
              simpa using hS.took
      · repeat (first | (refine G_id ?_; first | refine G_nil ?_ | refine G_plain rfl rfl ?_ | refine G_no rfl rfl rfl rfl rfl rfl ?_) | (refine X_id ?_; first | refine X_yl (Yl_move rfl rfl) rfl rfl ?_ | refine X_yl (Yl_nilCheck rfl rfl) rfl rfl ?_ | refine X_yl (Yl_fieldAddr0 rfl rfl rfl) rfl rfl ?_ | refine X_yl (Yl_pick_f rfl rfl rfl) rfl rfl ?_ | refine X_yl (Yl_eql_f rfl rfl rfl (by omega)) rfl rfl ?_ | refine X_yl (Yl_load rfl rfl hS.cell) rfl rfl ?_) | (refine C_id ?_; first | refine C_seq ?_ | refine C_region ?_ | refine C_exit ?_ | refine C_cond_f rfl ?_) | (refine E_id ?_; first | refine E_code ?_ | refine E_then_exit ?_ | refine E_blk_same ?_))
        exact E_mid (b, n, q) ⟨rfl, rfl, trivial⟩ (.inr ⟨hr, j, e, hj, he, hS⟩)
    · clear hI
      rintro ⟨b, n, q⟩ w (⟨j, x, rows, hn, h41, hr, hS⟩ | ⟨hr, j, e, hj, he, hS⟩)
      · simp only at hn hS
        subst hn
        have hjl := (List.getElem?_eq_some_iff.1 h41).1
        repeat (first | (refine G_id ?_; first | refine G_plain rfl rfl ?_) | (refine X_id ?_; first | refine X_yl (Yl_move rfl rfl) rfl rfl ?_) | (refine C_id ?_; first | refine C_seq ?_ | refine C_region ?_))
        obtain ⟨_, hc, hr, hw, hbk⟩ := hS.call [false, false, true]
        refine X_callg _ rfl rfl rfl rfl rfl (take_ p a s c j 0 41 _ _ hc (hw _ hb) hl) ?_
        rintro _ w ⟨rfl, hS⟩
        replace hS := hbk hS
        clear hc hr hw hbk
        rw [show takeP s j 0 41 = (j + 1, 0) by unfold takeP; rw [if_neg (by simp), if_neg (by simpa using hjl), if_pos h41]] at hS
        simp only at hS
        repeat (first | (refine G_id ?_; first | refine G_nil ?_ | refine G_plain rfl rfl ?_) | (refine X_id ?_; first | refine X_yl (Yl_move rfl rfl) rfl rfl ?_ | refine X_yl (Yl_assign rfl rfl) rfl rfl ?_) | (refine C_id ?_; first | refine C_seq ?_ | refine C_region ?_ | refine C_ret ?_) | (refine E_id ?_; first | refine E_code ?_ | refine E_ret1 rfl (Rv_tmp rfl) (Ret.mk ?_)))
        rw [hr]
        refine ⟨b, q, rfl, j + 1, hjl, rfl, ?_⟩
        have hS : St W F [own 149 4 b q rows.flatten, leavesR x rows, Rdr p a s.length c (j + 1) 0] _ := hS.took
        exact (hS.head fun _ h => h.row).list_mk
      · repeat (first | (refine G_id ?_; first | refine G_plain rfl rfl ?_) | (refine X_id ?_; first | refine X_yl (Yl_move rfl rfl) rfl rfl ?_) | (refine C_id ?_; first | refine C_seq ?_ | refine C_region ?_))
        obtain ⟨_, hc, hr, hw, hbk⟩ := hS.call [true]
        refine X_callg _ rfl rfl rfl rfl rfl (take_bad p a s.length c j e 41 _ _ hc he) ?_
        rintro _ w ⟨rfl, hS⟩
        replace hS := hbk hS
        clear hc hr hw hbk
        repeat (first | (refine G_id ?_; first | refine G_nil ?_ | refine G_plain rfl rfl ?_) | (refine X_id ?_; first | refine X_yl (Yl_move rfl rfl) rfl rfl ?_ | refine X_yl (Yl_assign rfl rfl) rfl rfl ?_) | (refine C_id ?_; first | refine C_seq ?_ | refine C_region ?_ | refine C_ret ?_) | (refine E_id ?_; first | refine E_code ?_ | refine E_ret1 rfl (Rv_tmp rfl) (Ret.mk ?_)))
        rw [hr]
        exact ⟨b, n, q, rfl, j, e, hj, he, hS⟩
end Cr
namespace Cr
open Go Go.Proofs
set_option maxRecDepth 100000
set_option maxHeartbeats 4000000
attribute [local irreducible] Calls

theorem St.top_list {W : World} {F : Nat → Prop} {q : List Res} {w : World} {x : List Leaf} {b : Option Addr} {k : Nat} (hS : St W F (listR b x :: q) w) : St W F (topR (.list x) [.int .i64 2, .int .i64 0, z0, .slice b x.length k] :: q) w :=
  hS.head fun _ h => ⟨b, k, rfl, h⟩
theorem St.top_num {W : World} {F : Nat → Prop} {q : List Res} {w : World} (n : Int) (hS : St W F q w) : St W F (topR (.leaf (.num n)) [.int .i64 0, .int .i64 n, z0, z0] :: q) w :=
  hS.imp fun _ h => Sep.shut_head (ps := []) (fun _ hg => ⟨rfl, hg⟩) h
theorem St.top_txt {W : World} {F : Nat → Prop} {q : List Res} {w : World} {b : Option Addr} {t : List UInt8} {n k : Nat} (hn : n = t.length) (hS : St W F (own 5 1 b k (bv t) :: q) w) : St W F (topR (.leaf (.txt t)) [.int .i64 1, .int .i64 0, .slice b n k, z0] :: q) w :=
  hS.head fun _ h => ⟨b, k, by rw [hn], h.row⟩
theorem pv_list (f deep : Nat) (r : List UInt8) : pv (f + 1) deep (40 :: r) = (if 8 < deep then none else pl f deep r).map fun q => (.list q.1, q.2) := by
  rw [pv, if_pos rfl]
  split
  · rfl
  · cases pl f deep r <;> rfl
theorem pv_num (f deep : Nat) (r : List UInt8) : pv (f + 1) deep (105 :: r) = (num true 59 r).map fun q => (.leaf (.num q.1), q.2) := by
  rw [pv, if_neg (by decide), if_pos rfl]
  cases num true 59 r <;> rfl
theorem pv_txt (f deep : Nat) (c : UInt8) (r : List UInt8) (h1 : ¬ c = 40) (h2 : ¬ c = 105) : pv (f + 1) deep (c :: r) =
    (num false 58 (c :: r)).bind fun q => if q.1.toNat ≤ q.2.length then some (.leaf (.txt (q.2.take q.1.toNat)), q.2.drop q.1.toNat) else none := by
  rw [pv, if_neg h1, if_neg h2]
  cases num false 58 (c :: r) <;> rfl
theorem wrong0_ (p : Nat) (a : Option Addr) (n c : Nat) (i : Nat) (k : Int) (W : World) (F : Nat → Prop) (hS : St W F [Rdr p a n c i 0] W) :
    Calls Tryz.prog 275 #[.pointer (some ⟨p, 0, none⟩), .int .i64 k] W (Ret fun v w => v = .tuple #[] ∧ St W F [Rdr p a n c i k] w) := wrong_ p a n c i 0 k W F hS
theorem value_of (p : Nat) (a : Option Addr) (s : List UInt8) (c : Nat) (hsc : s.length ≤ c) (hl : s.length ≤ 1073741824) (f : Nat) (hL : ListOk p a s c f) : ValueOk p a s c (f + 1) := by
  intro i deep W F hi hd hf hG hb hS
  have hm := more_ p a s.length c i 0
  have q40 := is_ p a s c i 0 40
  have q105 := is_ p a s c i 0 105
  refine calls_C Tryz.func231 rfl Tryz.ntmps231 rfl ?_
  by_cases hlt : i < s.length
  · simp only [decide_eq_true hlt] at hm
    have hdr := List.drop_eq_getElem_cons hlt
    generalize hx0 : s[i] = x at hdr
    have hx : s[i]? = some x := by rw [List.getElem?_eq_getElem hlt, hx0]
    rw [hdr]
    by_cases h40 : x = 40
    · subst h40
      simp only [decide_eq_true hx] at q40
      have hLi := hL i deep
      rw [pv_list]
      generalize (if 8 < deep then none else pl f deep (s.drop (i + 1))) = res at hLi ⊢
      repeat (first | (refine G_id ?_; first | refine G_nil ?_ | refine G_plain rfl rfl ?_) | (refine X_id ?_; first | (refine X_callq 274 rfl rfl rfl rfl rfl hS (hm _ (hS.rd (List.mem_cons_of_mem _ (List.mem_cons_self ..)))) ?_; rintro _ _ rfl hS) | (refine X_callq 276 rfl rfl rfl rfl rfl hS (q40 _ (hS.rd (List.mem_cons_of_mem _ (List.mem_cons_self ..))) (hb.rd hS)) ?_; rintro _ _ rfl hS) | refine X_yl (Yl_move rfl rfl) rfl rfl ?_ | refine X_yl (Yl_assign rfl rfl) rfl rfl ?_ | refine X_yl (Yl_nilCheck rfl rfl) rfl rfl ?_ | refine X_yl (Yl_fieldAddr0 rfl rfl rfl) rfl rfl ?_ | refine X_yl (Yl_not_t rfl rfl) rfl rfl ?_ | refine X_alloc rfl rfl rfl hS (fun _ _ hS _ => ?_)) | (refine C_id ?_; first | refine C_seq ?_ | refine C_region ?_ | refine C_block ?_ | refine C_cond_t rfl ?_ | refine C_cond_f rfl ?_) | (refine E_id ?_; first | refine E_code ?_))
      obtain ⟨_, hc, _, hw, hbk⟩ := hS.call [false, true]
      refine X_callg _ rfl rfl rfl rfl rfl (hLi _ _ hx hd (by omega) (hG.mono hw) (hw _ hb) hc) ?_
      rintro v w hV
      cases res with
      | none =>
        obtain ⟨b, m, q, rfl, j, e, hj, he, hS⟩ := hV
        replace hS := hbk hS
        clear hbk hw hc
        repeat (first | (refine G_id ?_; first | refine G_nil ?_ | refine G_plain rfl rfl ?_) | (refine X_id ?_; first | refine X_yl (Yl_build rfl rfl rfl) rfl rfl ?_ | refine X_store rfl rfl rfl rfl hS (fun _ hS _ => ?_)) | (refine C_id ?_; first | refine C_ret ?_) | (refine E_id ?_; first | refine E_code ?_ | refine E_then_ret ?_ | refine E_blk_ret ?_ | refine E_ret1 rfl (by first | exact Rv_tmp rfl | exact Rv_cell rfl (run_load1 hS.cell) | exact Rv_cell rfl (run_loadN hS.cellsN)) (Ret.mk ?_)))
        exact ⟨_, _, _, _, _, _, _, _, rfl, j, e, hj, he, hS.took⟩
      | some u =>
        obtain ⟨x, t⟩ := u
        obtain ⟨b, q, rfl, j, hj, hdj, hS⟩ := hV
        replace hS := hbk hS
        clear hbk hw hc
        repeat (first | (refine G_id ?_; first | refine G_nil ?_ | refine G_plain rfl rfl ?_) | (refine X_id ?_; first | refine X_yl (Yl_build rfl rfl rfl) rfl rfl ?_ | refine X_store rfl rfl rfl rfl hS (fun _ hS _ => ?_)) | (refine C_id ?_; first | refine C_ret ?_) | (refine E_id ?_; first | refine E_code ?_ | refine E_then_ret ?_ | refine E_blk_ret ?_ | refine E_ret1 rfl (by first | exact Rv_tmp rfl | exact Rv_cell rfl (run_load1 hS.cell) | exact Rv_cell rfl (run_loadN hS.cellsN)) (Ret.mk ?_)))
        refine ⟨_, rfl, j, hj, hdj, ?_⟩
        have hS : St W F [listR b x, Rdr p a s.length c j 0] _ := hS.took
        exact hS.top_list
    · have h40' : ¬ s[i]? = some 40 := fun h => h40 (by rw [hx] at h; exact Option.some.inj h)
      simp only [decide_eq_false h40'] at q40
      by_cases h105 : x = 105
      · subst h105
        simp only [decide_eq_true hx] at q105
        rw [pv_num]
        have hN := number_ p a s c hsc (i + 1) true 59
        generalize num true 59 (s.drop (i + 1)) = res at hN ⊢
        repeat (first | (refine G_id ?_; first | refine G_nil ?_ | refine G_plain rfl rfl ?_) | (refine X_id ?_; first | (refine X_callq 274 rfl rfl rfl rfl rfl hS (hm _ (hS.rd (List.mem_cons_of_mem _ (List.mem_cons_self ..)))) ?_; rintro _ _ rfl hS) | (refine X_callq 276 rfl rfl rfl rfl rfl hS (q40 _ (hS.rd (List.mem_cons_of_mem _ (List.mem_cons_self ..))) (hb.rd hS)) ?_; rintro _ _ rfl hS) | (refine X_callq 276 rfl rfl rfl rfl rfl hS (q105 _ (hS.rd (List.mem_cons_of_mem _ (List.mem_cons_self ..))) (hb.rd hS)) ?_; rintro _ _ rfl hS) | refine X_yl (Yl_move rfl rfl) rfl rfl ?_ | refine X_yl (Yl_assign rfl rfl) rfl rfl ?_ | refine X_yl (Yl_nilCheck rfl rfl) rfl rfl ?_ | refine X_yl (Yl_fieldAddr0 rfl rfl rfl) rfl rfl ?_ | refine X_yl (Yl_not_t rfl rfl) rfl rfl ?_ | refine X_alloc rfl rfl rfl hS (fun _ _ hS _ => ?_)) | (refine C_id ?_; first | refine C_seq ?_ | refine C_region ?_ | refine C_block ?_ | refine C_cond_t rfl ?_ | refine C_cond_f rfl ?_) | (refine E_id ?_; first | refine E_code ?_))
        obtain ⟨_, hc, hr, hw, hbk⟩ := hS.call [false, true]
        refine X_callg _ rfl rfl rfl rfl rfl (take_ p a s c i 0 105 _ _ hc (hw _ hb) (by omega)) ?_
        rintro _ w ⟨rfl, hS⟩
        replace hS := hbk hS
        clear hc hr hw hbk
        rw [show takeP s i 0 105 = (i + 1, 0) by unfold takeP; rw [if_neg (by simp), if_neg (by simpa using hlt), if_pos hx]] at hS
        simp only at hS
        repeat (first | (refine G_id ?_; first | refine G_nil ?_ | refine G_plain rfl rfl ?_) | (refine X_id ?_; first | refine X_yl (Yl_move rfl rfl) rfl rfl ?_) | (refine C_id ?_; first | refine C_seq ?_ | refine C_region ?_) | (refine E_id ?_; first | refine E_code ?_))
        obtain ⟨_, hc, _, hw, hbk⟩ := hS.call [true, false]
        refine X_callg _ rfl rfl rfl rfl rfl (hN _ _ hc (hw _ hb) (by omega) (by omega) (hG.mono hw)) ?_
        rintro v w hV
        cases res with
        | none =>
          obtain ⟨rfl, j, e, hj, he, hS⟩ := hV
          replace hS := hbk hS
          clear hbk hw hc
          repeat (first | (refine G_id ?_; first | refine G_nil ?_ | refine G_plain rfl rfl ?_) | (refine X_id ?_; first | refine X_yl (Yl_build rfl rfl rfl) rfl rfl ?_ | refine X_store rfl rfl rfl rfl hS (fun _ hS _ => ?_)) | (refine C_id ?_; first | refine C_ret ?_) | (refine E_id ?_; first | refine E_code ?_ | refine E_then_ret ?_ | refine E_blk_ret ?_ | refine E_ret1 rfl (by first | exact Rv_tmp rfl | exact Rv_cell rfl (run_load1 hS.cell) | exact Rv_cell rfl (run_loadN hS.cellsN)) (Ret.mk ?_)))
          exact ⟨_, _, _, _, _, _, _, _, rfl, j, e, hj, he, hS.took⟩
        | some u =>
          obtain ⟨n, t⟩ := u
          obtain ⟨rfl, j, hj, hdj, hS⟩ := hV
          replace hS := hbk hS
          clear hbk hw hc
          repeat (first | (refine G_id ?_; first | refine G_nil ?_ | refine G_plain rfl rfl ?_) | (refine X_id ?_; first | refine X_yl (Yl_build rfl rfl rfl) rfl rfl ?_ | refine X_store rfl rfl rfl rfl hS (fun _ hS _ => ?_)) | (refine C_id ?_; first | refine C_ret ?_) | (refine E_id ?_; first | refine E_code ?_ | refine E_then_ret ?_ | refine E_blk_ret ?_ | refine E_ret1 rfl (by first | exact Rv_tmp rfl | exact Rv_cell rfl (run_load1 hS.cell) | exact Rv_cell rfl (run_loadN hS.cellsN)) (Ret.mk ?_)))
          refine ⟨_, rfl, j, hj, hdj, ?_⟩
          have hS : St W F [Rdr p a s.length c j 0] _ := hS.took
          exact hS.top_num n
      · have h105' : ¬ s[i]? = some 105 := fun h => h105 (by rw [hx] at h; exact Option.some.inj h)
        simp only [decide_eq_false h105'] at q105
        rw [pv_txt _ _ _ _ h40 h105, ← hdr]
        have hN := number_ p a s c hsc i false 58
        have hnn : ∀ n t, num false 58 (s.drop i) = some (n, t) → 0 ≤ n := fun n t h => num_nonneg h
        generalize num false 58 (s.drop i) = res at hN hnn ⊢
        repeat (first | (refine G_id ?_; first | refine G_nil ?_ | refine G_plain rfl rfl ?_) | (refine X_id ?_; first | (refine X_callq 274 rfl rfl rfl rfl rfl hS (hm _ (hS.rd (List.mem_cons_of_mem _ (List.mem_cons_self ..)))) ?_; rintro _ _ rfl hS) | (refine X_callq 276 rfl rfl rfl rfl rfl hS (q40 _ (hS.rd (List.mem_cons_of_mem _ (List.mem_cons_self ..))) (hb.rd hS)) ?_; rintro _ _ rfl hS) | (refine X_callq 276 rfl rfl rfl rfl rfl hS (q105 _ (hS.rd (List.mem_cons_of_mem _ (List.mem_cons_self ..))) (hb.rd hS)) ?_; rintro _ _ rfl hS) | refine X_yl (Yl_move rfl rfl) rfl rfl ?_ | refine X_yl (Yl_assign rfl rfl) rfl rfl ?_ | refine X_yl (Yl_nilCheck rfl rfl) rfl rfl ?_ | refine X_yl (Yl_fieldAddr0 rfl rfl rfl) rfl rfl ?_ | refine X_yl (Yl_not_t rfl rfl) rfl rfl ?_ | refine X_alloc rfl rfl rfl hS (fun _ _ hS _ => ?_)) | (refine C_id ?_; first | refine C_seq ?_ | refine C_region ?_ | refine C_block ?_ | refine C_cond_f rfl ?_) | (refine E_id ?_; first | refine E_code ?_))
        obtain ⟨_, hc, _, hw, hbk⟩ := hS.call [false, true]
        refine X_callg _ rfl rfl rfl rfl rfl (hN _ _ hc (hw _ hb) (by omega) (by omega) (hG.mono hw)) ?_
        rintro v w hV
        cases res with
        | none =>
          obtain ⟨rfl, j, e, hj, he, hS⟩ := hV
          replace hS := hbk hS
          clear hbk hw hc
          repeat (first | (refine G_id ?_; first | refine G_nil ?_ | refine G_plain rfl rfl ?_) | (refine X_id ?_; first | refine X_yl (Yl_assign rfl rfl) rfl rfl ?_) | (refine C_id ?_; first | refine C_seq ?_) | (refine E_id ?_; first | refine E_code ?_))
          refine C_ord (.s 0 (.s 1 (.s 2 (.s 3 (.s 4 (.s 5 (.s 6 (.s 7 (.s 8 (.s 9 (.s 10 (.s 11 (.s 12 (.s 13 (.s 14 (.s 15 (.s 16 (.s 17 (.s 18 (.s 19 (.s 20 .nil))))))))))))))))))))) mixed (by kernel_rfl) rfl ?_
          have hS := hS.drew
          repeat (first | (refine G_id ?_; first | refine G_nil ?_ | refine G_plain rfl rfl ?_) | (refine X_id ?_; first | refine X_yl (Yl_move rfl rfl) rfl rfl ?_ | refine X_yl (Yl_nilCheck rfl rfl) rfl rfl ?_ | refine X_yl (Yl_fieldAddr0 rfl rfl rfl) rfl rfl ?_ | refine X_yl (Yl_eql_f rfl rfl rfl (by omega)) rfl rfl ?_ | refine X_yl (Yl_build rfl rfl rfl) rfl rfl ?_ | refine X_yl (Yl_load rfl rfl hS.cell) rfl rfl ?_ | refine X_store rfl rfl rfl rfl hS (fun _ hS _ => ?_)) | (refine C_id ?_; first | refine C_seq ?_ | refine C_region ?_ | refine C_ret ?_ | refine C_skip ?_ | refine C_cond_f rfl ?_) | (refine E_id ?_; first | refine E_code ?_ | refine E_blk_n ?_ | refine E_ret1 rfl (by first | exact Rv_tmp rfl | exact Rv_cell rfl (run_load1 hS.cell) | exact Rv_cell rfl (run_loadN hS.cellsN)) (Ret.mk ?_)) | (refine GO_id ?_; first | refine GO_nil ?_ | refine GO_pure rfl rfl (fun _ => Yl_move rfl rfl) rfl rfl ?_ | refine GO_pure rfl rfl (fun _ => Yl_nilCheck rfl rfl) rfl rfl ?_ | refine GO_pure rfl rfl (fun _ => Yl_fieldAddr0 rfl rfl rfl) rfl rfl ?_ | refine GO_pure rfl rfl (fun _ => Yl_pick_f rfl rfl rfl) rfl rfl ?_ | refine GO_pure rfl rfl (fun _ => Yl_eql_f rfl rfl rfl (by omega)) rfl rfl ?_ | refine GO_read (fun w' => w'.cell? _ = some _) rfl rfl hS.cell (fun _ hc => Yl_load rfl rfl hc) rfl rfl ?_ | refine GO_no rfl rfl rfl rfl rfl rfl rfl ?_))
          exact ⟨_, _, _, _, _, _, _, _, rfl, j, e, hj, he, hS.took⟩
        | some u =>
          obtain ⟨n, t⟩ := u
          obtain ⟨rfl, j, hj, hdj, hS⟩ := hV
          replace hS := hbk hS
          clear hbk hw hc
          obtain ⟨m, rfl⟩ : ∃ m : Nat, n = m := ⟨n.toNat, by have := hnn n t rfl; omega⟩
          have htl : t.length = s.length - j := by rw [← hdj, List.length_drop]
          simp only [Option.bind_some, Int.toNat_natCast]
          by_cases hmt : m ≤ t.length
          · rw [if_pos hmt]
            repeat (first | (refine G_id ?_; first | refine G_nil ?_ | refine G_plain rfl rfl ?_) | (refine X_id ?_; first | refine X_yl (Yl_assign rfl rfl) rfl rfl ?_) | (refine C_id ?_; first | refine C_seq ?_) | (refine E_id ?_; first | refine E_code ?_))
            refine C_ord (.s 0 (.s 1 (.s 2 (.s 3 (.s 4 (.s 5 (.s 6 (.s 7 (.s 8 (.s 9 (.s 10 (.s 11 (.s 12 (.s 13 (.s 14 (.s 15 (.s 16 (.s 17 (.s 18 (.s 19 (.s 20 .nil))))))))))))))))))))) mixed (by kernel_rfl) rfl ?_
            have hS := hS.drew
            repeat (first | (refine G_id ?_; first | refine G_nil ?_ | refine G_plain rfl rfl ?_) | (refine X_id ?_; first | refine X_yl (Yl_move rfl rfl) rfl rfl ?_ | refine X_yl (Yl_nilCheck rfl rfl) rfl rfl ?_ | refine X_yl (Yl_fieldAddr0 rfl rfl rfl) rfl rfl ?_ | refine X_yl (Yl_eql_t rfl rfl rfl (by omega)) rfl rfl ?_ | refine X_yl (Yl_add rfl rfl rfl (w64 (by omega) (by omega))) rfl rfl ?_ | refine X_yl (Yl_load rfl rfl hS.cell) rfl rfl ?_ | refine X_store rfl rfl rfl rfl hS (fun _ hS _ => ?_)) | (refine C_id ?_; first | refine C_seq ?_ | refine C_region ?_ | refine C_skip ?_ | refine C_cond_t rfl ?_ | refine C_cond_f rfl ?_) | (refine E_id ?_; first | refine E_code ?_) | (refine GO_id ?_; first | refine GO_nil ?_ | refine GO_pure rfl rfl (fun _ => Yl_move rfl rfl) rfl rfl ?_ | refine GO_pure rfl rfl (fun _ => Yl_nilCheck rfl rfl) rfl rfl ?_ | refine GO_pure rfl rfl (fun _ => Yl_fieldAddr0 rfl rfl rfl) rfl rfl ?_ | refine GO_pure rfl rfl (fun _ => Yl_pick_t rfl rfl rfl) rfl rfl ?_ | refine GO_pure rfl rfl (fun _ => Yl_eql_t rfl rfl rfl (by omega)) rfl rfl ?_ | refine GO_read (fun w' => w'.cell? _ = some _) rfl rfl hS.cell (fun _ hc => Yl_load rfl rfl hc) rfl rfl ?_ | refine GO_yes rfl rfl rfl rfl (fun _ => Yl_move rfl rfl) rfl rfl ?_ | refine GO_yes rfl rfl rfl rfl (fun _ => Yl_nilCheck rfl rfl) rfl rfl ?_ | refine GO_yes rfl rfl rfl rfl (fun _ => Yl_fieldAddr0 rfl rfl rfl) rfl rfl ?_ | refine GO_yes rfl rfl rfl rfl (fun _ => Yl_len rfl rfl) rfl rfl ?_ | refine GO_yes rfl rfl rfl rfl (fun _ => Yl_gtr_f rfl rfl rfl (by omega)) rfl rfl ?_ | refine GO_yes rfl rfl rfl rfl (fun _ => Yl_sub rfl rfl rfl (w64 (by omega) (by omega))) rfl rfl ?_ | refine GO_yes_read (fun w' => w'.cell? _ = some _) rfl rfl rfl rfl hS.cell (fun _ hc => Yl_load rfl rfl hc) rfl rfl ?_))
            have hS := hS.conv (rs' := [Rdr p a s.length c (j + m) 0, pts _ (.cells (List.toArray _) _ _)]) rfl
            refine C_ord (.s 0 (.s 1 (.s 2 (.s 3 (.s 4 (.s 5 (.s 6 (.s 7 (.s 8 (.s 9 (.s 10 (.s 11 (.s 12 (.s 13 (.s 14 (.s 15 (.s 16 (.s 17 (.h 18 (.s 19 (.h 20 .nil .no)) .no))))))))))))))))))) mixed (by kernel_rfl) rfl ?_
            have hS := hS.drew
            repeat (first | (refine GO_id ?_; first | refine GO_pure rfl rfl (fun _ => Yl_move rfl rfl) rfl rfl ?_ | refine GO_pure rfl rfl (fun _ => Yl_nilCheck rfl rfl) rfl rfl ?_ | refine GO_pure rfl rfl (fun _ => Yl_fieldAddr0 rfl rfl rfl) rfl rfl ?_ | refine GO_pure rfl rfl (fun _ => Yl_sub rfl rfl rfl (w64 (by omega) (by omega))) rfl rfl ?_ | refine GO_read (fun w' => w'.cell? _ = some _) rfl rfl hS.cell (fun _ hc => Yl_load rfl rfl hc) rfl rfl ?_))
            have hsb : Ro W F (bytes (Cr.sub a j 1 c) (t.take m)) := by
              have := hb.subBytes (l := j) (h := j + m) (c := c) (by omega) (by omega)
              rwa [show j + m - j = m by omega, hdj] at this
            refine GO_pure rfl rfl (fun _ => Yl_slice (l := j) (h := j + m) rfl rfl rfl rfl (.inr ⟨_, _, rfl, by omega, by omega, by omega⟩) (.inr ⟨_, _, rfl, by omega, by omega, by omega⟩)) rfl rfl ?_
            repeat (first | (refine GO_id ?_; first | refine GO_hard rfl rfl ?_))
            refine X_callg _ rfl rfl rfl rfl rfl (bclone_ _ _ _ (t.take m) _ (hsb.rd hS) (by simp; omega) (by omega)) ?_
            rintro _ w ⟨a', c', rfl, _, _, hS'⟩
            replace hS := hS.plus hS'
            clear hS'
            repeat (first | (refine X_id ?_; first | refine X_store rfl rfl rfl rfl hS (fun _ hS _ => ?_)) | (refine C_id ?_; first | refine C_ret ?_) | (refine E_id ?_; first | refine E_code ?_ | refine E_then_ret ?_ | refine E_blk_ret ?_ | refine E_ret1 rfl (by first | exact Rv_tmp rfl | exact Rv_cell rfl (run_load1 hS.cell) | exact Rv_cell rfl (run_loadN hS.cellsN)) (Ret.mk ?_)) | (refine GO_id ?_; first | refine GO_nil ?_ | refine GO_pure rfl rfl (fun _ => Yl_build rfl rfl rfl) rfl rfl ?_ | refine GO_hard rfl rfl ?_) | (refine Keep_id ?_; first | refine And.intro (by repeat (first | exact trivial | refine And.intro (.inl (by decide +kernel)) ?_ | refine And.intro (.inr (by first | assumption | exact hS.cell | exact cell_at (by assumption) | exact hS.cellI (by omega) | exact hS.cellIP (by omega) | exact hS.cellsN | exact ((hr.rd hS).cellX (by omega) hx) | exact ((hr2.rd hS).cellX (by omega) hx2) | exact hS.cellB (by omega) | exact hS.cellBA (by omega) | exact (hb.rd hS).cellB' (by omega) | exact (hb2.rd hS).cellB' (by omega) | exact (hg.rd hS).cellI (by omega) | exact (hg2.rd hS).cellI (by omega) | exact ((hr.rd hS).cellF (by first | omega | (dsimp only; omega)) hx) | exact ((hr2.rd hS).cellF (by first | omega | (dsimp only; omega)) hx2) | exact hS.cellO 0 (by omega) | exact hS.cellO 1 (by omega) | exact hS.cellIA (by omega) | exact (hg.rd hS).cellIA (by omega) | exact (hg2.rd hS).cellIA (by omega) | exact cell_at (hc.rd hS).pts | exact hb.rd hS | exact hS.cellO 4 (by omega) | exact hS.cellO 5 (by omega) | exact hS.cellO 6 (by omega) | exact hS.cellO 7 (by omega) | exact hS.cellO 8 (by omega) | exact hS.cellO 9 (by omega) | exact hS.cellO 10 (by omega) | exact hS.cellO 11 (by omega) | exact hS.cellO 12 (by omega) | exact hS.cellO 13 (by omega) | exact hS.cellO 2 (by omega) | exact hS.cellO 3 (by omega))) ?_)) ?_))
            refine ⟨_, rfl, j + m, by omega, by rw [← hdj, List.drop_drop], ?_⟩
            have hS : St W F [own 5 1 a' c' (bv (t.take m)), Rdr p a s.length c (j + m) 0] _ := hS.took
            exact hS.top_txt (by simp; omega)
          · rw [if_neg hmt]
            repeat (first | (refine G_id ?_; first | refine G_nil ?_ | refine G_plain rfl rfl ?_) | (refine X_id ?_; first | refine X_yl (Yl_assign rfl rfl) rfl rfl ?_) | (refine C_id ?_; first | refine C_seq ?_) | (refine E_id ?_; first | refine E_code ?_))
            refine C_ord (.s 0 (.s 1 (.s 2 (.s 3 (.s 4 (.s 5 (.s 6 (.s 7 (.s 8 (.s 9 (.s 10 (.s 11 (.s 12 (.s 13 (.s 14 (.s 15 (.s 16 (.s 17 (.s 18 (.s 19 (.s 20 .nil))))))))))))))))))))) mixed (by kernel_rfl) rfl ?_
            have hS := hS.drew
            repeat (first | (refine G_id ?_; first | refine G_plain rfl rfl ?_) | (refine X_id ?_; first | refine X_yl (Yl_move rfl rfl) rfl rfl ?_) | (refine C_id ?_; first | refine C_region ?_ | refine C_cond_t rfl ?_) | (refine E_id ?_; first | refine E_code ?_) | (refine GO_id ?_; first | refine GO_nil ?_ | refine GO_pure rfl rfl (fun _ => Yl_move rfl rfl) rfl rfl ?_ | refine GO_pure rfl rfl (fun _ => Yl_nilCheck rfl rfl) rfl rfl ?_ | refine GO_pure rfl rfl (fun _ => Yl_fieldAddr0 rfl rfl rfl) rfl rfl ?_ | refine GO_pure rfl rfl (fun _ => Yl_pick_t rfl rfl rfl) rfl rfl ?_ | refine GO_pure rfl rfl (fun _ => Yl_eql_t rfl rfl rfl (by omega)) rfl rfl ?_ | refine GO_read (fun w' => w'.cell? _ = some _) rfl rfl hS.cell (fun _ hc => Yl_load rfl rfl hc) rfl rfl ?_ | refine GO_yes rfl rfl rfl rfl (fun _ => Yl_move rfl rfl) rfl rfl ?_ | refine GO_yes rfl rfl rfl rfl (fun _ => Yl_nilCheck rfl rfl) rfl rfl ?_ | refine GO_yes rfl rfl rfl rfl (fun _ => Yl_fieldAddr0 rfl rfl rfl) rfl rfl ?_ | refine GO_yes rfl rfl rfl rfl (fun _ => Yl_len rfl rfl) rfl rfl ?_ | refine GO_yes rfl rfl rfl rfl (fun _ => Yl_gtr_t rfl rfl rfl (by omega)) rfl rfl ?_ | refine GO_yes rfl rfl rfl rfl (fun _ => Yl_sub rfl rfl rfl (w64 (by omega) (by omega))) rfl rfl ?_ | refine GO_yes_read (fun w' => w'.cell? _ = some _) rfl rfl rfl rfl hS.cell (fun _ hc => Yl_load rfl rfl hc) rfl rfl ?_))
            obtain ⟨_, hc, hr, hw, hbk⟩ := hS.call [true, false]
            refine X_callg _ rfl rfl rfl rfl rfl (wrong0_ p a s.length c j 4 _ _ hc) ?_
            rintro _ w ⟨rfl, hS⟩
            replace hS := hbk hS
            clear hc hr hw hbk
            repeat (first | (refine G_id ?_; first | refine G_nil ?_ | refine G_plain rfl rfl ?_) | (refine X_id ?_; first | refine X_yl (Yl_move rfl rfl) rfl rfl ?_ | refine X_yl (Yl_nilCheck rfl rfl) rfl rfl ?_ | refine X_yl (Yl_fieldAddr0 rfl rfl rfl) rfl rfl ?_ | refine X_yl (Yl_eql_f rfl rfl rfl (by omega)) rfl rfl ?_ | refine X_yl (Yl_build rfl rfl rfl) rfl rfl ?_ | refine X_yl (Yl_load rfl rfl hS.cell) rfl rfl ?_ | refine X_store rfl rfl rfl rfl hS (fun _ hS _ => ?_)) | (refine C_id ?_; first | refine C_seq ?_ | refine C_region ?_ | refine C_ret ?_ | refine C_skip ?_ | refine C_cond_f rfl ?_) | (refine E_id ?_; first | refine E_code ?_ | refine E_blk_n ?_ | refine E_ret1 rfl (by first | exact Rv_tmp rfl | exact Rv_cell rfl (run_load1 hS.cell) | exact Rv_cell rfl (run_loadN hS.cellsN)) (Ret.mk ?_)))
            exact ⟨_, _, _, _, _, _, _, _, rfl, j, 4, hj, by decide, hS.took⟩
  · simp only [decide_eq_false hlt] at hm
    rw [List.drop_of_length_le (by omega)]
    repeat (first | (refine G_id ?_; first | refine G_nil ?_ | refine G_plain rfl rfl ?_) | (refine X_id ?_; first | (refine X_callq 274 rfl rfl rfl rfl rfl hS (hm _ (hS.rd (List.mem_cons_of_mem _ (List.mem_cons_self ..)))) ?_; rintro _ _ rfl hS) | refine X_yl (Yl_move rfl rfl) rfl rfl ?_ | refine X_yl (Yl_assign rfl rfl) rfl rfl ?_ | refine X_yl (Yl_nilCheck rfl rfl) rfl rfl ?_ | refine X_yl (Yl_fieldAddr0 rfl rfl rfl) rfl rfl ?_ | refine X_yl (Yl_not_f rfl rfl) rfl rfl ?_ | refine X_alloc rfl rfl rfl hS (fun _ _ hS _ => ?_)) | (refine C_id ?_; first | refine C_seq ?_ | refine C_region ?_ | refine C_block ?_ | refine C_cond_t rfl ?_) | (refine E_id ?_; first | refine E_code ?_))
    obtain ⟨_, hc, hr, hw, hbk⟩ := hS.call [false, true]
    refine X_callg _ rfl rfl rfl rfl rfl (wrong0_ p a s.length c i 4 _ _ hc) ?_
    rintro _ w ⟨rfl, hS⟩
    replace hS := hbk hS
    clear hc hr hw hbk
    repeat (first | (refine G_id ?_; first | refine G_nil ?_ | refine G_plain rfl rfl ?_) | (refine X_id ?_; first | refine X_yl (Yl_build rfl rfl rfl) rfl rfl ?_ | refine X_store rfl rfl rfl rfl hS (fun _ hS _ => ?_)) | (refine C_id ?_; first | refine C_seq ?_ | refine C_region ?_ | refine C_ret ?_) | (refine E_id ?_; first | refine E_code ?_ | refine E_blk_n ?_ | refine E_ret1 rfl (by first | exact Rv_tmp rfl | exact Rv_cell rfl (run_load1 hS.cell) | exact Rv_cell rfl (run_loadN hS.cellsN)) (Ret.mk ?_)))
    rw [pv_nil]
    exact ⟨_, _, _, _, _, _, _, _, rfl, i, 4, hi, by decide, hS.took⟩
end Cr
namespace Cr
open Go Go.Proofs
set_option maxRecDepth 100000
set_option maxHeartbeats 4000000
attribute [local irreducible] Calls

theorem value_ (p : Nat) (a : Option Addr) (s : List UInt8) (c : Nat) (hsc : s.length ≤ c) (hl : s.length ≤ 1073741824) (f : Nat) : ValueOk p a s c f := by
  induction f using Nat.strongRecOn with
  | _ f ih =>
    cases f with
    | zero => intro i deep W F hi hd hf; omega
    | succ f => exact value_of p a s c hsc hl f (list_of p a s c (by omega) f fun g hg => ih g (by omega))
abbrev zV : List Value := [.int .i64 0, .int .i64 0, .slice none 0 0, .slice none 0 0]
/-- What Next tells. -/
def NRes (W : World) (r : Option (Top × List UInt8)) (v : Value) (w : World) : Prop :=
  match r with
  | some (t, l) => ∃ cs b q, v = .tuple #[.agg (List.toArray cs), .slice b l.length q, .int .i64 0] ∧ St W noF [topR t cs] w
  | none => ∃ e, v = .tuple #[.agg (List.toArray zV), .slice none 0 0, .int .i64 e] ∧ e ≠ 0 ∧ St W noF [] w
theorem next_ (a : Option Addr) (s : List UInt8) (c : Nat) (hsc : s.length ≤ c) (hl : s.length ≤ 131072) (W : World) (hG : Lg W noF) (hb : Ro W noF (bytes a s)) :
    Calls Tryz.prog 180 #[.slice a s.length c] W (Ret fun v w => NRes W (pv (2 * s.length + 1) 1 s) v w) := by
  have hS := St.start W
  refine calls_C Tryz.func180 rfl Tryz.ntmps180 rfl ?_
  repeat (first | (refine G_id ?_; first | refine G_nil ?_ | refine G_plain rfl rfl ?_) | (refine X_id ?_; first | refine X_yl (Yl_move rfl rfl) rfl rfl ?_ | refine X_yl (Yl_assign rfl rfl) rfl rfl ?_ | refine X_yl (Yl_len rfl rfl) rfl rfl ?_ | refine X_yl (Yl_gtr_f rfl rfl rfl (by omega)) rfl rfl ?_ | refine X_yl (Yl_build rfl rfl rfl) rfl rfl ?_ | refine X_box rfl rfl rfl rfl hS (fun _ _ hS _ => ?_) | refine X_alloc rfl rfl rfl hS (fun _ _ hS _ => ?_)) | (refine C_id ?_; first | refine C_seq ?_ | refine C_region ?_ | refine C_skip ?_ | refine C_cond_f rfl ?_) | (refine E_id ?_; first | refine E_code ?_))
  rename_i r _ _
  have hv := value_ r a s c hsc (by omega) (2 * s.length + 1) 0 1
  rw [List.drop_zero] at hv
  generalize pv (2 * s.length + 1) 1 s = res at hv ⊢
  obtain ⟨_, hc, _, hw, hbk⟩ := hS.call [true, false]
  refine X_callg _ rfl rfl rfl rfl rfl (hv _ _ (Nat.zero_le _) (by omega) (by omega) (hG.mono hw) (hw _ hb) hc) ?_
  rintro v w hV
  cases res with
  | none =>
    obtain ⟨k, n, a1, n1, c1, a2, n2, c2, rfl, j, e, hj, he, hS⟩ := hV
    replace hS := hbk hS
    clear hbk hw hc
    repeat (first | (refine G_id ?_; first | refine G_nil ?_ | refine G_plain rfl rfl ?_) | (refine X_id ?_; first | refine X_yl (Yl_move rfl rfl) rfl rfl ?_ | refine X_yl (Yl_nilCheck rfl rfl) rfl rfl ?_ | refine X_yl (Yl_fieldAddr0 rfl rfl rfl) rfl rfl ?_ | refine X_yl (Yl_neq_t rfl rfl rfl (by omega)) rfl rfl ?_ | refine X_yl (Yl_load rfl rfl hS.cell) rfl rfl ?_ | refine X_store rfl rfl rfl rfl hS (fun _ hS _ => ?_) | refine X_alloc rfl rfl rfl hS (fun _ _ hS _ => ?_)) | (refine C_id ?_; first | refine C_seq ?_ | refine C_region ?_ | refine C_cond_t rfl ?_) | (refine E_id ?_; first | refine E_code ?_))
    refine C_ord (.s 0 (.s 1 (.s 2 (.s 3 (.s 4 (.h 5 (.s 6 (.s 7 .nil)) .no)))))) mixed (by kernel_rfl) rfl ?_
    have hS := hS.drew
    repeat (first | (refine X_id ?_; first | refine X_store rfl rfl rfl rfl hS (fun _ hS _ => ?_)) | (refine C_id ?_; first | refine C_ret ?_) | (refine E_id ?_; first | refine E_code ?_ | refine E_then_ret ?_ | refine E_ret3 rfl (by first | exact Rv_tmp rfl | exact Rv_cell rfl (run_load1 hS.cell) | exact Rv_cell rfl (run_loadN hS.cellsN)) (by first | exact Rv_tmp rfl | exact Rv_cell rfl (run_load1 hS.cell) | exact Rv_cell rfl (run_loadN hS.cellsN)) (by first | exact Rv_tmp rfl | exact Rv_cell rfl (run_load1 hS.cell) | exact Rv_cell rfl (run_loadN hS.cellsN)) (Ret.mk ?_)) | (refine GO_id ?_; first | refine GO_nil ?_ | refine GO_pure rfl rfl (fun _ => Yl_move rfl rfl) rfl rfl ?_ | refine GO_pure rfl rfl (fun _ => Yl_assign rfl rfl) rfl rfl ?_ | refine GO_pure rfl rfl (fun _ => Yl_nilCheck rfl rfl) rfl rfl ?_ | refine GO_pure rfl rfl (fun _ => Yl_fieldAddr0 rfl rfl rfl) rfl rfl ?_ | refine GO_pure rfl rfl (fun _ => Yl_build rfl rfl rfl) rfl rfl ?_ | refine GO_read (fun w' => w'.cell? _ = some _) rfl rfl hS.cell (fun _ hc => Yl_load rfl rfl hc) rfl rfl ?_ | refine GO_hard rfl rfl ?_) | (refine Keep_id ?_; first | refine And.intro (by repeat (first | exact trivial | refine And.intro (.inl (by decide +kernel)) ?_ | refine And.intro (.inr (by first | assumption | exact hS.cell | exact cell_at (by assumption) | exact hS.cellI (by omega) | exact hS.cellIP (by omega) | exact hS.cellsN | exact ((hr.rd hS).cellX (by omega) hx) | exact ((hr2.rd hS).cellX (by omega) hx2) | exact hS.cellB (by omega) | exact hS.cellBA (by omega) | exact (hb.rd hS).cellB' (by omega) | exact (hb2.rd hS).cellB' (by omega) | exact (hg.rd hS).cellI (by omega) | exact (hg2.rd hS).cellI (by omega) | exact ((hr.rd hS).cellF (by first | omega | (dsimp only; omega)) hx) | exact ((hr2.rd hS).cellF (by first | omega | (dsimp only; omega)) hx2) | exact hS.cellO 0 (by omega) | exact hS.cellO 1 (by omega) | exact hS.cellIA (by omega) | exact (hg.rd hS).cellIA (by omega) | exact (hg2.rd hS).cellIA (by omega) | exact cell_at (hc.rd hS).pts | exact hb.rd hS | exact hS.cellO 4 (by omega) | exact hS.cellO 5 (by omega) | exact hS.cellO 6 (by omega) | exact hS.cellO 7 (by omega) | exact hS.cellO 8 (by omega) | exact hS.cellO 9 (by omega) | exact hS.cellO 10 (by omega) | exact hS.cellO 11 (by omega) | exact hS.cellO 12 (by omega) | exact hS.cellO 13 (by omega) | exact hS.cellO 2 (by omega) | exact hS.cellO 3 (by omega))) ?_)) ?_))
    exact ⟨e, rfl, he, hS.took⟩
  | some u =>
    obtain ⟨t, l⟩ := u
    obtain ⟨cs, rfl, j, hj, hdj, hS⟩ := hV
    replace hS := hbk hS
    clear hbk hw hc
    obtain ⟨k, n, a1, n1, c1, a2, n2, c2, rfl⟩ := hS.top_cells
    have hsb : Ro W noF (bytes (Cr.sub a j 1 c) l) := by
      have := hb.subBytes (l := j) (h := s.length) (c := c) (by omega) (by omega)
      rwa [hdj, List.take_of_length_le (by rw [← hdj]; simp)] at this
    have hll : l.length = s.length - j := by rw [← hdj, List.length_drop]
    repeat (first | (refine G_id ?_; first | refine G_nil ?_ | refine G_plain rfl rfl ?_) | (refine X_id ?_; first | refine X_yl (Yl_move rfl rfl) rfl rfl ?_ | refine X_yl (Yl_nilCheck rfl rfl) rfl rfl ?_ | refine X_yl (Yl_fieldAddr0 rfl rfl rfl) rfl rfl ?_ | refine X_yl (Yl_neq_f rfl rfl rfl (by omega)) rfl rfl ?_ | refine X_yl (Yl_load rfl rfl hS.cell) rfl rfl ?_ | refine X_store rfl rfl rfl rfl hS (fun _ hS _ => ?_) | refine X_alloc rfl rfl rfl hS (fun _ _ hS _ => ?_)) | (refine C_id ?_; first | refine C_seq ?_ | refine C_region ?_ | refine C_skip ?_ | refine C_cond_f rfl ?_) | (refine E_id ?_; first | refine E_code ?_))
    refine C_ord (.s 0 (.s 1 (.s 2 (.s 3 (.s 4 (.s 5 (.s 6 (.s 7 (.h 8 (.h 9 (.s 10 (.s 11 .nil)) .no) .no))))))))) mixed (by kernel_rfl) rfl ?_
    have hS := hS.drew
    repeat (first | (refine GO_id ?_; first | refine GO_pure rfl rfl (fun _ => Yl_move rfl rfl) rfl rfl ?_ | refine GO_pure rfl rfl (fun _ => Yl_nilCheck rfl rfl) rfl rfl ?_ | refine GO_pure rfl rfl (fun _ => Yl_fieldAddr0 rfl rfl rfl) rfl rfl ?_ | refine GO_read (fun w' => w'.cell? _ = some _) rfl rfl hS.cell (fun _ hc => Yl_load rfl rfl hc) rfl rfl ?_ | refine GO_read (fun w' => CellsN w' _ _ _) rfl rfl hS.cellsN (fun _ hc => Yl_loadN rfl rfl hc) rfl rfl ?_))
    refine GO_pure rfl rfl (fun _ => Yl_slice (l := j) (h := s.length) rfl rfl rfl rfl (.inl ⟨rfl, rfl⟩) (.inr ⟨_, _, rfl, by omega, by omega, by omega⟩)) rfl rfl ?_
    repeat (first | (refine GO_id ?_; first | refine GO_hard rfl rfl ?_))
    refine X_callg _ rfl rfl rfl rfl rfl (bclone_ _ _ _ l _ (hsb.rd hS) hll (by omega)) ?_
    rintro _ w ⟨a', c', rfl, _, _, hS'⟩
    replace hS := hS.plus hS'
    clear hS'
    rw [← hll]
    repeat (first | (refine X_id ?_; first | refine X_store rfl rfl rfl rfl hS (fun _ hS _ => ?_)) | (refine C_id ?_; first | refine C_ret ?_) | (refine E_id ?_; first | refine E_code ?_ | refine E_ret3 rfl (by first | exact Rv_tmp rfl | exact Rv_cell rfl (run_load1 hS.cell) | exact Rv_cell rfl (run_loadN hS.cellsN)) (by first | exact Rv_tmp rfl | exact Rv_cell rfl (run_load1 hS.cell) | exact Rv_cell rfl (run_loadN hS.cellsN)) (by first | exact Rv_tmp rfl | exact Rv_cell rfl (run_load1 hS.cell) | exact Rv_cell rfl (run_loadN hS.cellsN)) (Ret.mk ?_)) | (refine GO_id ?_; first | refine GO_nil ?_ | refine GO_pure rfl rfl (fun _ => Yl_assign rfl rfl) rfl rfl ?_ | refine GO_hard rfl rfl ?_) | (refine Keep_id ?_; first | refine And.intro (by repeat (first | exact trivial | refine And.intro (.inl (by decide +kernel)) ?_ | refine And.intro (.inr (by first | assumption | exact hS.cell | exact cell_at (by assumption) | exact hS.cellI (by omega) | exact hS.cellIP (by omega) | exact hS.cellsN | exact ((hr.rd hS).cellX (by omega) hx) | exact ((hr2.rd hS).cellX (by omega) hx2) | exact hS.cellB (by omega) | exact hS.cellBA (by omega) | exact (hb.rd hS).cellB' (by omega) | exact (hb2.rd hS).cellB' (by omega) | exact (hg.rd hS).cellI (by omega) | exact (hg2.rd hS).cellI (by omega) | exact ((hr.rd hS).cellF (by first | omega | (dsimp only; omega)) hx) | exact ((hr2.rd hS).cellF (by first | omega | (dsimp only; omega)) hx2) | exact hS.cellO 0 (by omega) | exact hS.cellO 1 (by omega) | exact hS.cellIA (by omega) | exact (hg.rd hS).cellIA (by omega) | exact (hg2.rd hS).cellIA (by omega) | exact cell_at (hc.rd hS).pts | exact hb.rd hS | exact hS.cellO 4 (by omega) | exact hS.cellO 5 (by omega) | exact hS.cellO 6 (by omega) | exact hS.cellO 7 (by omega) | exact hS.cellO 8 (by omega) | exact hS.cellO 9 (by omega) | exact hS.cellO 10 (by omega) | exact hS.cellO 11 (by omega) | exact hS.cellO 12 (by omega) | exact hS.cellO 13 (by omega) | exact hS.cellO 2 (by omega) | exact hS.cellO 3 (by omega))) ?_)) ?_))
    exact ⟨_, a', c', rfl, hS.took⟩
/-- What Decode tells. -/
def DRes (W : World) (r : Option Top) (v : Value) (w : World) : Prop :=
  match r with
  | some t => ∃ cs, v = .tuple #[.agg (List.toArray cs), .int .i64 0] ∧ St W noF [topR t cs] w
  | none => ∃ e, v = .tuple #[.agg (List.toArray zV), .int .i64 e] ∧ e ≠ 0 ∧ St W noF [] w
theorem decode_ (a : Option Addr) (s : List UInt8) (c : Nat) (hsc : s.length ≤ c) (hl : s.length ≤ 131072) (W : World) (hG : Lg W noF) (hb : Ro W noF (bytes a s)) :
    Calls Tryz.prog 128 #[.slice a s.length c] W (Ret fun v w => DRes W (dec s) v w) := by
  have hS := St.start W
  have hN := next_ a s c hsc hl
  unfold dec
  generalize pv (2 * s.length + 1) 1 s = res at hN ⊢
  refine calls_C Tryz.func128 rfl Tryz.ntmps128 rfl ?_
  repeat (first | (refine G_id ?_; first | refine G_nil ?_ | refine G_plain rfl rfl ?_) | (refine X_id ?_; first | refine X_yl (Yl_move rfl rfl) rfl rfl ?_ | refine X_yl (Yl_assign rfl rfl) rfl rfl ?_ | refine X_alloc rfl rfl rfl hS (fun _ _ hS _ => ?_)) | (refine C_id ?_; first | refine C_seq ?_ | refine C_region ?_) | (refine E_id ?_; first | refine E_code ?_))
  obtain ⟨_, hc, _, hw, hbk⟩ := hS.call [false]
  refine X_callg _ rfl rfl rfl rfl rfl (hN _ ((hG.mono hw).at_ hc) ((hw _ hb).rd hc).ro) ?_
  rintro v w hV
  cases res with
  | none =>
    obtain ⟨e, rfl, he, hS'⟩ := hV
    replace hS := hS.plus hS'
    clear hbk hw hc
    repeat (first | (refine G_id ?_; first | refine G_nil ?_ | refine G_plain rfl rfl ?_) | (refine X_id ?_; first | refine X_yl (Yl_move rfl rfl) rfl rfl ?_ | refine X_yl (Yl_assign rfl rfl) rfl rfl ?_ | refine X_yl (Yl_extract rfl rfl) rfl rfl ?_ | refine X_yl (Yl_neq_t rfl rfl rfl (by omega)) rfl rfl ?_ | refine X_yl (Yl_build rfl rfl rfl) rfl rfl ?_ | refine X_store rfl rfl rfl rfl hS (fun _ hS _ => ?_) | refine X_alloc rfl rfl rfl hS (fun _ _ hS _ => ?_)) | (refine C_id ?_; first | refine C_seq ?_ | refine C_region ?_ | refine C_block ?_ | refine C_ret ?_ | refine C_cond_t rfl ?_) | (refine E_id ?_; first | refine E_code ?_ | refine E_then_ret ?_ | refine E_blk_ret ?_ | refine E_ret2 rfl (by first | exact Rv_tmp rfl | exact Rv_cell rfl (run_load1 hS.cell) | exact Rv_cell rfl (run_loadN hS.cellsN)) (by first | exact Rv_tmp rfl | exact Rv_cell rfl (run_load1 hS.cell) | exact Rv_cell rfl (run_loadN hS.cellsN)) (Ret.mk ?_)))
    exact ⟨e, rfl, he, hS.took⟩
  | some u =>
    obtain ⟨t, l⟩ := u
    obtain ⟨cs, b, q, rfl, hS'⟩ := hV
    replace hS := hS.plus hS'
    clear hbk hw hc
    obtain ⟨k, n, a1, n1, c1, a2, n2, c2, rfl⟩ := hS.top_cells
    cases l with
    | nil =>
      simp only [List.length_nil]
      repeat (first | (refine G_id ?_; first | refine G_nil ?_ | refine G_plain rfl rfl ?_) | (refine X_id ?_; first | refine X_yl (Yl_move rfl rfl) rfl rfl ?_ | refine X_yl (Yl_assign rfl rfl) rfl rfl ?_ | refine X_yl (Yl_extract rfl rfl) rfl rfl ?_ | refine X_yl (Yl_len rfl rfl) rfl rfl ?_ | refine X_yl (Yl_neq_f rfl rfl rfl (by omega)) rfl rfl ?_ | refine X_yl (Yl_gtr_f rfl rfl rfl (by omega)) rfl rfl ?_ | refine X_yl (Yl_loadN rfl rfl hS.cellsN) rfl rfl ?_ | refine X_store rfl rfl rfl rfl hS (fun _ hS _ => ?_) | refine X_alloc rfl rfl rfl hS (fun _ _ hS _ => ?_)) | (refine C_id ?_; first | refine C_seq ?_ | refine C_region ?_ | refine C_block ?_ | refine C_ret ?_ | refine C_skip ?_ | refine C_cond_f rfl ?_) | (refine E_id ?_; first | refine E_code ?_ | refine E_blk_n ?_ | refine E_ret2 rfl (by first | exact Rv_tmp rfl | exact Rv_cell rfl (run_load1 hS.cell) | exact Rv_cell rfl (run_loadN hS.cellsN)) (by first | exact Rv_tmp rfl | exact Rv_cell rfl (run_load1 hS.cell) | exact Rv_cell rfl (run_loadN hS.cellsN)) (Ret.mk ?_)))
      exact ⟨_, rfl, hS.took⟩
    | cons x l =>
      simp only [List.length_cons]
      repeat (first | (refine G_id ?_; first | refine G_nil ?_ | refine G_plain rfl rfl ?_) | (refine X_id ?_; first | refine X_yl (Yl_move rfl rfl) rfl rfl ?_ | refine X_yl (Yl_assign rfl rfl) rfl rfl ?_ | refine X_yl (Yl_extract rfl rfl) rfl rfl ?_ | refine X_yl (Yl_len rfl rfl) rfl rfl ?_ | refine X_yl (Yl_neq_f rfl rfl rfl (by omega)) rfl rfl ?_ | refine X_yl (Yl_gtr_t rfl rfl rfl (by omega)) rfl rfl ?_ | refine X_yl (Yl_build rfl rfl rfl) rfl rfl ?_ | refine X_store rfl rfl rfl rfl hS (fun _ hS _ => ?_) | refine X_alloc rfl rfl rfl hS (fun _ _ hS _ => ?_)) | (refine C_id ?_; first | refine C_seq ?_ | refine C_region ?_ | refine C_block ?_ | refine C_ret ?_ | refine C_cond_t rfl ?_ | refine C_cond_f rfl ?_) | (refine E_id ?_; first | refine E_code ?_ | refine E_then_ret ?_ | refine E_blk_ret ?_ | refine E_ret2 rfl (by first | exact Rv_tmp rfl | exact Rv_cell rfl (run_load1 hS.cell) | exact Rv_cell rfl (run_loadN hS.cellsN)) (by first | exact Rv_tmp rfl | exact Rv_cell rfl (run_load1 hS.cell) | exact Rv_cell rfl (run_loadN hS.cellsN)) (Ret.mk ?_)))
      exact ⟨3, rfl, by decide, hS.took⟩
end Cr
namespace Cr
open Go
set_option maxRecDepth 10000
section
variable {P : Program} {w : World} {t e : TypeId}
theorem run_strEq {d : Nat} (a b : List UInt8) [he : Und P e .string] : (Op.equalIn (d + 1) e (.string (str a)) (.string (str b))).run P w = .ok (decide (a = b)) w := by
  rw [run_equalIn_string w d e (str a) (str b) he.und, str_toList, str_toList]
  congr 1
  by_cases h : a = b <;> simp [h]
/-- Arrays, element by element. -/
theorem run_equalIn_arrG {α : Type} [DecidableEq α] (enc : α → Value) (d n : Nat) [h : Und P t (.array n e)] [hs : Siz P e 1] [h1 : One P e]
    (heq : ∀ (a b : α) (w : World), (Op.equalIn (d + 1) e (enc a) (enc b)).run P w = .ok (decide (a = b)) w) (a b : List α) (ha : a.length = n) (hb : b.length = n) :
    (Op.equalIn (d + 2) t (.agg (a.map enc).toArray) (.agg (b.map enc).toArray)).run P w = .ok (decide (a = b)) w := by
  unfold Op.equalIn
  simp only [Sem.run_bind, run_underlying h.und, Result.andThen_ok, run_sizeOf (n := 1), Nat.mul_one]
  simp only [Std.Legacy.Range.forIn_eq_forIn_range']
  have hp : ∀ (l : List α) (i : Nat) (hi : i < l.length), (part e (l.map enc).toArray i).run P w = .ok (enc l[i]) w := fun l i hi => by
    simp [part, h1.one, hi]
  have key : ∀ m s, s + m = n → (forIn (List.range' s m) (none, ()) (fun i (__s : Option Bool × Unit) => do
      let __do_lift ← part e (a.map enc).toArray i
      let __do_lift_1 ← part e (b.map enc).toArray i
      let __do_lift ← Op.equalIn (d + 1) e __do_lift __do_lift_1
      if (!__do_lift) = true then pure (ForInStep.done (some false, ())) else pure (ForInStep.yield (none, ()))) : Sem (Option Bool × Unit)).run P w = .ok (if a.drop s = b.drop s then none else some false, ()) w := by
    intro m
    induction m with
    | zero =>
      intro s hs
      rw [List.drop_of_length_le (by omega), List.drop_of_length_le (by omega)]
      simp
    | succ m ih =>
      intro s hs
      have hsa : s < a.length := by omega
      have hsb : s < b.length := by omega
      rw [List.range'_succ, List.forIn_cons]
      simp only [Sem.run_bind, hp a s hsa, hp b s hsb, Result.andThen_ok, heq]
      rw [List.drop_eq_getElem_cons hsa, List.drop_eq_getElem_cons hsb]
      by_cases hc : a[s] = b[s]
      · rw [decide_eq_true hc]
        simp only [Bool.not_true, Bool.false_eq_true, if_false, Sem.run_pure, Result.andThen_ok]
        rw [ih (s + 1) (by omega), hc]
        simp only [List.cons.injEq, true_and]
      · rw [decide_eq_false hc]
        simp only [Bool.not_false, if_true, Sem.run_pure, Result.andThen_ok]
        rw [if_neg (fun h => hc (List.cons.inj h).1)]
  have hz : [:n].size = n := by simp [Std.Legacy.Range.size]
  rw [hz, key n 0 (by omega)]
  by_cases hab : a = b <;> simp [hab]
end
section
variable {P : Program} {o : Oper} {σ : Env} {w : World} {x y : Operand} {t ty e : TypeId}
/-- Comparing values of this type asks no interface. -/
class NoGd (P : Program) (t : TypeId) : Prop where
  no : P.eqGuardType P.depth t = false
def sv (s : List UInt8) : Value := .string (str s)
theorem Yl_neqStrs {n : Nat} (a b : List (List UInt8)) {u v : Array Value} (ho : o.op = .binOp .neq t x y ty) (hx : ev σ x = some (.agg u)) (hy : ev σ y = some (.agg v)) (hu : u = (a.map sv).toArray) (hv : v = (b.map sv).toArray) [h : Und P t (.array n e)] [he : Und P e .string] [hs : Siz P e 1] [h1 : One P e] [hg : NoGd P t] (ha : a.length = n) (hb : b.length = n) :
    Yl P o σ w (.bool (decide (¬ a = b))) := ⟨fun N ds f hf => by
  subst hu hv
  have h2 := run_eqGuard_agg (P := P) (w := w) .neq t x y (a.map sv).toArray (b.map sv).toArray hg.no
  have h3 := run_neq_struct (P := P) (w := w) t (a.map sv).toArray (b.map sv).toArray
  have h4 := run_equalIn_arrG (P := P) (w := w) (t := t) (e := e) sv 9998 n (fun p q w => run_strEq p q) a b ha hb
  have e1 : (!(decide (a = b))) = decide (¬ a = b) := by by_cases q : a = b <;> simp [q]
  simp only [execOp, ho, hf.eval hx, hf.eval hy, Sem.run_bind, h2, h3, h4, Result.andThen_ok, e1]
  rfl⟩
theorem Yl_eqlStrs {n : Nat} (a b : List (List UInt8)) {u v : Array Value} (ho : o.op = .binOp .eql t x y ty) (hx : ev σ x = some (.agg u)) (hy : ev σ y = some (.agg v)) (hu : u = (a.map sv).toArray) (hv : v = (b.map sv).toArray) [h : Und P t (.array n e)] [he : Und P e .string] [hs : Siz P e 1] [h1 : One P e] [hg : NoGd P t] (ha : a.length = n) (hb : b.length = n) :
    Yl P o σ w (.bool (decide (a = b))) := ⟨fun N ds f hf => by
  subst hu hv
  have h2 := run_eqGuard_agg (P := P) (w := w) .eql t x y (a.map sv).toArray (b.map sv).toArray hg.no
  have h3 := run_eql_struct (P := P) (w := w) t (a.map sv).toArray (b.map sv).toArray
  have h4 := run_equalIn_arrG (P := P) (w := w) (t := t) (e := e) sv 9998 n (fun p q w => run_strEq p q) a b ha hb
  simp only [execOp, ho, hf.eval hx, hf.eval hy, Sem.run_bind, h2, h3, h4, Result.andThen_ok]
  rfl⟩
/-- Structs of strings and numbers. -/
inductive SF where
  | s (l : List UInt8)
  | n (k : Int)
def SF.v : SF → Value
  | .s l => .string (str l)
  | .n k => .int .i64 k
/-- A field, and what it holds on both sides. -/
def SFok (P : Program) (xs ys : Array Value) (f : Field) : SF × SF → Prop
  | (.s a, .s b) => P.underlying f.type = some .string ∧ xs[f.offset]? = some (.string (str a)) ∧ ys[f.offset]? = some (.string (str b)) ∧ (f.name == "_") = false
  | (.n a, .n b) => P.underlying f.type = some (.int .i64) ∧ xs[f.offset]? = some (.int .i64 a) ∧ ys[f.offset]? = some (.int .i64 b) ∧ (f.name == "_") = false
  | _ => False
def SFeq : List (SF × SF) → Prop
  | [] => True
  | (.s a, .s b) :: r => a = b ∧ SFeq r
  | (.n a, .n b) :: r => a = b ∧ SFeq r
  | _ :: _ => False
instance : (l : List (SF × SF)) → Decidable (SFeq l)
  | [] => .isTrue trivial
  | (.s a, .s b) :: r => @instDecidableAnd (a = b) (SFeq r) _ (instDecidableSFeq r)
  | (.n a, .n b) :: r => @instDecidableAnd (a = b) (SFeq r) _ (instDecidableSFeq r)
  | (.s _, .n _) :: _ => .isFalse id
  | (.n _, .s _) :: _ => .isFalse id
end
end Cr
namespace Cr
open Go Go.Proofs
set_option maxRecDepth 100000
set_option maxHeartbeats 2000000
attribute [local irreducible] Calls

/-- What strings.Fields reads. -/
def Sp (W : World) (F : Nat → Prop) : Prop := Ro W F (glob 0 (Lib.asciiSpaceTab.map fun z => Value.int .u8 z))
theorem Sp.at_ {W w : World} {F : Nat → Prop} {rs : List Res} (H : Sp W F) (hS : St W F rs w) : Sp w noF := (Ro.rd H hS).ro
def wordsT : List UInt8 := [105, 110, 115, 116, 97, 108, 108, 32, 114, 101, 102, 114, 101, 115, 104, 32, 114, 101, 118, 101, 114, 116, 32, 114, 101, 109, 111, 118, 101, 32, 99, 111, 110, 110, 101, 99, 116, 32, 100, 105, 115, 99, 111, 110, 110, 101, 99, 116]
theorem wordsT_ascii : ∀ b ∈ wordsT, b.toNat < 128 := by decide
theorem wordsT_fields : Lib.fields wordsT = words6 := by decide
theorem fields_ (W : World) (hT : Sp W noF) : Calls Tryz.prog 207 #[.string (str wordsT)] W (Ret fun v w => ∃ b, v = .slice (some ⟨b, 0, none⟩) 6 6 ∧ St W noF [row (some ⟨b, 0, none⟩) (words6.map sv)] w) := by
  have h := Tryz.strings_Fields_laid (str wordsT) W (by decide) (fun j b hb => wordsT_ascii b (List.mem_of_getElem? (by simpa [str] using hb))) (glob_var (by kernel_rfl) hT.start)
  have e : Lib.fields (str wordsT).data.toList = words6 := by rw [show (str wordsT).data.toList = wordsT by simp [str], wordsT_fields]
  rw [e] at h
  refine h.mono ?_
  rintro e w ⟨rfl, rfl⟩
  refine ⟨_, rfl, _, rfl, ?_⟩
  exact ((St.start W).alloc _).head row_pts
theorem contains_ (b : Nat) (x : List UInt8) (W : World) (hr : Rd W (row (some ⟨b, 0, none⟩) (words6.map sv))) : Calls Tryz.prog 74 #[.slice (some ⟨b, 0, none⟩) 6 6, .string (str x)] W (Ret fun v w => v = .bool (decide (x ∈ words6)) ∧ W = w) := by
  have h := Tryz.slices_Contains_string b 0 6 6 (words6.map str) (str x) W (by decide) (by decide) (fun j hj => ?_)
  · refine h.mono ?_
    rintro e w ⟨rfl, rfl⟩
    refine ⟨_, rfl, ?_, rfl⟩
    congr 1
    have : (Lib.containsS ((words6.map str).take 6) (str x) = true) ↔ x ∈ words6 := by
      rw [Lib.containsS_iff, List.take_of_length_le (by decide)]
      constructor
      · intro h
        obtain ⟨y, hy, he⟩ := List.mem_map.1 h
        have := congrArg (fun z : ByteArray => z.data.toList) he
        obtain rfl : y = x := by simpa [str] using this
        exact hy
      · exact fun h => List.mem_map.2 ⟨x, h, rfl⟩
    by_cases hx : x ∈ words6
    · rw [decide_eq_true hx]; exact this.2 hx
    · rw [decide_eq_false hx]
      cases hc : Lib.containsS ((words6.map str).take 6) (str x) with
      | false => rfl
      | true => exact absurd (this.1 hc) hx
  · have hj6 : j < 6 := hj
    have h1 : (words6.map sv)[j]? = some (sv (words6.getD j [])) := by
      rw [List.getElem?_map, List.getElem?_eq_getElem (show j < words6.length from hj6), List.getD_eq_getElem?_getD, List.getElem?_eq_getElem (show j < words6.length from hj6)]; rfl
    have h2 : (words6.map str).getD j ByteArray.empty = str (words6.getD j []) := by
      rw [List.getD_eq_getElem?_getD, List.getElem?_map, List.getD_eq_getElem?_getD, List.getElem?_eq_getElem (show j < words6.length from hj6)]; rfl
    rw [h2]
    exact hr.cells j _ h1
theorem check_ (r : Rec) (W : World) (hT : Sp W noF) : Calls Tryz.prog 150 #[.agg r.cells.toArray] W (Ret fun v w => v = .int .i64 (rchk r : Nat) ∧ St W noF [] w) := by
  have hS := St.start W
  have hC := fun b => contains_ b r.cmd
  have hN1 := named_ r.pub
  have hN2 := named_ r.pkg
  have hF := fun W h => fields_ W h
  by_cases h1 : r.cmd ∈ words6
  case neg =>
    simp only [decide_eq_false h1] at hC
    rw [show rchk r = 1 from if_neg h1]
    refine calls_C Tryz.func150 rfl Tryz.ntmps150 rfl ?_
    repeat (first | (refine G_id ?_; first | refine G_nil ?_ | refine G_plain rfl rfl ?_) | (refine X_id ?_; first | refine X_yl (Yl_assign rfl rfl) rfl rfl ?_ | refine X_box rfl rfl rfl rfl hS (fun _ _ hS _ => ?_)) | (refine C_id ?_; first | refine C_seq ?_ | refine C_region ?_ | refine C_block ?_) | (refine E_id ?_; first | refine E_code ?_))
    refine C_ord (.s 1 (.s 2 (.h 0 (.h 3 (.s 4 (.s 5 .nil)) .no) .no))) mixed (by kernel_rfl) rfl ?_
    have hS := hS.drew
    repeat (first | (refine GO_id ?_; first | refine GO_pure rfl rfl (fun _ => Yl_fieldAddr0 rfl rfl rfl) rfl rfl ?_ | refine GO_read (fun w' => w'.cell? _ = some _) rfl rfl hS.cell (fun _ hc => Yl_load rfl rfl hc) rfl rfl ?_ | refine GO_hard rfl rfl ?_))
    refine X_callg _ rfl rfl rfl rfl rfl (hF _ (hT.at_ hS)) ?_
    rintro _ w ⟨b, rfl, hS'⟩
    replace hS := hS.plus hS'
    clear hS'
    repeat (first | (refine GO_id ?_; first | refine GO_hard rfl rfl ?_) | (refine Keep_id ?_; first | refine And.intro (by repeat (first | exact trivial | refine And.intro (.inl (by decide +kernel)) ?_ | refine And.intro (.inr (by first | assumption | exact hS.cell | exact cell_at (by assumption) | exact hS.cellI (by omega) | exact hS.cellIP (by omega) | exact hS.cellsN | exact ((hr.rd hS).cellX (by omega) hx) | exact ((hr2.rd hS).cellX (by omega) hx2) | exact hS.cellB (by omega) | exact hS.cellBA (by omega) | exact (hb.rd hS).cellB' (by omega) | exact (hb2.rd hS).cellB' (by omega) | exact (hg.rd hS).cellI (by omega) | exact (hg2.rd hS).cellI (by omega) | exact ((hr.rd hS).cellF (by first | omega | (dsimp only; omega)) hx) | exact ((hr2.rd hS).cellF (by first | omega | (dsimp only; omega)) hx2) | exact hS.cellO 0 (by omega) | exact hS.cellO 1 (by omega) | exact hS.cellIA (by omega) | exact (hg.rd hS).cellIA (by omega) | exact (hg2.rd hS).cellIA (by omega) | exact cell_at (hc.rd hS).pts | exact hb.rd hS | exact hS.cellO 4 (by omega) | exact hS.cellO 5 (by omega) | exact hS.cellO 6 (by omega) | exact hS.cellO 7 (by omega) | exact hS.cellO 8 (by omega) | exact hS.cellO 9 (by omega) | exact hS.cellO 10 (by omega) | exact hS.cellO 11 (by omega) | exact hS.cellO 12 (by omega) | exact hS.cellO 13 (by omega) | exact hS.cellO 2 (by omega) | exact hS.cellO 3 (by omega))) ?_)) ?_))
    refine X_callg 74 rfl rfl rfl rfl rfl (hC b _ (hS.rd (by simp))) ?_
    rintro _ _ ⟨rfl, rfl⟩
    repeat (first | (refine G_id ?_; first | refine G_nil ?_ | refine G_plain rfl rfl ?_) | (refine X_id ?_; first | refine X_yl (Yl_assign rfl rfl) rfl rfl ?_) | (refine C_id ?_; first | refine C_seq ?_ | refine C_region ?_ | refine C_ret ?_ | refine C_cond_t rfl ?_) | (refine E_id ?_; first | refine E_code ?_ | refine E_then_ret ?_ | refine E_blk_ret ?_ | refine E_ret1 rfl (Rv_tmp rfl) (Ret.mk ?_)) | (refine GO_id ?_; first | refine GO_nil ?_ | refine GO_pure rfl rfl (fun _ => Yl_assign rfl rfl) rfl rfl ?_ | refine GO_pure rfl rfl (fun _ => Yl_not_f rfl rfl) rfl rfl ?_) | (refine Keep_id ?_; first | refine And.intro (by repeat (first | exact trivial | refine And.intro (.inl (by decide +kernel)) ?_ | refine And.intro (.inr (by first | assumption | exact hS.cell | exact cell_at (by assumption) | exact hS.cellI (by omega) | exact hS.cellIP (by omega) | exact hS.cellsN | exact ((hr.rd hS).cellX (by omega) hx) | exact ((hr2.rd hS).cellX (by omega) hx2) | exact hS.cellB (by omega) | exact hS.cellBA (by omega) | exact (hb.rd hS).cellB' (by omega) | exact (hb2.rd hS).cellB' (by omega) | exact (hg.rd hS).cellI (by omega) | exact (hg2.rd hS).cellI (by omega) | exact ((hr.rd hS).cellF (by first | omega | (dsimp only; omega)) hx) | exact ((hr2.rd hS).cellF (by first | omega | (dsimp only; omega)) hx2) | exact hS.cellO 0 (by omega) | exact hS.cellO 1 (by omega) | exact hS.cellIA (by omega) | exact (hg.rd hS).cellIA (by omega) | exact (hg2.rd hS).cellIA (by omega) | exact cell_at (hc.rd hS).pts | exact hb.rd hS | exact hS.cellO 4 (by omega) | exact hS.cellO 5 (by omega) | exact hS.cellO 6 (by omega) | exact hS.cellO 7 (by omega) | exact hS.cellO 8 (by omega) | exact hS.cellO 9 (by omega) | exact hS.cellO 10 (by omega) | exact hS.cellO 11 (by omega) | exact hS.cellO 12 (by omega) | exact hS.cellO 13 (by omega) | exact hS.cellO 2 (by omega) | exact hS.cellO 3 (by omega))) ?_)) ?_))
    exact ⟨rfl, hS.drops⟩
  case pos =>
    simp only [decide_eq_true h1] at hC
    refine calls_C Tryz.func150 rfl Tryz.ntmps150 rfl ?_
    repeat (first | (refine G_id ?_; first | refine G_nil ?_ | refine G_plain rfl rfl ?_) | (refine X_id ?_; first | refine X_yl (Yl_assign rfl rfl) rfl rfl ?_ | refine X_box rfl rfl rfl rfl hS (fun _ _ hS _ => ?_)) | (refine C_id ?_; first | refine C_seq ?_ | refine C_region ?_ | refine C_block ?_) | (refine E_id ?_; first | refine E_code ?_))
    refine C_ord (.s 1 (.s 2 (.h 0 (.h 3 (.s 4 (.s 5 .nil)) .no) .no))) mixed (by kernel_rfl) rfl ?_
    have hS := hS.drew
    repeat (first | (refine GO_id ?_; first | refine GO_pure rfl rfl (fun _ => Yl_fieldAddr0 rfl rfl rfl) rfl rfl ?_ | refine GO_read (fun w' => w'.cell? _ = some _) rfl rfl hS.cell (fun _ hc => Yl_load rfl rfl hc) rfl rfl ?_ | refine GO_hard rfl rfl ?_))
    refine X_callg _ rfl rfl rfl rfl rfl (hF _ (hT.at_ hS)) ?_
    rintro _ w ⟨b, rfl, hS'⟩
    replace hS := hS.plus hS'
    clear hS'
    repeat (first | (refine GO_id ?_; first | refine GO_hard rfl rfl ?_) | (refine Keep_id ?_; first | refine And.intro (by repeat (first | exact trivial | refine And.intro (.inl (by decide +kernel)) ?_ | refine And.intro (.inr (by first | assumption | exact hS.cell | exact cell_at (by assumption) | exact hS.cellI (by omega) | exact hS.cellIP (by omega) | exact hS.cellsN | exact ((hr.rd hS).cellX (by omega) hx) | exact ((hr2.rd hS).cellX (by omega) hx2) | exact hS.cellB (by omega) | exact hS.cellBA (by omega) | exact (hb.rd hS).cellB' (by omega) | exact (hb2.rd hS).cellB' (by omega) | exact (hg.rd hS).cellI (by omega) | exact (hg2.rd hS).cellI (by omega) | exact ((hr.rd hS).cellF (by first | omega | (dsimp only; omega)) hx) | exact ((hr2.rd hS).cellF (by first | omega | (dsimp only; omega)) hx2) | exact hS.cellO 0 (by omega) | exact hS.cellO 1 (by omega) | exact hS.cellIA (by omega) | exact (hg.rd hS).cellIA (by omega) | exact (hg2.rd hS).cellIA (by omega) | exact cell_at (hc.rd hS).pts | exact hb.rd hS | exact hS.cellO 4 (by omega) | exact hS.cellO 5 (by omega) | exact hS.cellO 6 (by omega) | exact hS.cellO 7 (by omega) | exact hS.cellO 8 (by omega) | exact hS.cellO 9 (by omega) | exact hS.cellO 10 (by omega) | exact hS.cellO 11 (by omega) | exact hS.cellO 12 (by omega) | exact hS.cellO 13 (by omega) | exact hS.cellO 2 (by omega) | exact hS.cellO 3 (by omega))) ?_)) ?_))
    refine X_callg 74 rfl rfl rfl rfl rfl (hC b _ (hS.rd (by simp))) ?_
    rintro _ _ ⟨rfl, rfl⟩
    by_cases p1 : namedOk r.pub
    · rw [decide_eq_true p1] at hN1
      by_cases p2 : namedOk r.pkg
      · rw [decide_eq_true p2] at hN2
        have e : rchk r = if 0 ≤ r.rev ∧ r.rev ≤ 999999 ∧ 0 ≤ r.out ∧ r.out ≤ 19 then 0 else 2 := by unfold rchk; rw [if_pos h1, if_pos ⟨p1, p2⟩]
        repeat' (first | (refine X_callq 208 rfl rfl rfl rfl rfl hS (hN1 _) ?_; rintro _ _ rfl hS) | (refine X_callq 208 rfl rfl rfl rfl rfl hS (hN2 _) ?_; rintro _ _ rfl hS) | (refine G_id ?_; first | refine G_nil ?_ | refine G_plain rfl rfl ?_ | refine G_yes rfl rfl rfl rfl ?_ | refine G_no rfl rfl rfl rfl rfl rfl ?_) | (refine X_id ?_; first | refine X_yl (Yl_move rfl rfl) rfl rfl ?_ | refine X_yl (Yl_assign rfl rfl) rfl rfl ?_ | refine X_yl (Yl_fieldAddr0 rfl rfl rfl) rfl rfl ?_ | refine X_yl (Yl_pick_t rfl rfl rfl) rfl rfl ?_ | refine X_yl (Yl_pick_f rfl rfl rfl) rfl rfl ?_ | refine X_yl (Yl_not_t rfl rfl) rfl rfl ?_ | refine X_yl (Yl_lss rfl rfl rfl) rfl rfl ?_ | refine X_yl (Yl_gtr rfl rfl rfl) rfl rfl ?_ | refine X_yl (Yl_load rfl rfl hS.cell) rfl rfl ?_) | (refine C_id ?_; first | refine C_seq ?_ | refine C_region ?_ | refine C_ret ?_ | refine C_skip ?_ | refine C_cond_t rfl ?_ | refine C_cond_f rfl ?_) | (refine E_id ?_; first | refine E_code ?_ | refine E_then_ret ?_ | refine E_blk_n ?_ | refine E_blk_ret ?_ | refine E_ret1 rfl (Rv_tmp rfl) (Ret.mk ?_)) | (refine GO_id ?_; first | refine GO_nil ?_ | refine GO_pure rfl rfl (fun _ => Yl_assign rfl rfl) rfl rfl ?_ | refine GO_pure rfl rfl (fun _ => Yl_not_t rfl rfl) rfl rfl ?_) | (refine Keep_id ?_; first | refine And.intro (by repeat (first | exact trivial | refine And.intro (.inl (by decide +kernel)) ?_ | refine And.intro (.inr (by first | assumption | exact hS.cell | exact cell_at (by assumption) | exact hS.cellI (by omega) | exact hS.cellIP (by omega) | exact hS.cellsN | exact ((hr.rd hS).cellX (by omega) hx) | exact ((hr2.rd hS).cellX (by omega) hx2) | exact hS.cellB (by omega) | exact hS.cellBA (by omega) | exact (hb.rd hS).cellB' (by omega) | exact (hb2.rd hS).cellB' (by omega) | exact (hg.rd hS).cellI (by omega) | exact (hg2.rd hS).cellI (by omega) | exact ((hr.rd hS).cellF (by first | omega | (dsimp only; omega)) hx) | exact ((hr2.rd hS).cellF (by first | omega | (dsimp only; omega)) hx2) | exact hS.cellO 0 (by omega) | exact hS.cellO 1 (by omega) | exact hS.cellIA (by omega) | exact (hg.rd hS).cellIA (by omega) | exact (hg2.rd hS).cellIA (by omega) | exact cell_at (hc.rd hS).pts | exact hb.rd hS | exact hS.cellO 4 (by omega) | exact hS.cellO 5 (by omega) | exact hS.cellO 6 (by omega) | exact hS.cellO 7 (by omega) | exact hS.cellO 8 (by omega) | exact hS.cellO 9 (by omega) | exact hS.cellO 10 (by omega) | exact hS.cellO 11 (by omega) | exact hS.cellO 12 (by omega) | exact hS.cellO 13 (by omega) | exact hS.cellO 2 (by omega) | exact hS.cellO 3 (by omega))) ?_)) ?_) | (refine G_split (d := 24) rfl ?_ ?_ <;> intro hd) | (refine G_split (d := 29) rfl ?_ ?_ <;> intro hd) | (refine G_split (d := 34) rfl ?_ ?_ <;> intro hd) | (refine C_cond_dec rfl ?_ ?_ <;> intro hd))
        all_goals
          refine ⟨?_, hS.drops⟩
          rw [e]
          first | (rw [if_pos (by omega)]; rfl) | (rw [if_neg (by omega)]; rfl)
      · rw [decide_eq_false p2] at hN2
        rw [show rchk r = 10 by unfold rchk; rw [if_pos h1, if_neg (fun q => p2 q.2)]]
        repeat (first | (refine G_id ?_; first | refine G_nil ?_ | refine G_plain rfl rfl ?_ | refine G_yes rfl rfl rfl rfl ?_) | (refine X_id ?_; first | (refine X_callq 208 rfl rfl rfl rfl rfl hS (hN1 _) ?_; rintro _ _ rfl hS) | (refine X_callq 208 rfl rfl rfl rfl rfl hS (hN2 _) ?_; rintro _ _ rfl hS) | refine X_yl (Yl_move rfl rfl) rfl rfl ?_ | refine X_yl (Yl_assign rfl rfl) rfl rfl ?_ | refine X_yl (Yl_fieldAddr0 rfl rfl rfl) rfl rfl ?_ | refine X_yl (Yl_pick_f rfl rfl rfl) rfl rfl ?_ | refine X_yl (Yl_not_t rfl rfl) rfl rfl ?_ | refine X_yl (Yl_not_f rfl rfl) rfl rfl ?_ | refine X_yl (Yl_load rfl rfl hS.cell) rfl rfl ?_) | (refine C_id ?_; first | refine C_seq ?_ | refine C_region ?_ | refine C_ret ?_ | refine C_cond_t rfl ?_ | refine C_cond_f rfl ?_) | (refine E_id ?_; first | refine E_code ?_ | refine E_then_ret ?_ | refine E_blk_ret ?_ | refine E_ret1 rfl (Rv_tmp rfl) (Ret.mk ?_)) | (refine GO_id ?_; first | refine GO_nil ?_ | refine GO_pure rfl rfl (fun _ => Yl_assign rfl rfl) rfl rfl ?_ | refine GO_pure rfl rfl (fun _ => Yl_not_t rfl rfl) rfl rfl ?_) | (refine Keep_id ?_; first | refine And.intro (by repeat (first | exact trivial | refine And.intro (.inl (by decide +kernel)) ?_ | refine And.intro (.inr (by first | assumption | exact hS.cell | exact cell_at (by assumption) | exact hS.cellI (by omega) | exact hS.cellIP (by omega) | exact hS.cellsN | exact ((hr.rd hS).cellX (by omega) hx) | exact ((hr2.rd hS).cellX (by omega) hx2) | exact hS.cellB (by omega) | exact hS.cellBA (by omega) | exact (hb.rd hS).cellB' (by omega) | exact (hb2.rd hS).cellB' (by omega) | exact (hg.rd hS).cellI (by omega) | exact (hg2.rd hS).cellI (by omega) | exact ((hr.rd hS).cellF (by first | omega | (dsimp only; omega)) hx) | exact ((hr2.rd hS).cellF (by first | omega | (dsimp only; omega)) hx2) | exact hS.cellO 0 (by omega) | exact hS.cellO 1 (by omega) | exact hS.cellIA (by omega) | exact (hg.rd hS).cellIA (by omega) | exact (hg2.rd hS).cellIA (by omega) | exact cell_at (hc.rd hS).pts | exact hb.rd hS | exact hS.cellO 4 (by omega) | exact hS.cellO 5 (by omega) | exact hS.cellO 6 (by omega) | exact hS.cellO 7 (by omega) | exact hS.cellO 8 (by omega) | exact hS.cellO 9 (by omega) | exact hS.cellO 10 (by omega) | exact hS.cellO 11 (by omega) | exact hS.cellO 12 (by omega) | exact hS.cellO 13 (by omega) | exact hS.cellO 2 (by omega) | exact hS.cellO 3 (by omega))) ?_)) ?_))
        exact ⟨rfl, hS.drops⟩
    · rw [decide_eq_false p1] at hN1
      rw [show rchk r = 10 by unfold rchk; rw [if_pos h1, if_neg (fun q => p1 q.1)]]
      repeat (first | (refine G_id ?_; first | refine G_nil ?_ | refine G_plain rfl rfl ?_ | refine G_no rfl rfl rfl rfl rfl rfl ?_) | (refine X_id ?_; first | (refine X_callq 208 rfl rfl rfl rfl rfl hS (hN1 _) ?_; rintro _ _ rfl hS) | refine X_yl (Yl_move rfl rfl) rfl rfl ?_ | refine X_yl (Yl_assign rfl rfl) rfl rfl ?_ | refine X_yl (Yl_fieldAddr0 rfl rfl rfl) rfl rfl ?_ | refine X_yl (Yl_pick_t rfl rfl rfl) rfl rfl ?_ | refine X_yl (Yl_not_f rfl rfl) rfl rfl ?_ | refine X_yl (Yl_load rfl rfl hS.cell) rfl rfl ?_) | (refine C_id ?_; first | refine C_seq ?_ | refine C_region ?_ | refine C_ret ?_ | refine C_cond_t rfl ?_ | refine C_cond_f rfl ?_) | (refine E_id ?_; first | refine E_code ?_ | refine E_then_ret ?_ | refine E_blk_ret ?_ | refine E_ret1 rfl (Rv_tmp rfl) (Ret.mk ?_)) | (refine GO_id ?_; first | refine GO_nil ?_ | refine GO_pure rfl rfl (fun _ => Yl_assign rfl rfl) rfl rfl ?_ | refine GO_pure rfl rfl (fun _ => Yl_not_t rfl rfl) rfl rfl ?_) | (refine Keep_id ?_; first | refine And.intro (by repeat (first | exact trivial | refine And.intro (.inl (by decide +kernel)) ?_ | refine And.intro (.inr (by first | assumption | exact hS.cell | exact cell_at (by assumption) | exact hS.cellI (by omega) | exact hS.cellIP (by omega) | exact hS.cellsN | exact ((hr.rd hS).cellX (by omega) hx) | exact ((hr2.rd hS).cellX (by omega) hx2) | exact hS.cellB (by omega) | exact hS.cellBA (by omega) | exact (hb.rd hS).cellB' (by omega) | exact (hb2.rd hS).cellB' (by omega) | exact (hg.rd hS).cellI (by omega) | exact (hg2.rd hS).cellI (by omega) | exact ((hr.rd hS).cellF (by first | omega | (dsimp only; omega)) hx) | exact ((hr2.rd hS).cellF (by first | omega | (dsimp only; omega)) hx2) | exact hS.cellO 0 (by omega) | exact hS.cellO 1 (by omega) | exact hS.cellIA (by omega) | exact (hg.rd hS).cellIA (by omega) | exact (hg2.rd hS).cellIA (by omega) | exact cell_at (hc.rd hS).pts | exact hb.rd hS | exact hS.cellO 4 (by omega) | exact hS.cellO 5 (by omega) | exact hS.cellO 6 (by omega) | exact hS.cellO 7 (by omega) | exact hS.cellO 8 (by omega) | exact hS.cellO 9 (by omega) | exact hS.cellO 10 (by omega) | exact hS.cellO 11 (by omega) | exact hS.cellO 12 (by omega) | exact hS.cellO 13 (by omega) | exact hS.cellO 2 (by omega) | exact hS.cellO 3 (by omega))) ?_)) ?_))
      exact ⟨rfl, hS.drops⟩
end Cr
namespace Cr
open Go
theorem Rd.cellsX {w : World} {a : Option Addr} {cs seg : List Value} {i' i n : Nat} (H : Rd w (Cr.row a cs)) (hi : i' = i) (h : (cs.drop i).take n = seg) (hn : seg.length = n) : CellsN w (adr a i') n seg := by
  subst hi; subst h
  exact ⟨H.seg _ _, hn⟩
end Cr
namespace Cr
open Go Go.Proofs
set_option maxRecDepth 100000
set_option maxHeartbeats 4000000
attribute [local irreducible] Calls

theorem text_ (s : List UInt8) (W : World) : Calls Tryz.prog 82 #[.string (str s)] W (Ret fun v w => ∃ b c, v = .agg (List.toArray [.int .i64 1, .int .i64 0, .slice b s.length c, z0]) ∧ St W noF [leafR (.txt s) [.int .i64 1, .int .i64 0, .slice b s.length c, z0]] w) := by
  have hS := St.start W
  refine calls_C Tryz.func82 rfl Tryz.ntmps82 rfl ?_
  repeat (first | (refine G_id ?_; first | refine G_nil ?_ | refine G_plain rfl rfl ?_) | (refine X_id ?_; first | refine X_yl (Yl_move rfl rfl) rfl rfl ?_ | refine X_yl (Yl_build rfl rfl rfl) rfl rfl ?_ | refine X_store rfl rfl rfl rfl hS (fun _ hS _ => ?_) | refine X_alloc rfl rfl rfl hS (fun _ _ hS _ => ?_) | refine X_strBytes rfl rfl rfl rfl hS (fun _ _ _ hS _ => ?_)) | (refine C_id ?_; first | refine C_seq ?_ | refine C_region ?_ | refine C_ret ?_) | (refine E_id ?_; first | refine E_code ?_ | refine E_ret1 rfl (by first | exact Rv_tmp rfl | exact Rv_cell rfl (run_load1 hS.cell) | exact Rv_cell rfl (run_loadN hS.cellsN)) (Ret.mk ?_)))
  refine ⟨_, _, rfl, ?_⟩
  have hS := hS.pick [0]
  exact hS.head fun _ h => ⟨_, _, rfl, h⟩
theorem int_ (n : Int) (W : World) : Calls Tryz.prog 146 #[.int .i64 n] W (Ret fun v w => v = .agg (List.toArray [.int .i64 0, .int .i64 n, z0, z0]) ∧ St W noF [leafR (.num n) [.int .i64 0, .int .i64 n, z0, z0]] w) := by
  have hS := St.start W
  refine calls_C Tryz.func146 rfl Tryz.ntmps146 rfl ?_
  repeat (first | (refine G_id ?_; first | refine G_nil ?_ | refine G_plain rfl rfl ?_) | (refine X_id ?_; first | refine X_yl (Yl_move rfl rfl) rfl rfl ?_ | refine X_yl (Yl_build rfl rfl rfl) rfl rfl ?_ | refine X_store rfl rfl rfl rfl hS (fun _ hS _ => ?_) | refine X_alloc rfl rfl rfl hS (fun _ _ hS _ => ?_)) | (refine C_id ?_; first | refine C_seq ?_ | refine C_region ?_ | refine C_ret ?_) | (refine E_id ?_; first | refine E_code ?_ | refine E_ret1 rfl (by first | exact Rv_tmp rfl | exact Rv_cell rfl (run_load1 hS.cell) | exact Rv_cell rfl (run_loadN hS.cellsN)) (Ret.mk ?_)))
  refine ⟨rfl, ?_⟩
  have hS : St W noF [] _ := hS.took
  exact hS.imp fun _ h => Sep.shut_head (ps := []) (fun _ hg => ⟨rfl, hg⟩) h
theorem bclone_nil (W : World) : Calls Tryz.prog 48 #[.slice none 0 0] W (Ret fun v w => v = .slice none 0 0 ∧ St W noF [] w) := by
  have hS := St.start W
  refine calls_C Tryz.func48 rfl Tryz.ntmps48 rfl ?_
  repeat (first | (refine G_id ?_; first | refine G_nil ?_ | refine G_plain rfl rfl ?_) | (refine X_id ?_; first | refine X_yl (Yl_move rfl rfl) rfl rfl ?_ | refine X_yl (Yl_assign rfl rfl) rfl rfl ?_ | refine X_yl (Yl_eqlNilSlice rfl rfl rfl) rfl rfl ?_) | (refine C_id ?_; first | refine C_seq ?_ | refine C_region ?_ | refine C_ret ?_ | refine C_cond_t rfl ?_) | (refine E_id ?_; first | refine E_code ?_ | refine E_then_ret ?_ | refine E_ret1 rfl (Rv_tmp rfl) (Ret.mk ?_)))
  exact ⟨rfl, hS⟩
theorem LeafRo.lit {W : World} {F : Nat → Prop} {y : Leaf} {cs : List Value} (H : LeafRo W F y cs) : ∃ k n a1 n1 c1 a2 n2 c2, cs = [.int .i64 k, .int .i64 n, .slice a1 n1 c1, .slice a2 n2 c2] := by
  cases y with
  | num n => exact ⟨_, _, _, _, _, _, _, _, H⟩
  | txt b => obtain ⟨a, c, rfl, _⟩ := H; exact ⟨_, _, _, _, _, _, _, _, rfl⟩
  | oth => obtain ⟨a, n, c, rfl⟩ := H; exact ⟨_, _, _, _, _, _, _, _, rfl⟩
theorem leaf_lit {y : Leaf} {cs : List Value} {h : Frag} (H : leafR y cs h) : ∃ k n a1 n1 c1 a2 n2 c2, cs = [.int .i64 k, .int .i64 n, .slice a1 n1 c1, .slice a2 n2 c2] := by
  cases y with
  | num n => exact ⟨_, _, _, _, _, _, _, _, H.1⟩
  | txt b => obtain ⟨a, c, rfl, _⟩ := H; exact ⟨_, _, _, _, _, _, _, _, rfl⟩
  | oth => obtain ⟨a, n, c, rfl, _⟩ := H; exact ⟨_, _, _, _, _, _, _, _, rfl⟩
theorem St.leaf_lit {W : World} {F : Nat → Prop} {q : List Res} {w : World} {y : Leaf} {cs : List Value} (hS : St W F (leafR y cs :: q) w) : ∃ k n a1 n1 c1 a2 n2 c2, cs = [.int .i64 k, .int .i64 n, .slice a1 n1 c1, .slice a2 n2 c2] := by
  obtain ⟨_, ⟨h1, _, H, _⟩, _⟩ := hS
  exact Cr.leaf_lit H
theorem copied_ (y : Leaf) (cs : List Value) (W : World) (F : Nat → Prop) (hy : LeafRo W F y cs) (hne : y ≠ .oth) (hf : ∀ b, y = .txt b → b.length ≤ 1073741824) :
    Calls Tryz.prog 147 #[.agg (List.toArray cs), .int .i64 8] W (Ret fun v w => ∃ cs', v = .agg (List.toArray cs') ∧ St W noF [leafR y cs'] w) := by
  have hS := St.start W
  cases y with
  | oth => exact absurd rfl hne
  | num n =>
    obtain rfl := hy
    refine calls_C Tryz.func147 rfl Tryz.ntmps147 rfl ?_
    repeat (first | (refine G_id ?_; first | refine G_nil ?_ | refine G_plain rfl rfl ?_) | (refine X_id ?_; first | refine X_yl (Yl_fieldAddr0 rfl rfl rfl) rfl rfl ?_ | refine X_yl (Yl_load rfl rfl hS.cell) rfl rfl ?_ | refine X_box rfl rfl rfl rfl hS (fun _ _ hS _ => ?_) | refine X_alloc rfl rfl rfl hS (fun _ _ hS _ => ?_)) | (refine C_id ?_; first | refine C_seq ?_ | refine C_region ?_) | (refine E_id ?_; first | refine E_code ?_))
    rename_i b2 _ _ _ b4 _ _
    refine X_callq 48 rfl rfl rfl rfl rfl hS (bclone_nil _) ?_
    rintro _ w rfl hS
    repeat (first | (refine G_id ?_; first | refine G_nil ?_ | refine G_plain rfl rfl ?_) | (refine X_id ?_; first | refine X_yl (Yl_move rfl rfl) rfl rfl ?_ | refine X_yl (Yl_assign rfl rfl) rfl rfl ?_ | refine X_yl (Yl_fieldAddr0 rfl rfl rfl) rfl rfl ?_ | refine X_yl (Yl_len rfl rfl) rfl rfl ?_ | refine X_yl (Yl_gtr_t rfl rfl rfl (by omega)) rfl rfl ?_ | refine X_yl (Yl_load rfl rfl hS.cell) rfl rfl ?_ | refine X_store rfl rfl rfl rfl hS (fun _ hS _ => ?_)) | (refine C_id ?_; first | refine C_seq ?_ | refine C_region ?_ | refine C_block ?_ | refine C_cond_t rfl ?_) | (refine E_id ?_; first | refine E_code ?_))
    refine C_loop (α := Unit) (fun _ => [(2, .pointer (some ⟨b2, 0, none⟩)), (4, .pointer (some ⟨b4, 0, none⟩)), (18, .int .i64 0), (19, .int .i64 0)]) (fun _ w => St W noF [pts b4 (.cells (List.toArray [.int .i64 0, .int .i64 0, .slice none 0 0, .slice none 0 0]) 149 (0, 0)), pts b2 (.cells (List.toArray [.int .i64 0, .int .i64 n, .slice none 0 0, .slice none 0 0]) 149 (0, 0))] w) (fun _ => 0) () ⟨rfl, rfl, rfl, rfl, trivial⟩ hS ?_
    clear hS
    rintro _ w hS
    repeat (first | (refine G_id ?_; first | refine G_nil ?_ | refine G_plain rfl rfl ?_) | (refine X_id ?_; first | refine X_yl (Yl_lss_f rfl rfl rfl (by omega)) rfl rfl ?_ | refine X_yl (Yl_loadN rfl rfl hS.cellsN) rfl rfl ?_ | refine X_store rfl rfl rfl rfl hS (fun _ hS _ => ?_)) | (refine C_id ?_; first | refine C_seq ?_ | refine C_region ?_ | refine C_ret ?_ | refine C_exit ?_ | refine C_cond_f rfl ?_) | (refine E_id ?_; first | refine E_code ?_ | refine E_then_exit ?_ | refine E_blk_same ?_ | refine E_ret1 rfl (by first | exact Rv_tmp rfl | exact Rv_cell rfl (run_load1 hS.cell) | exact Rv_cell rfl (run_loadN hS.cellsN)) (Ret.mk ?_)))
    refine ⟨_, rfl, ?_⟩
    have hS : St W noF [] _ := hS.took
    exact hS.imp fun _ h => Sep.shut_head (ps := []) (fun _ hg => ⟨rfl, hg⟩) h
  | txt b =>
    obtain ⟨a, c, rfl, hb⟩ := hy
    have hbl := hf b rfl
    replace hb : Ro W noF (bytes a b) := hb.start.ro
    refine calls_C Tryz.func147 rfl Tryz.ntmps147 rfl ?_
    repeat (first | (refine G_id ?_; first | refine G_nil ?_ | refine G_plain rfl rfl ?_) | (refine X_id ?_; first | refine X_yl (Yl_fieldAddr0 rfl rfl rfl) rfl rfl ?_ | refine X_yl (Yl_load rfl rfl hS.cell) rfl rfl ?_ | refine X_box rfl rfl rfl rfl hS (fun _ _ hS _ => ?_) | refine X_alloc rfl rfl rfl hS (fun _ _ hS _ => ?_)) | (refine C_id ?_; first | refine C_seq ?_ | refine C_region ?_) | (refine E_id ?_; first | refine E_code ?_))
    rename_i b2 _ _ _ b4 _ _
    refine X_callg _ rfl rfl rfl rfl rfl (bclone_ _ _ _ b _ (hb.rd hS) rfl hbl) ?_
    rintro _ w ⟨a', c', rfl, _, _, hS'⟩
    replace hS := hS.plus hS'
    clear hS'
    repeat (first | (refine G_id ?_; first | refine G_nil ?_ | refine G_plain rfl rfl ?_) | (refine X_id ?_; first | refine X_yl (Yl_move rfl rfl) rfl rfl ?_ | refine X_yl (Yl_assign rfl rfl) rfl rfl ?_ | refine X_yl (Yl_fieldAddr0 rfl rfl rfl) rfl rfl ?_ | refine X_yl (Yl_len rfl rfl) rfl rfl ?_ | refine X_yl (Yl_gtr_t rfl rfl rfl (by omega)) rfl rfl ?_ | refine X_yl (Yl_load rfl rfl hS.cell) rfl rfl ?_ | refine X_store rfl rfl rfl rfl hS (fun _ hS _ => ?_)) | (refine C_id ?_; first | refine C_seq ?_ | refine C_region ?_ | refine C_block ?_ | refine C_cond_t rfl ?_) | (refine E_id ?_; first | refine E_code ?_))
    refine C_loop (α := Unit) (fun _ => [(2, .pointer (some ⟨b2, 0, none⟩)), (4, .pointer (some ⟨b4, 0, none⟩)), (18, .int .i64 0), (19, .int .i64 0)]) (fun _ w => St W noF [own 5 1 a' c' (bv b), pts b4 (.cells (List.toArray [.int .i64 0, .int .i64 0, .slice none 0 0, .slice none 0 0]) 149 (0, 0)), pts b2 (.cells (List.toArray [.int .i64 1, .int .i64 0, .slice a' b.length c', .slice none 0 0]) 149 (0, 0))] w) (fun _ => 0) () ⟨rfl, rfl, rfl, rfl, trivial⟩ hS ?_
    clear hS
    rintro _ w hS
    repeat (first | (refine G_id ?_; first | refine G_nil ?_ | refine G_plain rfl rfl ?_) | (refine X_id ?_; first | refine X_yl (Yl_lss_f rfl rfl rfl (by omega)) rfl rfl ?_ | refine X_yl (Yl_loadN rfl rfl hS.cellsN) rfl rfl ?_ | refine X_store rfl rfl rfl rfl hS (fun _ hS _ => ?_)) | (refine C_id ?_; first | refine C_seq ?_ | refine C_region ?_ | refine C_ret ?_ | refine C_exit ?_ | refine C_cond_f rfl ?_) | (refine E_id ?_; first | refine E_code ?_ | refine E_then_exit ?_ | refine E_blk_same ?_ | refine E_ret1 rfl (by first | exact Rv_tmp rfl | exact Rv_cell rfl (run_load1 hS.cell) | exact Rv_cell rfl (run_loadN hS.cellsN)) (Ret.mk ?_)))
    refine ⟨_, rfl, ?_⟩
    have hS := hS.pick [0]
    exact hS.head fun _ h => ⟨_, _, rfl, h.row⟩
theorem of_ (a : Option Addr) (x : List Leaf) (c : Nat) (rows : List (List Value)) (W : World) (hr : Ro W noF (row a rows.flatten)) (hx : Leaves W noF x rows) (hne : Leaf.oth ∉ x) (hf : ∀ b, Leaf.txt b ∈ x → b.length ≤ 1073741824) (hxl : x.length ≤ 1024) :
    Calls Tryz.prog 81 #[.slice a x.length c] W (Ret fun v w => ∃ b q rows', v = .agg (List.toArray [.int .i64 2, .int .i64 0, z0, .slice b x.length q]) ∧ x.length ≤ q ∧ rows'.flatten.length = x.length * 4 ∧ St W noF [own 149 4 b q rows'.flatten, leavesR x rows'] w) := by
  have hS := St.start W
  refine calls_C Tryz.func81 rfl Tryz.ntmps81 rfl ?_
  repeat (first | (refine G_id ?_; first | refine G_nil ?_ | refine G_plain rfl rfl ?_) | (refine X_id ?_; first | refine X_yl (Yl_move rfl rfl) rfl rfl ?_ | refine X_yl (Yl_len rfl rfl) rfl rfl ?_ | refine X_yl (Yl_build rfl rfl rfl) rfl rfl ?_ | refine X_store rfl rfl rfl rfl hS (fun _ hS _ => ?_) | refine X_alloc rfl rfl rfl hS (fun _ _ hS _ => ?_)) | (refine C_id ?_; first | refine C_seq ?_ | refine C_region ?_ | refine C_block ?_) | (refine E_id ?_; first | refine E_code ?_))
  rename_i b2 _ _ _ b3 _ _ _ _ _
  refine C_loop (α := Nat × Option Addr × Nat) (fun z => [(2, .pointer (some ⟨b2, 0, none⟩)), (3, .pointer (some ⟨b3, 0, none⟩)), (7, .slice a x.length c), (8, .int .i64 (x.length : Nat)), (9, .int .i64 (z.1 : Nat))])
    (fun z w => z.1 ≤ x.length ∧ z.1 ≤ z.2.2 ∧ ∃ rows', rows'.flatten.length = z.1 * 4 ∧ St W noF [own 149 4 z.2.1 z.2.2 rows'.flatten, leavesR (x.take z.1) rows', pts b3 (.cells (List.toArray [.int .i64 2, .int .i64 0, .slice none 0 0, .slice z.2.1 z.1 z.2.2]) 149 (0, 0)), pts b2 (.cells (List.toArray [.int .i64 0, .int .i64 0, .slice none 0 0, .slice none 0 0]) 149 (0, 0))] w)
    (fun z => x.length - z.1) (0, none, 0) ⟨rfl, rfl, rfl, rfl, rfl, trivial⟩ ⟨Nat.zero_le _, Nat.le_refl _, [], rfl, (hS.leaves_nil).own_none _ _ _⟩ ?_
  clear hS
  rintro ⟨i, b, q⟩ w ⟨hi, hiq, rows', hrl, hS⟩
  simp only at hi hiq hrl hS
  by_cases hlt : i < x.length
  · have hy0 : x[i]? = some x[i] := List.getElem?_eq_getElem hlt
    obtain ⟨y, hyx⟩ : ∃ y, y = x[i] := ⟨_, rfl⟩
    rw [← hyx] at hy0
    have hymem : y ∈ x := List.mem_of_getElem? hy0
    obtain ⟨cs, hxs, hy⟩ := hx.at_ hy0
    obtain ⟨k1, k2, a1, n1, c1, a2, n2, c2, rfl⟩ := hy.lit
    obtain ⟨ab, ao, rfl⟩ := hr.start.base (by
      intro e
      rw [e] at hxs
      simp at hxs)
    repeat (first | (refine G_id ?_; first | refine G_nil ?_ | refine G_plain rfl rfl ?_) | (refine X_id ?_; first | refine X_yl (Yl_lss_t rfl rfl rfl (by omega)) rfl rfl ?_ | refine X_yl (Yl_indexAddr rfl rfl rfl (by omega) (by omega) (by first | assumption | exact ⟨_, _, rfl⟩)) rfl rfl ?_ | refine X_yl (Yl_loadN rfl rfl ((hr.rd hS).cellsX (by omega) hxs rfl)) rfl rfl ?_ | refine X_store rfl rfl rfl rfl hS (fun _ hS _ => ?_) | refine X_alloc rfl rfl rfl hS (fun _ _ hS _ => ?_)) | (refine C_id ?_; first | refine C_seq ?_ | refine C_region ?_ | refine C_block ?_ | refine C_skip ?_ | refine C_cond_t rfl ?_) | (refine E_id ?_; first | refine E_code ?_))
    refine C_ord (.s 0 (.s 1 (.s 2 (.h 3 (.h 4 (.h 5 (.s 6 (.h 7 .nil .no)) .no) .no) .no)))) mixed (by kernel_rfl) rfl ?_
    have hS := hS.drew
    repeat (first | (refine GO_id ?_; first | refine GO_pure rfl rfl (fun _ => Yl_fieldAddr0 rfl rfl rfl) rfl rfl ?_ | refine GO_read (fun w' => w'.cell? _ = some _) rfl rfl hS.cell (fun _ hc => Yl_load rfl rfl hc) rfl rfl ?_ | refine GO_read (fun w' => CellsN w' _ _ _) rfl rfl hS.cellsN (fun _ hc => Yl_loadN rfl rfl hc) rfl rfl ?_ | refine GO_hard rfl rfl ?_))
    refine X_callg _ rfl rfl rfl rfl rfl (copied_ y _ _ noF (hy.mono fun r h => (h.rd hS).ro) (fun e => hne (e ▸ hymem)) (fun b e => hf b (e ▸ hymem))) ?_
    rintro _ w ⟨cs', rfl, hS'⟩
    replace hS := hS.plus hS'
    clear hS'
    obtain ⟨l1, l2, d1, m1, e1, d2, m2, e2, rfl⟩ := hS.leaf_lit
    repeat (first | (refine X_id ?_; first | refine X_buildSlice rfl rfl rfl rfl rfl rfl rfl rfl hS (fun _ _ hS _ => ?_)) | (refine GO_id ?_; first | refine GO_hard rfl rfl ?_) | (refine Keep_id ?_; first | refine And.intro (by repeat (first | exact trivial | refine And.intro (.inl (by decide +kernel)) ?_ | refine And.intro (.inr (by first | assumption | exact hS.cell | exact cell_at (by assumption) | exact hS.cellI (by omega) | exact hS.cellIP (by omega) | exact hS.cellsN | exact ((hr.rd hS).cellX (by omega) hx) | exact ((hr2.rd hS).cellX (by omega) hx2) | exact hS.cellB (by omega) | exact hS.cellBA (by omega) | exact (hb.rd hS).cellB' (by omega) | exact (hb2.rd hS).cellB' (by omega) | exact (hg.rd hS).cellI (by omega) | exact (hg2.rd hS).cellI (by omega) | exact ((hr.rd hS).cellF (by first | omega | (dsimp only; omega)) hx) | exact ((hr2.rd hS).cellF (by first | omega | (dsimp only; omega)) hx2) | exact hS.cellO 0 (by omega) | exact hS.cellO 1 (by omega) | exact hS.cellIA (by omega) | exact (hg.rd hS).cellIA (by omega) | exact (hg2.rd hS).cellIA (by omega) | exact cell_at (hc.rd hS).pts | exact hb.rd hS | exact hS.cellO 4 (by omega) | exact hS.cellO 5 (by omega) | exact hS.cellO 6 (by omega) | exact hS.cellO 7 (by omega) | exact hS.cellO 8 (by omega) | exact hS.cellO 9 (by omega) | exact hS.cellO 10 (by omega) | exact hS.cellO 11 (by omega) | exact hS.cellO 12 (by omega) | exact hS.cellO 13 (by omega) | exact hS.cellO 2 (by omega) | exact hS.cellO 3 (by omega))) ?_)) ?_))
    have hnw := (hS.rd (List.mem_cons_self ..)).own_row
    refine X_append rfl rfl rfl rfl rfl hS hrl hiq hnw rfl (by simp [Value.oneCell']) (by omega) (by simp only [maxLen]; omega) (fun b' q' w hS hq' _ => ?_)
    repeat (first | (refine G_id ?_; first | refine G_nil ?_ | refine G_plain rfl rfl ?_) | (refine X_id ?_; first | refine X_yl (Yl_move rfl rfl) rfl rfl ?_ | refine X_yl (Yl_add rfl rfl rfl (w64 (by omega) (by omega))) rfl rfl ?_ | refine X_store rfl rfl rfl rfl hS (fun _ hS _ => ?_)) | (refine C_id ?_; first | refine C_region ?_) | (refine E_id ?_; first | refine E_code ?_ | refine E_blk_n ?_) | (refine GO_id ?_; first | refine GO_nil ?_ | refine GO_pure rfl rfl (fun _ => Yl_fieldAddr0 rfl rfl rfl) rfl rfl ?_ | refine GO_hard rfl rfl ?_) | (refine Keep_id ?_; first | refine And.intro (by repeat (first | exact trivial | refine And.intro (.inl (by decide +kernel)) ?_ | refine And.intro (.inr (by first | assumption | exact hS.cell | exact cell_at (by assumption) | exact hS.cellI (by omega) | exact hS.cellIP (by omega) | exact hS.cellsN | exact ((hr.rd hS).cellX (by omega) hx) | exact ((hr2.rd hS).cellX (by omega) hx2) | exact hS.cellB (by omega) | exact hS.cellBA (by omega) | exact (hb.rd hS).cellB' (by omega) | exact (hb2.rd hS).cellB' (by omega) | exact (hg.rd hS).cellI (by omega) | exact (hg2.rd hS).cellI (by omega) | exact ((hr.rd hS).cellF (by first | omega | (dsimp only; omega)) hx) | exact ((hr2.rd hS).cellF (by first | omega | (dsimp only; omega)) hx2) | exact hS.cellO 0 (by omega) | exact hS.cellO 1 (by omega) | exact hS.cellIA (by omega) | exact (hg.rd hS).cellIA (by omega) | exact (hg2.rd hS).cellIA (by omega) | exact cell_at (hc.rd hS).pts | exact hb.rd hS | exact hS.cellO 4 (by omega) | exact hS.cellO 5 (by omega) | exact hS.cellO 6 (by omega) | exact hS.cellO 7 (by omega) | exact hS.cellO 8 (by omega) | exact hS.cellO 9 (by omega) | exact hS.cellO 10 (by omega) | exact hS.cellO 11 (by omega) | exact hS.cellO 12 (by omega) | exact hS.cellO 13 (by omega) | exact hS.cellO 2 (by omega) | exact hS.cellO 3 (by omega))) ?_)) ?_))
    refine E_round (z := (i, b, q)) (i + 1, b', q') ⟨rfl, rfl, rfl, rfl, rfl, trivial⟩ ⟨hlt, hq', rows' ++ [[.int .i64 l1, .int .i64 l2, .slice d1 m1 e1, .slice d2 m2 e2]], by simp [hrl]; omega, ?_⟩ (by dsimp only; omega)
    rw [List.take_succ_eq_append_getElem hlt, show x[i] = y by rw [List.getElem?_eq_getElem hlt] at hy0; exact Option.some.inj hy0]
    have hS : St W noF [leavesR (x.take i) rows', leafR y [.int .i64 l1, .int .i64 l2, .slice d1 m1 e1, .slice d2 m2 e2], own 149 4 b' q' (rows'.flatten ++ [.int .i64 l1, .int .i64 l2, .slice d1 m1 e1, .slice d2 m2 e2]),
      pts b3 (.cells (List.toArray [.int .i64 2, .int .i64 0, .slice none 0 0, .slice b' (i + 1) q']) 149 (0, 0)), pts b2 (.cells (List.toArray [.int .i64 0, .int .i64 0, .slice none 0 0, .slice none 0 0]) 149 (0, 0))] _ := hS.took
    have hS := hS.leaves_snoc
    rw [List.flatten_append]
    simpa using hS.took
  · obtain rfl : i = x.length := by omega
    repeat (first | (refine G_id ?_; first | refine G_nil ?_ | refine G_plain rfl rfl ?_) | (refine X_id ?_; first | refine X_yl (Yl_lss_f rfl rfl rfl (by omega)) rfl rfl ?_ | refine X_yl (Yl_loadN rfl rfl hS.cellsN) rfl rfl ?_ | refine X_store rfl rfl rfl rfl hS (fun _ hS _ => ?_)) | (refine C_id ?_; first | refine C_seq ?_ | refine C_region ?_ | refine C_ret ?_ | refine C_exit ?_ | refine C_cond_f rfl ?_) | (refine E_id ?_; first | refine E_code ?_ | refine E_then_exit ?_ | refine E_blk_same ?_ | refine E_ret1 rfl (by first | exact Rv_tmp rfl | exact Rv_cell rfl (run_load1 hS.cell) | exact Rv_cell rfl (run_loadN hS.cellsN)) (Ret.mk ?_)))
    rw [List.take_length] at hS
    exact ⟨b, q, rows', rfl, hiq, hrl, hS.took⟩
end Cr
namespace Cr
open Go
theorem Yl_minC {P : Program} {o : Oper} {σ : Env} {w : World} {x y : Operand} {ts : Array TypeId} {m n T : Nat} (ho : o.op = .call { callee := .builtin .min, args := #[x, y], argTypes := ts }) (hx : ev σ x = some (.int .i64 (m : Nat))) (hy : ev σ y = some (.int .i64 (n : Nat))) (hT : min m n = T) : Yl P o σ w (.int .i64 (T : Nat)) := ⟨fun N ds a ha => by
  simp [execOp, ho, resolve, invoke, builtin, ha.eval hx, ha.eval hy, Builtin.min_, Builtin.min2]
  rw [← hT]
  split <;> omega⟩
end Cr
namespace Cr
open Go Go.Proofs
theorem dec_big {m : Nat} (h : ¬ m < 10) : Lib.decDigits m = Lib.decDigits (m / 10) ++ [UInt8.ofNat (48 + m % 10)] := by
  rw [Lib.decDigits, dif_neg h]
theorem dec_len (k : Nat) : ∀ m, m < 10 ^ (k + 1) → (Lib.decDigits m).length ≤ k + 1 := by
  induction k with
  | zero => intro m h; rw [Lib.decDigits_one (by omega)]; simp
  | succ k ih =>
    intro m h
    by_cases h10 : m < 10
    · rw [Lib.decDigits_one h10]; simp
    · rw [dec_big h10]
      have := ih (m / 10) (by rw [Nat.pow_succ] at h; omega)
      simp; omega
theorem itoa_len {n : Int} (h0 : -9223372036854775808 ≤ n) (h1 : n ≤ 9223372036854775807) : (Lib.itoa n).length ≤ 20 := by
  unfold Lib.itoa
  split
  · have := dec_len 18 n.natAbs (by rw [show (10 : Nat) ^ (18 + 1) = 10000000000000000000 from rfl]; omega)
    simp; omega
  · have := dec_len 18 n.toNat (by rw [show (10 : Nat) ^ (18 + 1) = 10000000000000000000 from rfl]; omega)
    omega
theorem encL_len {y : Leaf} (hy : y.fits) : (encL y).length ≤ 30 + match y with | .txt b => b.length | _ => 0 := by
  cases y with
  | oth => exact hy.elim
  | num n => have := itoa_len hy.1 hy.2; simp [encL]; omega
  | txt b =>
    have hb : b.length ≤ 9223372036854775807 := hy
    have := itoa_len (n := (b.length : Nat)) (by omega) (by omega)
    simp [encL]; omega
end Cr
namespace Cr
open Go Go.Proofs
set_option maxRecDepth 100000
set_option maxHeartbeats 8000000
attribute [local irreducible] Calls

theorem cut27_ (s : List UInt8) (W : World) : Calls Tryz.prog 88 #[.string (str s)] W (Ret fun v w => v = .string (str (s.take 40)) ∧ St W noF [] w) := by
  obtain ⟨T, hT⟩ : ∃ T, min s.length 40 = T := ⟨_, rfl⟩
  have hz := str_size s
  have hS := St.start W
  refine calls_C Tryz.func88 rfl Tryz.ntmps88 rfl ?_
  repeat (first | (refine G_id ?_; first | refine G_nil ?_ | refine G_plain rfl rfl ?_) | (refine X_id ?_; first | refine X_yl (Yl_move rfl rfl) rfl rfl ?_ | refine X_yl (Yl_assign rfl rfl) rfl rfl ?_ | refine X_yl (Yl_len_str rfl rfl) rfl rfl ?_) | (refine C_id ?_; first | refine C_seq ?_ | refine C_region ?_) | (refine E_id ?_; first | refine E_code ?_))
  refine X_yl (Yl_minC (m := (str s).size) (n := 40) (T := T) rfl rfl rfl (by rw [hz]; exact hT)) rfl rfl ?_
  repeat (first | (refine G_id ?_; first | refine G_nil ?_ | refine G_plain rfl rfl ?_) | (refine X_id ?_; first | refine X_yl (Yl_assign rfl rfl) rfl rfl ?_ | refine X_yl (Yl_sliceStr rfl rfl rfl rfl (.inr ⟨_, _, rfl, by omega, rfl, by omega⟩) (.inl ⟨rfl, rfl⟩)) rfl rfl ?_) | (refine C_id ?_; first | refine C_ret ?_) | (refine E_id ?_; first | refine E_code ?_ | refine E_ret1 rfl (Rv_tmp rfl) (Ret.mk ?_)))
  refine ⟨?_, hS⟩
  rw [List.drop_zero, Nat.sub_zero, Int.toNat_natCast, ← hT]
  congr 2
  rw [Nat.min_comm, ← List.take_eq_take_min]
theorem rec_txt {s : List UInt8} (h : s.length ≤ 1024) : (encL (.txt s)).length ≤ 1054 := by
  have := encL_len (y := .txt s) (show s.length ≤ 9223372036854775807 by omega)
  simp only at this; omega
theorem rec_num {n : Int} (h : -9223372036854775808 ≤ n ∧ n ≤ 9223372036854775807) : (encL (.num n)).length ≤ 30 := by
  have := encL_len (y := .num n) h
  simp only at this; omega
theorem rec_enc {r : Rec} (h : r.fits) : (encT r.leaves).length ≤ 4096 := by
  obtain ⟨h1, h2, h3, h4, h5⟩ := h
  have l1 := rec_txt h1
  have l2 := rec_txt h2
  have l3 := rec_txt h3
  have l4 := rec_num h4
  have l5 := rec_num h5
  simp [encT, Rec.leaves, encs]
  omega
def Rec.cut (r : Rec) : Rec := ⟨r.cmd.take 40, r.pub.take 40, r.pkg.take 40, r.rev, r.out⟩
theorem to27_ (r : Rec) (W : World) : Calls Tryz.prog 28 #[.agg r.cells.toArray] W (Ret fun v w => v = .agg r.cut.cells.toArray ∧ St W noF [] w) := by
  have hS := St.start W
  have C1 := fun W => cut27_ r.cmd W
  have C2 := fun W => cut27_ r.pub W
  have C3 := fun W => cut27_ r.pkg W
  refine calls_C Tryz.func28 rfl Tryz.ntmps28 rfl ?_
  repeat (first | (refine G_id ?_; first | refine G_nil ?_ | refine G_plain rfl rfl ?_) | (refine X_id ?_; first | refine X_box rfl rfl rfl rfl hS (fun _ _ hS _ => ?_) | refine X_alloc rfl rfl rfl hS (fun _ _ hS _ => ?_)) | (refine C_id ?_; first | refine C_seq ?_ | refine C_region ?_) | (refine E_id ?_; first | refine E_code ?_))
  refine C_ord (.s 0 (.s 1 (.s 3 (.s 4 (.s 6 (.s 7 (.s 9 (.s 10 (.s 11 (.s 12 (.h 2 (.h 5 (.h 8 (.s 13 (.h 14 .nil .no)) .no) .no) .no))))))))))) mixed (by kernel_rfl) rfl ?_
  have hS := hS.drew
  repeat (first | (refine X_id ?_; first | (refine X_callq 88 rfl rfl rfl rfl rfl hS (C1 _) ?_; rintro _ _ rfl hS) | (refine X_callq 88 rfl rfl rfl rfl rfl hS (C2 _) ?_; rintro _ _ rfl hS) | (refine X_callq 88 rfl rfl rfl rfl rfl hS (C3 _) ?_; rintro _ _ rfl hS) | refine X_store rfl rfl rfl rfl hS (fun _ hS _ => ?_)) | (refine C_id ?_; first | refine C_ret ?_) | (refine E_id ?_; first | refine E_code ?_ | refine E_ret1 rfl (by first | exact Rv_tmp rfl | exact Rv_cell rfl (run_load1 hS.cell) | exact Rv_cell rfl (run_loadN hS.cellsN)) (Ret.mk ?_)) | (refine GO_id ?_; first | refine GO_nil ?_ | refine GO_pure rfl rfl (fun _ => Yl_fieldAddr0 rfl rfl rfl) rfl rfl ?_ | refine GO_pure rfl rfl (fun _ => Yl_build rfl rfl rfl) rfl rfl ?_ | refine GO_read (fun w' => w'.cell? _ = some _) rfl rfl hS.cell (fun _ hc => Yl_load rfl rfl hc) rfl rfl ?_ | refine GO_hard rfl rfl ?_) | (refine Keep_id ?_; first | refine And.intro (by repeat (first | exact trivial | refine And.intro (.inl (by decide +kernel)) ?_ | refine And.intro (.inr (by first | assumption | exact hS.cell | exact cell_at (by assumption) | exact hS.cellI (by omega) | exact hS.cellIP (by omega) | exact hS.cellsN | exact ((hr.rd hS).cellX (by omega) hx) | exact ((hr2.rd hS).cellX (by omega) hx2) | exact hS.cellB (by omega) | exact hS.cellBA (by omega) | exact (hb.rd hS).cellB' (by omega) | exact (hb2.rd hS).cellB' (by omega) | exact (hg.rd hS).cellI (by omega) | exact (hg2.rd hS).cellI (by omega) | exact ((hr.rd hS).cellF (by first | omega | (dsimp only; omega)) hx) | exact ((hr2.rd hS).cellF (by first | omega | (dsimp only; omega)) hx2) | exact hS.cellO 0 (by omega) | exact hS.cellO 1 (by omega) | exact hS.cellIA (by omega) | exact (hg.rd hS).cellIA (by omega) | exact (hg2.rd hS).cellIA (by omega) | exact cell_at (hc.rd hS).pts | exact hb.rd hS | exact hS.cellO 4 (by omega) | exact hS.cellO 5 (by omega) | exact hS.cellO 6 (by omega) | exact hS.cellO 7 (by omega) | exact hS.cellO 8 (by omega) | exact hS.cellO 9 (by omega) | exact hS.cellO 10 (by omega) | exact hS.cellO 11 (by omega) | exact hS.cellO 12 (by omega) | exact hS.cellO 13 (by omega) | exact hS.cellO 2 (by omega) | exact hS.cellO 3 (by omega))) ?_)) ?_))
  exact ⟨rfl, hS.drops⟩
theorem cut_fits {r : Rec} (h : -9223372036854775808 ≤ r.rev ∧ r.rev ≤ 9223372036854775807) (h' : -9223372036854775808 ≤ r.out ∧ r.out ≤ 9223372036854775807) : r.cut.fits :=
  ⟨by simp [Rec.cut]; omega, by simp [Rec.cut]; omega, by simp [Rec.cut]; omega, h, h'⟩
end Cr
namespace Cr
open Go Go.Proofs
set_option maxRecDepth 100000
set_option maxHeartbeats 4000000
attribute [local irreducible] Calls

theorem kind_ (k n : Int) (a1 a2 : Option Addr) (n1 c1 n2 c2 : Nat) (W : World) (h : (k = 0 ∧ n1 = 0 ∧ n2 = 0) ∨ (k = 1 ∧ n = 0 ∧ n2 = 0) ∨ (k = 2 ∧ n = 0 ∧ n1 = 0)) :
    Calls Tryz.prog 237 #[.agg (List.toArray [.int .i64 k, .int .i64 n, .slice a1 n1 c1, .slice a2 n2 c2])] W (Ret fun v w => v = .bool true ∧ St W noF [] w) := by
  have hS := St.start W
  rcases h with ⟨rfl, rfl, rfl⟩ | ⟨rfl, rfl, rfl⟩ | ⟨rfl, rfl, rfl⟩
  all_goals
    refine calls_C Tryz.func237 rfl Tryz.ntmps237 rfl ?_
    repeat (first | (refine G_id ?_; first | refine G_nil ?_ | refine G_plain rfl rfl ?_ | refine G_yes rfl rfl rfl rfl ?_) | (refine X_id ?_; first | refine X_yl (Yl_move rfl rfl) rfl rfl ?_ | refine X_yl (Yl_assign rfl rfl) rfl rfl ?_ | refine X_yl (Yl_fieldAddr0 rfl rfl rfl) rfl rfl ?_ | refine X_yl (Yl_pick_t rfl rfl rfl) rfl rfl ?_ | refine X_yl (Yl_len rfl rfl) rfl rfl ?_ | refine X_yl (Yl_eql_t rfl rfl rfl (by omega)) rfl rfl ?_ | refine X_yl (Yl_eql_f rfl rfl rfl (by omega)) rfl rfl ?_ | refine X_yl (Yl_load rfl rfl hS.cell) rfl rfl ?_ | refine X_box rfl rfl rfl rfl hS (fun _ _ hS _ => ?_)) | (refine C_id ?_; first | refine C_seq ?_ | refine C_region ?_ | refine C_block ?_ | refine C_ret ?_ | refine C_cond_t rfl ?_ | refine C_cond_f rfl ?_) | (refine E_id ?_; first | refine E_code ?_ | refine E_then_ret ?_ | refine E_blk_ret ?_ | refine E_ret1 rfl (Rv_tmp rfl) (Ret.mk ?_)))
    exact ⟨rfl, hS.drops⟩
theorem check_leaf (y : Leaf) (cs : List Value) (deep : Nat) (W : World) (F : Nat → Prop) (hy : LeafRo W F y cs) (hne : y ≠ .oth) :
    Calls Tryz.prog 195 #[.agg (List.toArray cs), .int .i64 (deep : Nat)] W (Ret fun v w => v = .int .i64 0 ∧ St W noF [] w) := by
  have hS := St.start W
  obtain ⟨k, n, a1, n1, c1, a2, c2, rfl, hk, hk2⟩ : ∃ k n a1 n1 c1 a2 c2, cs = [.int .i64 k, .int .i64 n, .slice a1 n1 c1, .slice a2 0 c2] ∧ ((k = 0 ∧ n1 = 0 ∧ 0 = 0) ∨ (k = 1 ∧ n = 0 ∧ 0 = 0) ∨ (k = 2 ∧ n = 0 ∧ n1 = 0)) ∧ k ≠ 2 := by
    cases y with
    | oth => exact absurd rfl hne
    | num n => exact ⟨0, n, none, 0, 0, none, 0, hy, .inl ⟨rfl, rfl, rfl⟩, by decide⟩
    | txt b =>
      obtain ⟨a, c, rfl, _⟩ := hy
      exact ⟨1, 0, a, b.length, c, none, 0, rfl, .inr (.inl ⟨rfl, rfl, rfl⟩), by decide⟩
  refine calls_C Tryz.func195 rfl Tryz.ntmps195 rfl ?_
  repeat (first | (refine G_id ?_; first | refine G_nil ?_ | refine G_plain rfl rfl ?_ | refine G_no rfl rfl rfl rfl rfl rfl ?_) | (refine X_id ?_; first | (refine X_callq 237 rfl rfl rfl rfl rfl hS (kind_ _ _ _ _ _ _ _ _ _ hk) ?_; rintro _ _ rfl hS) | refine X_yl (Yl_move rfl rfl) rfl rfl ?_ | refine X_yl (Yl_assign rfl rfl) rfl rfl ?_ | refine X_yl (Yl_fieldAddr0 rfl rfl rfl) rfl rfl ?_ | refine X_yl (Yl_pick_f rfl rfl rfl) rfl rfl ?_ | refine X_yl (Yl_not_t rfl rfl) rfl rfl ?_ | refine X_yl (Yl_len rfl rfl) rfl rfl ?_ | refine X_yl (Yl_eql_f rfl rfl rfl (by omega)) rfl rfl ?_ | refine X_yl (Yl_load rfl rfl hS.cell) rfl rfl ?_ | refine X_yl (Yl_loadN rfl rfl hS.cellsN) rfl rfl ?_ | refine X_box rfl rfl rfl rfl hS (fun _ _ hS _ => ?_)) | (refine C_id ?_; first | refine C_seq ?_ | refine C_region ?_ | refine C_block ?_ | refine C_skip ?_ | refine C_cond_f rfl ?_) | (refine E_id ?_; first | refine E_code ?_ | refine E_blk_n ?_))
  refine C_loop (α := Unit) (fun _ => [(22, .int .i64 0), (23, .int .i64 0)]) (fun _ w => St W noF [] w) (fun _ => 0) () ⟨rfl, rfl, trivial⟩ hS.drops ?_
  clear hS
  rintro _ w hS
  repeat (first | (refine G_id ?_; first | refine G_nil ?_ | refine G_plain rfl rfl ?_) | (refine X_id ?_; first | refine X_yl (Yl_assign rfl rfl) rfl rfl ?_ | refine X_yl (Yl_lss_f rfl rfl rfl (by omega)) rfl rfl ?_) | (refine C_id ?_; first | refine C_seq ?_ | refine C_region ?_ | refine C_ret ?_ | refine C_exit ?_ | refine C_cond_f rfl ?_) | (refine E_id ?_; first | refine E_code ?_ | refine E_then_exit ?_ | refine E_blk_same ?_ | refine E_ret1 rfl (Rv_tmp rfl) (Ret.mk ?_)))
  exact ⟨rfl, hS⟩
theorem check_list (a : Option Addr) (x : List Leaf) (c : Nat) (rows : List (List Value)) (W : World) (hr : Ro W noF (row a rows.flatten)) (hx : Leaves W noF x rows) (hne : Leaf.oth ∉ x) (hxl : x.length ≤ 1024) :
    Calls Tryz.prog 195 #[.agg (List.toArray [.int .i64 2, .int .i64 0, .slice none 0 0, .slice a x.length c]), .int .i64 1] W (Ret fun v w => v = .int .i64 0 ∧ St W noF [] w) := by
  have hS := St.start W
  have hk := fun W => kind_ 2 0 none a 0 0 x.length c W (.inr (.inr ⟨rfl, rfl, rfl⟩))
  refine calls_C Tryz.func195 rfl Tryz.ntmps195 rfl ?_
  repeat (first | (refine G_id ?_; first | refine G_nil ?_ | refine G_plain rfl rfl ?_ | refine G_yes rfl rfl rfl rfl ?_) | (refine X_id ?_; first | (refine X_callq 237 rfl rfl rfl rfl rfl hS (hk _) ?_; rintro _ _ rfl hS) | refine X_yl (Yl_move rfl rfl) rfl rfl ?_ | refine X_yl (Yl_assign rfl rfl) rfl rfl ?_ | refine X_yl (Yl_fieldAddr0 rfl rfl rfl) rfl rfl ?_ | refine X_yl (Yl_pick_t rfl rfl rfl) rfl rfl ?_ | refine X_yl (Yl_not_t rfl rfl) rfl rfl ?_ | refine X_yl (Yl_len rfl rfl) rfl rfl ?_ | refine X_yl (Yl_eql_t rfl rfl rfl (by omega)) rfl rfl ?_ | refine X_yl (Yl_gtr_f rfl rfl rfl (by omega)) rfl rfl ?_ | refine X_yl (Yl_load rfl rfl hS.cell) rfl rfl ?_ | refine X_yl (Yl_loadN rfl rfl hS.cellsN) rfl rfl ?_ | refine X_box rfl rfl rfl rfl hS (fun _ _ hS _ => ?_)) | (refine C_id ?_; first | refine C_seq ?_ | refine C_region ?_ | refine C_block ?_ | refine C_skip ?_ | refine C_cond_f rfl ?_) | (refine E_id ?_; first | refine E_code ?_ | refine E_blk_n ?_))
  refine C_loop (α := Nat) (fun i => [(1, .int .i64 1), (21, .slice a x.length c), (22, .int .i64 (x.length : Nat)), (23, .int .i64 (i : Nat))]) (fun i w => i ≤ x.length ∧ St W noF [] w) (fun i => x.length - i) 0 ⟨rfl, rfl, rfl, rfl, trivial⟩ ⟨Nat.zero_le _, hS.drops⟩ ?_
  clear hS
  rintro i w ⟨hi, hS2⟩
  by_cases hlt : i < x.length
  · obtain ⟨y, hyx⟩ : ∃ y, y = x[i] := ⟨_, rfl⟩
    have hy0 : x[i]? = some y := by rw [hyx]; exact List.getElem?_eq_getElem hlt
    have hymem : y ∈ x := List.mem_of_getElem? hy0
    obtain ⟨cs, hxs, hy⟩ := hx.at_ hy0
    obtain ⟨k1, k2, a1, n1, c1, a2, n2, c2, rfl⟩ := hy.lit
    obtain ⟨ab, ao, rfl⟩ := hr.start.base (by
      intro e
      rw [e] at hxs
      simp at hxs)
    have hS := hS2
    repeat (first | (refine G_id ?_; first | refine G_nil ?_ | refine G_plain rfl rfl ?_) | (refine X_id ?_; first | refine X_yl (Yl_move rfl rfl) rfl rfl ?_ | refine X_yl (Yl_lss_t rfl rfl rfl (by omega)) rfl rfl ?_ | refine X_yl (Yl_indexAddr rfl rfl rfl (by omega) (by omega) (by first | assumption | exact ⟨_, _, rfl⟩)) rfl rfl ?_ | refine X_yl (Yl_add rfl rfl rfl (w64 (by omega) (by omega))) rfl rfl ?_ | refine X_yl (Yl_loadN rfl rfl hS.cellsN) rfl rfl ?_ | refine X_yl (Yl_loadN rfl rfl ((hr.rd hS).cellsX (by omega) hxs rfl)) rfl rfl ?_ | refine X_store rfl rfl rfl rfl hS (fun _ hS _ => ?_) | refine X_alloc rfl rfl rfl hS (fun _ _ hS _ => ?_)) | (refine C_id ?_; first | refine C_seq ?_ | refine C_region ?_ | refine C_block ?_ | refine C_skip ?_ | refine C_cond_t rfl ?_) | (refine E_id ?_; first | refine E_code ?_))
    refine X_callq 195 rfl rfl rfl rfl rfl hS (check_leaf y _ 2 _ noF (hy.mono fun r h => (h.rd hS).ro) (fun e => hne (e ▸ hymem))) ?_
    rintro _ w rfl hS
    repeat (first | (refine G_id ?_; first | refine G_nil ?_ | refine G_plain rfl rfl ?_) | (refine X_id ?_; first | refine X_yl (Yl_move rfl rfl) rfl rfl ?_ | refine X_yl (Yl_assign rfl rfl) rfl rfl ?_ | refine X_yl (Yl_neq_f rfl rfl rfl (by omega)) rfl rfl ?_ | refine X_yl (Yl_add rfl rfl rfl (w64 (by omega) (by omega))) rfl rfl ?_) | (refine C_id ?_; first | refine C_seq ?_ | refine C_region ?_ | refine C_skip ?_ | refine C_cond_f rfl ?_) | (refine E_id ?_; first | refine E_code ?_ | refine E_blk_n ?_))
    exact E_round (i + 1) ⟨rfl, rfl, rfl, rfl, trivial⟩ ⟨hlt, hS.drops⟩ (by omega)
  · obtain rfl : i = x.length := by omega
    have hS := hS2
    repeat (first | (refine G_id ?_; first | refine G_nil ?_ | refine G_plain rfl rfl ?_) | (refine X_id ?_; first | refine X_yl (Yl_assign rfl rfl) rfl rfl ?_ | refine X_yl (Yl_lss_f rfl rfl rfl (by omega)) rfl rfl ?_) | (refine C_id ?_; first | refine C_seq ?_ | refine C_region ?_ | refine C_ret ?_ | refine C_exit ?_ | refine C_cond_f rfl ?_) | (refine E_id ?_; first | refine E_code ?_ | refine E_then_exit ?_ | refine E_blk_same ?_ | refine E_ret1 rfl (Rv_tmp rfl) (Ret.mk ?_)))
    exact ⟨rfl, hS⟩
end Cr
