/-
  The document's Apply of changes.
  Layer 7 (inode): Open: a node of its sector's bytes; does a block stand in two places?
  Layer 7 (inode): does a block stand in two places? Open.
  Layer 7 (inode): Open of a log that holds a table.
  DERIVED: THE SHELF's CONTRACTS AT THIS DUMP, IN PLAIN WORDS (tools/lay-plain.mjs out of 'TryzShelf.lean', which tools/lay-shelf.mjs wrote): THE SAME DECLARATIONS UNDER THE SAME NAMES: 'import', 'namespace', 'open', 'def', 'theorem' AND NOTHING ELSE: no command of the shelf's: FOR A HAND-IN. Each laying: the table of numbers ('.._ren') and one theorem, a field a fact of the dump's own or the kernel's comparison; each contract: ONE APPLICATION.
-/
import Derived.Test.YtpdhcfkjakbmfaaGreatDoorPly12
import Derived.Test.YtpdhcfkjakbmfaaGreatDoorPly10
import Derived.Test.YtpdhcfkjakbmfaaGreatDoorPly11
import Derived.Shelf.Strconv.Itoa0
import Derived.Shelf.Sort.Plain
import Derived.Shelf.Slices.Turned
import Derived.Shelf.Slices.In.SortNone
import Derived.Test.YtpdhcfkjakbmfaaGreatDoorProg
namespace Cr
open Go Go.Proofs
set_option maxRecDepth 100000
set_option maxHeartbeats 16000000
attribute [local irreducible] Calls

def offAt : List RN → Nat → List RN
  | [], _ => []
  | x :: l, 0 => { x with is_ := false } :: l
  | x :: l, k + 1 => x :: offAt l k
theorem offAt_length : ∀ (L : List RN) (k : Nat), (offAt L k).length = L.length
  | [], _ => rfl
  | _ :: _, 0 => rfl
  | x :: l, k + 1 => by simp [offAt, offAt_length l k]
theorem offAt_isV : ∀ (L : List RN) (k : Nat), (offAt L k).map RN.isV = (L.map RN.isV).set k (.bool false)
  | [], _ => rfl
  | _ :: _, 0 => rfl
  | x :: l, k + 1 => by simp [offAt, offAt_isV l k]
theorem offAt_cells : ∀ (L : List RN) (k : Nat), (offAt L k).flatMap RN.cells = L.flatMap RN.cells
  | [], _ => rfl
  | _ :: _, 0 => rfl
  | x :: l, k + 1 => by simp [offAt, offAt_cells l k]
theorem offAt_tb : ∀ (L : List RN) (k : Nat), rtb (offAt L k) = (rtb L).set k none
  | [], _ => rfl
  | _ :: _, 0 => rfl
  | x :: l, k + 1 => by
    have := offAt_tb l k
    simp only [rtb] at this
    simp [offAt, rtb, this]
theorem offAt_mem : ∀ (L : List RN) (k : Nat) {x : RN}, x ∈ offAt L k → ∃ y ∈ L, x.a = y.a ∧ x.nd = y.nd
  | [], _, _, h => absurd h List.not_mem_nil
  | y :: l, 0, x, h => by
    rcases List.mem_cons.1 h with rfl | h
    · exact ⟨y, List.mem_cons_self .., rfl, rfl⟩
    · exact ⟨x, List.mem_cons_of_mem _ h, rfl, rfl⟩
  | y :: l, k + 1, x, h => by
    rcases List.mem_cons.1 h with rfl | h
    · exact ⟨x, List.mem_cons_self .., rfl, rfl⟩
    · obtain ⟨z, hz, q⟩ := offAt_mem l k h
      exact ⟨z, List.mem_cons_of_mem _ hz, q⟩
def offTo (L : List RN) (l : List Chg) : List RN := l.foldl (fun L c => offAt L c.no.toNat) L
theorem offTo_snoc (L : List RN) (l : List Chg) (c : Chg) : offTo L (l ++ [c]) = offAt (offTo L l) c.no.toNat := by simp [offTo]
theorem offTo_spec (L : List RN) (l : List Chg) : (offTo L l).length = L.length ∧ (offTo L l).flatMap RN.cells = L.flatMap RN.cells ∧ rtb (offTo L l) = dropT (rtb L) l ∧ ∀ x ∈ offTo L l, ∃ y ∈ L, x.a = y.a ∧ x.nd = y.nd := by
  induction l generalizing L with
  | nil => exact ⟨rfl, rfl, rfl, fun x hx => ⟨x, hx, rfl, rfl⟩⟩
  | cons c l ih =>
    obtain ⟨h1, h2, h3, h4⟩ := ih (offAt L c.no.toNat)
    refine ⟨h1.trans (offAt_length _ _), h2.trans (offAt_cells _ _), h3.trans ?_, fun x hx => ?_⟩
    · rw [offAt_tb]; rfl
    · obtain ⟨y, hy, e1, e2⟩ := h4 x hx
      obtain ⟨z, hz, e3, e4⟩ := offAt_mem _ _ hy
      exact ⟨z, hz, e1.trans e3, e2.trans e4⟩
theorem set_cells : ∀ (L : List RN) (k : Nat) (y : RN), k < L.length → (L.set k y).flatMap RN.cells = splice (L.flatMap RN.cells) (k * 5) y.cells
  | [], _, _, h => by simp at h
  | x :: l, 0, y, _ => by
    have hx : (RN.cells x).length = 5 := rfl
    have hy : (RN.cells y).length = 5 := rfl
    rw [List.set_cons_zero, List.flatMap_cons, List.flatMap_cons]
    unfold splice
    rw [Nat.zero_mul, List.take_zero, List.nil_append, Nat.zero_add, hy, ← hx, List.drop_left]
  | x :: l, k + 1, y, h => by
    have hx : (RN.cells x).length = 5 := rfl
    have hy : (RN.cells y).length = 5 := rfl
    have ih := set_cells l k y (by simpa using h)
    rw [List.set_cons_succ, List.flatMap_cons, List.flatMap_cons, ih]
    unfold splice
    have e1 : (k + 1) * 5 = (RN.cells x).length + k * 5 := by rw [hx]; omega
    rw [e1, List.take_length_add_append, Nat.add_assoc, List.drop_length_add_append]
    simp
theorem rn_one (L : List RN) : ∀ u ∈ L.flatMap RN.cells, u.oneCell' = true := fun u hu => by
  obtain ⟨x, _, h⟩ := List.mem_flatMap.1 hu
  simp only [RN.cells, ndV, List.mem_cons, List.not_mem_nil, or_false] at h
  rcases h with rfl | rfl | rfl | rfl | rfl <;> rfl
theorem is_one (L : List RN) : ∀ u ∈ L.map RN.isV, u.oneCell' = true := fun u hu => by
  obtain ⟨x, _, rfl⟩ := List.mem_map.1 hu
  rfl
theorem runT_at (T : Tb) (nb : Nat) (cl : List Chg) (i : Nat) : runT T nb cl = (cl.drop i).foldl (fun x c => stepT x nb c) ((cl.take i).foldl (fun x c => stepT x nb c) (dropT T cl, 0, false)) := by
  unfold runT
  rw [← List.foldl_append, List.take_append_drop]
/-- What Apply has at hand: the new table. -/
structure RZ where
  na : Option Addr
  nc : Nat
  ia : Option Addr
  ic : Nat
  L : List RN
  X : List RowD
def RZ.res (z : RZ) (p n nb : Nat) : List Res := [own 62 5 z.na z.nc (z.L.flatMap RN.cells), own 4 1 z.ia z.ic (z.L.map RN.isV), rtAt p z.na n z.nc z.ia z.ic nb, bag z.X]
structure RZ.ok (z : RZ) (L : List RN) (n : Nat) : Prop where
  len : z.L.length = n
  ncl : n ≤ z.nc
  icl : n ≤ z.ic
  small : ∀ x ∈ z.L, x.nd.data.length ≤ 512
  from_ : ∀ x ∈ z.L, (x.a, bv x.nd.data) ∈ z.X ∨ ∃ y ∈ L, x.a = y.a ∧ x.nd.data = y.nd.data
theorem rapply7_ (b n nb most : Nat) (L : List RN) (na : Option Addr) (nc : Nat) (ia : Option Addr) (ic : Nat) (a : Option Addr) (c : Nat) (l : List ChgA) (W : World) (hR : RtRd W b n nb L na nc ia ic) (hC : Chgs W noF a l) (hl : l.length ≤ 1000) (hn1 : 1 ≤ n) (hok : checkC (l.map ChgA.c) n = 0) :
    Calls Tryz.prog 7 #[.pointer (some ⟨b, 0, none⟩), .slice a l.length c, .int .i64 (most : Nat)] W (Ret fun v w =>
      ((putT (rtb L) nb most (l.map ChgA.c)) = (6, rtb L) ∧ v = .tuple #[.pointer (some ⟨b, 0, none⟩), .int .i64 6] ∧ St W noF [] w) ∨
      ∃ (p : Nat) (z : RZ), v = .tuple #[.pointer (some ⟨p, 0, none⟩), .int .i64 0] ∧ putT (rtb L) nb most (l.map ChgA.c) = (0, rtb z.L) ∧ z.ok L n ∧ St W noF (z.res p n nb) w) := by
  have hc := hR.t.ro
  have hnr := hR.nr.ro
  have hir := hR.ir.ro
  have hdr := fun x hx => (hR.dr x hx).ro
  have hlen := hR.len
  have hn4 := hR.n4
  have hnb4 := hR.nb4
  have hS := St.start W
  obtain ⟨cl, hcl⟩ : ∃ cl, cl = l.map ChgA.c := ⟨_, rfl⟩
  have hget : ∀ {i : Nat} {x : ChgA}, l[i]? = some x → cl[i]? = some x.c := fun {i x} h => by rw [hcl]; simp [h]
  have hcll : cl.length = l.length := by rw [hcl]; simp
  rw [← hcl] at hok ⊢
  have hright := right_of hok
  refine calls_C Tryz.func7 rfl Tryz.ntmps7 rfl ?_
  repeat (first | (refine G_id ?_; first | refine G_nil ?_ | refine G_plain rfl rfl ?_) | (refine X_id ?_; first | refine X_yl (Yl_assign rfl rfl) rfl rfl ?_) | (refine C_id ?_; first | refine C_seq ?_ | refine C_region ?_) | (refine E_id ?_; first | refine E_code ?_))
  refine C_join (α := Nat × RZ) (fun z => [(0, .pointer (some ⟨b, 0, none⟩)), (1, .slice a l.length c), (2, .int .i64 (most : Nat)), (8, .pointer (some ⟨z.1, 0, none⟩))]) (fun z w => z.2.L = L ∧ z.2.X = [] ∧ n ≤ z.2.nc ∧ n ≤ z.2.ic ∧ St W noF (z.2.res z.1 n nb) w) ?_ ?_
  · skip
    refine C_ord (.s 1 (.s 2 (.s 3 (.s 4 (.s 7 (.s 8 (.s 9 (.s 10 (.s 12 (.s 13 (.s 14 (.s 15 (.h 0 (.h 5 (.h 6 (.h 11 (.s 16 (.h 17 (.s 18 .nil) .no)) .no) .no) (.h 6 (.h 5 (.h 11 (.s 16 (.h 17 (.s 18 .nil) .no)) .no) .no) .no)) (.h 6 (.h 0 (.h 5 (.h 11 (.s 16 (.h 17 (.s 18 .nil) .no)) .no) .no) .no) .no)))))))))))))) mixed (by kernel_rfl) rfl ?_
    have hS := hS.drew
    repeat' (first | (refine X_append (T := 62) (n := 0) (m := n) rfl rfl rfl rfl rfl hS rfl (Nat.zero_le _) (hnr.rd hS) (by rw [rn_len, hlen]) (rn_one L) (by omega) (by simp only [maxLen]; omega) (fun a1 c1 _ hS hc1 _ => ?_)) | (refine X_append (T := 4) (n := 0) (m := n) rfl rfl rfl rfl rfl hS rfl (Nat.zero_le _) (hir.rd hS) (by rw [List.length_map, hlen, Nat.mul_one]) (is_one L) (by omega) (by simp only [maxLen]; omega) (fun a2 c2 _ hS hc2 _ => ?_)) | refine GO_alt ?_ ?_ | (refine X_id ?_; first | refine X_box rfl rfl rfl rfl hS (fun _ _ hS _ => ?_) | refine X_buildSlice rfl rfl rfl rfl rfl rfl rfl rfl hS (fun _ _ hS _ => ?_)) | (refine GO_id ?_; first | refine GO_nil ?_ | refine GO_pure rfl rfl (fun _ => Yl_move rfl rfl) rfl rfl ?_ | refine GO_pure rfl rfl (fun _ => Yl_assign rfl rfl) rfl rfl ?_ | refine GO_pure rfl rfl (fun _ => Yl_nilCheck rfl rfl) rfl rfl ?_ | refine GO_pure rfl rfl (fun _ => Yl_fieldAddr0 rfl rfl rfl) rfl rfl ?_ | refine GO_pure rfl rfl (fun _ => Yl_build rfl rfl rfl) rfl rfl ?_ | refine GO_hard rfl rfl ?_ | refine GO_read (fun w' => w'.cell? _ = some _) rfl rfl (cell_at (hc.rd hS).pts) (fun _ hc => Yl_load rfl rfl hc) rfl rfl ?_) | (refine Keep_id ?_; first | refine And.intro (by repeat (first | exact trivial | refine And.intro (.inl (by decide +kernel)) ?_ | refine And.intro (.inr (by first | assumption | exact hS.cell | exact cell_at (by assumption) | exact hS.cellI (by omega) | exact hS.cellIP (by omega) | exact hS.cellsN | exact ((hr.rd hS).cellX (by omega) hx) | exact ((hr2.rd hS).cellX (by omega) hx2) | exact hS.cellB (by omega) | exact hS.cellBA (by omega) | exact (hb.rd hS).cellB' (by omega) | exact (hb2.rd hS).cellB' (by omega) | exact (hg.rd hS).cellI (by omega) | exact (hg2.rd hS).cellI (by omega) | exact ((hr.rd hS).cellF (by first | omega | (dsimp only; omega)) hx) | exact ((hr2.rd hS).cellF (by first | omega | (dsimp only; omega)) hx2) | exact hS.cellO 0 (by omega) | exact hS.cellO 1 (by omega) | exact hS.cellIA (by omega) | exact (hg.rd hS).cellIA (by omega) | exact (hg2.rd hS).cellIA (by omega) | exact cell_at (hc.rd hS).pts | exact hb.rd hS | exact (hr.rd hS).cellsF7 (by first | omega | (dsimp only; omega)) hst4 rfl | exact (hr2.rd hS).cellsF7 (by first | omega | (dsimp only; omega)) hst4 rfl | exact hS.cellO 4 (by omega) | exact hS.cellO 5 (by omega) | exact hS.cellO 6 (by omega) | exact hS.cellO 7 (by omega) | exact hS.cellO 8 (by omega) | exact hS.cellO 9 (by omega) | exact hS.cellO 10 (by omega) | exact hS.cellO 11 (by omega) | exact hS.cellO 12 (by omega) | exact hS.cellO 13 (by omega) | exact hS.cellO 2 (by omega) | exact hS.cellO 3 (by omega))) ?_)) ?_))
    all_goals
      rw [Nat.zero_add] at hc1 hc2
      simp only [Nat.zero_add, List.nil_append] at hS
      refine E_mid (α := Nat × RZ) (_, ⟨a1, c1, a2, c2, L, []⟩) ⟨rfl, rfl, rfl, rfl, trivial⟩ ⟨rfl, rfl, hc1, hc2, ?_⟩
      have h := hS.bagNil
      simp only [RZ.res]
      exact h.took
  · clear hS
    rintro ⟨p, z⟩ w ⟨hzL, hzX, hzn, hzi, hS⟩
    simp only at hzL hzX hzn hzi hS ⊢
    obtain ⟨na1, nc1, ia1, ic1, L1, X1⟩ := z
    simp only at hzL hzX hzn hzi
    subst hzL hzX
    simp only [RZ.res] at hS
    have hlc : (L1.flatMap RN.cells).length = n * 5 := by rw [rn_len, hlen]
    obtain ⟨bn, rfl⟩ := St.ownBase hS (by intro e; rw [e] at hlc; simp at hlc; omega)
    have hS1 := hS.pick [1, 0, 0, 0]
    obtain ⟨bi, rfl⟩ := St.ownBase hS1 (by intro e; rw [List.map_eq_nil_iff] at e; rw [e] at hlen; simp at hlen; omega)
    clear hS1
    repeat (first | (refine G_id ?_; first | refine G_nil ?_ | refine G_plain rfl rfl ?_) | (refine X_id ?_; first | refine X_yl (Yl_assign rfl rfl) rfl rfl ?_) | (refine C_id ?_; first | refine C_seq ?_ | refine C_region ?_ | refine C_block ?_) | (refine E_id ?_; first | refine E_code ?_))
    refine C_joinB (α := Unit) (fun _ => [(0, .pointer (some ⟨b, 0, none⟩)), (1, .slice a l.length c), (2, .int .i64 (most : Nat)), (8, .pointer (some ⟨p, 0, none⟩))]) (fun _ w => St W noF (RZ.res ⟨some ⟨bn, 0, none⟩, nc1, some ⟨bi, 0, none⟩, ic1, offTo L1 cl, []⟩ p n nb) w) ?_ ?_
    · refine C_loop (α := Nat) (fun i => [(0, .pointer (some ⟨b, 0, none⟩)), (1, .slice a l.length c), (2, .int .i64 (most : Nat)), (8, .pointer (some ⟨p, 0, none⟩)), (9, .int .i64 (i : Nat))])
        (fun i w => i ≤ l.length ∧ St W noF (RZ.res ⟨some ⟨bn, 0, none⟩, nc1, some ⟨bi, 0, none⟩, ic1, offTo L1 (cl.take i), []⟩ p n nb) w) (fun i => l.length - i) 0 ⟨rfl, rfl, rfl, rfl, rfl, trivial⟩ ⟨Nat.zero_le _, hS⟩ ?_
      clear hS
      rintro i w ⟨hi, hS⟩
      by_cases hlt : i < l.length
      · have hx0 : l[i]? = some l[i] := List.getElem?_eq_getElem hlt
        generalize l[i] = x at hx0
        have hgx := hget hx0
        have htk : cl.take (i + 1) = cl.take i ++ [x.c] := by rw [List.take_add_one, hgx]; rfl
        have hno := hright.low x.c (List.mem_of_getElem? hgx)
        have hsp := offTo_spec L1 (cl.take i)
        have hr := hC.row
        have hx : (l.flatMap ChgA.cells)[i * 7 + 0]? = some (.int .i64 x.c.no) := chg_get hx0 0 (by omega)
        obtain ⟨xb, xo, hxa⟩ := (hr.rd hS).base (by intro e; rw [e] at hx; simp at hx)
        rw [hxa] at hr ⊢
        simp only [RZ.res] at hS
        repeat (first | (refine G_id ?_; first | refine G_nil ?_ | refine G_plain rfl rfl ?_) | (refine X_id ?_; first | refine X_yl (Yl_move rfl rfl) rfl rfl ?_ | refine X_yl (Yl_len rfl rfl) rfl rfl ?_ | refine X_yl (Yl_lss_t rfl rfl rfl (by omega)) rfl rfl ?_) | (refine C_id ?_; first | refine C_seq ?_ | refine C_region ?_ | refine C_block ?_ | refine C_skip ?_ | refine C_cond_t rfl ?_) | (refine E_id ?_; first | refine E_code ?_))
        refine C_ord (.s 0 (.s 1 (.s 2 (.s 3 (.s 4 (.s 5 (.s 6 (.s 7 (.s 8 (.s 9 (.h 10 .nil .no))))))))))) mixed (by kernel_rfl) rfl ?_
        have hS := hS.drew
        repeat (first | (refine GO_id ?_; first | refine GO_pure rfl rfl (fun _ => Yl_move rfl rfl) rfl rfl ?_ | refine GO_pure rfl rfl (fun _ => Yl_nilCheck rfl rfl) rfl rfl ?_ | refine GO_pure rfl rfl (fun _ => Yl_fieldAddr0 rfl rfl rfl) rfl rfl ?_ | refine GO_pure rfl rfl (fun _ => Yl_fieldAddr rfl rfl rfl) rfl rfl ?_ | refine GO_pure rfl rfl (fun _ => Yl_indexAddr rfl rfl rfl (by omega) (by omega) (by first | assumption | exact ⟨_, _, rfl⟩)) rfl rfl ?_ | refine GO_read (fun w' => w'.cell? _ = some _) rfl rfl hS.cell (fun _ hc => Yl_load rfl rfl hc) rfl rfl ?_ | refine GO_read (fun w' => w'.cell? _ = some _) rfl rfl ((hr.rd hS).cellX (by omega) hx) (fun _ hc => Yl_load rfl rfl hc) rfl rfl ?_ | refine GO_hard rfl rfl ?_))
        refine X_storeOwn (a := some ⟨bi, 0, none⟩) (i := x.c.no.toNat) rfl rfl ?_ rfl rfl rfl rfl hS ?_ (fun w hS => ?_)
        · rw [Nat.mul_one]
        · rw [List.length_map, hsp.1]; omega
        · repeat (first | (refine G_id ?_; first | refine G_nil ?_ | refine G_plain rfl rfl ?_) | (refine X_id ?_; first | refine X_yl (Yl_move rfl rfl) rfl rfl ?_ | refine X_yl (Yl_assign rfl rfl) rfl rfl ?_ | refine X_yl (Yl_add rfl rfl rfl (w64 (by omega) (by omega))) rfl rfl ?_) | (refine C_id ?_; first | refine C_region ?_) | (refine E_id ?_; first | refine E_code ?_ | refine E_blk_n ?_) | (refine GO_id ?_; first | refine GO_nil ?_) | (refine Keep_id ?_; first | refine And.intro (by repeat (first | exact trivial | refine And.intro (.inl (by decide +kernel)) ?_ | refine And.intro (.inr (by first | assumption | exact hS.cell | exact cell_at (by assumption) | exact hS.cellI (by omega) | exact hS.cellIP (by omega) | exact hS.cellsN | exact ((hr.rd hS).cellX (by omega) hx) | exact ((hr2.rd hS).cellX (by omega) hx2) | exact hS.cellB (by omega) | exact hS.cellBA (by omega) | exact (hb.rd hS).cellB' (by omega) | exact (hb2.rd hS).cellB' (by omega) | exact (hg.rd hS).cellI (by omega) | exact (hg2.rd hS).cellI (by omega) | exact ((hr.rd hS).cellF (by first | omega | (dsimp only; omega)) hx) | exact ((hr2.rd hS).cellF (by first | omega | (dsimp only; omega)) hx2) | exact hS.cellO 0 (by omega) | exact hS.cellO 1 (by omega) | exact hS.cellIA (by omega) | exact (hg.rd hS).cellIA (by omega) | exact (hg2.rd hS).cellIA (by omega) | exact cell_at (hc.rd hS).pts | exact hb.rd hS | exact (hr.rd hS).cellsF7 (by first | omega | (dsimp only; omega)) hst4 rfl | exact (hr2.rd hS).cellsF7 (by first | omega | (dsimp only; omega)) hst4 rfl | exact hS.cellO 4 (by omega) | exact hS.cellO 5 (by omega) | exact hS.cellO 6 (by omega) | exact hS.cellO 7 (by omega) | exact hS.cellO 8 (by omega) | exact hS.cellO 9 (by omega) | exact hS.cellO 10 (by omega) | exact hS.cellO 11 (by omega) | exact hS.cellO 12 (by omega) | exact hS.cellO 13 (by omega) | exact hS.cellO 2 (by omega) | exact hS.cellO 3 (by omega))) ?_)) ?_))
          refine E_round (z := i) (i + 1) ⟨rfl, rfl, rfl, rfl, rfl, trivial⟩ ⟨by omega, ?_⟩ (by omega)
          simp only [RZ.res]
          rw [htk, offTo_snoc, offAt_isV, offAt_cells]
          exact hS.pick [1, 0, 0, 0]
      · obtain rfl : i = l.length := by omega
        rw [List.take_of_length_le (by omega)] at hS
        repeat (first | (refine G_id ?_; first | refine G_nil ?_ | refine G_plain rfl rfl ?_) | (refine X_id ?_; first | refine X_yl (Yl_move rfl rfl) rfl rfl ?_ | refine X_yl (Yl_len rfl rfl) rfl rfl ?_ | refine X_yl (Yl_lss_f rfl rfl rfl (by omega)) rfl rfl ?_) | (refine C_id ?_; first | refine C_seq ?_ | refine C_region ?_ | refine C_exit ?_ | refine C_cond_f rfl ?_) | (refine E_id ?_; first | refine E_code ?_ | refine E_then_exit ?_ | refine E_blk_same ?_))
        exact E_mid () ⟨rfl, rfl, rfl, rfl, trivial⟩ hS
    · clear hS
      rintro _ w hS
      have hsp := offTo_spec L1 cl
      repeat (first | (refine G_id ?_; first | refine G_nil ?_ | refine G_plain rfl rfl ?_) | (refine X_id ?_; first | refine X_yl (Yl_assign rfl rfl) rfl rfl ?_) | (refine C_id ?_; first | refine C_seq ?_ | refine C_region ?_ | refine C_block ?_) | (refine E_id ?_; first | refine E_code ?_))
      refine C_joinB (α := RZ) (fun z => [(0, .pointer (some ⟨b, 0, none⟩)), (2, .int .i64 (most : Nat)), (8, .pointer (some ⟨p, 0, none⟩)), (10, .int .i64 ((runT (rtb L1) nb cl).2.1 : Nat))]) (fun z w => (runT (rtb L1) nb cl).2.2 = false ∧ rtb z.L = (runT (rtb L1) nb cl).1 ∧ z.ok L1 n ∧ St W noF (z.res p n nb) w) ?_ ?_
      · have hfrom : ∀ x ∈ offTo L1 cl, (x.a, bv x.nd.data) ∈ ([] : List RowD) ∨ ∃ y ∈ L1, x.a = y.a ∧ x.nd.data = y.nd.data := fun x hx => by
          obtain ⟨y, hy, e1, e2⟩ := hsp.2.2.2 x hx
          exact .inr ⟨y, hy, e1, by rw [e2]⟩
        have hsml : ∀ x ∈ offTo L1 cl, x.nd.data.length ≤ 512 := fun x hx => by
          obtain ⟨y, hy, _, e2⟩ := hsp.2.2.2 x hx
          rw [e2]; exact hR.small y hy
        obtain ⟨xi, hxi⟩ : ∃ xi : Nat → Tb × Nat × Bool, xi = fun i => (cl.take i).foldl (fun x c => stepT x nb c) (dropT (rtb L1) cl, 0, false) := ⟨_, rfl⟩
        have hx00 : xi 0 = (dropT (rtb L1) cl, 0, false) := by rw [hxi]; rfl
        have hrun : ∀ i, runT (rtb L1) nb cl = (cl.drop i).foldl (fun x c => stepT x nb c) (xi i) := fun i => by rw [hxi]; exact runT_at _ _ _ i
        refine C_loop (α := Nat × RZ) (fun z => [(0, .pointer (some ⟨b, 0, none⟩)), (1, .slice a l.length c), (2, .int .i64 (most : Nat)), (8, .pointer (some ⟨p, 0, none⟩)), (10, .int .i64 ((xi z.1).2.1 : Nat)), (11, .int .i64 (z.1 : Nat))])
          (fun z w => z.1 ≤ l.length ∧ (xi z.1).2.2 = false ∧ (xi z.1).2.1 ≤ 9 * z.1 ∧ rtb z.2.L = (xi z.1).1 ∧ z.2.ok L1 n ∧ St W noF (z.2.res p n nb) w) (fun z => l.length - z.1) (0, ⟨some ⟨bn, 0, none⟩, nc1, some ⟨bi, 0, none⟩, ic1, offTo L1 cl, []⟩) ⟨rfl, rfl, rfl, rfl, ?_, rfl, trivial⟩ ⟨Nat.zero_le _, ?_, ?_, ?_, ⟨hsp.1.trans hlen, hzn, hzi, hsml, hfrom⟩, hS⟩ ?_
        · simp only [hx00]; rfl
        · simp only [hx00]
        · simp only [hx00]; exact Nat.le_refl _
        · simp only [hx00]; exact hsp.2.2.1
        clear hS
        rintro ⟨i, z⟩ w ⟨hi, hbad, hwr, htb, hzok, hS⟩
        simp only at hi hbad hwr htb hzok hS ⊢
        by_cases hlt : i < l.length
        · have hx0 : l[i]? = some l[i] := List.getElem?_eq_getElem hlt
          generalize l[i] = x at hx0
          have hgx := hget hx0
          have hxm := List.mem_of_getElem? hgx
          have hno := hright.low x.c hxm
          have hr := hC.row
          have hr2 := hC.row
          have hxn : (l.flatMap ChgA.cells)[i * 7 + 0]? = some (.int .i64 x.c.no) := chg_get hx0 0 (by omega)
          have hxd : (l.flatMap ChgA.cells)[i * 7 + 6]? = some (.bool x.c.drop) := chg_get hx0 6 (by omega)
          have hx2 : (l.flatMap ChgA.cells)[i * 7 + 5]? = some (.slice x.a x.c.nd.data.length x.k) := chg_get hx0 5 (by omega)
          have hst4 := chg_stat hx0
          have hxi1 : xi (i + 1) = stepT (xi i) nb x.c := by
            rw [hxi]
            simp only
            rw [List.take_add_one, hgx]
            simp
          obtain ⟨xb, xo, hxa⟩ := (hr.rd hS).base (by intro e; rw [e] at hx2; simp at hx2)
          rw [hxa] at hr hr2 ⊢
          cases hdp : x.c.drop with
          | true =>
            have hx := hxd
            rw [hdp] at hx
            have hst : stepT (xi i) nb x.c = ((xi i).1, (xi i).2.1 + 1, false) := by unfold stepT; rw [if_neg (by simp [hbad]), if_pos hdp]
            rw [hst] at hxi1
            repeat (first | (refine G_id ?_; first | refine G_nil ?_ | refine G_plain rfl rfl ?_) | (refine X_id ?_; first | refine X_yl (Yl_move rfl rfl) rfl rfl ?_ | refine X_yl (Yl_assign rfl rfl) rfl rfl ?_ | refine X_yl (Yl_fieldAddr rfl rfl rfl) rfl rfl ?_ | refine X_yl (Yl_len rfl rfl) rfl rfl ?_ | refine X_yl (Yl_lss_t rfl rfl rfl (by omega)) rfl rfl ?_ | refine X_yl (Yl_indexAddr rfl rfl rfl (by omega) (by omega) (by first | assumption | exact ⟨_, _, rfl⟩)) rfl rfl ?_ | refine X_yl (Yl_add rfl rfl rfl (w64 (by omega) (by omega))) rfl rfl ?_ | refine X_yl (Yl_load rfl rfl ((hr.rd hS).cellF (by first | omega | (dsimp only; omega)) hx)) rfl rfl ?_) | (refine C_id ?_; first | refine C_seq ?_ | refine C_region ?_ | refine C_block ?_ | refine C_skip ?_ | refine C_exit ?_ | refine C_cond_t rfl ?_) | (refine E_id ?_; first | refine E_code ?_ | refine E_then_exit ?_ | refine E_blk_same ?_))
            refine E_round (α := Nat × RZ) (z := (i, z)) (i + 1, z) ⟨rfl, rfl, rfl, rfl, by simp only [hxi1]; rfl, rfl, trivial⟩ ⟨by simp only; omega, ?_, ?_, ?_, hzok, hS⟩ (by simp only; omega)
            · simp only [hxi1]
            · simp only [hxi1]; omega
            · simp only [hxi1]; exact htb
          | false =>
            have hlen5 := (hright.ok x.c hxm hdp).2
            obtain ⟨na2, nc2, ia2, ic2, L2, X2⟩ := z
            obtain ⟨zlen, zncl, zicl, zsmall, zfrom⟩ := hzok
            simp only [RZ.res] at zlen zncl zicl zsmall zfrom htb hS
            have hlc2 : (L2.flatMap RN.cells).length = n * 5 := by rw [rn_len, zlen]
            obtain ⟨bn2, rfl⟩ := St.ownBase hS (by intro e; rw [e] at hlc2; simp at hlc2; omega)
            have hS1 := hS.pick [1, 0, 0, 0]
            obtain ⟨bi2, rfl⟩ := St.ownBase hS1 (by intro e; rw [List.map_eq_nil_iff] at e; rw [e] at zlen; simp at zlen; omega)
            clear hS1
            have hnk := nblk_le (n := x.c.nd.data.length) hlen5
            have hRR : ∀ w rs, St W noF (own 62 5 (some ⟨bn2, 0, none⟩) nc2 (L2.flatMap RN.cells) :: own 4 1 (some ⟨bi2, 0, none⟩) ic2 (L2.map RN.isV) :: rtAt p (some ⟨bn2, 0, none⟩) n nc2 (some ⟨bi2, 0, none⟩) ic2 nb :: bag X2 :: rs) w → RtRd w p n nb L2 (some ⟨bn2, 0, none⟩) nc2 (some ⟨bi2, 0, none⟩) ic2 := fun w rs hS => by
              refine ⟨hS.rd (by simp), (hS.rd (List.mem_cons_self ..)).own_row, (hS.rd (List.mem_cons_of_mem _ (List.mem_cons_self ..))).own_row, fun y hy => ?_, zlen, zsmall, hn4, hnb4, zncl, zicl⟩
              rcases zfrom y hy with h | ⟨y', hy', e1, e2⟩
              · exact (hS.rd (r := bag X2) (by simp)).bag h
              · unfold bytes
                rw [e1, e2]; exact (hdr y' hy').rd hS
            have hx := hxd
            rw [hdp] at hx
            repeat (first | (refine G_id ?_; first | refine G_nil ?_ | refine G_plain rfl rfl ?_) | (refine X_id ?_; first | (refine X_callq 17 rfl rfl rfl rfl rfl hS (rblocks_ x.c.nd.data.length _ (by omega)) ?_; rintro _ _ rfl hS) | refine X_yl (Yl_move rfl rfl) rfl rfl ?_ | refine X_yl (Yl_assign rfl rfl) rfl rfl ?_ | refine X_yl (Yl_fieldAddr rfl rfl rfl) rfl rfl ?_ | refine X_yl (Yl_len rfl rfl) rfl rfl ?_ | refine X_yl (Yl_lss_t rfl rfl rfl (by omega)) rfl rfl ?_ | refine X_yl (Yl_indexAddr rfl rfl rfl (by omega) (by omega) (by first | assumption | exact ⟨_, _, rfl⟩)) rfl rfl ?_ | refine X_yl (Yl_add rfl rfl rfl (w64 (by omega) (by omega))) rfl rfl ?_ | refine X_yl (Yl_load rfl rfl ((hr.rd hS).cellF (by first | omega | (dsimp only; omega)) hx)) rfl rfl ?_ | refine X_yl (Yl_load rfl rfl ((hr2.rd hS).cellF (by first | omega | (dsimp only; omega)) hx2)) rfl rfl ?_) | (refine C_id ?_; first | refine C_seq ?_ | refine C_region ?_ | refine C_block ?_ | refine C_skip ?_ | refine C_cond_t rfl ?_ | refine C_cond_f rfl ?_) | (refine E_id ?_; first | refine E_code ?_))
            refine X_callq _ rfl rfl rfl rfl rfl hS (rroom_ p n nb L2 _ _ _ _ _ (hRR _ _ hS)) ?_
            rintro _ w rfl hS
            rw [htb]
            by_cases hroom : roomT (xi i).1 nb < (nblk x.c.nd.data.length : Nat)
            · have hst : stepT (xi i) nb x.c = ((xi i).1, (xi i).2.1, true) := by unfold stepT; rw [if_neg (by simp [hbad]), if_neg (by simp [hdp]), if_pos hroom]
              rw [hst] at hxi1
              have hb2 : (runT (rtb L1) nb cl).2.2 = true := by
                rw [hrun (i + 1)]
                exact stepT_bad _ _ (by rw [hxi1])
              repeat (first | (refine G_id ?_; first | refine G_nil ?_ | refine G_plain rfl rfl ?_) | (refine X_id ?_; first | refine X_yl (Yl_move rfl rfl) rfl rfl ?_ | refine X_yl (Yl_assign rfl rfl) rfl rfl ?_ | refine X_yl (Yl_gtr_t rfl rfl rfl (by omega)) rfl rfl ?_) | (refine C_id ?_; first | refine C_seq ?_ | refine C_region ?_ | refine C_ret ?_ | refine C_cond_t rfl ?_) | (refine E_id ?_; first | refine E_code ?_ | refine E_then_ret ?_ | refine E_blk_ret ?_ | refine E_ret2 rfl (Rv_tmp rfl) (Rv_tmp rfl) (Ret.mk ?_)))
              left
              exact ⟨by unfold putT; rw [if_pos hb2], rfl, hS.drops⟩
            · have hst : stepT (xi i) nb x.c = ((xi i).1.set x.c.no.toNat (some x.c.nd), (xi i).2.1 + 1 + nblk x.c.nd.data.length, false) := by unfold stepT; rw [if_neg (by simp [hbad]), if_neg (by simp [hdp]), if_neg hroom]
              rw [hst] at hxi1
              clear hx
              have hx := hxn
              repeat (first | (refine G_id ?_; first | refine G_nil ?_ | refine G_plain rfl rfl ?_) | (refine X_id ?_; first | refine X_yl (Yl_move rfl rfl) rfl rfl ?_ | refine X_yl (Yl_assign rfl rfl) rfl rfl ?_ | refine X_yl (Yl_gtr_f rfl rfl rfl (by omega)) rfl rfl ?_ | refine X_yl (Yl_add rfl rfl rfl (w64 (by omega) (by omega))) rfl rfl ?_) | (refine C_id ?_; first | refine C_seq ?_ | refine C_region ?_ | refine C_skip ?_ | refine C_cond_f rfl ?_) | (refine E_id ?_; first | refine E_code ?_))
              refine C_ord (.s 0 (.s 1 (.s 2 (.s 3 (.s 4 (.s 5 (.s 6 (.s 7 (.s 8 (.s 9 (.s 10 (.s 11 (.s 12 (.s 13 (.s 14 (.s 15 (.s 16 (.s 17 (.s 18 (.s 19 (.s 20 (.s 21 (.s 22 (.s 23 (.s 25 (.s 26 (.s 27 (.s 28 (.s 29 (.s 30 (.h 24 (.h 31 (.s 32 (.s 33 (.h 34 (.s 35 (.h 36 .nil .no)) .no))) .no) .no))))))))))))))))))))))))))))))) mixed (by kernel_rfl) rfl ?_
              have hS := hS.drew
              repeat (first | (refine GO_id ?_; first | refine GO_pure rfl rfl (fun _ => Yl_move rfl rfl) rfl rfl ?_ | refine GO_pure rfl rfl (fun _ => Yl_nilCheck rfl rfl) rfl rfl ?_ | refine GO_pure rfl rfl (fun _ => Yl_fieldAddr0 rfl rfl rfl) rfl rfl ?_ | refine GO_pure rfl rfl (fun _ => Yl_fieldAddr rfl rfl rfl) rfl rfl ?_ | refine GO_pure rfl rfl (fun _ => Yl_indexAddr rfl rfl rfl (by omega) (by omega) (by first | assumption | exact ⟨_, _, rfl⟩)) rfl rfl ?_ | refine GO_read (fun w' => w'.cell? _ = some _) rfl rfl hS.cell (fun _ hc => Yl_load rfl rfl hc) rfl rfl ?_ | refine GO_read (fun w' => w'.cell? _ = some _) rfl rfl ((hr.rd hS).cellX (by omega) hx) (fun _ hc => Yl_load rfl rfl hc) rfl rfl ?_))
              refine GO_read (fun w' => CellsN w' _ _ _) rfl rfl ((hr.rd hS).cellsF7 (by first | omega | (dsimp only; omega)) hst4 rfl) (fun _ hc => Yl_loadN rfl rfl hc) rfl rfl ?_
              repeat (first | (refine X_id ?_; first | refine X_buildSlice rfl rfl rfl rfl rfl rfl rfl rfl hS (fun _ _ hS _ => ?_)) | (refine GO_id ?_; first | refine GO_pure rfl rfl (fun _ => Yl_move rfl rfl) rfl rfl ?_ | refine GO_pure rfl rfl (fun _ => Yl_fieldAddr rfl rfl rfl) rfl rfl ?_ | refine GO_pure rfl rfl (fun _ => Yl_indexAddr rfl rfl rfl (by omega) (by omega) (by first | assumption | exact ⟨_, _, rfl⟩)) rfl rfl ?_ | refine GO_hard rfl rfl ?_ | refine GO_read (fun w' => w'.cell? _ = some _) rfl rfl ((hr2.rd hS).cellF (by first | omega | (dsimp only; omega)) hx2) (fun _ hc => Yl_load rfl rfl hc) rfl rfl ?_) | (refine Keep_id ?_; first | refine And.intro (by repeat (first | exact trivial | refine And.intro (.inl (by decide +kernel)) ?_ | refine And.intro (.inr (by first | assumption | exact hS.cell | exact cell_at (by assumption) | exact hS.cellI (by omega) | exact hS.cellIP (by omega) | exact hS.cellsN | exact ((hr.rd hS).cellX (by omega) hx) | exact ((hr2.rd hS).cellX (by omega) hx2) | exact hS.cellB (by omega) | exact hS.cellBA (by omega) | exact (hb.rd hS).cellB' (by omega) | exact (hb2.rd hS).cellB' (by omega) | exact (hg.rd hS).cellI (by omega) | exact (hg2.rd hS).cellI (by omega) | exact ((hr.rd hS).cellF (by first | omega | (dsimp only; omega)) hx) | exact ((hr2.rd hS).cellF (by first | omega | (dsimp only; omega)) hx2) | exact hS.cellO 0 (by omega) | exact hS.cellO 1 (by omega) | exact hS.cellIA (by omega) | exact (hg.rd hS).cellIA (by omega) | exact (hg2.rd hS).cellIA (by omega) | exact cell_at (hc.rd hS).pts | exact hb.rd hS | exact (hr.rd hS).cellsF7 (by first | omega | (dsimp only; omega)) hst4 rfl | exact (hr2.rd hS).cellsF7 (by first | omega | (dsimp only; omega)) hst4 rfl | exact hS.cellO 4 (by omega) | exact hS.cellO 5 (by omega) | exact hS.cellO 6 (by omega) | exact hS.cellO 7 (by omega) | exact hS.cellO 8 (by omega) | exact hS.cellO 9 (by omega) | exact hS.cellO 10 (by omega) | exact hS.cellO 11 (by omega) | exact hS.cellO 12 (by omega) | exact hS.cellO 13 (by omega) | exact hS.cellO 2 (by omega) | exact hS.cellO 3 (by omega))) ?_)) ?_))
              refine X_append (T := 5) (n := 0) (m := x.c.nd.data.length) rfl rfl rfl rfl rfl hS rfl (Nat.zero_le _) ((hC.all x (List.mem_of_getElem? hx0)).rd hS) (by rw [bv_length, Nat.mul_one]) bv_one (by omega) (by simp only [maxLen]; omega) (fun ad cd w hS hcd _ => ?_)
              rw [Nat.zero_add] at hcd
              simp only [List.nil_append, Nat.zero_add] at hS
              rw [Nat.zero_add]
              repeat (first | (refine GO_id ?_; first | refine GO_pure rfl rfl (fun _ => Yl_build rfl rfl rfl) rfl rfl ?_ | refine GO_pure rfl rfl (fun _ => Yl_indexAddr rfl rfl rfl (by omega) (by omega) (by first | assumption | exact ⟨_, _, rfl⟩)) rfl rfl ?_ | refine GO_hard rfl rfl ?_) | (refine Keep_id ?_; first | refine And.intro (by repeat (first | exact trivial | refine And.intro (.inl (by decide +kernel)) ?_ | refine And.intro (.inr (by first | assumption | exact hS.cell | exact cell_at (by assumption) | exact hS.cellI (by omega) | exact hS.cellIP (by omega) | exact hS.cellsN | exact ((hr.rd hS).cellX (by omega) hx) | exact ((hr2.rd hS).cellX (by omega) hx2) | exact hS.cellB (by omega) | exact hS.cellBA (by omega) | exact (hb.rd hS).cellB' (by omega) | exact (hb2.rd hS).cellB' (by omega) | exact (hg.rd hS).cellI (by omega) | exact (hg2.rd hS).cellI (by omega) | exact ((hr.rd hS).cellF (by first | omega | (dsimp only; omega)) hx) | exact ((hr2.rd hS).cellF (by first | omega | (dsimp only; omega)) hx2) | exact hS.cellO 0 (by omega) | exact hS.cellO 1 (by omega) | exact hS.cellIA (by omega) | exact (hg.rd hS).cellIA (by omega) | exact (hg2.rd hS).cellIA (by omega) | exact cell_at (hc.rd hS).pts | exact hb.rd hS | exact (hr.rd hS).cellsF7 (by first | omega | (dsimp only; omega)) hst4 rfl | exact (hr2.rd hS).cellsF7 (by first | omega | (dsimp only; omega)) hst4 rfl | exact hS.cellO 4 (by omega) | exact hS.cellO 5 (by omega) | exact hS.cellO 6 (by omega) | exact hS.cellO 7 (by omega) | exact hS.cellO 8 (by omega) | exact hS.cellO 9 (by omega) | exact hS.cellO 10 (by omega) | exact hS.cellO 11 (by omega) | exact hS.cellO 12 (by omega) | exact hS.cellO 13 (by omega) | exact hS.cellO 2 (by omega) | exact hS.cellO 3 (by omega))) ?_)) ?_))
              refine X_storeOwnN (a := some ⟨bn2, 0, none⟩) (i := x.c.no.toNat * 5) (vs := RN.cells ⟨true, x.c.nd, ad, cd⟩) rfl rfl rfl rfl (rn_one [⟨true, x.c.nd, ad, cd⟩]) rfl rfl hS (by rw [hlc2]; show _ + 5 ≤ _; omega) (by omega) (fun w hS => ?_)
              repeat (first | (refine GO_id ?_; first | refine GO_pure rfl rfl (fun _ => Yl_indexAddr rfl rfl rfl (by omega) (by omega) (by first | assumption | exact ⟨_, _, rfl⟩)) rfl rfl ?_ | refine GO_hard rfl rfl ?_) | (refine Keep_id ?_; first | refine And.intro (by repeat (first | exact trivial | refine And.intro (.inl (by decide +kernel)) ?_ | refine And.intro (.inr (by first | assumption | exact hS.cell | exact cell_at (by assumption) | exact hS.cellI (by omega) | exact hS.cellIP (by omega) | exact hS.cellsN | exact ((hr.rd hS).cellX (by omega) hx) | exact ((hr2.rd hS).cellX (by omega) hx2) | exact hS.cellB (by omega) | exact hS.cellBA (by omega) | exact (hb.rd hS).cellB' (by omega) | exact (hb2.rd hS).cellB' (by omega) | exact (hg.rd hS).cellI (by omega) | exact (hg2.rd hS).cellI (by omega) | exact ((hr.rd hS).cellF (by first | omega | (dsimp only; omega)) hx) | exact ((hr2.rd hS).cellF (by first | omega | (dsimp only; omega)) hx2) | exact hS.cellO 0 (by omega) | exact hS.cellO 1 (by omega) | exact hS.cellIA (by omega) | exact (hg.rd hS).cellIA (by omega) | exact (hg2.rd hS).cellIA (by omega) | exact cell_at (hc.rd hS).pts | exact hb.rd hS | exact (hr.rd hS).cellsF7 (by first | omega | (dsimp only; omega)) hst4 rfl | exact (hr2.rd hS).cellsF7 (by first | omega | (dsimp only; omega)) hst4 rfl | exact hS.cellO 4 (by omega) | exact hS.cellO 5 (by omega) | exact hS.cellO 6 (by omega) | exact hS.cellO 7 (by omega) | exact hS.cellO 8 (by omega) | exact hS.cellO 9 (by omega) | exact hS.cellO 10 (by omega) | exact hS.cellO 11 (by omega) | exact hS.cellO 12 (by omega) | exact hS.cellO 13 (by omega) | exact hS.cellO 2 (by omega) | exact hS.cellO 3 (by omega))) ?_)) ?_))
              refine X_storeOwn (a := some ⟨bi2, 0, none⟩) (i := x.c.no.toNat) rfl rfl (by rw [Nat.mul_one]) rfl rfl rfl rfl hS (by rw [List.length_map]; omega) (fun w hS => ?_)
              repeat (first | (refine G_id ?_; first | refine G_nil ?_ | refine G_plain rfl rfl ?_) | (refine X_id ?_; first | refine X_yl (Yl_move rfl rfl) rfl rfl ?_ | refine X_yl (Yl_assign rfl rfl) rfl rfl ?_ | refine X_yl (Yl_add rfl rfl rfl (w64 (by omega) (by omega))) rfl rfl ?_) | (refine C_id ?_; first | refine C_region ?_) | (refine E_id ?_; first | refine E_code ?_ | refine E_blk_n ?_) | (refine GO_id ?_; first | refine GO_nil ?_) | (refine Keep_id ?_; first | refine And.intro (by repeat (first | exact trivial | refine And.intro (.inl (by decide +kernel)) ?_ | refine And.intro (.inr (by first | assumption | exact hS.cell | exact cell_at (by assumption) | exact hS.cellI (by omega) | exact hS.cellIP (by omega) | exact hS.cellsN | exact ((hr.rd hS).cellX (by omega) hx) | exact ((hr2.rd hS).cellX (by omega) hx2) | exact hS.cellB (by omega) | exact hS.cellBA (by omega) | exact (hb.rd hS).cellB' (by omega) | exact (hb2.rd hS).cellB' (by omega) | exact (hg.rd hS).cellI (by omega) | exact (hg2.rd hS).cellI (by omega) | exact ((hr.rd hS).cellF (by first | omega | (dsimp only; omega)) hx) | exact ((hr2.rd hS).cellF (by first | omega | (dsimp only; omega)) hx2) | exact hS.cellO 0 (by omega) | exact hS.cellO 1 (by omega) | exact hS.cellIA (by omega) | exact (hg.rd hS).cellIA (by omega) | exact (hg2.rd hS).cellIA (by omega) | exact cell_at (hc.rd hS).pts | exact hb.rd hS | exact (hr.rd hS).cellsF7 (by first | omega | (dsimp only; omega)) hst4 rfl | exact (hr2.rd hS).cellsF7 (by first | omega | (dsimp only; omega)) hst4 rfl | exact hS.cellO 4 (by omega) | exact hS.cellO 5 (by omega) | exact hS.cellO 6 (by omega) | exact hS.cellO 7 (by omega) | exact hS.cellO 8 (by omega) | exact hS.cellO 9 (by omega) | exact hS.cellO 10 (by omega) | exact hS.cellO 11 (by omega) | exact hS.cellO 12 (by omega) | exact hS.cellO 13 (by omega) | exact hS.cellO 2 (by omega) | exact hS.cellO 3 (by omega))) ?_)) ?_))
              refine E_round (α := Nat × RZ) (z := (i, ⟨some ⟨bn2, 0, none⟩, nc2, some ⟨bi2, 0, none⟩, ic2, L2, X2⟩)) (i + 1, ⟨some ⟨bn2, 0, none⟩, nc2, some ⟨bi2, 0, none⟩, ic2, L2.set x.c.no.toNat ⟨true, x.c.nd, ad, cd⟩, (ad, bv x.c.nd.data) :: X2⟩) ⟨rfl, rfl, rfl, rfl, by simp only [hxi1]; rfl, rfl, trivial⟩ ⟨by simp only; omega, ?_, ?_, ?_, ⟨by rw [List.length_set]; exact zlen, zncl, zicl, ?_, ?_⟩, ?_⟩ (by simp only; omega)
              · simp only [hxi1]
              · simp only [hxi1]; omega
              · simp only [hxi1]
                rw [rtb, List.map_set, ← htb]; rfl
              · intro y hy
                rcases List.mem_or_eq_of_mem_set hy with hy | rfl
                · exact zsmall y hy
                · exact hlen5
              · intro y hy
                rcases List.mem_or_eq_of_mem_set hy with hy | rfl
                · rcases zfrom y hy with h | h
                  · exact .inl (List.mem_cons_of_mem _ h)
                  · exact .inr h
                · exact .inl (List.mem_cons_self ..)
              · simp only [RZ.res]
                rw [set_cells L2 _ _ (by omega), List.map_set]
                have h := hS.took (out := [own 5 1 ad cd (bv x.c.nd.data), bag X2, own 62 5 (some ⟨bn2, 0, none⟩) nc2 (splice (L2.flatMap RN.cells) (x.c.no.toNat * 5) (RN.cells ⟨true, x.c.nd, ad, cd⟩)), own 4 1 (some ⟨bi2, 0, none⟩) ic2 ((L2.map RN.isV).set x.c.no.toNat (.bool true)), rtAt p (some ⟨bn2, 0, none⟩) n nc2 (some ⟨bi2, 0, none⟩) ic2 nb])
                have h2 := h.bagAdd (fun _ hh => own.row hh)
                exact h2.pick [1, 1, 1, 0]
        · obtain rfl : i = l.length := by omega
          have he := hrun l.length
          rw [List.drop_eq_nil_of_le (by omega), List.foldl_nil] at he
          rw [he]
          repeat (first | (refine G_id ?_; first | refine G_nil ?_ | refine G_plain rfl rfl ?_) | (refine X_id ?_; first | refine X_yl (Yl_move rfl rfl) rfl rfl ?_ | refine X_yl (Yl_len rfl rfl) rfl rfl ?_ | refine X_yl (Yl_lss_f rfl rfl rfl (by omega)) rfl rfl ?_) | (refine C_id ?_; first | refine C_seq ?_ | refine C_region ?_ | refine C_exit ?_ | refine C_cond_f rfl ?_) | (refine E_id ?_; first | refine E_code ?_ | refine E_then_exit ?_ | refine E_blk_same ?_))
          exact E_mid (α := RZ) z ⟨rfl, rfl, rfl, rfl, trivial⟩ ⟨hbad, htb, hzok, hS⟩
      · clear hS
        rintro z w ⟨hbad, htb, hzok, hS⟩
        by_cases hm : most < (runT (rtb L1) nb cl).2.1
        · repeat (first | (refine G_id ?_; first | refine G_nil ?_ | refine G_plain rfl rfl ?_) | (refine X_id ?_; first | refine X_yl (Yl_move rfl rfl) rfl rfl ?_ | refine X_yl (Yl_assign rfl rfl) rfl rfl ?_ | refine X_yl (Yl_gtr_t rfl rfl rfl (by omega)) rfl rfl ?_) | (refine C_id ?_; first | refine C_seq ?_ | refine C_region ?_ | refine C_ret ?_ | refine C_cond_t rfl ?_) | (refine E_id ?_; first | refine E_code ?_ | refine E_then_ret ?_ | refine E_ret2 rfl (Rv_tmp rfl) (Rv_tmp rfl) (Ret.mk ?_)))
          left
          exact ⟨by unfold putT; rw [if_neg (by simp [hbad]), if_pos hm], rfl, hS.drops⟩
        · repeat (first | (refine G_id ?_; first | refine G_nil ?_ | refine G_plain rfl rfl ?_) | (refine X_id ?_; first | refine X_yl (Yl_move rfl rfl) rfl rfl ?_ | refine X_yl (Yl_assign rfl rfl) rfl rfl ?_ | refine X_yl (Yl_gtr_f rfl rfl rfl (by omega)) rfl rfl ?_) | (refine C_id ?_; first | refine C_seq ?_ | refine C_region ?_ | refine C_ret ?_ | refine C_skip ?_ | refine C_cond_f rfl ?_) | (refine E_id ?_; first | refine E_code ?_ | refine E_ret2 rfl (Rv_tmp rfl) (Rv_tmp rfl) (Ret.mk ?_)))
          right
          exact ⟨p, z, rfl, by unfold putT; rw [if_neg (by simp [hbad]), if_neg hm, htb], hzok, hS⟩
end Cr
namespace Cr
open Go Go.Proofs
set_option maxRecDepth 100000
set_option maxHeartbeats 16000000
attribute [local irreducible] Calls

theorem small_num {s : Sto} {nb : Nat} (h : s.ok nb) : smallI (((stoB s).drop 1).take 8) = s.nd.st.num := by
  have := StatM.num_low (s := s.nd.st)
  rw [stoB_num h, show s.nd.st.num = ((s.nd.st.num.toNat : Nat) : Int) by omega, smallI_big (by omega) (by omega) (by omega)]
theorem small_len {s : Sto} {nb : Nat} (h : s.ok nb) : smallI (((stoB s).drop 9).take 4) = (s.nd.data.length : Nat) := by
  have := h.len
  rw [stoB_len h, smallI_big (by omega) (by omega) (by omega)]
theorem small_blk {s : Sto} {nb : Nat} (h : s.ok nb) (hnb : nb ≤ 4096) {i : Nat} {b : Int} (hb : s.blocks[i]? = some b) : smallI (((stoB s).drop (13 + 4 * i)).take 4) = b := by
  have := h.low b (List.mem_of_getElem? hb)
  rw [stoB_blk h hb, show b = ((b.toNat : Nat) : Int) by omega, smallI_big (by omega) (by omega) (by omega)]
theorem read_c (tp lp n r p j m nb : Nat) (dat : List (List UInt8)) (s : Sto) (hs : s.ok nb) (hat : ∀ k b, s.blocks[k]? = some b → dat.getD (1 + n + b.toNat) [] = chunkB s.nd.data k) (a : Option Addr) (c : Nat) (hc64 : 64 ≤ c) (W : World) (hT : Rd W (tabAt tp lp n r)) (hq : Rd W (qlog lp p j m dat)) (hd : dat.length = 1 + n + nb) (hb : Rd W (bytes a (stoB s))) :
    Calls Tryz.prog 41 #[.pointer (some ⟨tp, 0, none⟩), .slice a 64 c] W (Ret fun v w => ∃ da dc ba bc, v = .tuple #[.agg (stoV s da dc ba bc).toArray, .bool true] ∧ St W noF [row da (bv s.nd.data), row ba (ints .i64 s.blocks)] w) := by
  have hTo := hT.ro
  have hqo := hq.ro
  have hbo := hb.ro
  have hql := (qlen hq).1
  have h64 := stoB_length s
  have hst := hs.st
  have hsl := hs.len
  have hcnt := hs.cnt
  have hb8 := nblk_le hsl
  have hc := hTo
  have hsub : ∀ (w : World) (l h : Nat), Rd w (bytes a (stoB s)) → h ≤ 64 → l ≤ h → Rd w (bytes (sub a l 1 c) (((stoB s).drop l).take (h - l))) := fun w l h H h1 h2 => H.subBytes (by omega) h2
  have hsm : ∀ (w : World) (l h : Nat), Rd w (bytes a (stoB s)) → h ≤ 64 → l ≤ h → Calls Tryz.prog 37 #[.slice (sub a l 1 c) (h - l) (c - l)] w (Ret fun v w' => v = .int .i64 (smallI (((stoB s).drop l).take (h - l))) ∧ w = w') := fun w l h H h1 h2 => by
    have := ismall_ (sub a l 1 c) (c - l) (((stoB s).drop l).take (h - l)) w (hsub w l h H h1 h2) (by simp; omega)
    rwa [show (((stoB s).drop l).take (h - l)).length = h - l by rw [List.length_take, List.length_drop, h64]; omega] at this
  have e1 := small_num hs
  have e2 := small_len hs
  have hS := St.start W
  refine calls_C Tryz.func41 rfl Tryz.ntmps41 rfl ?_
  repeat (first | (refine G_id ?_; first | refine G_nil ?_ | refine G_plain rfl rfl ?_) | (refine X_id ?_; first | refine X_yl (Yl_move rfl rfl) rfl rfl ?_ | refine X_yl (Yl_assign rfl rfl) rfl rfl ?_ | refine X_alloc rfl rfl rfl hS (fun _ _ hS _ => ?_)) | (refine C_id ?_; first | refine C_seq ?_ | refine C_region ?_) | (refine E_id ?_; first | refine E_code ?_))
  rename_i t4 _ _
  refine X_yl (Yl_slice (l := 1) (h := 9) rfl rfl rfl rfl (.inr ⟨_, _, rfl, by omega, by omega, by omega⟩) (.inr ⟨_, _, rfl, by omega, by omega, by omega⟩)) rfl rfl ?_
  repeat (first | (refine G_id ?_; first | refine G_plain rfl rfl ?_))
  refine X_callg _ rfl rfl rfl rfl rfl (hsm _ 1 9 (hbo.rd hS) (by omega) (by omega)) ?_
  rintro _ _ ⟨rfl, rfl⟩
  rw [show 9 - 1 = 8 from rfl, e1]
  repeat (first | (refine G_id ?_; first | refine G_nil ?_ | refine G_plain rfl rfl ?_) | (refine X_id ?_; first | (refine X_callq 73 rfl rfl rfl rfl rfl hS (mof_ s.nd.st hst _) ?_; rintro _ _ rfl hS) | refine X_yl (Yl_move rfl rfl) rfl rfl ?_ | refine X_yl (Yl_assign rfl rfl) rfl rfl ?_ | refine X_yl (Yl_extract rfl rfl) rfl rfl ?_ | refine X_store rfl rfl rfl rfl hS (fun _ hS _ => ?_) | refine X_alloc rfl rfl rfl hS (fun _ _ hS _ => ?_)) | (refine C_id ?_; first | refine C_seq ?_ | refine C_region ?_) | (refine E_id ?_; first | refine E_code ?_))
  refine X_yl (Yl_slice (l := 9) (h := 13) rfl rfl rfl rfl (.inr ⟨_, _, rfl, by omega, by omega, by omega⟩) (.inr ⟨_, _, rfl, by omega, by omega, by omega⟩)) rfl rfl ?_
  repeat (first | (refine G_id ?_; first | refine G_plain rfl rfl ?_))
  refine X_callg _ rfl rfl rfl rfl rfl (hsm _ 9 13 (hbo.rd hS) (by omega) (by omega)) ?_
  rintro _ _ ⟨rfl, rfl⟩
  rw [show 13 - 9 = 4 from rfl, e2]
  repeat (first | (refine G_id ?_; first | refine G_nil ?_ | refine G_plain rfl rfl ?_ | refine G_yes rfl rfl rfl rfl ?_) | (refine X_id ?_; first | (refine X_callg 24 rfl rfl rfl rfl rfl (iblocks_ _ _ (by omega)) ?_; rintro _ _ ⟨rfl, rfl⟩) | refine X_yl (Yl_move rfl rfl) rfl rfl ?_ | refine X_yl (Yl_assign rfl rfl) rfl rfl ?_ | refine X_yl (Yl_pick_f rfl rfl rfl) rfl rfl ?_ | refine X_yl (Yl_neq_f rfl rfl rfl (by omega)) rfl rfl ?_ | refine X_yl (Yl_gtr_f rfl rfl rfl (by omega)) rfl rfl ?_ | refine X_yl (Yl_build rfl rfl rfl) rfl rfl ?_ | refine X_yl (Yl_loadN rfl rfl hS.cellsN) rfl rfl ?_ | refine X_store rfl rfl rfl rfl hS (fun _ hS _ => ?_) | refine X_alloc rfl rfl rfl hS (fun _ _ hS _ => ?_)) | (refine C_id ?_; first | refine C_seq ?_ | refine C_region ?_ | refine C_block ?_ | refine C_skip ?_ | refine C_cond_f rfl ?_) | (refine E_id ?_; first | refine E_code ?_))
  rename_i t9 _ _ _ _ _
  have hS := (hS.own_none 3 1 none).own_none 5 1 none
  have hS := hS.took (out := [own 5 1 none 0 [], own 3 1 none 0 [], pts t9 (.cells (List.toArray [.int .i64 s.nd.st.kind, .int .i64 s.nd.st.mode, .int .i64 s.nd.st.owner, .int .i64 s.nd.st.group, .slice none 0 0, .slice none 0 0]) 73), pts t4 (.cells (List.toArray [.int .i64 0, .int .i64 0, .int .i64 0, .int .i64 0, .slice none 0 0, .slice none 0 0]) 73)])
  refine C_joinB (α := Option Addr × Nat × Option Addr × Nat) (fun _ => [(0, .pointer (some ⟨tp, 0, none⟩)), (1, .slice a 64 c), (4, .pointer (some ⟨t4, 0, none⟩)), (8, .int .i64 (s.nd.data.length : Nat)), (9, .pointer (some ⟨t9, 0, none⟩))])
    (fun z w => (nblk s.nd.data.length * 64 ≤ z.2.1 ∧ nblk s.nd.data.length ≤ z.2.2.2) ∧ St W noF [own 5 1 z.1 z.2.1 (bv (joinC s.nd.data (nblk s.nd.data.length))), own 3 1 z.2.2.1 z.2.2.2 (ints .i64 s.blocks), pts t9 (.cells (List.toArray [.int .i64 s.nd.st.kind, .int .i64 s.nd.st.mode, .int .i64 s.nd.st.owner, .int .i64 s.nd.st.group, .slice z.1 (nblk s.nd.data.length * 64) z.2.1, .slice z.2.2.1 s.blocks.length z.2.2.2]) 73), pts t4 (.cells (List.toArray [.int .i64 0, .int .i64 0, .int .i64 0, .int .i64 0, .slice none 0 0, .slice none 0 0]) 73)] w) ?_ ?_
  · refine C_loop (α := Nat × Option Addr × Nat × Option Addr × Nat) (fun z => [(0, .pointer (some ⟨tp, 0, none⟩)), (1, .slice a 64 c), (4, .pointer (some ⟨t4, 0, none⟩)), (8, .int .i64 (s.nd.data.length : Nat)), (9, .pointer (some ⟨t9, 0, none⟩)), (35, .int .i64 (nblk s.nd.data.length : Nat)), (36, .int .i64 (z.1 : Nat))])
      (fun z w => (z.1 ≤ nblk s.nd.data.length ∧ z.1 * 64 ≤ z.2.2.1 ∧ z.1 ≤ z.2.2.2.2) ∧ St W noF [own 5 1 z.2.1 z.2.2.1 (bv (joinC s.nd.data z.1)), own 3 1 z.2.2.2.1 z.2.2.2.2 (ints .i64 (s.blocks.take z.1)), pts t9 (.cells (List.toArray [.int .i64 s.nd.st.kind, .int .i64 s.nd.st.mode, .int .i64 s.nd.st.owner, .int .i64 s.nd.st.group, .slice z.2.1 (z.1 * 64) z.2.2.1, .slice z.2.2.2.1 z.1 z.2.2.2.2]) 73), pts t4 (.cells (List.toArray [.int .i64 0, .int .i64 0, .int .i64 0, .int .i64 0, .slice none 0 0, .slice none 0 0]) 73)] w)
      (fun z => nblk s.nd.data.length - z.1) (0, none, 0, none, 0) ⟨rfl, rfl, rfl, rfl, rfl, rfl, rfl, trivial⟩ ⟨⟨Nat.zero_le _, Nat.le_refl _, Nat.le_refl _⟩, hS⟩ ?_
    clear hS
    rintro ⟨i, da, dc, ba, bc⟩ w ⟨⟨hi, hdc, hbc⟩, hS⟩
    simp only at hi hdc hbc hS ⊢
    have hjl := joinC_length s.nd.data i
    have htl : (s.blocks.take i).length = i := by rw [List.length_take]; omega
    by_cases hlt : i < nblk s.nd.data.length
    · have hb0 : s.blocks[i]? = some s.blocks[i] := List.getElem?_eq_getElem (by omega)
      generalize s.blocks[i] = b at hb0
      have hlow := hs.low b (List.mem_of_getElem? hb0)
      have e3 := small_blk hs (by omega) hb0
      have e4 : 13 + 4 * (i + 1) - (13 + 4 * i) = 4 := by omega
      have hbn : ((b.toNat : Nat) : Int) = b := by omega
      repeat (first | (refine G_id ?_; first | refine G_nil ?_ | refine G_plain rfl rfl ?_) | (refine X_id ?_; first | refine X_yl (Yl_move rfl rfl) rfl rfl ?_ | refine X_yl (Yl_assign rfl rfl) rfl rfl ?_ | refine X_yl (Yl_lss_t rfl rfl rfl (by omega)) rfl rfl ?_ | refine X_yl (Yl_add rfl rfl rfl (w64 (by omega) (by omega))) rfl rfl ?_ | refine X_yl (Yl_mul rfl rfl rfl (w64 (by omega) (by omega))) rfl rfl ?_) | (refine C_id ?_; first | refine C_seq ?_ | refine C_region ?_ | refine C_block ?_ | refine C_skip ?_ | refine C_cond_t rfl ?_) | (refine E_id ?_; first | refine E_code ?_))
      refine X_yl (Yl_slice (l := 13 + 4 * i) (h := 13 + 4 * (i + 1)) rfl rfl rfl rfl (.inr ⟨_, _, rfl, by omega, by omega, by omega⟩) (.inr ⟨_, _, rfl, by omega, by omega, by omega⟩)) rfl rfl ?_
      repeat (first | (refine G_id ?_; first | refine G_plain rfl rfl ?_))
      refine X_callg _ rfl rfl rfl rfl rfl (hsm _ (13 + 4 * i) (13 + 4 * (i + 1)) (hbo.rd hS) (by omega) (by omega)) ?_
      rintro _ _ ⟨rfl, rfl⟩
      rw [e4, e3]
      repeat (first | (refine G_id ?_; first | refine G_nil ?_ | refine G_plain rfl rfl ?_) | (refine X_id ?_; first | refine X_yl (Yl_move rfl rfl) rfl rfl ?_ | refine X_yl (Yl_assign rfl rfl) rfl rfl ?_) | (refine C_id ?_; first | refine C_seq ?_ | refine C_region ?_) | (refine E_id ?_; first | refine E_code ?_))
      refine X_callq _ rfl rfl rfl rfl rfl hS (tblocks_ tp lp n r p j m nb dat _ (hTo.rd hS) (hqo.rd hS) hd) ?_
      rintro _ w rfl hS
      repeat (first | (refine G_id ?_; first | refine G_nil ?_ | refine G_plain rfl rfl ?_) | (refine X_id ?_; first | refine X_yl (Yl_geq_f rfl rfl rfl (by omega)) rfl rfl ?_) | (refine C_id ?_; first | refine C_seq ?_ | refine C_skip ?_ | refine C_cond_f rfl ?_) | (refine E_id ?_; first | refine E_code ?_))
      refine C_ord (.s 0 (.s 1 (.s 2 (.s 3 (.s 4 (.s 5 (.h 6 (.h 7 (.s 8 (.s 9 (.s 10 (.s 11 (.s 12 .nil))))) .no) .no))))))) mixed (by kernel_rfl) rfl ?_
      have hS := hS.drew
      repeat (first | (refine X_id ?_; first | (refine X_callg 26 rfl rfl rfl rfl rfl (tblock_ tp lp n r b _ (hTo.rd hS) (by omega) hlow.1 (by omega)) ?_; rintro _ _ ⟨rfl, rfl⟩)) | (refine GO_id ?_; first | refine GO_pure rfl rfl (fun _ => Yl_move rfl rfl) rfl rfl ?_ | refine GO_pure rfl rfl (fun _ => Yl_nilCheck rfl rfl) rfl rfl ?_ | refine GO_pure rfl rfl (fun _ => Yl_fieldAddr0 rfl rfl rfl) rfl rfl ?_ | refine GO_hard rfl rfl ?_ | refine GO_read (fun w' => w'.cell? _ = some _) rfl rfl (cell_at (hc.rd hS).pts) (fun _ hc => Yl_load rfl rfl hc) rfl rfl ?_) | (refine Keep_id ?_; first | refine And.intro (by repeat (first | exact trivial | refine And.intro (.inl (by decide +kernel)) ?_ | refine And.intro (.inr (by first | assumption | exact hS.cell | exact cell_at (by assumption) | exact hS.cellI (by omega) | exact hS.cellIP (by omega) | exact hS.cellsN | exact ((hr.rd hS).cellX (by omega) hx) | exact ((hr2.rd hS).cellX (by omega) hx2) | exact hS.cellB (by omega) | exact hS.cellBA (by omega) | exact (hb.rd hS).cellB' (by omega) | exact (hb2.rd hS).cellB' (by omega) | exact (hg.rd hS).cellI (by omega) | exact (hg2.rd hS).cellI (by omega) | exact ((hr.rd hS).cellF (by first | omega | (dsimp only; omega)) hx) | exact ((hr2.rd hS).cellF (by first | omega | (dsimp only; omega)) hx2) | exact hS.cellO 0 (by omega) | exact hS.cellO 1 (by omega) | exact hS.cellIA (by omega) | exact (hg.rd hS).cellIA (by omega) | exact (hg2.rd hS).cellIA (by omega) | exact cell_at (hc.rd hS).pts | exact hb.rd hS | exact (hr.rd hS).cellsF7 (by first | omega | (dsimp only; omega)) hst4 rfl | exact (hr2.rd hS).cellsF7 (by first | omega | (dsimp only; omega)) hst4 rfl | exact hS.cellO 4 (by omega) | exact hS.cellO 5 (by omega) | exact hS.cellO 6 (by omega) | exact hS.cellO 7 (by omega) | exact hS.cellO 8 (by omega) | exact hS.cellO 9 (by omega) | exact hS.cellO 10 (by omega) | exact hS.cellO 11 (by omega) | exact hS.cellO 12 (by omega) | exact hS.cellO 13 (by omega) | exact hS.cellO 2 (by omega) | exact hS.cellO 3 (by omega))) ?_)) ?_))
      have hqr := qread_ lp p j m dat (1 + n + b.toNat) _ (hqo.rd hS) (by omega)
      rw [show ((1 + n + b.toNat : Nat) : Int) = 1 + (n : Int) + b by omega, hat i b hb0] at hqr
      refine X_callg _ rfl rfl rfl rfl rfl hqr ?_
      rintro _ w ⟨xa, xc, rfl, hxc, hS'⟩
      replace hS := hS.plus hS'
      clear hS' hqr
      repeat (first | (refine G_id ?_; first | refine G_nil ?_ | refine G_plain rfl rfl ?_) | (refine X_id ?_; first | refine X_yl (Yl_move rfl rfl) rfl rfl ?_ | refine X_yl (Yl_fieldAddr0 rfl rfl rfl) rfl rfl ?_ | refine X_yl (Yl_neq_f rfl rfl rfl (by omega)) rfl rfl ?_ | refine X_yl (Yl_load rfl rfl hS.cell) rfl rfl ?_ | refine X_buildSlice rfl rfl rfl rfl rfl rfl rfl rfl hS (fun _ _ hS _ => ?_)) | (refine C_id ?_; first | refine C_seq ?_ | refine C_region ?_ | refine C_skip ?_ | refine C_cond_f rfl ?_) | (refine E_id ?_; first | refine E_code ?_) | (refine GO_id ?_; first | refine GO_nil ?_ | refine GO_pure rfl rfl (fun _ => Yl_move rfl rfl) rfl rfl ?_ | refine GO_pure rfl rfl (fun _ => Yl_assign rfl rfl) rfl rfl ?_ | refine GO_pure rfl rfl (fun _ => Yl_extract rfl rfl) rfl rfl ?_) | (refine Keep_id ?_; first | refine And.intro (by repeat (first | exact trivial | refine And.intro (.inl (by decide +kernel)) ?_ | refine And.intro (.inr (by first | assumption | exact hS.cell | exact cell_at (by assumption) | exact hS.cellI (by omega) | exact hS.cellIP (by omega) | exact hS.cellsN | exact ((hr.rd hS).cellX (by omega) hx) | exact ((hr2.rd hS).cellX (by omega) hx2) | exact hS.cellB (by omega) | exact hS.cellBA (by omega) | exact (hb.rd hS).cellB' (by omega) | exact (hb2.rd hS).cellB' (by omega) | exact (hg.rd hS).cellI (by omega) | exact (hg2.rd hS).cellI (by omega) | exact ((hr.rd hS).cellF (by first | omega | (dsimp only; omega)) hx) | exact ((hr2.rd hS).cellF (by first | omega | (dsimp only; omega)) hx2) | exact hS.cellO 0 (by omega) | exact hS.cellO 1 (by omega) | exact hS.cellIA (by omega) | exact (hg.rd hS).cellIA (by omega) | exact (hg2.rd hS).cellIA (by omega) | exact cell_at (hc.rd hS).pts | exact hb.rd hS | exact (hr.rd hS).cellsF7 (by first | omega | (dsimp only; omega)) hst4 rfl | exact (hr2.rd hS).cellsF7 (by first | omega | (dsimp only; omega)) hst4 rfl | exact hS.cellO 4 (by omega) | exact hS.cellO 5 (by omega) | exact hS.cellO 6 (by omega) | exact hS.cellO 7 (by omega) | exact hS.cellO 8 (by omega) | exact hS.cellO 9 (by omega) | exact hS.cellO 10 (by omega) | exact hS.cellO 11 (by omega) | exact hS.cellO 12 (by omega) | exact hS.cellO 13 (by omega) | exact hS.cellO 2 (by omega) | exact hS.cellO 3 (by omega))) ?_)) ?_))
      refine X_append (n := i) (m := 1) rfl rfl rfl rfl rfl hS (by rw [ints_length, htl, Nat.mul_one]) hbc ((hS.rd (List.mem_cons_self ..)).own_row) (by simp) (by simp [Value.oneCell']) (by omega) (by simp only [maxLen]; omega) (fun ba2 bc2 w hS hbc2 _ => ?_)
      repeat (first | (refine G_id ?_; first | refine G_nil ?_ | refine G_plain rfl rfl ?_) | (refine X_id ?_; first | refine X_yl (Yl_move rfl rfl) rfl rfl ?_ | refine X_yl (Yl_fieldAddr0 rfl rfl rfl) rfl rfl ?_ | refine X_yl (Yl_load rfl rfl hS.cell) rfl rfl ?_ | refine X_store rfl rfl rfl rfl hS (fun _ hS _ => ?_)) | (refine C_id ?_; first | refine C_region ?_) | (refine E_id ?_; first | refine E_code ?_))
      refine X_append (n := i * 64) (m := 64) rfl rfl rfl rfl rfl hS (by rw [bv_length, hjl, Nat.mul_one]) hdc (hS.rd (r := bytes xa (chunkB s.nd.data i)) (by simp)) (by rw [bv_length, chunkB_length]) bv_one (by omega) (by simp only [maxLen]; omega) (fun da2 dc2 w hS hdc2 _ => ?_)
      repeat (first | (refine G_id ?_; first | refine G_nil ?_ | refine G_plain rfl rfl ?_) | (refine X_id ?_; first | refine X_yl (Yl_move rfl rfl) rfl rfl ?_ | refine X_yl (Yl_fieldAddr0 rfl rfl rfl) rfl rfl ?_ | refine X_yl (Yl_add rfl rfl rfl (w64 (by omega) (by omega))) rfl rfl ?_ | refine X_store rfl rfl rfl rfl hS (fun _ hS _ => ?_)) | (refine C_id ?_; first | refine C_region ?_) | (refine E_id ?_; first | refine E_code ?_ | refine E_blk_n ?_))
      have e5 : i * 64 + 64 = (i + 1) * 64 := by omega
      rw [e5, ← bv_append, ← joinC_succ] at hS
      have e6 : ints .i64 (s.blocks.take i) ++ [Value.int .i64 b] = ints .i64 (s.blocks.take (i + 1)) := by rw [List.take_add_one, hb0]; simp [ints]
      rw [e6] at hS
      refine E_round (α := Nat × Option Addr × Nat × Option Addr × Nat) (z := (i, da, dc, ba, bc)) (i + 1, da2, dc2, ba2, bc2) ⟨rfl, rfl, rfl, rfl, rfl, rfl, rfl, trivial⟩ ⟨⟨by simp only; omega, by simp only; omega, hbc2⟩, ?_⟩ (by simp only; omega)
      simp only
      exact hS.took
    · obtain rfl : i = nblk s.nd.data.length := by omega
      rw [List.take_of_length_le (by omega)] at hS
      repeat (first | (refine G_id ?_; first | refine G_nil ?_ | refine G_plain rfl rfl ?_) | (refine X_id ?_; first | refine X_yl (Yl_lss_f rfl rfl rfl (by omega)) rfl rfl ?_) | (refine C_id ?_; first | refine C_seq ?_ | refine C_region ?_ | refine C_exit ?_ | refine C_cond_f rfl ?_) | (refine E_id ?_; first | refine E_code ?_ | refine E_then_exit ?_ | refine E_blk_same ?_))
      refine E_mid (da, dc, ba, bc) ⟨rfl, rfl, rfl, rfl, rfl, trivial⟩ ⟨⟨hdc, hbc⟩, ?_⟩
      simp only
      rw [hcnt]
      exact hS
  · clear hS
    rintro ⟨da, dc, ba, bc⟩ w ⟨⟨hdc, hbc⟩, hS⟩
    simp only at hdc hbc hS ⊢
    have hle : s.nd.data.length ≤ nblk s.nd.data.length * 64 := by unfold nblk; omega
    have heq := fun w h1 p h2 => equal_ a (some ⟨p, 0, none⟩) 64 64 c 64 (stoB s) (stoB s) w h1 h2 h64 h64
    rw [decide_eq_true rfl] at heq
    repeat (first | (refine G_id ?_; first | refine G_plain rfl rfl ?_) | (refine X_id ?_; first | refine X_yl (Yl_move rfl rfl) rfl rfl ?_ | refine X_yl (Yl_fieldAddr0 rfl rfl rfl) rfl rfl ?_ | refine X_yl (Yl_load rfl rfl hS.cell) rfl rfl ?_) | (refine C_id ?_; first | refine C_seq ?_ | refine C_region ?_))
    refine X_yl (Yl_slice3 (l := 0) (h := s.nd.data.length) (k := s.nd.data.length) rfl rfl rfl rfl rfl ⟨_, _, rfl, by omega, by omega, by omega⟩ ⟨_, _, rfl, by omega, by omega, by omega⟩ (.inl ⟨rfl, rfl⟩)) rfl rfl ?_
    rw [sub_zero, Nat.sub_zero]
    repeat (first | (refine G_id ?_; first | refine G_nil ?_ | refine G_plain rfl rfl ?_) | (refine X_id ?_; first | refine X_yl (Yl_fieldAddr0 rfl rfl rfl) rfl rfl ?_ | refine X_store rfl rfl rfl rfl hS (fun _ hS _ => ?_)) | (refine C_id ?_; first | refine C_seq ?_) | (refine E_id ?_; first | refine E_code ?_))
    refine C_ord (.s 0 (.s 1 (.s 2 (.h 3 (.h 4 (.h 5 (.s 6 .nil) .no) .no) .no)))) mixed (by kernel_rfl) rfl ?_
    have hS := hS.drew
    repeat (first | (refine GO_id ?_; first | refine GO_pure rfl rfl (fun _ => Yl_move rfl rfl) rfl rfl ?_ | refine GO_read (fun w' => CellsN w' _ _ _) rfl rfl hS.cellsN (fun _ hc => Yl_loadN rfl rfl hc) rfl rfl ?_ | refine GO_hard rfl rfl ?_))
    refine X_callg _ rfl rfl rfl rfl rfl (sector_ s da s.nd.data.length ba bc _ (hS.ownRd (a := ba)) (by omega) (by omega)) ?_
    rintro _ w ⟨q, rfl, hS'⟩
    replace hS := hS.plus hS'
    clear hS'
    repeat (first | (refine X_id ?_; first | (refine X_callg 39 rfl rfl rfl rfl rfl (heq _ (hbo.rd hS) q (hS.rd (List.mem_cons_self ..))) ?_; rintro _ _ ⟨rfl, rfl⟩) | refine X_store rfl rfl rfl rfl hS (fun _ hS _ => ?_)) | (refine C_id ?_; first | refine C_ret ?_) | (refine E_id ?_; first | refine E_code ?_ | refine E_ret2 rfl (by first | exact Rv_tmp rfl | exact Rv_cell rfl (run_load1 hS.cell) | exact Rv_cell rfl (run_loadN hS.cellsN)) (by first | exact Rv_tmp rfl | exact Rv_cell rfl (run_load1 hS.cell) | exact Rv_cell rfl (run_loadN hS.cellsN)) (Ret.mk ?_)) | (refine GO_id ?_; first | refine GO_nil ?_ | refine GO_pure rfl rfl (fun _ => Yl_assign rfl rfl) rfl rfl ?_ | refine GO_hard rfl rfl ?_) | (refine Keep_id ?_; first | refine And.intro (by repeat (first | exact trivial | refine And.intro (.inl (by decide +kernel)) ?_ | refine And.intro (.inr (by first | assumption | exact hS.cell | exact cell_at (by assumption) | exact hS.cellI (by omega) | exact hS.cellIP (by omega) | exact hS.cellsN | exact ((hr.rd hS).cellX (by omega) hx) | exact ((hr2.rd hS).cellX (by omega) hx2) | exact hS.cellB (by omega) | exact hS.cellBA (by omega) | exact (hb.rd hS).cellB' (by omega) | exact (hb2.rd hS).cellB' (by omega) | exact (hg.rd hS).cellI (by omega) | exact (hg2.rd hS).cellI (by omega) | exact ((hr.rd hS).cellF (by first | omega | (dsimp only; omega)) hx) | exact ((hr2.rd hS).cellF (by first | omega | (dsimp only; omega)) hx2) | exact hS.cellO 0 (by omega) | exact hS.cellO 1 (by omega) | exact hS.cellIA (by omega) | exact (hg.rd hS).cellIA (by omega) | exact (hg2.rd hS).cellIA (by omega) | exact cell_at (hc.rd hS).pts | exact hb.rd hS | exact (hr.rd hS).cellsF7 (by first | omega | (dsimp only; omega)) hst4 rfl | exact (hr2.rd hS).cellsF7 (by first | omega | (dsimp only; omega)) hst4 rfl | exact hS.cellO 4 (by omega) | exact hS.cellO 5 (by omega) | exact hS.cellO 6 (by omega) | exact hS.cellO 7 (by omega) | exact hS.cellO 8 (by omega) | exact hS.cellO 9 (by omega) | exact hS.cellO 10 (by omega) | exact hS.cellO 11 (by omega) | exact hS.cellO 12 (by omega) | exact hS.cellO 13 (by omega) | exact hS.cellO 2 (by omega) | exact hS.cellO 3 (by omega))) ?_)) ?_))
    refine ⟨da, s.nd.data.length, ba, bc, rfl, ?_⟩
    have h := hS.took (out := [own 5 1 da dc (bv (joinC s.nd.data (nblk s.nd.data.length))), own 3 1 ba bc (ints .i64 s.blocks)])
    refine (h.head fun g hg => own_part s.nd.data.length ?_ g hg).second own_to_row
    rw [← bv_take, joinC_all]
end Cr
namespace Cr
open Go Go.Proofs
set_option maxRecDepth 100000
set_option maxHeartbeats 16000000
attribute [local irreducible] Calls

theorem apart_eq {A : Ents} (hn : (blocksOf A).Nodup) {x y : Int × Sto} (hx : x ∈ A) (hy : y ∈ A) {b : Int} (h1 : b ∈ x.2.blocks) (h2 : b ∈ y.2.blocks) : x = y := by
  induction A with
  | nil => cases hx
  | cons z A ih =>
    have hn' := List.nodup_append.1 (show (z.2.blocks ++ blocksOf A).Nodup from hn)
    rcases List.mem_cons.1 hx with e1 | hx2
    · rcases List.mem_cons.1 hy with e2 | hy2
      · rw [e1, e2]
      · exact absurd rfl (hn'.2.2 b (e1 ▸ h1) b (List.mem_flatMap.2 ⟨y, hy2, h2⟩))
    · rcases List.mem_cons.1 hy with e2 | hy2
      · exact absurd rfl (hn'.2.2 b (e2 ▸ h2) b (List.mem_flatMap.2 ⟨x, hx2, h1⟩))
      · exact ih hn'.2.1 hx2 hy2
theorem apart_one {A : Ents} (hn : (blocksOf A).Nodup) {x : Int × Sto} (hx : x ∈ A) : x.2.blocks.Nodup := by
  induction A with
  | nil => cases hx
  | cons z A ih =>
    have hn' := List.nodup_append.1 (show (z.2.blocks ++ blocksOf A).Nodup from hn)
    rcases List.mem_cons.1 hx with rfl | hx
    · exact hn'.1
    · exact ih hn'.2.1 hx
theorem not_take {l : List Int} (hn : l.Nodup) {i : Nat} {b : Int} (h : l[i]? = some b) : b ∉ l.take i := fun hm => by
  have hi := (List.getElem?_eq_some_iff.1 h).1
  have e : l = l.take i ++ (b :: l.drop (i + 1)) := by
    have := (List.take_append_drop i l).symm
    rwa [(List.drop_eq_getElem?_toList_append (l := l) (i := i)).trans (by rw [h]; rfl : _ = b :: l.drop (i + 1))] at this
  rw [e, List.nodup_append] at hn
  exact hn.2.2 b hm b (List.mem_cons_self ..) rfl
theorem twice_ (tp lp n r : Nat) (A : AV) (W : World) (hT : Rd W (tabAt tp lp n r)) (hm : Rd W (mapq (Value.int .i64) r A.vals)) (hb : ∀ x ∈ A, Rd W (row x.2.ba (ints .i64 x.2.s.blocks))) (hbl : ∀ x ∈ A, x.2.s.blocks.length ≤ 1048576) (hn : (keysA A).Nodup) (hap : (blocksOf A.ents).Nodup) :
    Calls Tryz.prog 42 #[.pointer (some ⟨tp, 0, none⟩)] W (Ret fun v w => v = .bool false ∧ St W noF [] w) := by
  have hTo := hT.ro
  have hc := hTo
  obtain ⟨es, clock, hes, hst, hmp⟩ := hm.openMap
  have hmpo := hmp.ro
  have hbo : ∀ x ∈ A, Ro W noF (row x.2.ba (ints .i64 x.2.s.blocks)) := fun x hx => (hb x hx).ro
  have hS := St.start W
  refine calls_C Tryz.func42 rfl Tryz.ntmps42 rfl ?_
  repeat (first | (refine G_id ?_; first | refine G_nil ?_ | refine G_plain rfl rfl ?_) | (refine X_id ?_; first | refine X_yl (Yl_assign rfl rfl) rfl rfl ?_) | (refine C_id ?_; first | refine C_seq ?_ | refine C_region ?_) | (refine E_id ?_; first | refine E_code ?_))
  refine X_makeMapQ (Value.int .i64) rfl rfl rfl hS (fun r3 w hS => ?_)
  repeat (first | (refine G_id ?_; first | refine G_nil ?_ | refine G_plain rfl rfl ?_) | (refine X_id ?_; first | refine X_yl (Yl_move rfl rfl) rfl rfl ?_ | refine X_yl (Yl_assign rfl rfl) rfl rfl ?_ | refine X_yl (Yl_nilCheck rfl rfl) rfl rfl ?_ | refine X_yl (Yl_fieldAddr0 rfl rfl rfl) rfl rfl ?_ | refine X_yl (Yl_load rfl rfl (cell_at (hc.rd hS).pts)) rfl rfl ?_) | (refine C_id ?_; first | refine C_seq ?_ | refine C_region ?_) | (refine E_id ?_; first | refine E_code ?_))
  refine X_rangeMap rfl rfl (hmpo.rd hS) rfl rfl hS (fun it w hS _ => ?_)
  repeat (first | (refine G_id ?_; first | refine G_nil ?_) | (refine C_id ?_; first | refine C_block ?_) | (refine E_id ?_; first | refine E_code ?_))
  refine C_joinB (α := Unit) (fun _ => [(0, .pointer (some ⟨tp, 0, none⟩))]) (fun _ w => St W noF [] w) ?_ ?_
  · refine C_loop (α := Array Nat × List (Int × Value) × List Int) (fun _ => [(0, .pointer (some ⟨tp, 0, none⟩)), (3, .map (some r3)), (13, .pointer (some ⟨it, 0, none⟩))])
      (fun z w => Seen z.2.1 z.2.2 ∧ Gone A (leftL es z.1) z.2.2 ∧ St W noF [pts it (.mapIter (some r) clock z.1 clock), mapq (Value.int .i64) r3 z.2.1] w) (fun z => (leftL es z.1).length) (#[], [], []) ⟨rfl, rfl, rfl, trivial⟩ ⟨Seen.nil, by rw [leftL_start]; exact Gone.start hes, hS⟩ ?_
    clear hS
    rintro ⟨seen, L, D⟩ w ⟨hse, hgo, hS⟩
    simp only at hse hgo hS ⊢
    repeat (first | (refine G_id ?_; first | refine G_plain rfl rfl ?_) | (refine C_id ?_; first | refine C_seq ?_ | refine C_region ?_))
    refine X_nextMap rfl rfl hst (hmpo.rd hS) rfl rfl hS (fun h0 => ?_) (fun e he w hS => ?_)
    · repeat (first | (refine G_id ?_; first | refine G_nil ?_ | refine G_plain rfl rfl ?_) | (refine X_id ?_; first | refine X_yl (Yl_extract rfl rfl) rfl rfl ?_) | (refine C_id ?_; first | refine C_seq ?_ | refine C_exit ?_ | refine C_cond_f rfl ?_) | (refine E_id ?_; first | refine E_code ?_ | refine E_then_exit ?_ | refine E_blk_same ?_))
      exact E_mid () ⟨rfl, trivial⟩ hS.drops
    · have hel : e ∈ es.toList := (List.mem_filter.1 he).1
      have hstep := leftL_step hst he
      obtain ⟨x, hxA, hk, hv⟩ := entry_of hes hel
      have hgo2 := hgo.step hn hstep hxA hk hv (left_keys hes hn hstep)
      have hlt : (leftL es (seen.push e.born)).length < (leftL es seen).length := by rw [hstep.length_eq]; simp
      have hxl := hbl x hxA
      have hr := hbo x hxA
      have hnew : ∀ i b, x.2.s.blocks[i]? = some b → b ∉ D ++ x.2.s.blocks.take i := fun i b hb hm => by
        have hbm := List.mem_of_getElem? hb
        rcases List.mem_append.1 hm with hm | hm
        · obtain ⟨y, hy, hby, hne⟩ := hgo.sub b hm
          have := apart_eq hap (AV.mem_ents hxA) (AV.mem_ents hy) hbm hby
          have hk2 : x.1 = y.1 := (Prod.mk.inj this).1
          have hxy := key_inj hn hxA hy hk2
          exact hne ⟨e, he, by rw [← hxy, hk, hv]⟩
        · exact not_take (apart_one hap (AV.mem_ents hxA)) hb hm
      repeat (first | (refine G_id ?_; first | refine G_nil ?_ | refine G_plain rfl rfl ?_) | (refine X_id ?_; first | refine X_yl (Yl_extract rfl rfl) rfl rfl ?_) | (refine C_id ?_; first | refine C_seq ?_ | refine C_region ?_ | refine C_block ?_ | refine C_skip ?_ | refine C_cond_t rfl ?_) | (refine E_id ?_; first | refine E_code ?_))
      refine X_yl (Yl_entry rfl rfl hst hel hS.has (hmpo.rd hS).pts) rfl rfl ?_
      rw [hv]
      repeat (first | (refine G_id ?_; first | refine G_nil ?_ | refine G_plain rfl rfl ?_) | (refine X_id ?_; first | refine X_yl (Yl_move rfl rfl) rfl rfl ?_ | refine X_yl (Yl_fieldAddr0 rfl rfl rfl) rfl rfl ?_ | refine X_yl (Yl_extract rfl rfl) rfl rfl ?_ | refine X_yl (Yl_len rfl rfl) rfl rfl ?_ | refine X_yl (Yl_load rfl rfl hS.cell) rfl rfl ?_ | refine X_store rfl rfl rfl rfl hS (fun _ hS _ => ?_) | refine X_alloc rfl rfl rfl hS (fun _ _ hS _ => ?_)) | (refine C_id ?_; first | refine C_seq ?_ | refine C_region ?_ | refine C_block ?_) | (refine E_id ?_; first | refine E_code ?_))
      refine C_loop (α := Nat × List (Int × Value)) (fun z => [(0, .pointer (some ⟨tp, 0, none⟩)), (3, .map (some r3)), (13, .pointer (some ⟨it, 0, none⟩)), (19, .slice x.2.ba x.2.s.blocks.length x.2.bc), (20, .int .i64 (x.2.s.blocks.length : Nat)), (21, .int .i64 (z.1 : Nat))])
        (fun z w => z.1 ≤ x.2.s.blocks.length ∧ Seen z.2 (D ++ x.2.s.blocks.take z.1) ∧ St W noF [mapq (Value.int .i64) r3 z.2, pts it (.mapIter (some r) clock (seen.push e.born) clock)] w) (fun z => x.2.s.blocks.length - z.1) (0, L) ⟨rfl, rfl, rfl, rfl, rfl, rfl, trivial⟩ ⟨Nat.zero_le _, by simpa using hse, hS.pick [2, 1]⟩ ?_
      clear hS hse
      rintro ⟨i, L2⟩ w ⟨hi, hse, hS⟩
      simp only at hi hse hS ⊢
      by_cases hlt2 : i < x.2.s.blocks.length
      · have hx0 : x.2.s.blocks[i]? = some x.2.s.blocks[i] := List.getElem?_eq_getElem hlt2
        generalize x.2.s.blocks[i] = b at hx0
        have hx : (ints .i64 x.2.s.blocks)[i]? = some (.int .i64 b) := by simp [ints, hx0]
        have hg := hse b
        rw [decide_eq_false (hnew i b hx0)] at hg
        obtain ⟨xb, xo, hxa⟩ := (hr.rd hS).base (by intro e; rw [e] at hx; simp at hx)
        rw [hxa] at hr ⊢
        repeat (first | (refine G_id ?_; first | refine G_nil ?_ | refine G_plain rfl rfl ?_) | (refine X_id ?_; first | refine X_yl (Yl_move rfl rfl) rfl rfl ?_ | refine X_yl (Yl_assign rfl rfl) rfl rfl ?_ | refine X_yl (Yl_lss_t rfl rfl rfl (by omega)) rfl rfl ?_ | refine X_yl (Yl_indexAddr rfl rfl rfl (by omega) (by omega) (by first | assumption | exact ⟨_, _, rfl⟩)) rfl rfl ?_ | refine X_yl (Yl_load rfl rfl ((hr.rd hS).cellX (by omega) hx)) rfl rfl ?_) | (refine C_id ?_; first | refine C_seq ?_ | refine C_region ?_ | refine C_block ?_ | refine C_skip ?_ | refine C_cond_t rfl ?_) | (refine E_id ?_; first | refine E_code ?_))
        refine X_yl (Yl_lookup (mk := Value.int .i64) (L := L2) (k := b) rfl rfl rfl ((hS.rd (List.mem_cons_self ..)).mapq_r)) rfl rfl ?_
        rw [hg]
        repeat (first | (refine G_id ?_; first | refine G_nil ?_ | refine G_plain rfl rfl ?_) | (refine X_id ?_; first | refine X_yl (Yl_move rfl rfl) rfl rfl ?_) | (refine C_id ?_; first | refine C_region ?_ | refine C_skip ?_ | refine C_cond_f rfl ?_) | (refine E_id ?_; first | refine E_code ?_))
        refine X_mapUpdateQ rfl rfl rfl rfl rfl hS (fun w hS => ?_)
        repeat (first | (refine G_id ?_; first | refine G_nil ?_ | refine G_plain rfl rfl ?_) | (refine X_id ?_; first | refine X_yl (Yl_move rfl rfl) rfl rfl ?_ | refine X_yl (Yl_add rfl rfl rfl (w64 (by omega) (by omega))) rfl rfl ?_) | (refine C_id ?_; first | refine C_region ?_) | (refine E_id ?_; first | refine E_code ?_ | refine E_blk_n ?_))
        refine E_round (z := (i, L2)) (i + 1, setM b (.bool true) L2) ⟨rfl, rfl, rfl, rfl, rfl, rfl, trivial⟩ ⟨by simp only; omega, ?_, hS⟩ (by simp only; omega)
        simp only
        rw [List.take_add_one, hx0]
        have := hse.add b
        rwa [List.append_assoc] at this
      · obtain rfl : i = x.2.s.blocks.length := by omega
        rw [List.take_length] at hse
        repeat (first | (refine G_id ?_; first | refine G_nil ?_ | refine G_plain rfl rfl ?_) | (refine X_id ?_; first | refine X_yl (Yl_lss_f rfl rfl rfl (by omega)) rfl rfl ?_) | (refine C_id ?_; first | refine C_seq ?_ | refine C_region ?_ | refine C_exit ?_ | refine C_cond_f rfl ?_) | (refine E_id ?_; first | refine E_code ?_ | refine E_then_exit ?_ | refine E_blk_same ?_ | refine E_blk_n ?_))
        exact E_round (z := (seen, L, D)) (seen.push e.born, L2, D ++ x.2.s.blocks) ⟨rfl, rfl, rfl, trivial⟩ ⟨hse, hgo2, hS.pick [1, 0]⟩ hlt
  · clear hS
    rintro _ w hS
    repeat (first | (refine G_id ?_; first | refine G_nil ?_ | refine G_plain rfl rfl ?_) | (refine X_id ?_; first | refine X_yl (Yl_assign rfl rfl) rfl rfl ?_) | (refine C_id ?_; first | refine C_seq ?_ | refine C_region ?_ | refine C_ret ?_) | (refine E_id ?_; first | refine E_code ?_ | refine E_ret1 rfl (Rv_tmp rfl) (Ret.mk ?_)))
    exact ⟨rfl, hS⟩
end Cr
namespace Cr
open Go Go.Proofs
set_option maxRecDepth 100000
set_option maxHeartbeats 16000000
attribute [local irreducible] Calls

theorem perm_get {β : Type} : ∀ {A B : List (Int × β)}, (keysA A).Nodup → (keysA B).Nodup → (∀ k, getA k A = getA k B) → A.Perm B
  | [], B, _, _, h => by
    cases B with
    | nil => exact List.Perm.refl _
    | cons y B => have := h y.1; simp [getA] at this
  | x :: A, B, hA, hB, h => by
    have hA' : x.1 ∉ keysA A ∧ (keysA A).Nodup := List.nodup_cons.1 hA
    have hx : x ∈ B := getA_mem (by rw [← h x.1]; simp [getA])
    obtain ⟨u, v, rfl⟩ := List.append_of_mem hx
    have hp : (u ++ x :: v).Perm (x :: (u ++ v)) := List.perm_middle
    have hB' : x.1 ∉ keysA (u ++ v) ∧ (keysA (u ++ v)).Nodup := List.nodup_cons.1 ((hp.map (fun x : Int × β => x.1)).nodup_iff.1 hB)
    refine (List.Perm.cons x (perm_get hA'.2 hB'.2 fun k => ?_)).trans hp.symm
    by_cases hk : k = x.1
    · rw [hk, getA_none.2 hA'.1, getA_none.2 hB'.1]
    · have := h k
      rw [getA_append] at this ⊢
      simp only [getA, if_neg hk] at this
      exact this
theorem enc_congr {rd fs : List Int} {dat : List (List UInt8)} {n nb : Nat} {A B : Ents} (hE : Enc rd fs dat n nb A) (hn : (keysA B).Nodup) (h : ∀ k, getA k B = getA k A) : Enc rd fs dat n nb B := by
  have hp := perm_get hn hE.nodup h
  have hm : ∀ x ∈ B, x ∈ A := fun x hx => hp.subset hx
  exact ⟨hE.len, hE.front, fun k hk => hE.keys k ((hp.map (·.1)).subset hk), hn, fun i hi => by rw [h]; exact hE.node i hi, fun x hx => hE.ok x (hm x hx), fun x hx => hE.at_ x (hm x hx),
    ((hp.flatMap_right _).nodup_iff).2 hE.apart⟩
theorem small_front (rd fs : List Int) {n : Nat} (hn : n ≤ 400) : smallI (((tfrontB rd fs n).drop 5).take 4) = (n : Nat) := by
  have e : ((tfrontB rd fs n).drop 5).take 4 = bigB (n : Nat) 4 := by
    unfold tfrontB
    rw [fullB_eq (by simp [creelB, bigB_length, digest_length])]
    have h1 : (bigB ((n : Nat) : Int) 4).length = 4 := bigB_length _ _
    simp [creelB, List.take_append, h1]
  rw [e, smallI_big (by omega) (by omega) (by omega)]
theorem topen_ (rd fs : List Int) (lp p j m n nb : Nat) (dat : List (List UInt8)) (A0 : Ents) (W : World) (hG : Gl W noF rd fs) (hq : Rd W (qlog lp p j m dat)) (hE : Enc rd fs dat n nb A0) (h1 : 1 ≤ n) (h4 : n ≤ 400) (hnb : 1 ≤ nb) :
    Calls Tryz.prog 10 #[.pointer (some ⟨lp, 0, none⟩)] W (Ret fun v w => ∃ tp r A, v = .tuple #[.pointer (some ⟨tp, 0, none⟩), .int .i64 0] ∧ (∀ k, getA k (AV.ents A) = getA k A0) ∧ Enc rd fs dat n nb (AV.ents A) ∧
      St W noF [tabAt tp lp n r, mapq (Value.int .i64) r (AV.vals A), bag (AV.rows A)] w) := by
  have hqo := hq.ro
  have hql := (qlen hq).1
  have hdl := hE.len
  have hf64 : (tfrontB rd fs n).length = 64 := fullB_length _
  have hG0 : ∀ w rs, St W noF rs w → Gl w noF rd fs := fun w rs h => hG.mono fun r hr => (hr.rd h).ro
  have hrd0 := fun w h => qread_ lp p j m dat 0 w h (by omega)
  rw [hE.front] at hrd0
  have hsm := fun w a c (h : Rd w (bytes a (tfrontB rd fs n))) (hc : 64 ≤ c) => ismall_ (sub a 5 1 c) (c - 5) (((tfrontB rd fs n).drop 5).take 4) w (h.subBytes (l := 5) (h := 9) (by omega) (by omega)) (by simp; omega)
  rw [small_front rd fs h4, show (((tfrontB rd fs n).drop 5).take 4).length = 4 by simp [hf64]] at hsm
  have heq := fun w a c p h1 h2 => equal_ a (some ⟨p, 0, none⟩) 64 64 c 64 (tfrontB rd fs n) (tfrontB rd fs n) w h1 h2 hf64 hf64
  rw [decide_eq_true rfl] at heq
  have hS := St.start W
  refine calls_C Tryz.func10 rfl Tryz.ntmps10 rfl ?_
  repeat (first | (refine G_id ?_; first | refine G_nil ?_ | refine G_plain rfl rfl ?_) | (refine X_id ?_; first | refine X_yl (Yl_move rfl rfl) rfl rfl ?_ | refine X_yl (Yl_assign rfl rfl) rfl rfl ?_) | (refine C_id ?_; first | refine C_seq ?_ | refine C_region ?_) | (refine E_id ?_; first | refine E_code ?_))
  refine X_callg _ rfl rfl rfl rfl rfl (hrd0 _ (hqo.rd hS)) ?_
  rintro _ w ⟨a, c, rfl, hc, hS'⟩
  replace hS := hS.plus hS'
  clear hS'
  repeat (first | (refine G_id ?_; first | refine G_nil ?_ | refine G_plain rfl rfl ?_) | (refine X_id ?_; first | refine X_yl (Yl_move rfl rfl) rfl rfl ?_ | refine X_yl (Yl_assign rfl rfl) rfl rfl ?_ | refine X_yl (Yl_extract rfl rfl) rfl rfl ?_ | refine X_yl (Yl_neq_f rfl rfl rfl (by omega)) rfl rfl ?_) | (refine C_id ?_; first | refine C_seq ?_ | refine C_region ?_ | refine C_skip ?_ | refine C_cond_f rfl ?_) | (refine E_id ?_; first | refine E_code ?_))
  refine X_yl (Yl_slice (l := 5) (h := 9) rfl rfl rfl rfl (.inr ⟨_, _, rfl, by omega, by omega, by omega⟩) (.inr ⟨_, _, rfl, by omega, by omega, by omega⟩)) rfl rfl ?_
  repeat (first | (refine G_id ?_; first | refine G_plain rfl rfl ?_))
  refine X_callg _ rfl rfl rfl rfl rfl (hsm _ a c (hS.rd (List.mem_cons_self ..)) hc) ?_
  rintro _ _ ⟨rfl, rfl⟩
  repeat (first | (refine G_id ?_; first | refine G_plain rfl rfl ?_))
  refine X_makeMapQ (Value.int .i64) rfl rfl rfl hS (fun r w hS => ?_)
  repeat (first | (refine G_id ?_; first | refine G_nil ?_ | refine G_plain rfl rfl ?_) | (refine X_id ?_; first | refine X_yl (Yl_move rfl rfl) rfl rfl ?_ | refine X_yl (Yl_assign rfl rfl) rfl rfl ?_ | refine X_yl (Yl_nilCheck rfl rfl) rfl rfl ?_ | refine X_yl (Yl_fieldAddr0 rfl rfl rfl) rfl rfl ?_ | refine X_yl (Yl_build rfl rfl rfl) rfl rfl ?_ | refine X_yl (Yl_load rfl rfl hS.cell) rfl rfl ?_ | refine X_box rfl rfl rfl rfl hS (fun _ _ hS _ => ?_)) | (refine C_id ?_; first | refine C_seq ?_ | refine C_region ?_) | (refine E_id ?_; first | refine E_code ?_))
  rename_i tp _ _
  refine X_callq _ rfl rfl rfl rfl rfl hS (may_ lp p j m n dat _ (hqo.rd hS) h1 h4 (by omega)) ?_
  rintro _ w rfl hS
  repeat (first | (refine G_id ?_; first | refine G_plain rfl rfl ?_ | refine G_yes rfl rfl rfl rfl ?_) | (refine X_id ?_; first | refine X_yl (Yl_move rfl rfl) rfl rfl ?_ | refine X_yl (Yl_nilCheck rfl rfl) rfl rfl ?_ | refine X_yl (Yl_fieldAddr0 rfl rfl rfl) rfl rfl ?_ | refine X_yl (Yl_not_t rfl rfl) rfl rfl ?_ | refine X_yl (Yl_load rfl rfl hS.cell) rfl rfl ?_))
  refine X_callg _ rfl rfl rfl rfl rfl (tfront_ n rd fs _ (hG0 _ _ hS)) ?_
  rintro _ w ⟨q, rfl, hS'⟩
  replace hS := hS.plus hS'
  clear hS'
  repeat (first | (refine G_id ?_; first | refine G_nil ?_ | refine G_plain rfl rfl ?_ | refine G_yes rfl rfl rfl rfl ?_) | (refine X_id ?_; first | (refine X_callg 39 rfl rfl rfl rfl rfl (heq _ a c q (hS.rd (by simp)) (hS.rd (by simp))) ?_; rintro _ _ ⟨rfl, rfl⟩) | refine X_yl (Yl_move rfl rfl) rfl rfl ?_ | refine X_yl (Yl_nilCheck rfl rfl) rfl rfl ?_ | refine X_yl (Yl_fieldAddr0 rfl rfl rfl) rfl rfl ?_ | refine X_yl (Yl_pick_f rfl rfl rfl) rfl rfl ?_ | refine X_yl (Yl_not_t rfl rfl) rfl rfl ?_ | refine X_yl (Yl_load rfl rfl hS.cell) rfl rfl ?_) | (refine C_id ?_; first | refine C_seq ?_ | refine C_region ?_ | refine C_block ?_ | refine C_skip ?_ | refine C_cond_f rfl ?_) | (refine E_id ?_; first | refine E_code ?_))
  have hS := hS.bagNil.took (out := [tabAt tp lp n r, mapq (Value.int .i64) r [], bag []])
  refine C_joinB (α := AV × List RowD) (fun _ => [(6, .pointer (some ⟨tp, 0, none⟩))]) (fun z w => ((∀ k, getA k (AV.ents z.1) = getA k A0) ∧ (keysA z.1).Nodup ∧ ∀ y ∈ AV.rows z.1, y ∈ z.2) ∧ St W noF [tabAt tp lp n r, mapq (Value.int .i64) r (AV.vals z.1), bag z.2] w) ?_ ?_
  · refine C_loop (α := Nat × AV × List RowD) (fun z => [(0, .pointer (some ⟨lp, 0, none⟩)), (6, .pointer (some ⟨tp, 0, none⟩)), (47, .int .i64 (n : Nat)), (48, .int .i64 (z.1 : Nat))])
      (fun z w => z.1 ≤ n ∧ ((∀ k, getA k (AV.ents z.2.1) = if k < z.1 then getA k A0 else none) ∧ (keysA z.2.1).Nodup ∧ ∀ y ∈ AV.rows z.2.1, y ∈ z.2.2) ∧ St W noF [tabAt tp lp n r, mapq (Value.int .i64) r (AV.vals z.2.1), bag z.2.2] w) (fun z => n - z.1) (0, [], []) ⟨rfl, rfl, rfl, rfl, trivial⟩
      ⟨Nat.zero_le _, ⟨fun k => by
        show none = _
        split
        · rename_i hk
          exact (getA_none.2 fun h => by have := hE.keys k h; simp only at hk; omega).symm
        · rfl, by simp [keysA], fun y hy => hy⟩, hS⟩ ?_
    clear hS
    rintro ⟨i, A, X⟩ w ⟨hi, ⟨hA, hAn, hAX⟩, hS⟩
    simp only at hi hA hAn hAX hS ⊢
    by_cases hlt : i < n
    · have hnode := hE.node i hlt
      have hrdi := fun w h => qread_ lp p j m dat (1 + i) w h (by omega)
      rw [show ((1 + i : Nat) : Int) = 1 + (i : Nat) by omega] at hrdi
      have hnk : ((i : Nat) : Int) ∉ keysA A := by
        have := hA (i : Nat)
        rw [if_neg (by omega), getA_none, keys_ents] at this
        exact this
      have hnext : ∀ k : Int, (if k < ((i + 1 : Nat) : Int) then getA k A0 else none) = if k = (i : Nat) then getA (i : Nat) A0 else if k < (i : Nat) then getA k A0 else none := fun k => by
        by_cases e : k = (i : Nat)
        · subst e; rw [if_pos (by omega), if_pos rfl]
        · rw [if_neg e]
          by_cases e2 : k < (i : Nat)
          · rw [if_pos (by omega), if_pos e2]
          · rw [if_neg (by omega), if_neg e2]
      cases hg : getA (i : Nat) A0 with
      | none =>
        rw [hg] at hnode
        simp only at hnode
        rw [hnode] at hrdi
        have heq2 := fun w a c p h1 h2 => equal_ a (some ⟨p, 0, none⟩) 64 64 c 64 zero64 zero64 w h1 h2 zero64_length zero64_length
        rw [decide_eq_true rfl] at heq2
        repeat (first | (refine G_id ?_; first | refine G_nil ?_ | refine G_plain rfl rfl ?_) | (refine X_id ?_; first | refine X_yl (Yl_move rfl rfl) rfl rfl ?_ | refine X_yl (Yl_assign rfl rfl) rfl rfl ?_ | refine X_yl (Yl_lss_t rfl rfl rfl (by omega)) rfl rfl ?_ | refine X_yl (Yl_add rfl rfl rfl (w64 (by omega) (by omega))) rfl rfl ?_) | (refine C_id ?_; first | refine C_seq ?_ | refine C_region ?_ | refine C_block ?_ | refine C_skip ?_ | refine C_cond_t rfl ?_) | (refine E_id ?_; first | refine E_code ?_))
        refine X_callg _ rfl rfl rfl rfl rfl (hrdi _ (hqo.rd hS)) ?_
        rintro _ w ⟨xa, xc, rfl, hxc, hS'⟩
        replace hS := hS.plus hS'
        clear hS'
        repeat (first | (refine G_id ?_; first | refine G_nil ?_ | refine G_plain rfl rfl ?_) | (refine X_id ?_; first | refine X_yl (Yl_move rfl rfl) rfl rfl ?_ | refine X_yl (Yl_assign rfl rfl) rfl rfl ?_ | refine X_yl (Yl_extract rfl rfl) rfl rfl ?_ | refine X_yl (Yl_neq_f rfl rfl rfl (by omega)) rfl rfl ?_) | (refine C_id ?_; first | refine C_seq ?_ | refine C_region ?_ | refine C_skip ?_ | refine C_cond_f rfl ?_) | (refine E_id ?_; first | refine E_code ?_))
        refine X_callg _ rfl rfl rfl rfl rfl (filled_ none 0 [] _ (Rd_nil _ _)) ?_
        rintro _ w ⟨q2, rfl, hS'⟩
        replace hS := hS.plus hS'
        clear hS'
        rw [fullB_nil] at hS
        repeat (first | (refine G_id ?_; first | refine G_nil ?_ | refine G_plain rfl rfl ?_) | (refine X_id ?_; first | (refine X_callg 39 rfl rfl rfl rfl rfl (heq2 _ xa xc q2 (hS.rd (by simp)) (hS.rd (by simp))) ?_; rintro _ _ ⟨rfl, rfl⟩) | refine X_yl (Yl_move rfl rfl) rfl rfl ?_ | refine X_yl (Yl_add rfl rfl rfl (w64 (by omega) (by omega))) rfl rfl ?_) | (refine C_id ?_; first | refine C_region ?_ | refine C_exit ?_ | refine C_cond_t rfl ?_) | (refine E_id ?_; first | refine E_code ?_ | refine E_then_exit ?_ | refine E_blk_same ?_))
        refine E_round (z := (i, A, X)) (i + 1, A, X) ⟨rfl, rfl, rfl, rfl, trivial⟩ ⟨by simp only; omega, ⟨fun k => ?_, hAn, hAX⟩, hS.took⟩ (by simp only; omega)
        simp only
        rw [hnext, hA k]
        by_cases e : k = (i : Nat)
        · rw [if_pos e, e, if_neg (by omega), hg]
        · rw [if_neg e]
      | some s =>
        rw [hg] at hnode
        simp only at hnode
        rw [hnode] at hrdi
        have hs := getA_mem hg
        have hsok := hE.ok _ hs
        have hsat := hE.at_ _ hs
        have hne : stoB s ≠ zero64 := stoB_ne hsok
        have heq2 := fun w a c p h1 h2 => equal_ a (some ⟨p, 0, none⟩) 64 64 c 64 (stoB s) zero64 w h1 h2 (stoB_length s) zero64_length
        rw [decide_eq_false hne] at heq2
        repeat (first | (refine G_id ?_; first | refine G_nil ?_ | refine G_plain rfl rfl ?_) | (refine X_id ?_; first | refine X_yl (Yl_move rfl rfl) rfl rfl ?_ | refine X_yl (Yl_assign rfl rfl) rfl rfl ?_ | refine X_yl (Yl_lss_t rfl rfl rfl (by omega)) rfl rfl ?_ | refine X_yl (Yl_add rfl rfl rfl (w64 (by omega) (by omega))) rfl rfl ?_) | (refine C_id ?_; first | refine C_seq ?_ | refine C_region ?_ | refine C_block ?_ | refine C_skip ?_ | refine C_cond_t rfl ?_) | (refine E_id ?_; first | refine E_code ?_))
        refine X_callg _ rfl rfl rfl rfl rfl (hrdi _ (hqo.rd hS)) ?_
        rintro _ w ⟨xa, xc, rfl, hxc, hS'⟩
        replace hS := hS.plus hS'
        clear hS'
        repeat (first | (refine G_id ?_; first | refine G_nil ?_ | refine G_plain rfl rfl ?_) | (refine X_id ?_; first | refine X_yl (Yl_move rfl rfl) rfl rfl ?_ | refine X_yl (Yl_assign rfl rfl) rfl rfl ?_ | refine X_yl (Yl_extract rfl rfl) rfl rfl ?_ | refine X_yl (Yl_neq_f rfl rfl rfl (by omega)) rfl rfl ?_) | (refine C_id ?_; first | refine C_seq ?_ | refine C_region ?_ | refine C_skip ?_ | refine C_cond_f rfl ?_) | (refine E_id ?_; first | refine E_code ?_))
        refine X_callg _ rfl rfl rfl rfl rfl (filled_ none 0 [] _ (Rd_nil _ _)) ?_
        rintro _ w ⟨q2, rfl, hS'⟩
        replace hS := hS.plus hS'
        clear hS'
        rw [fullB_nil] at hS
        repeat (first | (refine G_id ?_; first | refine G_nil ?_ | refine G_plain rfl rfl ?_) | (refine X_id ?_; first | (refine X_callg 39 rfl rfl rfl rfl rfl (heq2 _ xa xc q2 (hS.rd (by simp)) (hS.rd (by simp))) ?_; rintro _ _ ⟨rfl, rfl⟩) | refine X_yl (Yl_move rfl rfl) rfl rfl ?_) | (refine C_id ?_; first | refine C_seq ?_ | refine C_region ?_ | refine C_skip ?_ | refine C_cond_f rfl ?_) | (refine E_id ?_; first | refine E_code ?_))
        refine X_callg _ rfl rfl rfl rfl rfl (read_c tp lp n r p j m nb dat s hsok hsat xa xc hxc _ (hS.rd (by simp)) (hqo.rd hS) hdl (hS.rd (by simp))) ?_
        rintro _ w ⟨da, dc, ba, bc, rfl, hS'⟩
        replace hS := hS.plus hS'
        clear hS'
        have hS := hS.took (out := [row da (bv s.nd.data), bag X, row ba (ints .i64 s.blocks), tabAt tp lp n r, mapq (Value.int .i64) r (AV.vals A)])
        have hS := (hS.bagAdd (fun _ h => h)).pick [1, 0, 0, 0]
        have hS := (hS.bagAdd (fun _ h => h)).pick [1, 1, 0]
        repeat (first | (refine G_id ?_; first | refine G_nil ?_ | refine G_plain rfl rfl ?_) | (refine X_id ?_; first | refine X_yl (Yl_move rfl rfl) rfl rfl ?_ | refine X_yl (Yl_assign rfl rfl) rfl rfl ?_ | refine X_yl (Yl_extract rfl rfl) rfl rfl ?_ | refine X_yl (Yl_not_t rfl rfl) rfl rfl ?_ | refine X_store rfl rfl rfl rfl hS (fun _ hS _ => ?_) | refine X_alloc rfl rfl rfl hS (fun _ _ hS _ => ?_)) | (refine C_id ?_; first | refine C_seq ?_ | refine C_region ?_ | refine C_skip ?_ | refine C_cond_f rfl ?_) | (refine E_id ?_; first | refine E_code ?_))
        refine C_ord (.s 0 (.s 1 (.s 2 (.s 3 (.s 4 (.s 5 (.h 6 .nil .no))))))) mixed (by kernel_rfl) rfl ?_
        have hS := hS.drew
        repeat (first | (refine GO_id ?_; first | refine GO_pure rfl rfl (fun _ => Yl_move rfl rfl) rfl rfl ?_ | refine GO_pure rfl rfl (fun _ => Yl_nilCheck rfl rfl) rfl rfl ?_ | refine GO_pure rfl rfl (fun _ => Yl_fieldAddr0 rfl rfl rfl) rfl rfl ?_ | refine GO_read (fun w' => w'.cell? _ = some _) rfl rfl hS.cell (fun _ hc => Yl_load rfl rfl hc) rfl rfl ?_ | refine GO_read (fun w' => CellsN w' _ _ _) rfl rfl hS.cellsN (fun _ hc => Yl_loadN rfl rfl hc) rfl rfl ?_ | refine GO_hard rfl rfl ?_))
        have hS := hS.took (out := [mapq (Value.int .i64) r (AV.vals A), tabAt tp lp n r, bag ((ba, ints .i64 s.blocks) :: (da, bv s.nd.data) :: X)])
        refine X_mapUpdateQ (mk := Value.int .i64) (k := ((i : Nat) : Int)) (v := SV.val ⟨s, da, dc, ba, bc⟩) rfl rfl rfl rfl rfl hS (fun w hS => ?_)
        rw [setM_A] at hS
        repeat (first | (refine G_id ?_; first | refine G_nil ?_ | refine G_plain rfl rfl ?_) | (refine X_id ?_; first | refine X_yl (Yl_move rfl rfl) rfl rfl ?_ | refine X_yl (Yl_add rfl rfl rfl (w64 (by omega) (by omega))) rfl rfl ?_) | (refine C_id ?_; first | refine C_region ?_) | (refine E_id ?_; first | refine E_code ?_ | refine E_blk_n ?_) | (refine GO_id ?_; first | refine GO_nil ?_) | (refine Keep_id ?_; first | refine And.intro (by repeat (first | exact trivial | refine And.intro (.inl (by decide +kernel)) ?_ | refine And.intro (.inr (by first | assumption | exact hS.cell | exact cell_at (by assumption) | exact hS.cellI (by omega) | exact hS.cellIP (by omega) | exact hS.cellsN | exact ((hr.rd hS).cellX (by omega) hx) | exact ((hr2.rd hS).cellX (by omega) hx2) | exact hS.cellB (by omega) | exact hS.cellBA (by omega) | exact (hb.rd hS).cellB' (by omega) | exact (hb2.rd hS).cellB' (by omega) | exact (hg.rd hS).cellI (by omega) | exact (hg2.rd hS).cellI (by omega) | exact ((hr.rd hS).cellF (by first | omega | (dsimp only; omega)) hx) | exact ((hr2.rd hS).cellF (by first | omega | (dsimp only; omega)) hx2) | exact hS.cellO 0 (by omega) | exact hS.cellO 1 (by omega) | exact hS.cellIA (by omega) | exact (hg.rd hS).cellIA (by omega) | exact (hg2.rd hS).cellIA (by omega) | exact cell_at (hc.rd hS).pts | exact hb.rd hS | exact (hr.rd hS).cellsF7 (by first | omega | (dsimp only; omega)) hst4 rfl | exact (hr2.rd hS).cellsF7 (by first | omega | (dsimp only; omega)) hst4 rfl | exact hS.cellO 4 (by omega) | exact hS.cellO 5 (by omega) | exact hS.cellO 6 (by omega) | exact hS.cellO 7 (by omega) | exact hS.cellO 8 (by omega) | exact hS.cellO 9 (by omega) | exact hS.cellO 10 (by omega) | exact hS.cellO 11 (by omega) | exact hS.cellO 12 (by omega) | exact hS.cellO 13 (by omega) | exact hS.cellO 2 (by omega) | exact hS.cellO 3 (by omega))) ?_)) ?_))
        refine E_round (α := Nat × AV × List RowD) (z := (i, A, X)) (i + 1, setA ((i : Nat) : Int) ⟨s, da, dc, ba, bc⟩ A, (ba, ints .i64 s.blocks) :: (da, bv s.nd.data) :: X) ⟨rfl, rfl, rfl, rfl, trivial⟩ ⟨by simp only; omega, ⟨fun k => ?_, ?_, fun y hy => ?_⟩, hS.pick [1, 0, 0]⟩ (by simp only; omega)
        · simp only
          rw [hnext, show AV.ents (setA ((i : Nat) : Int) (⟨s, da, dc, ba, bc⟩ : SV) A) = setA ((i : Nat) : Int) s (AV.ents A) from (setA_map SV.s).symm, getA_setA, hA k, hg]
        · simp only
          rw [setA_new hnk]
          simp only [keysA, List.map_append, List.map_cons, List.map_nil]
          rw [List.nodup_append]
          refine ⟨hAn, by simp, fun u hu b hb => ?_⟩
          rw [List.mem_singleton] at hb
          rw [hb]
          exact fun e => hnk (e ▸ hu)
        · obtain ⟨x, hx, hyx⟩ := List.mem_flatMap.1 hy
          rcases mem_setA hx with rfl | hx
          · simp only [List.mem_cons, List.not_mem_nil, or_false] at hyx
            rcases hyx with rfl | rfl
            · exact List.mem_cons_of_mem _ (List.mem_cons_self ..)
            · exact List.mem_cons_self ..
          · exact List.mem_cons_of_mem _ (List.mem_cons_of_mem _ (hAX y (List.mem_flatMap.2 ⟨x, hx, hyx⟩)))
    · obtain rfl : i = n := by omega
      repeat (first | (refine G_id ?_; first | refine G_nil ?_ | refine G_plain rfl rfl ?_) | (refine X_id ?_; first | refine X_yl (Yl_lss_f rfl rfl rfl (by omega)) rfl rfl ?_) | (refine C_id ?_; first | refine C_seq ?_ | refine C_region ?_ | refine C_exit ?_ | refine C_cond_f rfl ?_) | (refine E_id ?_; first | refine E_code ?_ | refine E_then_exit ?_ | refine E_blk_same ?_))
      refine E_mid (A, X) ⟨rfl, trivial⟩ ⟨⟨fun k => ?_, hAn, hAX⟩, hS⟩
      simp only
      rw [hA k]
      by_cases e : k < ((i : Nat) : Int)
      · rw [if_pos e]
      · rw [if_neg e, getA_none.2 (fun h => by have := hE.keys k h; omega)]
  · clear hS
    rintro ⟨A, X⟩ w ⟨⟨hA, hAn, hAX⟩, hS⟩
    simp only at hA hAn hAX hS ⊢
    have hE2 : Enc rd fs dat n nb (AV.ents A) := enc_congr hE (by rw [keys_ents]; exact hAn) hA
    repeat (first | (refine G_id ?_; first | refine G_plain rfl rfl ?_) | (refine X_id ?_; first | refine X_yl (Yl_move rfl rfl) rfl rfl ?_) | (refine C_id ?_; first | refine C_seq ?_ | refine C_region ?_))
    refine X_callq _ rfl rfl rfl rfl rfl hS (twice_ tp lp n r A _ (hS.rd (by simp)) (hS.rd (by simp)) (fun x hx => (hS.rd (r := bag X) (by simp)).bag (hAX _ (AV.row_b hx))) (fun x hx => by
      have h1 := (hE2.ok _ (AV.mem_ents hx)).cnt
      have h2 := nblk_le (hE2.ok _ (AV.mem_ents hx)).len
      simp only at h1 h2
      omega) hAn hE2.apart) ?_
    rintro _ w rfl hS
    repeat (first | (refine G_id ?_; first | refine G_nil ?_ | refine G_plain rfl rfl ?_) | (refine X_id ?_; first | refine X_yl (Yl_move rfl rfl) rfl rfl ?_ | refine X_yl (Yl_assign rfl rfl) rfl rfl ?_) | (refine C_id ?_; first | refine C_seq ?_ | refine C_region ?_ | refine C_ret ?_ | refine C_skip ?_ | refine C_cond_f rfl ?_) | (refine E_id ?_; first | refine E_code ?_ | refine E_ret2 rfl (Rv_tmp rfl) (Rv_tmp rfl) (Ret.mk ?_)))
    refine ⟨tp, r, A, rfl, hA, hE2, ?_⟩
    have h := (hS.pick [2, 0, 0]).bagSub hAX
    exact h.pick [1, 1, 0]
end Cr
namespace Go.Proofs
open Go.Shelf
def Tryz.lays189_ren : Go.Shelf.Ren := ⟨fun | 189 => 88 | 125 => 109 | 257 => 108 | 128 => 129 | 129 => 130 | 294 => 120 | 295 => 121 | 296 => 122 | 297 => 123 | 298 => 124 | 299 => 125 | 216 => 126 | 300 => 127 | 301 => 128 | 328 => 140 | 329 => 141 | 330 => 142 | 331 => 143 | 332 => 144 | 215 => 145 | 343 => 156 | n => n, fun | 28 => 71 | 3 => 3 | 46 => 191 | 0 => 0 | 51 => 111 | 53 => 159 | 4 => 4 | 183 => 204 | 182 => 203 | 131 => 151 | 5 => 5 | 9 => 9 | 218 => 220 | 222 => 224 | 228 => 233 | 229 => 234 | n => n, fun | n => n⟩
theorem Tryz.lays189 : Go.Proofs.Lays.n189 Tryz.prog Tryz.lays189_ren := {
  mixed := by kernel_rfl
  f125 := Tryz.func109.trans (congrArg some (by kernel_rfl))
  f128 := Tryz.func129.trans (congrArg some (by kernel_rfl))
  f129 := Tryz.func130.trans (congrArg some (by kernel_rfl))
  f189 := Tryz.func88.trans (congrArg some (by kernel_rfl))
  f215 := Tryz.func145.trans (congrArg some (by kernel_rfl))
  f216 := Tryz.func126.trans (congrArg some (by kernel_rfl))
  f257 := Tryz.func108.trans (congrArg some (by kernel_rfl))
  f294 := Tryz.func120.trans (congrArg some (by kernel_rfl))
  f295 := Tryz.func121.trans (congrArg some (by kernel_rfl))
  f296 := Tryz.func122.trans (congrArg some (by kernel_rfl))
  f297 := Tryz.func123.trans (congrArg some (by kernel_rfl))
  f298 := Tryz.func124.trans (congrArg some (by kernel_rfl))
  f299 := Tryz.func125.trans (congrArg some (by kernel_rfl))
  f300 := Tryz.func127.trans (congrArg some (by kernel_rfl))
  f301 := Tryz.func128.trans (congrArg some (by kernel_rfl))
  f328 := Tryz.func140.trans (congrArg some (by kernel_rfl))
  f329 := Tryz.func141.trans (congrArg some (by kernel_rfl))
  f330 := Tryz.func142.trans (congrArg some (by kernel_rfl))
  f331 := Tryz.func143.trans (congrArg some (by kernel_rfl))
  f332 := Tryz.func144.trans (congrArg some (by kernel_rfl))
  f343 := Tryz.func156.trans (congrArg some (by kernel_rfl))
  t0 := Tryz.underlying0
  a0 := Tryz.isAgg0
  z0 := Tryz.sizeOf0
  v0 := Tryz.zeroValue0
  t3 := Tryz.underlying3
  a3 := Tryz.isAgg3
  z3 := Tryz.sizeOf3
  v3 := Tryz.zeroValue3
  t4 := Tryz.underlying4
  a4 := Tryz.isAgg4
  z4 := Tryz.sizeOf4
  v4 := Tryz.zeroValue4
  t5 := Tryz.underlying5
  a5 := Tryz.isAgg5
  z5 := Tryz.sizeOf5
  v5 := Tryz.zeroValue5
  t9 := Tryz.underlying9
  a9 := Tryz.isAgg9
  z9 := Tryz.sizeOf9
  v9 := Tryz.zeroValue9
  t28 := Tryz.underlying71
  a28 := Tryz.isAgg71
  z28 := Tryz.sizeOf71
  v28 := Tryz.zeroValue71
  t46 := Tryz.underlying191
  a46 := Tryz.isAgg191
  z46 := Tryz.sizeOf191
  v46 := Tryz.zeroValue191
  t51 := Tryz.underlying111
  a51 := Tryz.isAgg111
  z51 := Tryz.sizeOf111
  v51 := Tryz.zeroValue111
  t53 := Tryz.underlying159
  a53 := Tryz.isAgg159
  z53 := Tryz.sizeOf159
  v53 := Tryz.zeroValue159
  t131 := Tryz.underlying151
  a131 := Tryz.isAgg151
  z131 := Tryz.sizeOf151
  v131 := Tryz.zeroValue151
  t182 := Tryz.underlying203
  a182 := Tryz.isAgg203
  z182 := Tryz.sizeOf203
  v182 := Tryz.zeroValue203
  t183 := Tryz.underlying204
  a183 := Tryz.isAgg204
  z183 := Tryz.sizeOf204
  v183 := Tryz.zeroValue204
  t218 := Tryz.underlying220
  a218 := Tryz.isAgg220
  z218 := Tryz.sizeOf220
  v218 := Tryz.zeroValue220
  t222 := Tryz.underlying224
  a222 := Tryz.isAgg224
  z222 := Tryz.sizeOf224
  v222 := Tryz.zeroValue224
  t228 := Tryz.underlying233
  a228 := Tryz.isAgg233
  z228 := Tryz.sizeOf233
  v228 := Tryz.zeroValue233
  t229 := Tryz.underlying234
  a229 := Tryz.isAgg234
  z229 := Tryz.sizeOf234
  v229 := Tryz.zeroValue234 }
open Go.Sort Go.RowKit in
theorem Tryz.slices_Sort_int (blk off cap : Nat) (zs : List Int) (w : World) (hH : Holds (Value.int .i64) w blk off zs.toArray) (hblk : blk < w.heap.size) (hsz : zs.length < 4611686018427387904) :
    Calls Tryz.prog 88 #[.slice (some ⟨blk, off, none⟩) zs.length cap] w fun e w' =>
      e = .returned (.tuple #[]) ∧ ∃ n os, w' = grow (putRow (Value.int .i64) (Sort.ahead w n) blk off (zs.mergeSort fun x y => decide (x ≤ y)).toArray) os := Any.slices_Sort_int Tryz.lays189 blk off cap zs w hH hblk hsz
def Tryz.lays107_ren : Go.Shelf.Ren := ⟨fun | 107 => 69 | 108 => 90 | n => n, fun | 28 => 71 | 3 => 3 | 4 => 4 | 0 => 0 | n => n, fun | n => n⟩
theorem Tryz.lays107 : Go.Proofs.Lays.n107 Tryz.prog Tryz.lays107_ren := {
  mixed := by kernel_rfl
  f107 := Tryz.func69.trans (congrArg some (by kernel_rfl))
  f108 := Tryz.func90.trans (congrArg some (by kernel_rfl))
  t0 := Tryz.underlying0
  a0 := Tryz.isAgg0
  z0 := Tryz.sizeOf0
  v0 := Tryz.zeroValue0
  t3 := Tryz.underlying3
  a3 := Tryz.isAgg3
  z3 := Tryz.sizeOf3
  v3 := Tryz.zeroValue3
  t4 := Tryz.underlying4
  a4 := Tryz.isAgg4
  z4 := Tryz.sizeOf4
  v4 := Tryz.zeroValue4
  t28 := Tryz.underlying71
  a28 := Tryz.isAgg71
  z28 := Tryz.sizeOf71
  v28 := Tryz.zeroValue71 }
open Go.Lib in
/-- slices.Contains at []int: "Contains reports whether v is present in s.": IT RETURNS 'elements.contains v'; the world is as it was. ITS CALLEE slices.Index IS MET BY ITS OWN CONTRACT OFF THE SHELF (lay that first): no loop is walked here. (LAID: no walk: one application.) -/
theorem Tryz.slices_Contains_int (b off n c : Nat) (zs : List Int) (x : Int) (w : World) (hz : n ≤ zs.length) (hbig : n ≤ 9223372036854775807) (hc : ∀ j, j < zs.length → w.cell? ⟨b, off + j, none⟩ = some (.int .i64 (zs.getD j 0))) :
    Calls Tryz.prog 69 #[.slice (some ⟨b, off, none⟩) n c, .int .i64 x] w fun e w' => e = .returned (.bool ((zs.take n).contains x)) ∧ w' = w := Any.slices_Contains_int Tryz.lays107 b off n c zs x w hz hbig hc
open Go.Lib in
/-- The same at a slice of length 0, a nil one too. (LAID: no walk: one application.) -/
theorem Tryz.slices_Contains_int_empty (a : Option Addr) (c : Nat) (x : Int) (w : World) :
    Calls Tryz.prog 69 #[.slice a 0 c, .int .i64 x] w fun e w' => e = .returned (.bool false) ∧ w' = w := Any.slices_Contains_int_empty Tryz.lays107 a c x w
open Go.RowKit Go.Sort in
/-- .. and plain. (LAID: no walk: one application.) -/
theorem Tryz.slices_Sort_int_none (p : Option Addr) (cap : Nat) (w : World) :
    Calls Tryz.prog 88 #[.slice p 0 cap] w fun e w' => e = .returned (.tuple #[]) ∧ w' = w := Any.slices_Sort_int_none Tryz.lays189 p cap w
end Go.Proofs
