/-
  Layer 2 (digest): mix.
  Layer 2 (digest): bytes, one.
  Layer 2 (digest): Write, Fork, Sum.
  Bytes made; lists of byte slices as a resource. Over any program.
  Layer 2 (digest): Sum.
  Layer 2 (digest): Framed.
  bytes.Join (without a separator) and bytes.Equal.
  Layer 4 (wal): big, small, full, front, note.
-/
import Derived.Test.YtpdhcfkjakbmfaaGreatDoorPly3
import Derived.Test.YtpdhcfkjakbmfaaGreatDoorPly4
import Derived.Lib.MakeNoZero
import Derived.Laws.Externs
namespace Cr
open Go Go.Proofs
set_option maxRecDepth 100000
set_option maxHeartbeats 6000000
attribute [local irreducible] Calls

/-- Where the word k of a step i lies. -/
def spot (k : Int) (i : Nat) : Nat := ((k - i) % 8).toNat
theorem spot_lt (k : Int) (i : Nat) : spot k i < 8 := by unfold spot; omega
def sig3 (a : Int) (p q r : Nat) : Int := ixor .u32 (ixor .u32 (spin a p) (spin a q)) (spin a r)
def mixT (rd w : List Int) (V : List Int) (i : Nat) : Int :=
  let e := V.getD (spot 4 i) 0
  u32 (u32 (u32 (u32 (V.getD (spot 7 i) 0 + sig3 e 6 11 25) + ixor .u32 (V.getD (spot 6 i) 0) (iand .u32 e (ixor .u32 (V.getD (spot 5 i) 0) (V.getD (spot 6 i) 0)))) + rd.getD ((i : Int).toNat * 1) 0) + w.getD (0 + (i : Int).toNat * 1) 0)
def mixU (rd w : List Int) (V : List Int) (i : Nat) : List Int := V.set (spot 3 i) (u32 (V.getD (spot 3 i) 0 + mixT rd w V i))
def mixStep (rd w : List Int) (V : List Int) (i : Nat) : List Int :=
  let a := V.getD (spot 0 i) 0
  let t := mixT rd w V i
  let U := mixU rd w V i
  U.set (spot 7 i) (u32 (u32 (t + sig3 a 2 13 22) + ior .u32 (iand .u32 a (U.getD (spot 1 i) 0)) (iand .u32 (U.getD (spot 2 i) 0) (ior .u32 a (U.getD (spot 1 i) 0)))))
def mixTo (rd w H : List Int) : Nat → List Int
  | 0 => H
  | i + 1 => mixStep rd w (mixTo rd w H i) i
theorem mixTo_length (rd w H : List Int) : ∀ i, (mixTo rd w H i).length = H.length
  | 0 => rfl
  | i + 1 => by simp [mixTo, mixStep, mixU, mixTo_length rd w H i]
def addTo (H V : List Int) : Nat → List Int
  | 0 => H
  | i + 1 => (addTo H V i).set i (u32 ((addTo H V i).getD i 0 + V.getD i 0))
theorem addTo_length (H V : List Int) : ∀ i, (addTo H V i).length = H.length
  | 0 => rfl
  | i + 1 => by simp [addTo, addTo_length H V i]
/-- A block more. -/
def blend (rd H : List Int) (b : List UInt8) : List Int := addTo H (mixTo rd (spreadTo b 64) H 64) 8
theorem blend_length (rd H : List Int) (b : List UInt8) : (blend rd H b).length = H.length := addTo_length _ _ _

theorem St.abs2 {W : World} {F : Nat → Prop} {r : Res} {b : Nat} {k : IntKind} {L : List Int} {T : TypeId} {rs : List Res} {w : World} (hS : St W F (r :: pts b (.cells (ints k L).toArray T) :: rs) w) : ∃ U, U = L ∧ St W F (r :: pts b (.cells (ints k U).toArray T) :: rs) w := ⟨L, rfl, hS⟩
theorem mix_ (s : Nat) (H rd : List Int) (R : List UInt8) (tot : Int) (T : TypeId) (W : World) (F : Nat → Prop) (hH : H.length = 8) (hR : R.length = 64) (hrd : rd.length = 64) (hg : Ro W F (row (some ⟨2, 0, none⟩) (ints .u32 rd)))
    (hS : St W F [pts s (.cells (ints .u32 H ++ (bv R ++ [Value.int .i64 tot])).toArray T)] W) :
    Calls Tryz.prog 131 #[.pointer (some ⟨s, 0, none⟩), .slice (some ⟨s, 8, none⟩) 64 64] W (Ret fun _ w => True ∧ St W F [pts s (.cells (ints .u32 (blend rd H R) ++ (bv R ++ [Value.int .i64 tot])).toArray T)] w) := by
  have hRb : Rd W (bytes (some ⟨s, 8, none⟩) R) := (hS.rd (List.mem_cons_self ..)).mono fun h hh => ⟨h, row_pts_at (n := 64) (by
    rw [List.drop_append_of_le_length (by rw [ints_length]; omega), List.drop_of_length_le (by rw [ints_length]; omega), List.nil_append, List.take_append_of_le_length (by simp [hR]), List.take_of_length_le (by simp [hR])]) h hh, fun _ _ e => e⟩
  have hlH : LenIs (ints .u32 H) 8 := ⟨by rw [ints_length]; exact hH⟩
  have hlS : LenIs (ints .u32 (spreadTo R 64)) 64 := ⟨by rw [ints_length]; exact spreadTo_length _ _⟩
  refine calls_C Tryz.func131 rfl Tryz.ntmps131 rfl ?_
  repeat (first | (refine G_id ?_; first | refine G_nil ?_ | refine G_plain rfl rfl ?_) | (refine X_id ?_; first | (refine X_callq 146 rfl rfl rfl rfl rfl hS (spread_ _ _ R _ hRb hR (by omega)) ?_; rintro _ _ rfl hS) | refine X_yl (Yl_move rfl rfl) rfl rfl ?_ | refine X_yl (Yl_nilCheck rfl rfl) rfl rfl ?_ | refine X_yl (Yl_loadN rfl rfl hS.cellsN) rfl rfl ?_ | refine X_store rfl rfl rfl rfl hS (fun _ hS _ => ?_) | refine X_alloc rfl rfl rfl hS (fun _ _ hS _ => ?_)) | (refine C_id ?_; first | refine C_seq ?_ | refine C_region ?_) | (refine E_id ?_; first | refine E_code ?_))
  rename_i b5 _ _
  refine X_store (l := List.replicate 8 (.int .u32 0)) rfl rfl rfl rfl hS (fun _ hS _ => ?_)
  repeat (first | (refine G_id ?_; first | refine G_nil ?_ | refine G_plain rfl rfl ?_) | (refine X_id ?_; first | refine X_yl (Yl_move rfl rfl) rfl rfl ?_) | (refine C_id ?_; first | refine C_seq ?_ | refine C_region ?_ | refine C_block ?_) | (refine E_id ?_; first | refine E_code ?_))
  rename_i b4 _ _ _ _ _ _ _ _ _ _ _
  refine C_loop (α := Nat) (fun i => [(0, .pointer (some ⟨s, 0, none⟩)), (4, .pointer (some ⟨b4, 0, none⟩)), (5, .pointer (some ⟨b5, 0, none⟩)), (17, .int .i64 (i : Nat))])
    (fun i w => i ≤ 64 ∧ St W F [pts b5 (.cells (ints .u32 (mixTo rd (spreadTo R 64) H i)).toArray 173), pts b4 (.cells (ints .u32 (spreadTo R 64)).toArray 226), pts s (.cells (ints .u32 H ++ (bv R ++ [Value.int .i64 tot])).toArray T)] w) (fun i => 64 - i) 0 ⟨rfl, rfl, rfl, rfl, trivial⟩ ⟨Nat.zero_le _, hS⟩ ?_
  clear hS
  rintro i w ⟨hi, hS⟩
  obtain ⟨V, hVe⟩ : ∃ V, V = mixTo rd (spreadTo R 64) H i := ⟨_, rfl⟩
  have hV : V.length = 8 := by rw [hVe, mixTo_length]; exact hH
  rw [← hVe] at hS
  obtain ⟨Ws, hwe⟩ : ∃ L, L = spreadTo R 64 := ⟨_, rfl⟩
  have hWs : Ws.length = 64 := by rw [hwe]; exact spreadTo_length _ _
  rw [← hwe] at hS
  by_cases h64 : i < 64
  · repeat (first | (refine G_id ?_; first | refine G_nil ?_ | refine G_plain rfl rfl ?_) | (refine X_id ?_; first | refine X_yl (Yl_move rfl rfl) rfl rfl ?_ | refine X_yl (Yl_assign rfl rfl) rfl rfl ?_ | refine X_yl (Yl_makeFunc rfl rfl rfl) rfl rfl ?_ | refine X_yl (Yl_lss_t rfl rfl rfl (by omega)) rfl rfl ?_ | refine X_store rfl rfl rfl rfl hS (fun _ hS _ => ?_) | refine X_alloc rfl rfl rfl hS (fun _ _ hS _ => ?_)) | (refine C_id ?_; first | refine C_seq ?_ | refine C_region ?_ | refine C_block ?_ | refine C_skip ?_ | refine C_cond_t rfl ?_) | (refine E_id ?_; first | refine E_code ?_))
    refine C_ord (.s 0 (.s 4 (.h 1 (.s 2 (.s 3 (.h 5 (.s 6 (.s 7 (.s 8 (.s 9 .nil)))) .no))) .no))) mixed (by kernel_rfl) rfl ?_
    have hS := hS.drew
    repeat (first | (refine X_id ?_; first | (refine X_callc 147 rfl rfl rfl rfl rfl (at_ _ i _ _ _ (by decide) (by decide) (by omega) (by omega) ((hS.rd (List.mem_cons_self ..)).ro)) ?_; rintro _ rfl)) | (refine C_id ?_; first | refine C_seq ?_) | (refine E_id ?_; first | refine E_code ?_) | (refine GO_id ?_; first | refine GO_nil ?_ | refine GO_pure rfl rfl (fun _ => Yl_move rfl rfl) rfl rfl ?_ | refine GO_pure rfl rfl (fun _ => Yl_assign rfl rfl) rfl rfl ?_ | refine GO_pure rfl rfl (fun _ => Yl_nilCheck rfl rfl) rfl rfl ?_ | refine GO_read (fun w' => w'.cell? _ = some _) rfl rfl (hS.cellI (by omega)) (fun _ hc => Yl_load rfl rfl hc) rfl rfl ?_ | refine GO_hard rfl rfl ?_) | (refine Keep_id ?_; first | refine And.intro (by repeat (first | exact trivial | refine And.intro (.inl (by decide +kernel)) ?_ | refine And.intro (.inr (by first | assumption | exact hS.cell | exact cell_at (by assumption) | exact hS.cellI (by omega) | exact hS.cellIP (by omega) | exact hS.cellsN | exact ((hr.rd hS).cellX (by omega) hx) | exact ((hr2.rd hS).cellX (by omega) hx2) | exact hS.cellB (by omega) | exact hS.cellBA (by omega) | exact (hb.rd hS).cellB' (by omega) | exact (hb2.rd hS).cellB' (by omega) | exact (hg.rd hS).cellI (by omega) | exact (hg2.rd hS).cellI (by omega) | exact ((hr.rd hS).cellF (by first | omega | (dsimp only; omega)) hx) | exact ((hr2.rd hS).cellF (by first | omega | (dsimp only; omega)) hx2) | exact hS.cellO 0 (by omega) | exact hS.cellO 1 (by omega) | exact hS.cellIA (by omega) | exact (hg.rd hS).cellIA (by omega) | exact (hg2.rd hS).cellIA (by omega) | exact cell_at (hc.rd hS).pts | exact hb.rd hS | exact (hr.rd hS).cellsF7 (by first | omega | (dsimp only; omega)) hst4 rfl | exact (hr2.rd hS).cellsF7 (by first | omega | (dsimp only; omega)) hst4 rfl | exact hS.cellO 4 (by omega) | exact hS.cellO 5 (by omega) | exact hS.cellO 6 (by omega) | exact hS.cellO 7 (by omega) | exact hS.cellO 8 (by omega) | exact hS.cellO 9 (by omega) | exact hS.cellO 10 (by omega) | exact hS.cellO 11 (by omega) | exact hS.cellO 12 (by omega) | exact hS.cellO 13 (by omega) | exact hS.cellO 2 (by omega) | exact hS.cellO 3 (by omega))) ?_)) ?_))
    refine C_ord (.s 0 (.s 4 (.s 6 (.s 9 (.s 13 (.s 17 (.s 18 (.s 22 (.s 30 (.s 31 (.s 32 (.s 34 (.s 35 (.s 36 (.h 1 (.s 2 (.s 3 (.h 5 (.h 7 (.s 8 (.h 10 (.s 11 (.s 12 (.h 14 (.s 15 (.s 16 (.h 19 (.s 20 (.s 21 (.h 23 (.s 24 (.s 25 (.s 26 (.s 27 (.s 28 (.s 29 (.s 33 (.s 37 (.s 38 .nil))))))))) .no))) .no))) .no))) .no)) .no) .no))) .no))))))))))))))) mixed (by kernel_rfl) rfl ?_
    have hS := hS.drew
    repeat (first | (refine G_id ?_; first | refine G_nil ?_ | refine G_plain rfl rfl ?_) | (refine X_id ?_; first | (refine X_callq 148 rfl rfl rfl rfl rfl hS (spin_ _ _ _ (by decide)) ?_; rintro _ _ rfl hS) | (refine X_callc 147 rfl rfl rfl rfl rfl (at_ _ i _ _ _ (by decide) (by decide) (by omega) (by omega) ((hS.rd (List.mem_cons_self ..)).ro)) ?_; rintro _ rfl) | refine X_yl (Yl_move rfl rfl) rfl rfl ?_ | refine X_yl (Yl_nilCheck rfl rfl) rfl rfl ?_ | refine X_yl (Yl_add rfl rfl rfl rfl) rfl rfl ?_ | refine X_yl (Yl_load rfl rfl (hS.cellI (by omega))) rfl rfl ?_ | refine X_storeI rfl rfl rfl rfl hS (by omega) (fun _ hS => ?_)) | (refine C_id ?_; first | refine C_seq ?_ | refine C_region ?_) | (refine E_id ?_; first | refine E_code ?_) | (refine GO_id ?_; first | refine GO_nil ?_ | refine GO_pure rfl rfl (fun _ => Yl_move rfl rfl) rfl rfl ?_ | refine GO_pure rfl rfl (fun _ => Yl_assign rfl rfl) rfl rfl ?_ | refine GO_pure rfl rfl (fun _ => Yl_nilCheck rfl rfl) rfl rfl ?_ | refine GO_pure rfl rfl (fun _ => Yl_indexAddr_arr rfl rfl rfl (by omega) (by omega)) rfl rfl ?_ | refine GO_pure rfl rfl (fun _ => Yl_add rfl rfl rfl rfl) rfl rfl ?_ | refine GO_pure rfl rfl (fun _ => Yl_xor rfl rfl rfl) rfl rfl ?_ | refine GO_pure rfl rfl (fun _ => Yl_and rfl rfl rfl) rfl rfl ?_ | refine GO_read (fun w' => w'.cell? _ = some _) rfl rfl hS.cell (fun _ hc => Yl_load rfl rfl hc) rfl rfl ?_ | refine GO_read (fun w' => w'.cell? _ = some _) rfl rfl (hS.cellI (by omega)) (fun _ hc => Yl_load rfl rfl hc) rfl rfl ?_ | refine GO_read (fun w' => w'.cell? _ = some _) rfl rfl ((hg.rd hS).cellI (by omega)) (fun _ hc => Yl_load rfl rfl hc) rfl rfl ?_ | refine GO_hard rfl rfl ?_) | (refine Keep_id ?_; first | refine And.intro (by repeat (first | exact trivial | refine And.intro (.inl (by decide +kernel)) ?_ | refine And.intro (.inr (by first | assumption | exact hS.cell | exact cell_at (by assumption) | exact hS.cellI (by omega) | exact hS.cellIP (by omega) | exact hS.cellsN | exact ((hr.rd hS).cellX (by omega) hx) | exact ((hr2.rd hS).cellX (by omega) hx2) | exact hS.cellB (by omega) | exact hS.cellBA (by omega) | exact (hb.rd hS).cellB' (by omega) | exact (hb2.rd hS).cellB' (by omega) | exact (hg.rd hS).cellI (by omega) | exact (hg2.rd hS).cellI (by omega) | exact ((hr.rd hS).cellF (by first | omega | (dsimp only; omega)) hx) | exact ((hr2.rd hS).cellF (by first | omega | (dsimp only; omega)) hx2) | exact hS.cellO 0 (by omega) | exact hS.cellO 1 (by omega) | exact hS.cellIA (by omega) | exact (hg.rd hS).cellIA (by omega) | exact (hg2.rd hS).cellIA (by omega) | exact cell_at (hc.rd hS).pts | exact hb.rd hS | exact (hr.rd hS).cellsF7 (by first | omega | (dsimp only; omega)) hst4 rfl | exact (hr2.rd hS).cellsF7 (by first | omega | (dsimp only; omega)) hst4 rfl | exact hS.cellO 4 (by omega) | exact hS.cellO 5 (by omega) | exact hS.cellO 6 (by omega) | exact hS.cellO 7 (by omega) | exact hS.cellO 8 (by omega) | exact hS.cellO 9 (by omega) | exact hS.cellO 10 (by omega) | exact hS.cellO 11 (by omega) | exact hS.cellO 12 (by omega) | exact hS.cellO 13 (by omega) | exact hS.cellO 2 (by omega) | exact hS.cellO 3 (by omega))) ?_)) ?_))
    obtain ⟨U, hUe, hS⟩ := St.abs2 hS
    have hUl : U.length = 8 := by rw [hUe]; simp [hV]
    replace hUe : U = mixU rd Ws V i := hUe
    refine C_ord (.s 0 (.s 2 (.s 3 (.s 5 (.s 8 (.s 12 (.s 13 (.s 18 (.s 22 (.s 23 (.h 1 (.h 4 (.h 6 (.s 7 (.h 9 (.s 10 (.s 11 (.h 14 (.s 15 (.s 16 (.s 17 (.h 19 (.s 20 (.s 21 (.h 24 (.s 25 (.s 26 (.s 27 (.s 28 (.s 29 (.s 30 (.s 31 (.h 32 .nil .no)))))))) .no))) .no)))) .no))) .no)) .no) .no) .no))))))))))) mixed (by kernel_rfl) rfl ?_
    have hS := hS.drew
    repeat (first | (refine G_id ?_; first | refine G_nil ?_ | refine G_plain rfl rfl ?_) | (refine X_id ?_; first | (refine X_callq 148 rfl rfl rfl rfl rfl hS (spin_ _ _ _ (by decide)) ?_; rintro _ _ rfl hS) | (refine X_callc 147 rfl rfl rfl rfl rfl (at_ _ i _ _ _ (by decide) (by decide) (by omega) (by omega) ((hS.rd (List.mem_cons_self ..)).ro)) ?_; rintro _ rfl) | refine X_yl (Yl_move rfl rfl) rfl rfl ?_ | refine X_yl (Yl_add rfl rfl rfl (w64 (by omega) (by omega))) rfl rfl ?_ | refine X_storeI rfl rfl rfl rfl hS (by omega) (fun _ hS => ?_)) | (refine C_id ?_; first | refine C_region ?_) | (refine E_id ?_; first | refine E_code ?_ | refine E_blk_n ?_) | (refine GO_id ?_; first | refine GO_nil ?_ | refine GO_pure rfl rfl (fun _ => Yl_move rfl rfl) rfl rfl ?_ | refine GO_pure rfl rfl (fun _ => Yl_nilCheck rfl rfl) rfl rfl ?_ | refine GO_pure rfl rfl (fun _ => Yl_add rfl rfl rfl rfl) rfl rfl ?_ | refine GO_pure rfl rfl (fun _ => Yl_xor rfl rfl rfl) rfl rfl ?_ | refine GO_pure rfl rfl (fun _ => Yl_and rfl rfl rfl) rfl rfl ?_ | refine GO_pure rfl rfl (fun _ => Yl_or rfl rfl rfl) rfl rfl ?_ | refine GO_read (fun w' => w'.cell? _ = some _) rfl rfl (hS.cellI (by omega)) (fun _ hc => Yl_load rfl rfl hc) rfl rfl ?_ | refine GO_hard rfl rfl ?_) | (refine Keep_id ?_; first | refine And.intro (by repeat (first | exact trivial | refine And.intro (.inl (by decide +kernel)) ?_ | refine And.intro (.inr (by first | assumption | exact hS.cell | exact cell_at (by assumption) | exact hS.cellI (by omega) | exact hS.cellIP (by omega) | exact hS.cellsN | exact ((hr.rd hS).cellX (by omega) hx) | exact ((hr2.rd hS).cellX (by omega) hx2) | exact hS.cellB (by omega) | exact hS.cellBA (by omega) | exact (hb.rd hS).cellB' (by omega) | exact (hb2.rd hS).cellB' (by omega) | exact (hg.rd hS).cellI (by omega) | exact (hg2.rd hS).cellI (by omega) | exact ((hr.rd hS).cellF (by first | omega | (dsimp only; omega)) hx) | exact ((hr2.rd hS).cellF (by first | omega | (dsimp only; omega)) hx2) | exact hS.cellO 0 (by omega) | exact hS.cellO 1 (by omega) | exact hS.cellIA (by omega) | exact (hg.rd hS).cellIA (by omega) | exact (hg2.rd hS).cellIA (by omega) | exact cell_at (hc.rd hS).pts | exact hb.rd hS | exact (hr.rd hS).cellsF7 (by first | omega | (dsimp only; omega)) hst4 rfl | exact (hr2.rd hS).cellsF7 (by first | omega | (dsimp only; omega)) hst4 rfl | exact hS.cellO 4 (by omega) | exact hS.cellO 5 (by omega) | exact hS.cellO 6 (by omega) | exact hS.cellO 7 (by omega) | exact hS.cellO 8 (by omega) | exact hS.cellO 9 (by omega) | exact hS.cellO 10 (by omega) | exact hS.cellO 11 (by omega) | exact hS.cellO 12 (by omega) | exact hS.cellO 13 (by omega) | exact hS.cellO 2 (by omega) | exact hS.cellO 3 (by omega))) ?_)) ?_))
    refine E_round (i + 1) ⟨rfl, rfl, rfl, rfl, trivial⟩ ⟨by omega, ?_⟩ (by omega)
    have hS := hS.pick [1, 1, 1]
    show St W F [pts b5 (.cells (ints .u32 (mixStep rd (spreadTo R 64) (mixTo rd (spreadTo R 64) H i) i)).toArray 173), pts b4 (.cells (ints .u32 (spreadTo R 64)).toArray 226), _] _
    rw [← hVe, ← hwe]
    unfold mixStep
    rw [← hUe]
    exact hS
  · obtain rfl : i = 64 := by omega
    repeat (first | (refine G_id ?_; first | refine G_nil ?_ | refine G_plain rfl rfl ?_) | (refine X_id ?_; first | refine X_yl (Yl_move rfl rfl) rfl rfl ?_ | refine X_yl (Yl_lss_f rfl rfl rfl (by omega)) rfl rfl ?_) | (refine C_id ?_; first | refine C_seq ?_ | refine C_region ?_ | refine C_block ?_ | refine C_exit ?_ | refine C_cond_f rfl ?_) | (refine E_id ?_; first | refine E_code ?_ | refine E_then_exit ?_ | refine E_blk_same ?_))
    refine C_loop (α := Nat) (fun k => [(0, .pointer (some ⟨s, 0, none⟩)), (5, .pointer (some ⟨b5, 0, none⟩)), (107, .int .i64 (k : Nat))])
      (fun k w => k ≤ 8 ∧ St W F [pts b5 (.cells (ints .u32 V).toArray 173), pts b4 (.cells (ints .u32 Ws).toArray 226), pts s (.cells (ints .u32 (addTo H V k) ++ (bv R ++ [Value.int .i64 tot])).toArray T)] w) (fun k => 8 - k) 0 ⟨rfl, rfl, rfl, trivial⟩ ⟨Nat.zero_le _, hS⟩ ?_
    clear hS
    rintro k w ⟨hk, hS⟩
    obtain ⟨A, hAe⟩ : ∃ A, A = addTo H V k := ⟨_, rfl⟩
    have hA : A.length = 8 := by rw [hAe, addTo_length]; exact hH
    rw [← hAe] at hS
    by_cases h8 : k < 8
    · repeat (first | (refine G_id ?_; first | refine G_nil ?_ | refine G_plain rfl rfl ?_) | (refine X_id ?_; first | refine X_yl (Yl_move rfl rfl) rfl rfl ?_ | refine X_yl (Yl_assign rfl rfl) rfl rfl ?_ | refine X_yl (Yl_lss_t rfl rfl rfl (by omega)) rfl rfl ?_) | (refine C_id ?_; first | refine C_seq ?_ | refine C_region ?_ | refine C_block ?_ | refine C_skip ?_ | refine C_cond_t rfl ?_) | (refine E_id ?_; first | refine E_code ?_))
      refine C_ord (.s 0 (.s 1 (.s 2 (.s 3 (.s 4 (.s 5 (.s 6 (.s 7 (.s 8 (.s 9 (.s 10 (.h 11 .nil .no)))))))))))) mixed (by kernel_rfl) rfl ?_
      have hS := hS.drew
      repeat (first | (refine G_id ?_; first | refine G_nil ?_ | refine G_plain rfl rfl ?_) | (refine X_id ?_; first | refine X_yl (Yl_move rfl rfl) rfl rfl ?_ | refine X_yl (Yl_add rfl rfl rfl (w64 (by omega) (by omega))) rfl rfl ?_ | refine X_storeIP rfl rfl rfl rfl hS (by omega) (fun _ hS => ?_)) | (refine C_id ?_; first | refine C_region ?_) | (refine E_id ?_; first | refine E_code ?_ | refine E_blk_n ?_) | (refine GO_id ?_; first | refine GO_nil ?_ | refine GO_pure rfl rfl (fun _ => Yl_move rfl rfl) rfl rfl ?_ | refine GO_pure rfl rfl (fun _ => Yl_nilCheck rfl rfl) rfl rfl ?_ | refine GO_pure rfl rfl (fun _ => Yl_indexAddr_arr rfl rfl rfl (by omega) (by omega)) rfl rfl ?_ | refine GO_pure rfl rfl (fun _ => Yl_add rfl rfl rfl rfl) rfl rfl ?_ | refine GO_read (fun w' => w'.cell? _ = some _) rfl rfl (hS.cellI (by omega)) (fun _ hc => Yl_load rfl rfl hc) rfl rfl ?_ | refine GO_read (fun w' => w'.cell? _ = some _) rfl rfl (hS.cellIP (by omega)) (fun _ hc => Yl_load rfl rfl hc) rfl rfl ?_ | refine GO_hard rfl rfl ?_) | (refine Keep_id ?_; first | refine And.intro (by repeat (first | exact trivial | refine And.intro (.inl (by decide +kernel)) ?_ | refine And.intro (.inr (by first | assumption | exact hS.cell | exact cell_at (by assumption) | exact hS.cellI (by omega) | exact hS.cellIP (by omega) | exact hS.cellsN | exact ((hr.rd hS).cellX (by omega) hx) | exact ((hr2.rd hS).cellX (by omega) hx2) | exact hS.cellB (by omega) | exact hS.cellBA (by omega) | exact (hb.rd hS).cellB' (by omega) | exact (hb2.rd hS).cellB' (by omega) | exact (hg.rd hS).cellI (by omega) | exact (hg2.rd hS).cellI (by omega) | exact ((hr.rd hS).cellF (by first | omega | (dsimp only; omega)) hx) | exact ((hr2.rd hS).cellF (by first | omega | (dsimp only; omega)) hx2) | exact hS.cellO 0 (by omega) | exact hS.cellO 1 (by omega) | exact hS.cellIA (by omega) | exact (hg.rd hS).cellIA (by omega) | exact (hg2.rd hS).cellIA (by omega) | exact cell_at (hc.rd hS).pts | exact hb.rd hS | exact (hr.rd hS).cellsF7 (by first | omega | (dsimp only; omega)) hst4 rfl | exact (hr2.rd hS).cellsF7 (by first | omega | (dsimp only; omega)) hst4 rfl | exact hS.cellO 4 (by omega) | exact hS.cellO 5 (by omega) | exact hS.cellO 6 (by omega) | exact hS.cellO 7 (by omega) | exact hS.cellO 8 (by omega) | exact hS.cellO 9 (by omega) | exact hS.cellO 10 (by omega) | exact hS.cellO 11 (by omega) | exact hS.cellO 12 (by omega) | exact hS.cellO 13 (by omega) | exact hS.cellO 2 (by omega) | exact hS.cellO 3 (by omega))) ?_)) ?_))
      refine E_round (k + 1) ⟨rfl, rfl, rfl, trivial⟩ ⟨by omega, ?_⟩ (by omega)
      simp only [addTo]
      rw [← hAe]
      rw [show 0 + (k : Int).toNat * 1 = k by omega] at hS
      exact hS
    · obtain rfl : k = 8 := by omega
      repeat (first | (refine G_id ?_; first | refine G_nil ?_ | refine G_plain rfl rfl ?_) | (refine X_id ?_; first | refine X_yl (Yl_lss_f rfl rfl rfl (by omega)) rfl rfl ?_) | (refine C_id ?_; first | refine C_seq ?_ | refine C_region ?_ | refine C_exit ?_ | refine C_cond_f rfl ?_) | (refine E_id ?_; first | refine E_code ?_ | refine E_then_exit ?_ | refine E_blk_same ?_ | refine E_end0 rfl (Ret.mk ?_)))
      refine ⟨trivial, ?_⟩
      replace hS := hS.pick [2]
      rw [hAe, hVe] at hS
      exact hS
end Cr
namespace Cr
open Go Go.Proofs
set_option maxRecDepth 100000
set_option maxHeartbeats 4000000
attribute [local irreducible] Calls

/-! ### bytes -/
def outAt (H : List Int) (i : Nat) : UInt8 := b8 (ishr .u32 (H.getD (i / 4) 0) (24 - i % 4 * 8))
def outTo (H : List Int) : Nat → List UInt8
  | 0 => List.replicate 32 0
  | i + 1 => (outTo H i).set i (outAt H i)
theorem outTo_length (H : List Int) : ∀ i, (outTo H i).length = 32
  | 0 => by simp [outTo]
  | i + 1 => by simp [outTo, outTo_length H i]
/-- The digest's bytes. -/
def outB (H : List Int) : List UInt8 := outTo H 32
theorem outB_length (H : List Int) : (outB H).length = 32 := outTo_length H 32
theorem bytes_ (s : Nat) (H : List Int) (r : List Value) (T : TypeId) (W : World) (hH : H.length = 8) (hs : Rd W (pts s (.cells (ints .u32 H ++ r).toArray T))) :
    Calls Tryz.prog 113 #[.pointer (some ⟨s, 0, none⟩)] W (Ret fun v w => v = .agg (bv (outB H)).toArray ∧ St W noF [] w) := by
  have hS := St.start W
  have hg : Ro W noF (row (some ⟨s, 0, none⟩) (ints .u32 H)) := hs.ro.mono fun h hh => ⟨h, row_pts_at (n := 8) (by rw [List.drop_zero, List.take_append_of_le_length (by rw [ints_length]; omega), List.take_of_length_le (by rw [ints_length]; omega)]) h hh, fun _ _ e => e⟩
  refine calls_C Tryz.func113 rfl Tryz.ntmps113 rfl ?_
  repeat (first | (refine G_id ?_; first | refine G_nil ?_ | refine G_plain rfl rfl ?_) | (refine X_id ?_; first | refine X_yl (Yl_move rfl rfl) rfl rfl ?_ | refine X_alloc rfl rfl rfl hS (fun _ _ hS _ => ?_)) | (refine C_id ?_; first | refine C_seq ?_ | refine C_region ?_ | refine C_block ?_) | (refine E_id ?_; first | refine E_code ?_))
  rename_i b2 _ _ _ b3 _ _
  rw [bv_rep] at hS
  refine C_loop (α := Nat) (fun i => [(0, .pointer (some ⟨s, 0, none⟩)), (2, .pointer (some ⟨b2, 0, none⟩)), (3, .pointer (some ⟨b3, 0, none⟩)), (5, .int .i64 (i : Nat))])
    (fun i w => i ≤ 32 ∧ St W noF [pts b3 (.cells (bv (outTo H i)).toArray 137), pts b2 (.cells (bv (List.replicate 32 0)).toArray 137)] w) (fun i => 32 - i) 0 ⟨rfl, rfl, rfl, rfl, trivial⟩ ⟨Nat.zero_le _, hS⟩ ?_
  clear hS
  rintro i w ⟨hi, hS⟩
  obtain ⟨L, hLe⟩ : ∃ L, L = outTo H i := ⟨_, rfl⟩
  have hL : L.length = 32 := by rw [hLe]; exact outTo_length H i
  rw [← hLe] at hS
  by_cases h32 : i < 32
  · repeat (first | (refine G_id ?_; first | refine G_nil ?_ | refine G_plain rfl rfl ?_) | (refine X_id ?_; first | refine X_yl (Yl_move rfl rfl) rfl rfl ?_ | refine X_yl (Yl_assign rfl rfl) rfl rfl ?_ | refine X_yl (Yl_nilCheck rfl rfl) rfl rfl ?_ | refine X_yl (Yl_lss_t rfl rfl rfl (by omega)) rfl rfl ?_ | refine X_yl (Yl_indexAddr_arr rfl rfl rfl (by omega) (by omega)) rfl rfl ?_ | refine X_yl (Yl_add rfl rfl rfl (w64 (by omega) (by omega))) rfl rfl ?_ | refine X_yl (Yl_sub rfl rfl rfl (w64 (by omega) (by omega))) rfl rfl ?_ | refine X_yl (Yl_mul rfl rfl rfl (w64 (by omega) (by omega))) rfl rfl ?_ | refine X_yl (Yl_convU8 rfl rfl) rfl rfl ?_ | refine X_yl (Yl_shr rfl rfl rfl (by omega)) rfl rfl ?_ | refine X_yl (Yl_quoE rfl rfl rfl (by omega) (by omega) (by omega)) rfl rfl ?_ | refine X_yl (Yl_remE rfl rfl rfl (by omega) (by omega)) rfl rfl ?_ | refine X_yl (Yl_load rfl rfl ((hg.rd hS).cellI (by omega))) rfl rfl ?_ | refine X_storeB rfl rfl rfl rfl hS (by omega) (fun _ hS => ?_)) | (refine C_id ?_; first | refine C_seq ?_ | refine C_region ?_ | refine C_block ?_ | refine C_skip ?_ | refine C_cond_t rfl ?_) | (refine E_id ?_; first | refine E_code ?_ | refine E_blk_n ?_))
    refine E_round (i + 1) ⟨rfl, rfl, rfl, rfl, trivial⟩ ⟨by omega, ?_⟩ (by omega)
    rw [show 0 + (i : Int).toNat * 1 = i by omega, show ((i : Int) / 4).toNat * 1 = i / 4 by omega, show (24 - (i : Int) % 4 * 8).toNat = 24 - i % 4 * 8 by omega, hLe] at hS
    exact hS
  · obtain rfl : i = 32 := by omega
    have hlen : LenO (bv L) 32 := ⟨by simp [hL]⟩
    repeat (first | (refine G_id ?_; first | refine G_nil ?_ | refine G_plain rfl rfl ?_) | (refine X_id ?_; first | refine X_yl (Yl_lss_f rfl rfl rfl (by omega)) rfl rfl ?_ | refine X_yl (Yl_loadN rfl rfl hS.cellsN) rfl rfl ?_ | refine X_storeAll rfl rfl rfl rfl hS (fun _ hS => ?_)) | (refine C_id ?_; first | refine C_seq ?_ | refine C_region ?_ | refine C_ret ?_ | refine C_exit ?_ | refine C_cond_f rfl ?_) | (refine E_id ?_; first | refine E_code ?_ | refine E_then_exit ?_ | refine E_blk_same ?_ | refine E_ret1 rfl (by first | exact Rv_tmp rfl | exact Rv_cell rfl (run_load1 hS.cell) | exact Rv_cell rfl (run_loadN hS.cellsN)) (Ret.mk ?_)))
    exact ⟨by rw [hLe]; rfl, hS.drops⟩

/-! ### one -/
structure StrM where
  H : List Int
  R : List UInt8
  n : Nat
structure StrM.ok (S : StrM) : Prop where
  h8 : S.H.length = 8
  r64 : S.R.length = 64
def StrM.cells (S : StrM) : List Value := ints .u32 S.H ++ (bv S.R ++ [.int .i64 (S.n : Nat)])
def beginH (fs H : List Int) (n : Nat) : List Int := if n = 0 then fs else H
def StrM.one (rd fs : List Int) (S : StrM) (c : UInt8) : StrM :=
  ⟨if (S.n + 1) % 64 = 0 then blend rd (beginH fs S.H S.n) (S.R.set (S.n % 64) c) else beginH fs S.H S.n, S.R.set (S.n % 64) c, S.n + 1⟩
/-- The package's two tables. -/
structure Gl (W : World) (F : Nat → Prop) (rd fs : List Int) : Prop where
  round : Ro W F (row (some ⟨2, 0, none⟩) (ints .u32 rd))
  first : Ro W F (row (some ⟨0, 0, none⟩) (ints .u32 fs))
  round64 : rd.length = 64
  first8 : fs.length = 8
theorem Gl.mono {W w : World} {F F' : Nat → Prop} {rd fs : List Int} (h : Gl W F rd fs) (hw : ∀ r, Ro W F r → Ro w F' r) : Gl w F' rd fs := ⟨hw _ h.round, hw _ h.first, h.round64, h.first8⟩
theorem beginH_length {fs H : List Int} (n : Nat) (h : fs.length = 8) (h' : H.length = 8) : (beginH fs H n).length = 8 := by unfold beginH; split <;> assumption
theorem StrM.one_ok {rd fs : List Int} {S : StrM} {c : UInt8} (h : S.ok) (hf : fs.length = 8) : (S.one rd fs c).ok := by
  refine ⟨?_, by simp [StrM.one, h.r64]⟩
  simp only [StrM.one]
  split
  · rw [blend_length]; exact beginH_length _ hf h.h8
  · exact beginH_length _ hf h.h8
theorem one_ (s : Nat) (S : StrM) (c : UInt8) (rd fs : List Int) (T : TypeId) (W : World) (F : Nat → Prop) (hok : S.ok) (hn : S.n < 2305843009213693951) (hG : Gl W F rd fs) (hS : St W F [pts s (.cells S.cells.toArray T)] W) :
    Calls Tryz.prog 111 #[.pointer (some ⟨s, 0, none⟩), .int .u8 (c.toNat : Int)] W (Ret fun _ w => True ∧ St W F [pts s (.cells (S.one rd fs c).cells.toArray T)] w) := by
  obtain ⟨H, R, n⟩ := S
  obtain ⟨h8, r64⟩ := hok
  unfold StrM.cells at hS
  simp only at h8 r64 hn hS
  have hl1 : LenO (ints .u32 H) 8 := ⟨by rw [ints_length]; exact h8⟩
  have hl2 : LenO (bv R) 64 := ⟨by simp [r64]⟩
  have hl3 : LenO (ints .u32 fs) 8 := ⟨by rw [ints_length]; exact hG.first8⟩
  refine calls_C Tryz.func111 rfl Tryz.ntmps111 rfl ?_
  have hc1 : ∀ H', beginH fs H n = H' → H'.length = 8 := fun H' e => e ▸ beginH_length n hG.first8 h8
  have hend : ∀ H' w, beginH fs H n = H' → St W F [pts s (.cells (ints .u32 (if (n + 1) % 64 = 0 then blend rd H' (R.set (n % 64) c) else H') ++ (bv (R.set (n % 64) c) ++ [Value.int .i64 ((n + 1 : Nat) : Int)])).toArray T)] w →
      St W F [pts s (.cells (StrM.one rd fs ⟨H, R, n⟩ c).cells.toArray T)] w := fun H' w e h => by
    unfold StrM.one StrM.cells; simp only [e]; exact h
  have ei : ((n : Int) % 64).toNat * 1 = n % 64 := by omega
  by_cases h0 : n = 0
  all_goals by_cases h64 : (n + 1) % 64 = 0
  · repeat (first | (refine G_id ?_; first | refine G_nil ?_ | refine G_plain rfl rfl ?_) | (refine X_id ?_; first | refine X_yl (Yl_move rfl rfl) rfl rfl ?_ | refine X_yl (Yl_nilCheck rfl rfl) rfl rfl ?_ | refine X_yl (Yl_fieldAddr0 rfl rfl rfl) rfl rfl ?_ | refine X_yl (Yl_eql_t rfl rfl rfl (by omega)) rfl rfl ?_ | refine X_yl (Yl_load rfl rfl hS.cell) rfl rfl ?_) | (refine C_id ?_; first | refine C_seq ?_ | refine C_region ?_ | refine C_cond_t rfl ?_) | (refine E_id ?_; first | refine E_code ?_))
    refine X_yl (Yl_loadAgg rfl rfl ((hG.first.rd hS).cellsAt rfl) (by rw [ints_length]; exact hG.first8)) rfl rfl ?_
    repeat (first | (refine G_id ?_; first | refine G_nil ?_ | refine G_plain rfl rfl ?_) | (refine X_id ?_; first | refine X_yl (Yl_nilCheck rfl rfl) rfl rfl ?_ | refine X_yl (Yl_fieldAddr0 rfl rfl rfl) rfl rfl ?_ | refine X_store rfl rfl rfl rfl hS (fun _ hS _ => ?_)) | (refine C_id ?_; first | refine C_seq ?_) | (refine E_id ?_; first | refine E_code ?_))
    have e1 : beginH fs H n = fs := by simp [beginH, h0]
    refine C_ord (.s 0 (.s 1 (.s 2 (.s 3 (.s 4 (.s 5 (.s 6 (.s 7 (.s 8 (.s 9 (.h 10 .nil .no))))))))))) mixed (by kernel_rfl) rfl ?_
    have hS := hS.drew
    repeat (first | (refine G_id ?_; first | refine G_nil ?_ | refine G_plain rfl rfl ?_) | (refine X_id ?_; first | refine X_yl (Yl_move rfl rfl) rfl rfl ?_ | refine X_yl (Yl_nilCheck rfl rfl) rfl rfl ?_ | refine X_yl (Yl_fieldAddr0 rfl rfl rfl) rfl rfl ?_ | refine X_yl (Yl_eql_t rfl rfl rfl (by omega)) rfl rfl ?_ | refine X_yl (Yl_add rfl rfl rfl (w64 (by omega) (by omega))) rfl rfl ?_ | refine X_yl (Yl_remE rfl rfl rfl (by omega) (by omega)) rfl rfl ?_ | refine X_yl (Yl_load rfl rfl hS.cell) rfl rfl ?_ | refine X_storeMB rfl rfl rfl rfl hS rfl (by omega) (fun _ hS => ?_) | refine X_store rfl rfl rfl rfl hS (fun _ hS _ => ?_)) | (refine C_id ?_; first | refine C_seq ?_ | refine C_region ?_ | refine C_cond_t rfl ?_) | (refine E_id ?_; first | refine E_code ?_) | (refine GO_id ?_; first | refine GO_nil ?_ | refine GO_pure rfl rfl (fun _ => Yl_move rfl rfl) rfl rfl ?_ | refine GO_pure rfl rfl (fun _ => Yl_nilCheck rfl rfl) rfl rfl ?_ | refine GO_pure rfl rfl (fun _ => Yl_fieldAddr0 rfl rfl rfl) rfl rfl ?_ | refine GO_pure rfl rfl (fun _ => Yl_indexAddr_arr rfl rfl rfl (by omega) (by omega)) rfl rfl ?_ | refine GO_pure rfl rfl (fun _ => Yl_remE rfl rfl rfl (by omega) (by omega)) rfl rfl ?_ | refine GO_read (fun w' => w'.cell? _ = some _) rfl rfl hS.cell (fun _ hc => Yl_load rfl rfl hc) rfl rfl ?_ | refine GO_hard rfl rfl ?_) | (refine Keep_id ?_; first | refine And.intro (by repeat (first | exact trivial | refine And.intro (.inl (by decide +kernel)) ?_ | refine And.intro (.inr (by first | assumption | exact hS.cell | exact cell_at (by assumption) | exact hS.cellI (by omega) | exact hS.cellIP (by omega) | exact hS.cellsN | exact ((hr.rd hS).cellX (by omega) hx) | exact ((hr2.rd hS).cellX (by omega) hx2) | exact hS.cellB (by omega) | exact hS.cellBA (by omega) | exact (hb.rd hS).cellB' (by omega) | exact (hb2.rd hS).cellB' (by omega) | exact (hg.rd hS).cellI (by omega) | exact (hg2.rd hS).cellI (by omega) | exact ((hr.rd hS).cellF (by first | omega | (dsimp only; omega)) hx) | exact ((hr2.rd hS).cellF (by first | omega | (dsimp only; omega)) hx2) | exact hS.cellO 0 (by omega) | exact hS.cellO 1 (by omega) | exact hS.cellIA (by omega) | exact (hg.rd hS).cellIA (by omega) | exact (hg2.rd hS).cellIA (by omega) | exact cell_at (hc.rd hS).pts | exact hb.rd hS | exact (hr.rd hS).cellsF7 (by first | omega | (dsimp only; omega)) hst4 rfl | exact (hr2.rd hS).cellsF7 (by first | omega | (dsimp only; omega)) hst4 rfl | exact hS.cellO 4 (by omega) | exact hS.cellO 5 (by omega) | exact hS.cellO 6 (by omega) | exact hS.cellO 7 (by omega) | exact hS.cellO 8 (by omega) | exact hS.cellO 9 (by omega) | exact hS.cellO 10 (by omega) | exact hS.cellO 11 (by omega) | exact hS.cellO 12 (by omega) | exact hS.cellO 13 (by omega) | exact hS.cellO 2 (by omega) | exact hS.cellO 3 (by omega))) ?_)) ?_))
    rw [ei] at hS
    refine C_ord (.s 0 (.s 1 (.s 2 (.s 3 (.s 4 (.s 5 (.s 6 (.h 7 .nil .no)))))))) mixed (by kernel_rfl) rfl ?_
    have hS := hS.drew
    repeat (first | (refine GO_id ?_; first | refine GO_pure rfl rfl (fun _ => Yl_move rfl rfl) rfl rfl ?_ | refine GO_pure rfl rfl (fun _ => Yl_nilCheck rfl rfl) rfl rfl ?_ | refine GO_pure rfl rfl (fun _ => Yl_fieldAddr0 rfl rfl rfl) rfl rfl ?_ | refine GO_pure rfl rfl (fun _ => Yl_slice_arr rfl rfl) rfl rfl ?_ | refine GO_hard rfl rfl ?_))
    obtain ⟨_, hc, hr, hw, hbk⟩ := hS.call [true]
    refine X_callg _ rfl rfl rfl rfl rfl (mix_ s fs rd (R.set (n % 64) c) (↑n + 1) T _ _ (hc1 _ e1) (by simp [r64]) hG.round64 (hw _ hG.round) hc) ?_
    rintro _ w ⟨_, hS⟩
    replace hS := hbk hS
    clear hc hr hw hbk
    repeat (first | (refine E_id ?_; first | refine E_end0 rfl (Ret.mk ?_)) | (refine GO_id ?_; first | refine GO_nil ?_) | (refine Keep_id ?_; first | refine And.intro (by repeat (first | exact trivial | refine And.intro (.inl (by decide +kernel)) ?_ | refine And.intro (.inr (by first | assumption | exact hS.cell | exact cell_at (by assumption) | exact hS.cellI (by omega) | exact hS.cellIP (by omega) | exact hS.cellsN | exact ((hr.rd hS).cellX (by omega) hx) | exact ((hr2.rd hS).cellX (by omega) hx2) | exact hS.cellB (by omega) | exact hS.cellBA (by omega) | exact (hb.rd hS).cellB' (by omega) | exact (hb2.rd hS).cellB' (by omega) | exact (hg.rd hS).cellI (by omega) | exact (hg2.rd hS).cellI (by omega) | exact ((hr.rd hS).cellF (by first | omega | (dsimp only; omega)) hx) | exact ((hr2.rd hS).cellF (by first | omega | (dsimp only; omega)) hx2) | exact hS.cellO 0 (by omega) | exact hS.cellO 1 (by omega) | exact hS.cellIA (by omega) | exact (hg.rd hS).cellIA (by omega) | exact (hg2.rd hS).cellIA (by omega) | exact cell_at (hc.rd hS).pts | exact hb.rd hS | exact (hr.rd hS).cellsF7 (by first | omega | (dsimp only; omega)) hst4 rfl | exact (hr2.rd hS).cellsF7 (by first | omega | (dsimp only; omega)) hst4 rfl | exact hS.cellO 4 (by omega) | exact hS.cellO 5 (by omega) | exact hS.cellO 6 (by omega) | exact hS.cellO 7 (by omega) | exact hS.cellO 8 (by omega) | exact hS.cellO 9 (by omega) | exact hS.cellO 10 (by omega) | exact hS.cellO 11 (by omega) | exact hS.cellO 12 (by omega) | exact hS.cellO 13 (by omega) | exact hS.cellO 2 (by omega) | exact hS.cellO 3 (by omega))) ?_)) ?_))
    refine ⟨trivial, hend _ _ e1 ?_⟩
    rw [if_pos h64]
    exact hS
  · repeat (first | (refine G_id ?_; first | refine G_nil ?_ | refine G_plain rfl rfl ?_) | (refine X_id ?_; first | refine X_yl (Yl_move rfl rfl) rfl rfl ?_ | refine X_yl (Yl_nilCheck rfl rfl) rfl rfl ?_ | refine X_yl (Yl_fieldAddr0 rfl rfl rfl) rfl rfl ?_ | refine X_yl (Yl_eql_t rfl rfl rfl (by omega)) rfl rfl ?_ | refine X_yl (Yl_load rfl rfl hS.cell) rfl rfl ?_) | (refine C_id ?_; first | refine C_seq ?_ | refine C_region ?_ | refine C_cond_t rfl ?_) | (refine E_id ?_; first | refine E_code ?_))
    refine X_yl (Yl_loadAgg rfl rfl ((hG.first.rd hS).cellsAt rfl) (by rw [ints_length]; exact hG.first8)) rfl rfl ?_
    repeat (first | (refine G_id ?_; first | refine G_nil ?_ | refine G_plain rfl rfl ?_) | (refine X_id ?_; first | refine X_yl (Yl_nilCheck rfl rfl) rfl rfl ?_ | refine X_yl (Yl_fieldAddr0 rfl rfl rfl) rfl rfl ?_ | refine X_store rfl rfl rfl rfl hS (fun _ hS _ => ?_)) | (refine C_id ?_; first | refine C_seq ?_) | (refine E_id ?_; first | refine E_code ?_))
    have e1 : beginH fs H n = fs := by simp [beginH, h0]
    refine C_ord (.s 0 (.s 1 (.s 2 (.s 3 (.s 4 (.s 5 (.s 6 (.s 7 (.s 8 (.s 9 (.h 10 .nil .no))))))))))) mixed (by kernel_rfl) rfl ?_
    have hS := hS.drew
    repeat (first | (refine G_id ?_; first | refine G_nil ?_ | refine G_plain rfl rfl ?_) | (refine X_id ?_; first | refine X_yl (Yl_move rfl rfl) rfl rfl ?_ | refine X_yl (Yl_nilCheck rfl rfl) rfl rfl ?_ | refine X_yl (Yl_fieldAddr0 rfl rfl rfl) rfl rfl ?_ | refine X_yl (Yl_eql_f rfl rfl rfl (by omega)) rfl rfl ?_ | refine X_yl (Yl_add rfl rfl rfl (w64 (by omega) (by omega))) rfl rfl ?_ | refine X_yl (Yl_remE rfl rfl rfl (by omega) (by omega)) rfl rfl ?_ | refine X_yl (Yl_load rfl rfl hS.cell) rfl rfl ?_ | refine X_storeMB rfl rfl rfl rfl hS rfl (by omega) (fun _ hS => ?_) | refine X_store rfl rfl rfl rfl hS (fun _ hS _ => ?_)) | (refine C_id ?_; first | refine C_seq ?_ | refine C_region ?_ | refine C_skip ?_ | refine C_cond_f rfl ?_) | (refine E_id ?_; first | refine E_code ?_ | refine E_end0 rfl (Ret.mk ?_)) | (refine GO_id ?_; first | refine GO_nil ?_ | refine GO_pure rfl rfl (fun _ => Yl_move rfl rfl) rfl rfl ?_ | refine GO_pure rfl rfl (fun _ => Yl_nilCheck rfl rfl) rfl rfl ?_ | refine GO_pure rfl rfl (fun _ => Yl_fieldAddr0 rfl rfl rfl) rfl rfl ?_ | refine GO_pure rfl rfl (fun _ => Yl_indexAddr_arr rfl rfl rfl (by omega) (by omega)) rfl rfl ?_ | refine GO_pure rfl rfl (fun _ => Yl_remE rfl rfl rfl (by omega) (by omega)) rfl rfl ?_ | refine GO_read (fun w' => w'.cell? _ = some _) rfl rfl hS.cell (fun _ hc => Yl_load rfl rfl hc) rfl rfl ?_ | refine GO_hard rfl rfl ?_) | (refine Keep_id ?_; first | refine And.intro (by repeat (first | exact trivial | refine And.intro (.inl (by decide +kernel)) ?_ | refine And.intro (.inr (by first | assumption | exact hS.cell | exact cell_at (by assumption) | exact hS.cellI (by omega) | exact hS.cellIP (by omega) | exact hS.cellsN | exact ((hr.rd hS).cellX (by omega) hx) | exact ((hr2.rd hS).cellX (by omega) hx2) | exact hS.cellB (by omega) | exact hS.cellBA (by omega) | exact (hb.rd hS).cellB' (by omega) | exact (hb2.rd hS).cellB' (by omega) | exact (hg.rd hS).cellI (by omega) | exact (hg2.rd hS).cellI (by omega) | exact ((hr.rd hS).cellF (by first | omega | (dsimp only; omega)) hx) | exact ((hr2.rd hS).cellF (by first | omega | (dsimp only; omega)) hx2) | exact hS.cellO 0 (by omega) | exact hS.cellO 1 (by omega) | exact hS.cellIA (by omega) | exact (hg.rd hS).cellIA (by omega) | exact (hg2.rd hS).cellIA (by omega) | exact cell_at (hc.rd hS).pts | exact hb.rd hS | exact (hr.rd hS).cellsF7 (by first | omega | (dsimp only; omega)) hst4 rfl | exact (hr2.rd hS).cellsF7 (by first | omega | (dsimp only; omega)) hst4 rfl | exact hS.cellO 4 (by omega) | exact hS.cellO 5 (by omega) | exact hS.cellO 6 (by omega) | exact hS.cellO 7 (by omega) | exact hS.cellO 8 (by omega) | exact hS.cellO 9 (by omega) | exact hS.cellO 10 (by omega) | exact hS.cellO 11 (by omega) | exact hS.cellO 12 (by omega) | exact hS.cellO 13 (by omega) | exact hS.cellO 2 (by omega) | exact hS.cellO 3 (by omega))) ?_)) ?_))
    rw [ei] at hS
    refine ⟨trivial, hend _ _ e1 ?_⟩
    rw [if_neg h64]
    exact hS
  · have e1 : beginH fs H n = H := by simp [beginH, h0]
    repeat (first | (refine G_id ?_; first | refine G_nil ?_ | refine G_plain rfl rfl ?_) | (refine X_id ?_; first | refine X_yl (Yl_move rfl rfl) rfl rfl ?_ | refine X_yl (Yl_nilCheck rfl rfl) rfl rfl ?_ | refine X_yl (Yl_fieldAddr0 rfl rfl rfl) rfl rfl ?_ | refine X_yl (Yl_eql_f rfl rfl rfl (by omega)) rfl rfl ?_ | refine X_yl (Yl_load rfl rfl hS.cell) rfl rfl ?_) | (refine C_id ?_; first | refine C_seq ?_ | refine C_region ?_ | refine C_skip ?_ | refine C_cond_f rfl ?_) | (refine E_id ?_; first | refine E_code ?_))
    refine C_ord (.s 0 (.s 1 (.s 2 (.s 3 (.s 4 (.s 5 (.s 6 (.s 7 (.s 8 (.s 9 (.h 10 .nil .no))))))))))) mixed (by kernel_rfl) rfl ?_
    have hS := hS.drew
    repeat (first | (refine G_id ?_; first | refine G_nil ?_ | refine G_plain rfl rfl ?_) | (refine X_id ?_; first | refine X_yl (Yl_move rfl rfl) rfl rfl ?_ | refine X_yl (Yl_nilCheck rfl rfl) rfl rfl ?_ | refine X_yl (Yl_fieldAddr0 rfl rfl rfl) rfl rfl ?_ | refine X_yl (Yl_eql_t rfl rfl rfl (by omega)) rfl rfl ?_ | refine X_yl (Yl_add rfl rfl rfl (w64 (by omega) (by omega))) rfl rfl ?_ | refine X_yl (Yl_remE rfl rfl rfl (by omega) (by omega)) rfl rfl ?_ | refine X_yl (Yl_load rfl rfl hS.cell) rfl rfl ?_ | refine X_storeMB rfl rfl rfl rfl hS rfl (by omega) (fun _ hS => ?_) | refine X_store rfl rfl rfl rfl hS (fun _ hS _ => ?_)) | (refine C_id ?_; first | refine C_seq ?_ | refine C_region ?_ | refine C_cond_t rfl ?_) | (refine E_id ?_; first | refine E_code ?_) | (refine GO_id ?_; first | refine GO_nil ?_ | refine GO_pure rfl rfl (fun _ => Yl_move rfl rfl) rfl rfl ?_ | refine GO_pure rfl rfl (fun _ => Yl_nilCheck rfl rfl) rfl rfl ?_ | refine GO_pure rfl rfl (fun _ => Yl_fieldAddr0 rfl rfl rfl) rfl rfl ?_ | refine GO_pure rfl rfl (fun _ => Yl_indexAddr_arr rfl rfl rfl (by omega) (by omega)) rfl rfl ?_ | refine GO_pure rfl rfl (fun _ => Yl_remE rfl rfl rfl (by omega) (by omega)) rfl rfl ?_ | refine GO_read (fun w' => w'.cell? _ = some _) rfl rfl hS.cell (fun _ hc => Yl_load rfl rfl hc) rfl rfl ?_ | refine GO_hard rfl rfl ?_) | (refine Keep_id ?_; first | refine And.intro (by repeat (first | exact trivial | refine And.intro (.inl (by decide +kernel)) ?_ | refine And.intro (.inr (by first | assumption | exact hS.cell | exact cell_at (by assumption) | exact hS.cellI (by omega) | exact hS.cellIP (by omega) | exact hS.cellsN | exact ((hr.rd hS).cellX (by omega) hx) | exact ((hr2.rd hS).cellX (by omega) hx2) | exact hS.cellB (by omega) | exact hS.cellBA (by omega) | exact (hb.rd hS).cellB' (by omega) | exact (hb2.rd hS).cellB' (by omega) | exact (hg.rd hS).cellI (by omega) | exact (hg2.rd hS).cellI (by omega) | exact ((hr.rd hS).cellF (by first | omega | (dsimp only; omega)) hx) | exact ((hr2.rd hS).cellF (by first | omega | (dsimp only; omega)) hx2) | exact hS.cellO 0 (by omega) | exact hS.cellO 1 (by omega) | exact hS.cellIA (by omega) | exact (hg.rd hS).cellIA (by omega) | exact (hg2.rd hS).cellIA (by omega) | exact cell_at (hc.rd hS).pts | exact hb.rd hS | exact (hr.rd hS).cellsF7 (by first | omega | (dsimp only; omega)) hst4 rfl | exact (hr2.rd hS).cellsF7 (by first | omega | (dsimp only; omega)) hst4 rfl | exact hS.cellO 4 (by omega) | exact hS.cellO 5 (by omega) | exact hS.cellO 6 (by omega) | exact hS.cellO 7 (by omega) | exact hS.cellO 8 (by omega) | exact hS.cellO 9 (by omega) | exact hS.cellO 10 (by omega) | exact hS.cellO 11 (by omega) | exact hS.cellO 12 (by omega) | exact hS.cellO 13 (by omega) | exact hS.cellO 2 (by omega) | exact hS.cellO 3 (by omega))) ?_)) ?_))
    rw [ei] at hS
    refine C_ord (.s 0 (.s 1 (.s 2 (.s 3 (.s 4 (.s 5 (.s 6 (.h 7 .nil .no)))))))) mixed (by kernel_rfl) rfl ?_
    have hS := hS.drew
    repeat (first | (refine GO_id ?_; first | refine GO_pure rfl rfl (fun _ => Yl_move rfl rfl) rfl rfl ?_ | refine GO_pure rfl rfl (fun _ => Yl_nilCheck rfl rfl) rfl rfl ?_ | refine GO_pure rfl rfl (fun _ => Yl_fieldAddr0 rfl rfl rfl) rfl rfl ?_ | refine GO_pure rfl rfl (fun _ => Yl_slice_arr rfl rfl) rfl rfl ?_ | refine GO_hard rfl rfl ?_))
    obtain ⟨_, hc, hr, hw, hbk⟩ := hS.call [true]
    refine X_callg _ rfl rfl rfl rfl rfl (mix_ s H rd (R.set (n % 64) c) (↑n + 1) T _ _ (hc1 _ e1) (by simp [r64]) hG.round64 (hw _ hG.round) hc) ?_
    rintro _ w ⟨_, hS⟩
    replace hS := hbk hS
    clear hc hr hw hbk
    repeat (first | (refine E_id ?_; first | refine E_end0 rfl (Ret.mk ?_)) | (refine GO_id ?_; first | refine GO_nil ?_) | (refine Keep_id ?_; first | refine And.intro (by repeat (first | exact trivial | refine And.intro (.inl (by decide +kernel)) ?_ | refine And.intro (.inr (by first | assumption | exact hS.cell | exact cell_at (by assumption) | exact hS.cellI (by omega) | exact hS.cellIP (by omega) | exact hS.cellsN | exact ((hr.rd hS).cellX (by omega) hx) | exact ((hr2.rd hS).cellX (by omega) hx2) | exact hS.cellB (by omega) | exact hS.cellBA (by omega) | exact (hb.rd hS).cellB' (by omega) | exact (hb2.rd hS).cellB' (by omega) | exact (hg.rd hS).cellI (by omega) | exact (hg2.rd hS).cellI (by omega) | exact ((hr.rd hS).cellF (by first | omega | (dsimp only; omega)) hx) | exact ((hr2.rd hS).cellF (by first | omega | (dsimp only; omega)) hx2) | exact hS.cellO 0 (by omega) | exact hS.cellO 1 (by omega) | exact hS.cellIA (by omega) | exact (hg.rd hS).cellIA (by omega) | exact (hg2.rd hS).cellIA (by omega) | exact cell_at (hc.rd hS).pts | exact hb.rd hS | exact (hr.rd hS).cellsF7 (by first | omega | (dsimp only; omega)) hst4 rfl | exact (hr2.rd hS).cellsF7 (by first | omega | (dsimp only; omega)) hst4 rfl | exact hS.cellO 4 (by omega) | exact hS.cellO 5 (by omega) | exact hS.cellO 6 (by omega) | exact hS.cellO 7 (by omega) | exact hS.cellO 8 (by omega) | exact hS.cellO 9 (by omega) | exact hS.cellO 10 (by omega) | exact hS.cellO 11 (by omega) | exact hS.cellO 12 (by omega) | exact hS.cellO 13 (by omega) | exact hS.cellO 2 (by omega) | exact hS.cellO 3 (by omega))) ?_)) ?_))
    refine ⟨trivial, hend _ _ e1 ?_⟩
    rw [if_pos h64]
    exact hS
  · have e1 : beginH fs H n = H := by simp [beginH, h0]
    repeat (first | (refine G_id ?_; first | refine G_nil ?_ | refine G_plain rfl rfl ?_) | (refine X_id ?_; first | refine X_yl (Yl_move rfl rfl) rfl rfl ?_ | refine X_yl (Yl_nilCheck rfl rfl) rfl rfl ?_ | refine X_yl (Yl_fieldAddr0 rfl rfl rfl) rfl rfl ?_ | refine X_yl (Yl_eql_f rfl rfl rfl (by omega)) rfl rfl ?_ | refine X_yl (Yl_load rfl rfl hS.cell) rfl rfl ?_) | (refine C_id ?_; first | refine C_seq ?_ | refine C_region ?_ | refine C_skip ?_ | refine C_cond_f rfl ?_) | (refine E_id ?_; first | refine E_code ?_))
    refine C_ord (.s 0 (.s 1 (.s 2 (.s 3 (.s 4 (.s 5 (.s 6 (.s 7 (.s 8 (.s 9 (.h 10 .nil .no))))))))))) mixed (by kernel_rfl) rfl ?_
    have hS := hS.drew
    repeat (first | (refine G_id ?_; first | refine G_nil ?_ | refine G_plain rfl rfl ?_) | (refine X_id ?_; first | refine X_yl (Yl_move rfl rfl) rfl rfl ?_ | refine X_yl (Yl_nilCheck rfl rfl) rfl rfl ?_ | refine X_yl (Yl_fieldAddr0 rfl rfl rfl) rfl rfl ?_ | refine X_yl (Yl_eql_f rfl rfl rfl (by omega)) rfl rfl ?_ | refine X_yl (Yl_add rfl rfl rfl (w64 (by omega) (by omega))) rfl rfl ?_ | refine X_yl (Yl_remE rfl rfl rfl (by omega) (by omega)) rfl rfl ?_ | refine X_yl (Yl_load rfl rfl hS.cell) rfl rfl ?_ | refine X_storeMB rfl rfl rfl rfl hS rfl (by omega) (fun _ hS => ?_) | refine X_store rfl rfl rfl rfl hS (fun _ hS _ => ?_)) | (refine C_id ?_; first | refine C_seq ?_ | refine C_region ?_ | refine C_skip ?_ | refine C_cond_f rfl ?_) | (refine E_id ?_; first | refine E_code ?_ | refine E_end0 rfl (Ret.mk ?_)) | (refine GO_id ?_; first | refine GO_nil ?_ | refine GO_pure rfl rfl (fun _ => Yl_move rfl rfl) rfl rfl ?_ | refine GO_pure rfl rfl (fun _ => Yl_nilCheck rfl rfl) rfl rfl ?_ | refine GO_pure rfl rfl (fun _ => Yl_fieldAddr0 rfl rfl rfl) rfl rfl ?_ | refine GO_pure rfl rfl (fun _ => Yl_indexAddr_arr rfl rfl rfl (by omega) (by omega)) rfl rfl ?_ | refine GO_pure rfl rfl (fun _ => Yl_remE rfl rfl rfl (by omega) (by omega)) rfl rfl ?_ | refine GO_read (fun w' => w'.cell? _ = some _) rfl rfl hS.cell (fun _ hc => Yl_load rfl rfl hc) rfl rfl ?_ | refine GO_hard rfl rfl ?_) | (refine Keep_id ?_; first | refine And.intro (by repeat (first | exact trivial | refine And.intro (.inl (by decide +kernel)) ?_ | refine And.intro (.inr (by first | assumption | exact hS.cell | exact cell_at (by assumption) | exact hS.cellI (by omega) | exact hS.cellIP (by omega) | exact hS.cellsN | exact ((hr.rd hS).cellX (by omega) hx) | exact ((hr2.rd hS).cellX (by omega) hx2) | exact hS.cellB (by omega) | exact hS.cellBA (by omega) | exact (hb.rd hS).cellB' (by omega) | exact (hb2.rd hS).cellB' (by omega) | exact (hg.rd hS).cellI (by omega) | exact (hg2.rd hS).cellI (by omega) | exact ((hr.rd hS).cellF (by first | omega | (dsimp only; omega)) hx) | exact ((hr2.rd hS).cellF (by first | omega | (dsimp only; omega)) hx2) | exact hS.cellO 0 (by omega) | exact hS.cellO 1 (by omega) | exact hS.cellIA (by omega) | exact (hg.rd hS).cellIA (by omega) | exact (hg2.rd hS).cellIA (by omega) | exact cell_at (hc.rd hS).pts | exact hb.rd hS | exact (hr.rd hS).cellsF7 (by first | omega | (dsimp only; omega)) hst4 rfl | exact (hr2.rd hS).cellsF7 (by first | omega | (dsimp only; omega)) hst4 rfl | exact hS.cellO 4 (by omega) | exact hS.cellO 5 (by omega) | exact hS.cellO 6 (by omega) | exact hS.cellO 7 (by omega) | exact hS.cellO 8 (by omega) | exact hS.cellO 9 (by omega) | exact hS.cellO 10 (by omega) | exact hS.cellO 11 (by omega) | exact hS.cellO 12 (by omega) | exact hS.cellO 13 (by omega) | exact hS.cellO 2 (by omega) | exact hS.cellO 3 (by omega))) ?_)) ?_))
    rw [ei] at hS
    refine ⟨trivial, hend _ _ e1 ?_⟩
    rw [if_neg h64]
    exact hS
end Cr
namespace Cr
open Go Go.Proofs
set_option maxRecDepth 100000
set_option maxHeartbeats 4000000
attribute [local irreducible] Calls

/-- A slice of slices of bytes, as data: where each lies, its room, its bytes. -/
structure Bs where
  a : Option Addr
  c : Nat
  s : List UInt8
def Bs.val (x : Bs) : Value := .slice x.a x.s.length x.c
/-- They can be read all the time. -/
structure Bss (W : World) (F : Nat → Prop) (a : Option Addr) (l : List Bs) : Prop where
  row : Ro W F (row a (l.map Bs.val))
  all : ∀ x ∈ l, Ro W F (bytes x.a x.s)
theorem Bss.mono {W w : World} {F F' : Nat → Prop} {a : Option Addr} {l : List Bs} (h : Bss W F a l) (hw : ∀ r, Ro W F r → Ro w F' r) : Bss w F' a l := ⟨hw _ h.row, fun x hx => hw _ (h.all x hx)⟩
def StrM.more (rd fs : List Int) (S : StrM) (l : List UInt8) : StrM := l.foldl (StrM.one rd fs) S
theorem StrM.more_ok {rd fs : List Int} (hf : fs.length = 8) : ∀ {l : List UInt8} {S : StrM}, S.ok → (S.more rd fs l).ok
  | [], _, h => h
  | c :: l, S, h => by
    show (StrM.more rd fs (S.one rd fs c) l).ok
    exact StrM.more_ok (rd := rd) hf (StrM.one_ok (rd := rd) h hf)
theorem StrM.more_n {rd fs : List Int} : ∀ {l : List UInt8} {S : StrM}, (S.more rd fs l).n = S.n + l.length
  | [], _ => rfl
  | c :: l, S => by
    have := StrM.more_n (rd := rd) (fs := fs) (l := l) (S := S.one rd fs c)
    simp only [StrM.more, List.foldl_cons, List.length_cons] at this ⊢
    rw [this]; simp only [StrM.one]; omega
theorem StrM.more_append {rd fs : List Int} {S : StrM} {l m : List UInt8} : S.more rd fs (l ++ m) = (S.more rd fs l).more rd fs m := by simp [StrM.more]
theorem StrM.more_snoc {rd fs : List Int} {S : StrM} {l : List UInt8} {i : Nat} (h : i < l.length) : S.more rd fs (l.take (i + 1)) = (S.more rd fs (l.take i)).one rd fs (l.getD i 0) := by
  rw [List.take_succ_eq_append_getElem h, StrM.more_append]
  simp [StrM.more, List.getD_eq_getElem?_getD, h]
def joined (l : List Bs) : List UInt8 := l.flatMap Bs.s
theorem joined_snoc {l : List Bs} {i : Nat} {x : Bs} (h : l[i]? = some x) : joined (l.take (i + 1)) = joined (l.take i) ++ x.s := by
  obtain ⟨hi, rfl⟩ := List.getElem?_eq_some_iff.1 h
  rw [List.take_succ_eq_append_getElem hi]
  simp only [joined, List.flatMap_append, List.flatMap_cons, List.flatMap_nil, List.append_nil]
theorem joined_take_le (l : List Bs) (i : Nat) : (joined (l.take i)).length ≤ (joined l).length := by
  have : joined l = joined (l.take i) ++ joined (l.drop i) := by unfold joined; rw [← List.flatMap_append, List.take_append_drop]
  rw [this]; simp

theorem write_nil (x : Value) (W : World) : Calls Tryz.prog 94 #[.pointer none, x] W (Ret fun v w => v = .pointer none ∧ W = w) := by
  refine calls_C Tryz.func94 rfl Tryz.ntmps94 rfl ?_
  repeat (first | (refine G_id ?_; first | refine G_nil ?_ | refine G_plain rfl rfl ?_) | (refine X_id ?_; first | refine X_yl (Yl_move rfl rfl) rfl rfl ?_ | refine X_yl (Yl_assign rfl rfl) rfl rfl ?_ | refine X_yl (Yl_eqlNil_none rfl rfl rfl) rfl rfl ?_) | (refine C_id ?_; first | refine C_seq ?_ | refine C_region ?_ | refine C_ret ?_ | refine C_cond_t rfl ?_) | (refine E_id ?_; first | refine E_code ?_ | refine E_then_ret ?_ | refine E_ret1 rfl (Rv_tmp rfl) (Ret.mk ?_)))
  exact ⟨rfl, rfl⟩
theorem dwrite_ (s : Nat) (S : StrM) (a : Option Addr) (c : Nat) (l : List Bs) (rd fs : List Int) (T : TypeId) (W : World) (F : Nat → Prop) (hok : S.ok) (hn : S.n + (joined l).length < 2305843009213693951) (hl : l.length < 2305843009213693951) (hG : Gl W F rd fs)
    (hB : Bss W F a l) (hS : St W F [pts s (.cells S.cells.toArray T)] W) :
    Calls Tryz.prog 94 #[.pointer (some ⟨s, 0, none⟩), .slice a l.length c] W (Ret fun v w => v = .pointer (some ⟨s, 0, none⟩) ∧ St W F [pts s (.cells (S.more rd fs (joined l)).cells.toArray T)] w) := by
  refine calls_C Tryz.func94 rfl Tryz.ntmps94 rfl ?_
  repeat (first | (refine G_id ?_; first | refine G_nil ?_ | refine G_plain rfl rfl ?_) | (refine X_id ?_; first | refine X_yl (Yl_move rfl rfl) rfl rfl ?_ | refine X_yl (Yl_assign rfl rfl) rfl rfl ?_ | refine X_yl (Yl_len rfl rfl) rfl rfl ?_ | refine X_yl (Yl_eqlNil_some rfl rfl rfl) rfl rfl ?_) | (refine C_id ?_; first | refine C_seq ?_ | refine C_region ?_ | refine C_block ?_ | refine C_skip ?_ | refine C_cond_f rfl ?_) | (refine E_id ?_; first | refine E_code ?_))
  refine C_loop (α := Nat) (fun i => [(0, .pointer (some ⟨s, 0, none⟩)), (11, .slice a l.length c), (12, .int .i64 (l.length : Nat)), (13, .int .i64 (i : Nat))])
    (fun i w => i ≤ l.length ∧ St W F [pts s (.cells (S.more rd fs (joined (l.take i))).cells.toArray T)] w) (fun i => l.length - i) 0 ⟨rfl, rfl, rfl, rfl, trivial⟩ ⟨Nat.zero_le _, hS⟩ ?_
  clear hS
  rintro i w ⟨hi, hS⟩
  by_cases hlt : i < l.length
  · have hx : l[i]? = some l[i] := List.getElem?_eq_getElem hlt
    generalize l[i] = x at hx
    have hxm := List.mem_of_getElem? hx
    have hbx := hB.all x hxm
    have hj := joined_snoc hx
    have hle := joined_take_le l (i + 1)
    rw [hj, List.length_append] at hle
    obtain ⟨ab, ao, rfl⟩ := (hB.row.rd hS).base (by intro e; simp at e; subst e; simp at hlt)
    have hr := hB.row
    replace hx : (l.map Bs.val)[i]? = some (.slice x.a x.s.length x.c) := by simp [hx, Bs.val]
    repeat (first | (refine G_id ?_; first | refine G_nil ?_ | refine G_plain rfl rfl ?_) | (refine X_id ?_; first | refine X_yl (Yl_move rfl rfl) rfl rfl ?_ | refine X_yl (Yl_assign rfl rfl) rfl rfl ?_ | refine X_yl (Yl_len rfl rfl) rfl rfl ?_ | refine X_yl (Yl_lss_t rfl rfl rfl (by omega)) rfl rfl ?_ | refine X_yl (Yl_indexAddr rfl rfl rfl (by omega) (by omega) (by first | assumption | exact ⟨_, _, rfl⟩)) rfl rfl ?_ | refine X_yl (Yl_load rfl rfl ((hr.rd hS).cellX (by omega) hx)) rfl rfl ?_) | (refine C_id ?_; first | refine C_seq ?_ | refine C_region ?_ | refine C_block ?_ | refine C_skip ?_ | refine C_cond_t rfl ?_) | (refine E_id ?_; first | refine E_code ?_))
    refine C_loop (α := Nat) (fun j => [(0, .pointer (some ⟨s, 0, none⟩)), (11, .slice (some ⟨ab, ao, none⟩) l.length c), (12, .int .i64 (l.length : Nat)), (13, .int .i64 (i : Nat)), (17, .slice x.a x.s.length x.c), (18, .int .i64 (x.s.length : Nat)), (19, .int .i64 (j : Nat))])
      (fun j w => j ≤ x.s.length ∧ St W F [pts s (.cells (S.more rd fs (joined (l.take i) ++ x.s.take j)).cells.toArray T)] w) (fun j => x.s.length - j) 0 ⟨rfl, rfl, rfl, rfl, rfl, rfl, rfl, trivial⟩ ⟨Nat.zero_le _, by simpa using hS⟩ ?_
    clear hS
    rintro j w ⟨hj', hS⟩
    by_cases hjl : j < x.s.length
    · obtain ⟨xb, xo, hxa⟩ := (hbx.rd hS).base (by intro e; have := bv_length x.s; rw [e] at this; simp at this; omega)
      have hb : Ro W F (bytes (some ⟨xb, xo, none⟩) x.s) := hxa ▸ hbx
      rw [hxa]
      repeat (first | (refine G_id ?_; first | refine G_nil ?_ | refine G_plain rfl rfl ?_) | (refine X_id ?_; first | refine X_yl (Yl_move rfl rfl) rfl rfl ?_ | refine X_yl (Yl_assign rfl rfl) rfl rfl ?_ | refine X_yl (Yl_lss_t rfl rfl rfl (by omega)) rfl rfl ?_ | refine X_yl (Yl_indexAddr rfl rfl rfl (by omega) (by omega) (by first | assumption | exact ⟨_, _, rfl⟩)) rfl rfl ?_ | refine X_yl (Yl_load rfl rfl ((hb.rd hS).cellB' (by omega))) rfl rfl ?_) | (refine C_id ?_; first | refine C_seq ?_ | refine C_region ?_ | refine C_block ?_ | refine C_skip ?_ | refine C_cond_t rfl ?_) | (refine E_id ?_; first | refine E_code ?_))
      obtain ⟨S', hSe⟩ : ∃ S', S' = S.more rd fs (joined (l.take i) ++ x.s.take j) := ⟨_, rfl⟩
      have hok' : S'.ok := hSe ▸ StrM.more_ok hG.first8 hok
      have hn' : S'.n < 2305843009213693951 := by rw [hSe, StrM.more_n]; simp; omega
      rw [← hSe] at hS
      obtain ⟨_, hc, hr, hw, hbk⟩ := hS.call [true]
      refine X_callg _ rfl rfl rfl rfl rfl (one_ s S' _ rd fs T _ _ hok' hn' (hG.mono hw) hc) ?_
      rintro _ w ⟨_, hS⟩
      replace hS := hbk hS
      clear hc hr hw hbk
      repeat (first | (refine G_id ?_; first | refine G_nil ?_ | refine G_plain rfl rfl ?_) | (refine X_id ?_; first | refine X_yl (Yl_move rfl rfl) rfl rfl ?_ | refine X_yl (Yl_add rfl rfl rfl (w64 (by omega) (by omega))) rfl rfl ?_) | (refine C_id ?_; first | refine C_region ?_) | (refine E_id ?_; first | refine E_code ?_ | refine E_blk_n ?_))
      refine E_round (j + 1) ⟨rfl, rfl, rfl, rfl, rfl, rfl, rfl, trivial⟩ ⟨by omega, ?_⟩ (by omega)
      rw [StrM.more_append, StrM.more_snoc hjl, ← StrM.more_append, ← hSe]
      rw [show (j : Int).toNat * 1 = j by omega] at hS
      exact hS
    · obtain rfl : j = x.s.length := by omega
      repeat (first | (refine G_id ?_; first | refine G_nil ?_ | refine G_plain rfl rfl ?_) | (refine X_id ?_; first | refine X_yl (Yl_move rfl rfl) rfl rfl ?_ | refine X_yl (Yl_lss_f rfl rfl rfl (by omega)) rfl rfl ?_ | refine X_yl (Yl_add rfl rfl rfl (w64 (by omega) (by omega))) rfl rfl ?_) | (refine C_id ?_; first | refine C_seq ?_ | refine C_region ?_ | refine C_exit ?_ | refine C_cond_f rfl ?_) | (refine E_id ?_; first | refine E_code ?_ | refine E_then_exit ?_ | refine E_blk_same ?_ | refine E_blk_n ?_))
      refine E_round (i + 1) ⟨rfl, rfl, rfl, rfl, trivial⟩ ⟨by omega, ?_⟩ (by omega)
      rw [hj]
      rw [List.take_length] at hS
      exact hS
  · obtain rfl : i = l.length := by omega
    rw [List.take_length] at hS
    repeat (first | (refine G_id ?_; first | refine G_nil ?_ | refine G_plain rfl rfl ?_) | (refine X_id ?_; first | refine X_yl (Yl_move rfl rfl) rfl rfl ?_ | refine X_yl (Yl_assign rfl rfl) rfl rfl ?_ | refine X_yl (Yl_lss_f rfl rfl rfl (by omega)) rfl rfl ?_) | (refine C_id ?_; first | refine C_seq ?_ | refine C_region ?_ | refine C_ret ?_ | refine C_exit ?_ | refine C_cond_f rfl ?_) | (refine E_id ?_; first | refine E_code ?_ | refine E_then_exit ?_ | refine E_blk_same ?_ | refine E_ret1 rfl (Rv_tmp rfl) (Ret.mk ?_)))
    exact ⟨rfl, hS⟩

/-! ### Fork -/
def StrM.init : StrM := ⟨List.replicate 8 0, List.replicate 64 0, 0⟩
theorem StrM.init_ok : StrM.init.ok := ⟨by simp [init], by simp [init]⟩
theorem fork_ (s : Nat) (S : StrM) (T : TypeId) (W : World) (hok : S.ok) (hs : Rd W (pts s (.cells S.cells.toArray T))) :
    Calls Tryz.prog 112 #[.pointer (some ⟨s, 0, none⟩)] W (Ret fun v w => ∃ p, v = .pointer (some ⟨p, 0, none⟩) ∧ St W noF [pts p (.cells S.cells.toArray 175)] w) := by
  obtain ⟨H, R, n⟩ := S
  obtain ⟨h8, r64⟩ := hok
  unfold StrM.cells at hs ⊢
  simp only at h8 r64 hs ⊢
  have hl1 : LenO (ints .u32 H) 8 := ⟨by rw [ints_length]; exact h8⟩
  have hl2 : LenO (bv R) 64 := ⟨by simp [r64]⟩
  have hc := hs.ro
  have hS := St.start W
  refine calls_C Tryz.func112 rfl Tryz.ntmps112 rfl ?_
  repeat (first | (refine G_id ?_; first | refine G_nil ?_ | refine G_plain rfl rfl ?_) | (refine X_id ?_; first | refine X_yl (Yl_move rfl rfl) rfl rfl ?_ | refine X_yl (Yl_assign rfl rfl) rfl rfl ?_ | refine X_yl (Yl_nilCheck rfl rfl) rfl rfl ?_ | refine X_yl (Yl_build rfl rfl rfl) rfl rfl ?_ | refine X_yl (Yl_neqNil_some rfl rfl rfl) rfl rfl ?_ | refine X_box rfl rfl rfl rfl hS (fun _ _ hS _ => ?_)) | (refine C_id ?_; first | refine C_seq ?_ | refine C_region ?_ | refine C_cond_t rfl ?_) | (refine E_id ?_; first | refine E_code ?_))
  rename_i bx wx _
  replace hS : St W noF [pts bx (.cells (ints .u32 (List.replicate 8 0) ++ (bv (List.replicate 64 0) ++ [Value.int .i64 0])).toArray 175)] wx := hS
  have hl3 : LenO (ints .u32 (List.replicate 8 0)) 8 := ⟨by rw [ints_length]; simp⟩
  refine X_yl (Yl_loadAgg rfl rfl (CellsAt.of_block (hc.rd hS).pts) (by simp [ints_length, h8, r64])) rfl rfl ?_
  repeat (first | (refine G_id ?_; first | refine G_nil ?_ | refine G_plain rfl rfl ?_) | (refine X_id ?_; first | refine X_yl (Yl_move rfl rfl) rfl rfl ?_ | refine X_yl (Yl_assign rfl rfl) rfl rfl ?_ | refine X_yl (Yl_nilCheck rfl rfl) rfl rfl ?_ | refine X_storeAll rfl rfl rfl rfl hS (fun _ hS => ?_)) | (refine C_id ?_; first | refine C_seq ?_ | refine C_region ?_ | refine C_ret ?_) | (refine E_id ?_; first | refine E_code ?_ | refine E_ret1 rfl (Rv_tmp rfl) (Ret.mk ?_)))
  exact ⟨_, rfl, hS⟩
end Cr
namespace Cr
open Go
set_option maxRecDepth 10000
section
variable {P : Program} {o : Oper} {σ : Env} {w : World} {x y : Operand} {t ty e : TypeId} {N : Nat} {ds : Md} {K : Env → World → Prop}
theorem X_makeB {T bytes d c : Nat} {k k' : IntKind} {W : World} {F : Nat → Prop} {rs : List Res} (ho : o.op = .makeSlice t x y) (hx : ev σ x = some (.int k (c : Nat))) (hy : ev σ y = some (.int k' (c : Nat)))
    [h : Und P t (.slice T)] [hi : Inf P T (.int .u8 0) 1 bytes] (hb : bytes * c ≤ 281474976710656) (hm : c ≤ 9223372036854775807) (hd : o.dst = some d) (hN : Nat.blt d N = true) (hS : St W F rs w)
    (hk : ∀ b w', St W F (pts b (.cells (bv (List.replicate c 0)).toArray T) :: rs) w' → K ((d, .slice (some ⟨b, 0, none⟩) c c) :: σ) w') : X P o N ds σ w K :=
  X_make ho hx hy (by omega) (Int.le_refl _) (by rw [← Int.natCast_mul]; omega) (by omega) hd hN hS fun b w' hS' _ => hk b w' (by
    have e1 : (Value.int .u8 0).cells = #[Value.int .u8 0] := rfl
    rw [e1, madeCells_one, Int.toNat_natCast, Nat.mul_one, bv_rep] at hS'
    exact hS')
theorem X_storeBA {N : Nat} {ds : Md} {K : Env → World → Prop} {b off j : Nat} {c : UInt8} {L : List UInt8} {T : TypeId} {W : World} {F : Nat → Prop} {rs rs' : List Res} (ho : o.op = .store t x y) (hx : ev σ x = some (.pointer (some (adr (some ⟨b, off, none⟩) j)))) (hy : ev σ y = some (.int .u8 (c.toNat : Int))) [hs : Siz P t 1]
    (hd : o.dst = none) (hS : St W F rs w) [hh : Has rs b (.cells (bv L).toArray T (0, 0))] (hfit : off + j < L.length) [hu : Upd rs b (.cells (bv (L.set (off + j) c)).toArray T (0, 0)) rs']
    (h : ∀ w', St W F rs' w' → K σ w') : X P o N ds σ w K := X_storeB (off := off + j) ho hx hy hd hS hfit h
theorem St.cellBA {W : World} {F : Nat → Prop} {rs : List Res} {b off j : Nat} {L : List UInt8} {T : TypeId} (hS : St W F rs w) [hh : Has rs b (.cells (bv L).toArray T (0, 0))] (h : off + j < L.length) : w.cell? (adr (some ⟨b, off, none⟩) j) = some (.int .u8 ((L.getD (off + j) 0).toNat : Int)) := hS.cellB h
end
/-- Slices of bytes of the run's own, each apart. -/
def rds (l : List Bs) : Res := Sep (l.map fun x => bytes x.a x.s)
theorem St.rdsNil {W : World} {F : Nat → Prop} {rs : List Res} {w : World} (hS : St W F rs w) : St W F (rds [] :: rs) w := by
  obtain ⟨h, hs, s⟩ := hS
  exact ⟨h, ⟨fun _ => none, h, fun _ => rfl, hs, fun _ => .inl rfl, fun _ => by simp⟩, s⟩
theorem St.rdsCons {W : World} {F : Nat → Prop} {rs : List Res} {w : World} {x : Bs} {l : List Bs} (hS : St W F (bytes x.a x.s :: rds l :: rs) w) : St W F (rds (l ++ [x]) :: rs) w := by
  obtain ⟨h, hs, s⟩ := hS
  refine ⟨h, ?_, s⟩
  obtain ⟨h1, h2, a, ⟨h3, h4, b, c, d', u'⟩, d, u⟩ := hs
  refine ⟨fun k => (h1 k).or (h3 k), h4, ?_, c, fun k => ?_, fun k => ?_⟩
  · have : Sep (bytes x.a x.s :: (l.map fun x => bytes x.a x.s)) (fun k => (h1 k).or (h3 k)) := ⟨h1, h3, a, b, fun k => by
      rcases d k with e | e
      · exact .inl e
      · rw [u'] at e; simp at e; exact .inr e.1, fun _ => rfl⟩
    have p : (bytes x.a x.s :: (l.map fun x => bytes x.a x.s)).Perm ((l ++ [x]).map fun x => bytes x.a x.s) := by
      rw [List.map_append]; exact (List.perm_append_comm (l₁ := [bytes x.a x.s]) (l₂ := l.map fun x => bytes x.a x.s))
    exact Sep.perm p _ this
  · rcases d k with e | e
    · rcases d' k with e' | e'
      · left; simp [e, e']
      · exact .inr e'
    · rw [u'] at e; simp at e; exact .inr e.2
  · rw [u, u']; cases e1 : h1 k <;> simp [e1]
theorem Ro.sep {W : World} {F : Nat → Prop} {rs : List Res} (H : Ro W F (Sep rs)) : ∀ r ∈ rs, Ro W F r := by
  obtain ⟨f, hs, ha⟩ := H
  induction rs generalizing f with
  | nil => intro r hr; cases hr
  | cons x rs ih =>
    obtain ⟨h1, h2, hx, hrs, hd, hu⟩ := hs
    have s1 : ∀ b o, h1 b = some o → f b = some o := fun b o e => by rw [hu, e]; rfl
    have s2 : ∀ b o, h2 b = some o → f b = some o := fun b o e => by
      rw [hu]; rcases hd b with e' | e'
      · simp [e', e]
      · rw [e] at e'; simp at e'
    intro r hr
    cases hr with
    | head => exact ⟨h1, hx, fun b o e => ha b o (s1 b o e)⟩
    | tail _ hr => exact ih h2 hrs (fun b o e => ha b o (s2 b o e)) r hr
theorem Ro.rds {W : World} {F : Nat → Prop} {l : List Bs} (H : Ro W F (rds l)) : ∀ x ∈ l, Ro W F (bytes x.a x.s) := fun x hx => Ro.sep H _ (List.mem_map.2 ⟨x, hx, rfl⟩)
end Cr
namespace Cr
open Go Go.Proofs
set_option maxRecDepth 100000
set_option maxHeartbeats 4000000
attribute [local irreducible] Calls

theorem St.total {W : World} {F : Nat → Prop} {rs : List Res} {w : World} {b : Nat} {S : StrM} {T : TypeId} (hS : St W F rs w) [hh : Has rs b (.cells S.cells.toArray T (0, 0))] (hok : S.ok) : w.cell? ⟨b, 72, none⟩ = some (.int .i64 (S.n : Nat)) := by
  rw [cell_of_row w b 72 _ T (0, 0) hS.has]
  have h1 : (ints .u32 S.H).length = 8 := by rw [ints_length]; exact hok.h8
  have h2 : (bv S.R).length = 64 := by rw [bv_length]; exact hok.r64
  simp only [StrM.cells, List.getElem?_toArray]
  rw [List.getElem?_append_right (by omega), List.getElem?_append_right (by omega), h1, h2]
  rfl
def lenAt (n : Nat) (i : Nat) : UInt8 := b8 (ishr .u64 (IntKind.u64.wrap (IntKind.u64.wrap n * 8)) (8 * (7 - i)))
def lenB (n : Nat) : Nat → List UInt8
  | 0 => []
  | i + 1 => lenB n i ++ [lenAt n i]
/-- How many zeros are laid behind n bytes and the mark. -/
def gap (n : Nat) : Nat := (119 - n % 64) % 64
def padB (n : Nat) : List UInt8 := 128 :: List.replicate (gap n) 0 ++ lenB n 8
def StrM.sum (rd fs : List Int) (S : StrM) : List UInt8 := outB (S.more rd fs (padB S.n)).H
theorem StrM.more_one {rd fs : List Int} {S : StrM} {l : List UInt8} {c : UInt8} : (S.more rd fs l).one rd fs c = S.more rd fs (l ++ [c]) := by simp [StrM.more]
theorem sum_ (s : Nat) (S : StrM) (rd fs : List Int) (T : TypeId) (W : World) (hok : S.ok) (hn : S.n < 1152921504606846976) (hG : Gl W noF rd fs) (hs : Rd W (pts s (.cells S.cells.toArray T))) :
    Calls Tryz.prog 95 #[.pointer (some ⟨s, 0, none⟩)] W (Ret fun v w => v = .agg (bv (S.sum rd fs)).toArray ∧ St W noF [] w) := by
  have hS := St.start W
  have hso := hs.ro
  have hf := hG.first8
  have key : ∀ l : List UInt8, l.length ≤ 100 → (S.more rd fs l).n < 2305843009213693951 := fun l hl => by rw [StrM.more_n]; omega
  refine calls_C Tryz.func95 rfl Tryz.ntmps95 rfl ?_
  repeat (first | (refine G_id ?_; first | refine G_nil ?_ | refine G_plain rfl rfl ?_) | (refine X_id ?_; first | refine X_yl (Yl_move rfl rfl) rfl rfl ?_ | refine X_alloc rfl rfl rfl hS (fun _ _ hS _ => ?_)) | (refine C_id ?_; first | refine C_seq ?_ | refine C_region ?_) | (refine E_id ?_; first | refine E_code ?_))
  rename_i b2 _ _
  rw [bv_rep] at hS
  refine X_callg _ rfl rfl rfl rfl rfl (fork_ s S T _ hok (hso.rd hS)) ?_
  rintro _ w ⟨p, rfl, hS'⟩
  replace hS := hS.plus hS'
  clear hS'
  repeat (first | (refine G_id ?_; first | refine G_nil ?_ | refine G_plain rfl rfl ?_) | (refine X_id ?_; first | refine X_yl (Yl_move rfl rfl) rfl rfl ?_ | refine X_yl (Yl_assign rfl rfl) rfl rfl ?_ | refine X_yl (Yl_nilCheck rfl rfl) rfl rfl ?_ | refine X_yl (Yl_fieldAddr0 rfl rfl rfl) rfl rfl ?_) | (refine C_id ?_; first | refine C_seq ?_ | refine C_region ?_) | (refine E_id ?_; first | refine E_code ?_))
  refine X_yl (Yl_load rfl rfl (hS.total hok)) rfl rfl ?_
  repeat (first | (refine G_id ?_; first | refine G_nil ?_ | refine G_plain rfl rfl ?_) | (refine X_id ?_; first | refine X_yl (Yl_move rfl rfl) rfl rfl ?_ | refine X_yl (Yl_assign rfl rfl) rfl rfl ?_) | (refine C_id ?_; first | refine C_seq ?_ | refine C_region ?_) | (refine E_id ?_; first | refine E_code ?_))
  obtain ⟨_, hc, hr, hw, hbk⟩ := hS.call [true, false]
  refine X_callg _ rfl rfl rfl rfl rfl (one_ p S 128 rd fs _ _ _ hok (by omega) (hG.mono hw) hc) ?_
  rintro _ w ⟨_, hS⟩
  replace hS := hbk hS
  clear hc hr hw hbk
  repeat (first | (refine G_id ?_; first | refine G_nil ?_) | (refine C_id ?_; first | refine C_seq ?_ | refine C_block ?_) | (refine E_id ?_; first | refine E_code ?_))
  refine C_loop (α := Nat) (fun k => [(2, .pointer (some ⟨b2, 0, none⟩)), (3, .pointer (some ⟨p, 0, none⟩)), (4, .int .i64 (S.n : Nat))])
    (fun k w => k ≤ gap S.n ∧ St W noF [pts p (.cells (S.more rd fs (128 :: List.replicate k 0)).cells.toArray 175), pts b2 (.cells (bv (List.replicate 32 0)).toArray 137)] w) (fun k => gap S.n - k) 0 ⟨rfl, rfl, rfl, trivial⟩ ⟨Nat.zero_le _, hS⟩ ?_
  clear hS
  rintro k w ⟨hk, hS⟩
  have hg64 : gap S.n < 64 := by unfold gap; omega
  obtain ⟨S', hSe⟩ : ∃ S', S' = S.more rd fs (128 :: List.replicate k 0) := ⟨_, rfl⟩
  have hok' : S'.ok := hSe ▸ StrM.more_ok hf hok
  have hn' : S'.n = S.n + 1 + k := by rw [hSe, StrM.more_n]; simp; omega
  rw [← hSe] at hS
  by_cases hkk : k < gap S.n
  · have h56 : ((S'.n : Int) % 64 = 56) = False := by
      have : ¬ (S'.n : Int) % 64 = 56 := by unfold gap at hkk; omega
      simp [this]
    have h56' : ¬ (S'.n : Int) % 64 = 56 := by rw [h56]; exact id
    clear h56
    repeat (first | (refine G_id ?_; first | refine G_plain rfl rfl ?_) | (refine X_id ?_; first | refine X_yl (Yl_move rfl rfl) rfl rfl ?_ | refine X_yl (Yl_nilCheck rfl rfl) rfl rfl ?_ | refine X_yl (Yl_fieldAddr0 rfl rfl rfl) rfl rfl ?_) | (refine C_id ?_; first | refine C_seq ?_ | refine C_region ?_))
    refine X_yl (Yl_load rfl rfl (hS.total hok')) rfl rfl ?_
    repeat (first | (refine G_id ?_; first | refine G_nil ?_ | refine G_plain rfl rfl ?_) | (refine X_id ?_; first | refine X_yl (Yl_move rfl rfl) rfl rfl ?_ | refine X_yl (Yl_neq_t rfl rfl rfl (by omega)) rfl rfl ?_ | refine X_yl (Yl_remE rfl rfl rfl (by omega) (by omega)) rfl rfl ?_) | (refine C_id ?_; first | refine C_region ?_ | refine C_block ?_ | refine C_skip ?_ | refine C_cond_t rfl ?_) | (refine E_id ?_; first | refine E_code ?_))
    obtain ⟨_, hc, hr, hw, hbk⟩ := hS.call [true, false]
    refine X_callg _ rfl rfl rfl rfl rfl (one_ p S' 0 rd fs _ _ _ hok' (by omega) (hG.mono hw) hc) ?_
    rintro _ w ⟨_, hS⟩
    replace hS := hbk hS
    clear hc hr hw hbk
    repeat (first | (refine G_id ?_; first | refine G_nil ?_) | (refine E_id ?_; first | refine E_blk_n ?_))
    refine E_round (k + 1) ⟨rfl, rfl, rfl, trivial⟩ ⟨by omega, ?_⟩ (by omega)
    rw [hSe, StrM.more_one] at hS
    rw [show (128 :: List.replicate (k + 1) 0 : List UInt8) = 128 :: List.replicate k 0 ++ [0] by simp [List.replicate_succ']]
    exact hS
  · obtain rfl : k = gap S.n := by omega
    have h56 : (S'.n : Int) % 64 = 56 := by unfold gap at hn'; omega
    repeat (first | (refine G_id ?_; first | refine G_plain rfl rfl ?_) | (refine X_id ?_; first | refine X_yl (Yl_move rfl rfl) rfl rfl ?_ | refine X_yl (Yl_nilCheck rfl rfl) rfl rfl ?_ | refine X_yl (Yl_fieldAddr0 rfl rfl rfl) rfl rfl ?_) | (refine C_id ?_; first | refine C_seq ?_ | refine C_region ?_))
    refine X_yl (Yl_load rfl rfl (hS.total hok')) rfl rfl ?_
    repeat (first | (refine G_id ?_; first | refine G_nil ?_ | refine G_plain rfl rfl ?_) | (refine X_id ?_; first | refine X_yl (Yl_move rfl rfl) rfl rfl ?_ | refine X_yl (Yl_neq_f rfl rfl rfl (by omega)) rfl rfl ?_ | refine X_yl (Yl_remE rfl rfl rfl (by omega) (by omega)) rfl rfl ?_) | (refine C_id ?_; first | refine C_seq ?_ | refine C_region ?_ | refine C_block ?_ | refine C_exit ?_ | refine C_cond_f rfl ?_) | (refine E_id ?_; first | refine E_code ?_ | refine E_then_exit ?_ | refine E_blk_same ?_))
    rw [hSe] at hS
    clear hSe hok' hn' h56
    refine C_loop (α := Nat) (fun i => [(2, .pointer (some ⟨b2, 0, none⟩)), (3, .pointer (some ⟨p, 0, none⟩)), (4, .int .i64 (S.n : Nat)), (22, .int .i64 (i : Nat))])
      (fun i w => i ≤ 8 ∧ St W noF [pts p (.cells (S.more rd fs (128 :: List.replicate (gap S.n) 0 ++ lenB S.n i)).cells.toArray 175), pts b2 (.cells (bv (List.replicate 32 0)).toArray 137)] w) (fun i => 8 - i) 0 ⟨rfl, rfl, rfl, rfl, trivial⟩ ⟨Nat.zero_le _, by simpa [lenB] using hS⟩ ?_
    clear hS
    rintro i w ⟨hi, hS⟩
    have hlen : ∀ i, (lenB S.n i).length = i := fun i => by
      induction i with
      | zero => rfl
      | succ i ih => simp [lenB, ih]
    obtain ⟨S', hSe⟩ : ∃ S', S' = S.more rd fs (128 :: List.replicate (gap S.n) 0 ++ lenB S.n i) := ⟨_, rfl⟩
    have hok' : S'.ok := hSe ▸ StrM.more_ok hf hok
    have hn' : S'.n < 2305843009213693951 := by rw [hSe]; exact key _ (by simp [hlen]; omega)
    rw [← hSe] at hS
    by_cases h8 : i < 8
    · repeat (first | (refine G_id ?_; first | refine G_nil ?_ | refine G_plain rfl rfl ?_) | (refine X_id ?_; first | refine X_yl (Yl_move rfl rfl) rfl rfl ?_ | refine X_yl (Yl_assign rfl rfl) rfl rfl ?_ | refine X_yl (Yl_lss_t rfl rfl rfl (by omega)) rfl rfl ?_ | refine X_yl (Yl_sub rfl rfl rfl (w64 (by omega) (by omega))) rfl rfl ?_ | refine X_yl (Yl_mul rfl rfl rfl (w64 (by omega) (by omega))) rfl rfl ?_ | refine X_yl (Yl_mul rfl rfl rfl rfl) rfl rfl ?_ | refine X_yl (Yl_convU8 rfl rfl) rfl rfl ?_ | refine X_yl (Yl_convInt rfl rfl rfl) rfl rfl ?_ | refine X_yl (Yl_shr rfl rfl rfl (by omega)) rfl rfl ?_) | (refine C_id ?_; first | refine C_seq ?_ | refine C_region ?_ | refine C_block ?_ | refine C_skip ?_ | refine C_cond_t rfl ?_) | (refine E_id ?_; first | refine E_code ?_))
      obtain ⟨_, hc, hr, hw, hbk⟩ := hS.call [true, false]
      refine X_callg _ rfl rfl rfl rfl rfl (one_ p S' _ rd fs _ _ _ hok' hn' (hG.mono hw) hc) ?_
      rintro _ w ⟨_, hS⟩
      replace hS := hbk hS
      clear hc hr hw hbk
      repeat (first | (refine G_id ?_; first | refine G_nil ?_ | refine G_plain rfl rfl ?_) | (refine X_id ?_; first | refine X_yl (Yl_move rfl rfl) rfl rfl ?_ | refine X_yl (Yl_add rfl rfl rfl (w64 (by omega) (by omega))) rfl rfl ?_) | (refine C_id ?_; first | refine C_region ?_) | (refine E_id ?_; first | refine E_code ?_ | refine E_blk_n ?_))
      refine E_round (i + 1) ⟨rfl, rfl, rfl, rfl, trivial⟩ ⟨by omega, ?_⟩ (by omega)
      rw [hSe, StrM.more_one] at hS
      simp only [lenB, ← List.append_assoc]
      rw [show (8 * (7 - (i : Int))).toNat = 8 * (7 - i) by omega] at hS
      exact hS
    · obtain rfl : i = 8 := by omega
      have hlen32 : LenO (bv (outB S'.H)) 32 := ⟨by rw [bv_length]; exact outB_length _⟩
      repeat (first | (refine G_id ?_; first | refine G_nil ?_ | refine G_plain rfl rfl ?_) | (refine X_id ?_; first | (refine X_callq 113 rfl rfl rfl rfl rfl hS (bytes_ p S'.H _ 175 _ hok'.h8 (hS.rd (List.mem_cons_self ..))) ?_; rintro _ _ rfl hS) | refine X_yl (Yl_move rfl rfl) rfl rfl ?_ | refine X_yl (Yl_nilCheck rfl rfl) rfl rfl ?_ | refine X_yl (Yl_fieldAddr0 rfl rfl rfl) rfl rfl ?_ | refine X_yl (Yl_lss_f rfl rfl rfl (by omega)) rfl rfl ?_ | refine X_storeAll rfl rfl rfl rfl hS (fun _ hS => ?_)) | (refine C_id ?_; first | refine C_seq ?_ | refine C_region ?_ | refine C_ret ?_ | refine C_exit ?_ | refine C_cond_f rfl ?_) | (refine E_id ?_; first | refine E_code ?_ | refine E_then_exit ?_ | refine E_blk_same ?_ | refine E_ret1 rfl (by first | exact Rv_tmp rfl | exact Rv_cell rfl (run_load1 hS.cell) | exact Rv_cell rfl (run_loadN hS.cellsN)) (Ret.mk ?_)))
      refine ⟨?_, hS.drops⟩
      rw [hSe]
      rfl
end Cr
namespace Cr
open Go Go.Proofs
set_option maxRecDepth 100000
set_option maxHeartbeats 4000000
attribute [local irreducible] Calls

def frameAt (n : Nat) (i : Nat) : UInt8 := b8 (ishr .i64 n (8 * (3 - i)))
def frameTo (n : Nat) : Nat → List UInt8
  | 0 => List.replicate 4 0
  | i + 1 => (frameTo n i).set i (frameAt n i)
theorem frameTo_length (n : Nat) : ∀ i, (frameTo n i).length = 4
  | 0 => by simp [frameTo]
  | i + 1 => by simp [frameTo, frameTo_length n i]
def frameB (n : Nat) : List UInt8 := frameTo n 4
theorem frameB_length (n : Nat) : (frameB n).length = 4 := frameTo_length n 4
def framed (l : List (List UInt8)) : List UInt8 := l.flatMap fun s => frameB s.length ++ s
theorem framed_snoc {l : List (List UInt8)} {i : Nat} {x : List UInt8} (h : l[i]? = some x) : framed (l.take (i + 1)) = framed (l.take i) ++ (frameB x.length ++ x) := by
  obtain ⟨hi, rfl⟩ := List.getElem?_eq_some_iff.1 h
  rw [List.take_succ_eq_append_getElem hi]
  simp only [framed, List.flatMap_append, List.flatMap_cons, List.flatMap_nil, List.append_nil]
theorem framed_take_le (l : List (List UInt8)) (i : Nat) : (framed (l.take i)).length ≤ (framed l).length := by
  have : framed l = framed (l.take i) ++ framed (l.drop i) := by unfold framed; rw [← List.flatMap_append, List.take_append_drop]
  rw [this]; simp
/-- The digest of texts with their lengths. -/
def digest (rd fs : List Int) (l : List (List UInt8)) : List UInt8 := (StrM.init.more rd fs (framed l)).sum rd fs
theorem digest_length (rd fs : List Int) (l : List (List UInt8)) : (digest rd fs l).length = 32 := by unfold digest StrM.sum; exact outB_length _
attribute [irreducible] digest
def texts (l : List Bs) : List (List UInt8) := l.map Bs.s
theorem framed_ (a : Option Addr) (c : Nat) (l : List Bs) (rd fs : List Int) (W : World) (hn : (framed (texts l)).length < 1152921504606846976) (hl : l.length < 2305843009213693951) (hG : Gl W noF rd fs) (hB : Bss W noF a l) :
    Calls Tryz.prog 72 #[.slice a l.length c] W (Ret fun v w => v = .agg (bv (digest rd fs (texts l))).toArray ∧ St W noF [] w) := by
  have hS := St.start W
  have hf := hG.first8
  refine calls_C Tryz.func72 rfl Tryz.ntmps72 rfl ?_
  repeat (first | (refine G_id ?_; first | refine G_nil ?_ | refine G_plain rfl rfl ?_) | (refine X_id ?_; first | refine X_yl (Yl_move rfl rfl) rfl rfl ?_ | refine X_yl (Yl_assign rfl rfl) rfl rfl ?_ | refine X_yl (Yl_len rfl rfl) rfl rfl ?_ | refine X_yl (Yl_build rfl rfl rfl) rfl rfl ?_ | refine X_box rfl rfl rfl rfl hS (fun _ _ hS _ => ?_) | refine X_alloc rfl rfl rfl hS (fun _ _ hS _ => ?_)) | (refine C_id ?_; first | refine C_seq ?_ | refine C_region ?_ | refine C_block ?_) | (refine E_id ?_; first | refine E_code ?_))
  rename_i b2 _ _ _ p wp _
  rw [bv_rep] at hS
  replace hS : St W noF [pts p (.cells StrM.init.cells.toArray 175), pts b2 (.cells (bv (List.replicate 32 0)).toArray 137)] wp := hS
  refine C_loop (α := Nat) (fun i => [(2, .pointer (some ⟨b2, 0, none⟩)), (3, .pointer (some ⟨p, 0, none⟩)), (10, .slice a l.length c), (11, .int .i64 (l.length : Nat)), (12, .int .i64 (i : Nat))])
    (fun i w => i ≤ l.length ∧ St W noF [pts p (.cells (StrM.init.more rd fs (framed ((texts l).take i))).cells.toArray 175), pts b2 (.cells (bv (List.replicate 32 0)).toArray 137)] w) (fun i => l.length - i) 0 ⟨rfl, rfl, rfl, rfl, rfl, trivial⟩ ⟨Nat.zero_le _, hS⟩ ?_
  clear hS
  rintro i w ⟨hi, hS⟩
  have hle := framed_take_le (texts l) i
  obtain ⟨S', hSe⟩ : ∃ S', S' = StrM.init.more rd fs (framed ((texts l).take i)) := ⟨_, rfl⟩
  have hok' : S'.ok := hSe ▸ StrM.more_ok hf StrM.init_ok
  have hn' : S'.n = (framed ((texts l).take i)).length := by rw [hSe, StrM.more_n]; simp [StrM.init]
  rw [← hSe] at hS
  by_cases hlt : i < l.length
  · have hx0 : l[i]? = some l[i] := List.getElem?_eq_getElem hlt
    generalize l[i] = x at hx0
    have hxm := List.mem_of_getElem? hx0
    have hbx := hB.all x hxm
    have hj := framed_snoc (l := texts l) (i := i) (x := x.s) (by simp [texts, hx0])
    have hle1 := framed_take_le (texts l) (i + 1)
    rw [hj, List.length_append, List.length_append, frameB_length] at hle1
    obtain ⟨ab, ao, rfl⟩ := (hB.row.rd hS).base (by intro e; simp at e; subst e; simp at hlt)
    have hr := hB.row
    have hx : (l.map Bs.val)[i]? = some (.slice x.a x.s.length x.c) := by simp [hx0, Bs.val]
    repeat (first | (refine G_id ?_; first | refine G_nil ?_ | refine G_plain rfl rfl ?_) | (refine X_id ?_; first | refine X_yl (Yl_move rfl rfl) rfl rfl ?_ | refine X_yl (Yl_assign rfl rfl) rfl rfl ?_ | refine X_yl (Yl_lss_t rfl rfl rfl (by omega)) rfl rfl ?_ | refine X_yl (Yl_indexAddr rfl rfl rfl (by omega) (by omega) (by first | assumption | exact ⟨_, _, rfl⟩)) rfl rfl ?_ | refine X_yl (Yl_load rfl rfl ((hr.rd hS).cellX (by omega) hx)) rfl rfl ?_ | refine X_alloc rfl rfl rfl hS (fun _ _ hS _ => ?_)) | (refine C_id ?_; first | refine C_seq ?_ | refine C_region ?_ | refine C_block ?_ | refine C_skip ?_ | refine C_cond_t rfl ?_) | (refine E_id ?_; first | refine E_code ?_))
    rename_i b6 _ _
    refine C_loop (α := Nat) (fun j => [(2, .pointer (some ⟨b2, 0, none⟩)), (3, .pointer (some ⟨p, 0, none⟩)), (10, .slice (some ⟨ab, ao, none⟩) l.length c), (11, .int .i64 (l.length : Nat)), (12, .int .i64 (i : Nat)), (5, .slice x.a x.s.length x.c), (6, .pointer (some ⟨b6, 0, none⟩)), (16, .int .i64 (j : Nat))])
      (fun j w => j ≤ 4 ∧ St W noF [pts b6 (.cells (bv (frameTo x.s.length j)).toArray 176), pts p (.cells S'.cells.toArray 175), pts b2 (.cells (bv (List.replicate 32 0)).toArray 137)] w) (fun j => 4 - j) 0 ⟨rfl, rfl, rfl, rfl, rfl, rfl, rfl, rfl, trivial⟩ ⟨Nat.zero_le _, hS⟩ ?_
    clear hS
    rintro j w ⟨hj4, hS⟩
    obtain ⟨B, hBe⟩ : ∃ B, B = frameTo x.s.length j := ⟨_, rfl⟩
    have hBl : B.length = 4 := by rw [hBe]; exact frameTo_length _ _
    rw [← hBe] at hS
    by_cases hj : j < 4
    · repeat (first | (refine G_id ?_; first | refine G_nil ?_ | refine G_plain rfl rfl ?_) | (refine X_id ?_; first | refine X_yl (Yl_move rfl rfl) rfl rfl ?_ | refine X_yl (Yl_assign rfl rfl) rfl rfl ?_ | refine X_yl (Yl_len rfl rfl) rfl rfl ?_ | refine X_yl (Yl_lss_t rfl rfl rfl (by omega)) rfl rfl ?_ | refine X_yl (Yl_indexAddr_arr rfl rfl rfl (by omega) (by omega)) rfl rfl ?_ | refine X_yl (Yl_add rfl rfl rfl (w64 (by omega) (by omega))) rfl rfl ?_ | refine X_yl (Yl_sub rfl rfl rfl (w64 (by omega) (by omega))) rfl rfl ?_ | refine X_yl (Yl_mul rfl rfl rfl (w64 (by omega) (by omega))) rfl rfl ?_ | refine X_yl (Yl_convU8 rfl rfl) rfl rfl ?_ | refine X_yl (Yl_shr rfl rfl rfl (by omega)) rfl rfl ?_ | refine X_storeB rfl rfl rfl rfl hS (by omega) (fun _ hS => ?_)) | (refine C_id ?_; first | refine C_seq ?_ | refine C_region ?_ | refine C_block ?_ | refine C_skip ?_ | refine C_cond_t rfl ?_) | (refine E_id ?_; first | refine E_code ?_ | refine E_blk_n ?_))
      refine E_round (j + 1) ⟨rfl, rfl, rfl, rfl, rfl, rfl, rfl, rfl, trivial⟩ ⟨by omega, ?_⟩ (by omega)
      simp only [frameTo, frameAt]
      rw [← hBe]
      rw [show (8 * (3 - (j : Int))).toNat = 8 * (3 - j) by omega, show 0 + (j : Int).toNat * 1 = j by omega] at hS
      exact hS
    · obtain rfl : j = 4 := by omega
      repeat (first | (refine G_id ?_; first | refine G_nil ?_ | refine G_plain rfl rfl ?_) | (refine X_id ?_; first | refine X_yl (Yl_move rfl rfl) rfl rfl ?_ | refine X_yl (Yl_lss_f rfl rfl rfl (by omega)) rfl rfl ?_ | refine X_yl (Yl_slice_arr rfl rfl) rfl rfl ?_ | refine X_buildSlice rfl rfl rfl rfl rfl rfl rfl rfl hS (fun _ _ hS _ => ?_)) | (refine C_id ?_; first | refine C_seq ?_ | refine C_region ?_ | refine C_exit ?_ | refine C_cond_f rfl ?_) | (refine E_id ?_; first | refine E_code ?_ | refine E_then_exit ?_ | refine E_blk_same ?_))
      rename_i nb wb _
      obtain ⟨_, hc, hr, hw, hbk⟩ := hS.call [false, false, true]
      have hBs : Bss wb _ (some ⟨nb, 0, none⟩) [⟨some ⟨b6, 0, none⟩, 4, B⟩, x] := ⟨by
        have := (hr _ (List.mem_cons_self ..)).own_row
        simpa [Bs.val, hBl] using this, fun y hy => by
        simp only [List.mem_cons, List.not_mem_nil, or_false] at hy
        rcases hy with rfl | rfl
        · exact (hr _ (List.mem_cons_of_mem _ (List.mem_cons_self ..))).mono fun h hh => ⟨h, row_pts_at (n := 4) (by simp [← bv_length, ← hBl]) h hh, fun _ _ e => e⟩
        · exact hw _ hbx⟩
      refine X_callg _ rfl rfl rfl rfl rfl (dwrite_ p S' _ _ _ rd fs _ _ _ hok' (by simp [joined, hBl]; omega) (by simp) (hG.mono hw) hBs hc) ?_
      rintro _ w ⟨rfl, hS⟩
      replace hS := hbk hS
      clear hc hr hw hbk hBs
      repeat (first | (refine G_id ?_; first | refine G_nil ?_ | refine G_plain rfl rfl ?_) | (refine X_id ?_; first | refine X_yl (Yl_move rfl rfl) rfl rfl ?_ | refine X_yl (Yl_add rfl rfl rfl (w64 (by omega) (by omega))) rfl rfl ?_) | (refine C_id ?_; first | refine C_region ?_) | (refine E_id ?_; first | refine E_code ?_ | refine E_blk_n ?_))
      refine E_round (i + 1) ⟨rfl, rfl, rfl, rfl, rfl, trivial⟩ ⟨by omega, ?_⟩ (by omega)
      have hS := hS.pick [0, 2]
      rw [framed_snoc (x := x.s) (by simp [texts, hx0]), StrM.more_append, ← hSe]
      rw [show joined [⟨some ⟨b6, 0, none⟩, 4, B⟩, x] = frameB x.s.length ++ x.s by rw [hBe]; simp [joined, frameB]] at hS
      exact hS
  · obtain rfl : i = l.length := by omega
    have hlen32 : LenO (bv (S'.sum rd fs)) 32 := ⟨by rw [bv_length]; exact outB_length _⟩
    repeat (first | (refine G_id ?_; first | refine G_nil ?_ | refine G_plain rfl rfl ?_) | (refine X_id ?_; first | (refine X_callq 95 rfl rfl rfl rfl rfl hS (sum_ p S' rd fs 175 _ hok' (by omega) (hG.mono fun r hr => (hr.rd hS).ro) (hS.rd (List.mem_cons_self ..))) ?_; rintro _ _ rfl hS) | refine X_yl (Yl_move rfl rfl) rfl rfl ?_ | refine X_yl (Yl_lss_f rfl rfl rfl (by omega)) rfl rfl ?_ | refine X_storeAll rfl rfl rfl rfl hS (fun _ hS => ?_)) | (refine C_id ?_; first | refine C_seq ?_ | refine C_region ?_ | refine C_ret ?_ | refine C_exit ?_ | refine C_cond_f rfl ?_) | (refine E_id ?_; first | refine E_code ?_ | refine E_then_exit ?_ | refine E_blk_same ?_ | refine E_ret1 rfl (by first | exact Rv_tmp rfl | exact Rv_cell rfl (run_load1 hS.cell) | exact Rv_cell rfl (run_loadN hS.cellsN)) (Ret.mk ?_)))
    refine ⟨?_, hS.drops⟩
    rw [hSe, show (texts l).take l.length = texts l from List.take_of_length_le (by simp [texts])]
    unfold digest
    rfl
end Cr
namespace Cr
open Go Go.Proofs
set_option maxRecDepth 100000
set_option maxHeartbeats 4000000
attribute [local irreducible] Calls

theorem equal_ (a b : Option Addr) (n m c c' : Nat) (s t : List UInt8) (W : World) (ha : Rd W (bytes a s)) (hb : Rd W (bytes b t)) (hn : s.length = n) (hm : t.length = m) :
    Calls Tryz.prog 39 #[.slice a n c, .slice b m c'] W (Ret fun v w => v = .bool (decide (s = t)) ∧ W = w) := by
  refine calls_C Tryz.func39 rfl Tryz.ntmps39 rfl ?_
  repeat (first | (refine G_id ?_; first | refine G_nil ?_ | refine G_plain rfl rfl ?_) | (refine X_id ?_; first | refine X_yl (Yl_move rfl rfl) rfl rfl ?_ | refine X_yl (Yl_assign rfl rfl) rfl rfl ?_) | (refine C_id ?_; first | refine C_seq ?_ | refine C_region ?_) | (refine E_id ?_; first | refine E_code ?_))
  refine X_yl (Yl_bytesStr rfl rfl ha hn) rfl rfl ?_
  repeat (first | (refine G_id ?_; first | refine G_plain rfl rfl ?_) | (refine X_id ?_; first | refine X_yl (Yl_move rfl rfl) rfl rfl ?_))
  refine X_yl (Yl_bytesStr rfl rfl hb hm) rfl rfl ?_
  repeat (first | (refine G_id ?_; first | refine G_plain rfl rfl ?_))
  refine X_yl (Yl_eqlStr rfl rfl rfl) rfl rfl ?_
  repeat (first | (refine G_id ?_; first | refine G_nil ?_ | refine G_plain rfl rfl ?_) | (refine X_id ?_; first | refine X_yl (Yl_assign rfl rfl) rfl rfl ?_) | (refine C_id ?_; first | refine C_ret ?_) | (refine E_id ?_; first | refine E_code ?_ | refine E_ret1 rfl (Rv_tmp rfl) (Ret.mk ?_)))
  exact ⟨rfl, rfl⟩

theorem mkNoZero (n : Nat) (w : World) (hn : n ≤ 281474976710656) : ∃ cs : Array Value, (callFunc 119 #[.int .i64 n]).run Tryz.prog w = .ok (.value (.slice (some ⟨w.heap.size, 0, none⟩) n cs.size)) (w.drew.drew.alloc (.cells cs 5)) ∧ n ≤ cs.size := by
  obtain ⟨cs, hrun, hle, _⟩ := Lib.run_makeNoZero (P := Tryz.prog) (w := w) #[3] 40 5 (Und.und (P := Tryz.prog) (t := 40) (d := .slice 5)) n hn
  refine ⟨cs, ?_, hle⟩
  rw [run_callFunc_extern Tryz.func119 (by kernel_rfl) (by kernel_rfl) (by kernel_rfl) (e := Extern.BytealgMakeNoZero.makeNoZero #[3] #[40]) (by kernel_rfl), hrun]
  rfl
theorem St.alloc2 {W : World} {F : Nat → Prop} {rs : List Res} {w : World} (hS : St W F rs w) (o : Obj) : St W F (pts w.heap.size o :: rs) (w.drew.drew.alloc o) := hS.drew.drew.alloc o

theorem join_ (ab ao c : Nat) (l : List Bs) (W : World) (hB : Bss W noF (some ⟨ab, ao, none⟩) l) (h2 : 2 ≤ l.length) (hc : l.length ≤ c) (hl : l.length ≤ 1099511627776) (hn : (joined l).length ≤ 1099511627776) :
    Calls Tryz.prog 104 #[.slice (some ⟨ab, ao, none⟩) l.length c, .slice none 0 0] W (Ret fun v w => ∃ p, v = .slice (some ⟨p, 0, none⟩) (joined l).length (joined l).length ∧ St W noF [bytes (some ⟨p, 0, none⟩) (joined l)] w) := by
  have hS := St.start W
  refine calls_C Tryz.func104 rfl Tryz.ntmps104 rfl ?_
  repeat (first | (refine G_id ?_; first | refine G_nil ?_ | refine G_plain rfl rfl ?_) | (refine X_id ?_; first | refine X_yl (Yl_move rfl rfl) rfl rfl ?_ | refine X_yl (Yl_assign rfl rfl) rfl rfl ?_ | refine X_yl (Yl_len rfl rfl) rfl rfl ?_ | refine X_yl (Yl_eql_f rfl rfl rfl (by omega)) rfl rfl ?_ | refine X_yl (Yl_gtr_f rfl rfl rfl (by omega)) rfl rfl ?_) | (refine C_id ?_; first | refine C_seq ?_ | refine C_region ?_ | refine C_block ?_ | refine C_skip ?_ | refine C_cond_f rfl ?_) | (refine E_id ?_; first | refine E_code ?_))
  refine C_loop (α := Nat) (fun i => [(0, .slice (some ⟨ab, ao, none⟩) l.length c), (1, .slice none 0 0), (5, .int .i64 ((joined (l.take i)).length : Nat)), (42, .slice (some ⟨ab, ao, none⟩) l.length c), (43, .int .i64 (l.length : Nat)), (44, .int .i64 (i : Nat))])
    (fun i w => i ≤ l.length ∧ St W noF [] w) (fun i => l.length - i) 0 ⟨rfl, rfl, rfl, rfl, rfl, rfl, trivial⟩ ⟨Nat.zero_le _, hS⟩ ?_
  clear hS
  rintro i w ⟨hi, hS⟩
  have hr := hB.row
  by_cases hlt : i < l.length
  · have hx0 : l[i]? = some l[i] := List.getElem?_eq_getElem hlt
    generalize l[i] = x at hx0
    have hx : (l.map Bs.val)[i]? = some (.slice x.a x.s.length x.c) := by simp [hx0, Bs.val]
    have hj := joined_snoc hx0
    have hle := joined_take_le l (i + 1)
    have hjl : (joined (l.take (i + 1))).length = (joined (l.take i)).length + x.s.length := by rw [hj]; simp
    rw [hjl] at hle
    clear hj
    repeat (first | (refine G_id ?_; first | refine G_nil ?_ | refine G_plain rfl rfl ?_) | (refine X_id ?_; first | refine X_yl (Yl_move rfl rfl) rfl rfl ?_ | refine X_yl (Yl_assign rfl rfl) rfl rfl ?_ | refine X_yl (Yl_len rfl rfl) rfl rfl ?_ | refine X_yl (Yl_lss_t rfl rfl rfl (by omega)) rfl rfl ?_ | refine X_yl (Yl_gtr_f rfl rfl rfl (by omega)) rfl rfl ?_ | refine X_yl (Yl_indexAddr rfl rfl rfl (by omega) (by omega) (by first | assumption | exact ⟨_, _, rfl⟩)) rfl rfl ?_ | refine X_yl (Yl_add rfl rfl rfl (w64 (by omega) (by omega))) rfl rfl ?_ | refine X_yl (Yl_sub rfl rfl rfl (w64 (by omega) (by omega))) rfl rfl ?_ | refine X_yl (Yl_load rfl rfl ((hr.rd hS).cellX (by omega) hx)) rfl rfl ?_) | (refine C_id ?_; first | refine C_seq ?_ | refine C_region ?_ | refine C_block ?_ | refine C_skip ?_ | refine C_cond_t rfl ?_ | refine C_cond_f rfl ?_) | (refine E_id ?_; first | refine E_code ?_ | refine E_blk_n ?_))
    refine E_round (i + 1) ⟨rfl, rfl, by rw [hjl]; rfl, rfl, rfl, rfl, trivial⟩ ⟨by omega, hS⟩ (by omega)
  · obtain rfl : i = l.length := by omega
    rw [List.take_length]
    repeat (first | (refine G_id ?_; first | refine G_nil ?_ | refine G_plain rfl rfl ?_) | (refine X_id ?_; first | refine X_yl (Yl_move rfl rfl) rfl rfl ?_ | refine X_yl (Yl_lss_f rfl rfl rfl (by omega)) rfl rfl ?_) | (refine C_id ?_; first | refine C_seq ?_ | refine C_region ?_ | refine C_exit ?_ | refine C_cond_f rfl ?_) | (refine E_id ?_; first | refine E_code ?_ | refine E_then_exit ?_ | refine E_blk_same ?_))
    obtain ⟨cs, hrun, hcs⟩ := mkNoZero (joined l).length w (by omega)
    refine X_run rfl rfl rfl hrun rfl rfl ?_
    replace hS := hS.alloc2 (.cells cs 5)
    generalize w.drew.drew.alloc (.cells cs 5) = w2 at hS ⊢
    generalize w.heap.size = p at hS ⊢
    clear hrun
    obtain ⟨T, hT⟩ : ∃ T, T = (joined l).length := ⟨_, rfl⟩
    have hjt := joined_take_le l
    rw [← hT] at hcs hn hjt ⊢
    repeat (first | (refine G_id ?_; first | refine G_plain rfl rfl ?_) | (refine X_id ?_; first | refine X_yl (Yl_move rfl rfl) rfl rfl ?_))
    refine X_yl (Yl_slice3 (l := 0) (h := T) (k := T) rfl rfl rfl rfl rfl ⟨_, _, rfl, by omega, by omega, hcs⟩ ⟨_, _, rfl, by omega, by omega, Nat.le_refl _⟩ (.inl ⟨rfl, rfl⟩)) rfl rfl ?_
    rw [sub_zero, Nat.sub_zero]
    obtain ⟨x, hx0⟩ : ∃ x, l[0]? = some x := ⟨_, List.getElem?_eq_getElem (by omega)⟩
    have hx : (l.map Bs.val)[0]? = some (.slice x.a x.s.length x.c) := by simp [hx0, Bs.val]
    have hbx := hB.all x (List.mem_of_getElem? hx0)
    have hj0 := joined_snoc hx0
    simp only [List.take_zero, Nat.zero_add] at hj0
    replace hj0 : joined (l.take 1) = x.s := by rw [hj0]; rfl
    have hx1 := hjt 1
    rw [hj0] at hx1
    obtain ⟨c0, rfl⟩ : ∃ c0 : List Value, cs = c0.toArray := ⟨cs.toList, by simp⟩
    have hc0 : T ≤ c0.length := by simpa using hcs
    repeat (first | (refine G_id ?_; first | refine G_nil ?_ | refine G_plain rfl rfl ?_) | (refine X_id ?_; first | refine X_yl (Yl_move rfl rfl) rfl rfl ?_ | refine X_yl (Yl_assign rfl rfl) rfl rfl ?_ | refine X_yl (Yl_indexAddr rfl rfl rfl (by omega) (by omega) (by first | assumption | exact ⟨_, _, rfl⟩)) rfl rfl ?_ | refine X_yl (Yl_load rfl rfl ((hr.rd hS).cellX (by omega) hx)) rfl rfl ?_) | (refine C_id ?_; first | refine C_seq ?_ | refine C_region ?_) | (refine E_id ?_; first | refine E_code ?_))
    refine X_copy rfl rfl rfl rfl rfl hS (hbx.rd hS) (by simp) bv_one (by omega) (fun w hS => ?_)
    rw [List.take_of_length_le (by simp; omega)] at hS
    replace hS : St W noF [pts p (.cells (bv (joined (l.take 1)) ++ c0.drop x.s.length).toArray 5)] w := by
      rw [hj0]; simpa [splice] using hS
    have hmin : min x.s.length T = (joined (l.take 1)).length := by rw [hj0]; omega
    rw [hmin]
    have hjx : (joined (l.take 1)).length = x.s.length := by rw [hj0]
    clear hmin hx hx0 hbx hj0
    repeat (first | (refine G_id ?_; first | refine G_nil ?_ | refine G_plain rfl rfl ?_) | (refine X_id ?_; first | refine X_yl (Yl_move rfl rfl) rfl rfl ?_ | refine X_yl (Yl_assign rfl rfl) rfl rfl ?_) | (refine C_id ?_; first | refine C_seq ?_ | refine C_region ?_) | (refine E_id ?_; first | refine E_code ?_))
    refine X_yl (Yl_slice (l := 1) (h := l.length) rfl rfl rfl rfl (.inl ⟨rfl, rfl⟩) (.inr ⟨_, _, rfl, by omega, by omega, by omega⟩)) rfl rfl ?_
    rw [show sub (some ⟨ab, ao, none⟩) 1 1 c = some ⟨ab, ao + 1, none⟩ by unfold sub; rw [if_neg (by omega)]; simp [add_lit]]
    have hr' : Ro W noF (row (some ⟨ab, ao + 1, none⟩) ((l.map Bs.val).drop 1)) := hr.mono fun h hh => by
      have := row.part (a := some ⟨ab, ao, none⟩) (cs' := (l.map Bs.val).drop 1) (i := 1) (fun j v hv => by simpa [Nat.add_comm] using hv) h hh
      simpa [adr] using this
    clear hr
    repeat (first | (refine G_id ?_; first | refine G_nil ?_ | refine G_plain rfl rfl ?_) | (refine X_id ?_; first | refine X_yl (Yl_move rfl rfl) rfl rfl ?_ | refine X_yl (Yl_len rfl rfl) rfl rfl ?_) | (refine C_id ?_; first | refine C_block ?_) | (refine E_id ?_; first | refine E_code ?_))
    refine C_loop (α := Nat) (fun i => [(1, .slice none 0 0), (8, .slice (some ⟨p, 0, none⟩) T T), (9, .int .i64 ((joined (l.take (i + 1))).length : Nat)), (70, .slice (some ⟨ab, ao + 1, none⟩) (l.length - 1) (c - 1)), (71, .int .i64 ((l.length - 1 : Nat) : Int)), (72, .int .i64 (i : Nat))])
      (fun i w => i ≤ l.length - 1 ∧ ∃ r, r.length + (joined (l.take (i + 1))).length = c0.length ∧ St W noF [pts p (.cells (bv (joined (l.take (i + 1))) ++ r).toArray 5)] w) (fun i => l.length - 1 - i) 0 ⟨rfl, rfl, rfl, rfl, rfl, rfl, trivial⟩ ⟨Nat.zero_le _, _, by simp; omega, hS⟩ ?_
    clear hS
    rintro i w ⟨hi, r, hrl, hS⟩
    have hjt1 := hjt (i + 1)
    obtain ⟨J, hJ⟩ : ∃ J, J = joined (l.take (i + 1)) := ⟨_, rfl⟩
    rw [← hJ] at hS hrl hjt1 ⊢
    by_cases hlt : i < l.length - 1
    · obtain ⟨x, hx0⟩ : ∃ x, l[i + 1]? = some x := ⟨_, List.getElem?_eq_getElem (by omega)⟩
      have hbx := hB.all x (List.mem_of_getElem? hx0)
      have hj0 := joined_snoc hx0
      have hx : ((l.map Bs.val).drop 1)[i]? = some (.slice x.a x.s.length x.c) := by simp [hx0, Bs.val]
      have hx1 := hjt (i + 1 + 1)
      rw [hj0, ← hJ, List.length_append] at hx1
      have hr := hr'
      repeat (first | (refine G_id ?_; first | refine G_nil ?_ | refine G_plain rfl rfl ?_) | (refine X_id ?_; first | refine X_yl (Yl_move rfl rfl) rfl rfl ?_ | refine X_yl (Yl_assign rfl rfl) rfl rfl ?_ | refine X_yl (Yl_lss_t rfl rfl rfl (by omega)) rfl rfl ?_ | refine X_yl (Yl_indexAddr rfl rfl rfl (by omega) (by omega) (by first | assumption | exact ⟨_, _, rfl⟩)) rfl rfl ?_ | refine X_yl (Yl_load rfl rfl ((hr.rd hS).cellX (by omega) hx)) rfl rfl ?_) | (refine C_id ?_; first | refine C_seq ?_ | refine C_region ?_ | refine C_block ?_ | refine C_skip ?_ | refine C_cond_t rfl ?_) | (refine E_id ?_; first | refine E_code ?_))
      refine X_yl (Yl_slice (l := J.length) (h := T) rfl rfl rfl rfl (.inl ⟨rfl, rfl⟩) (.inr ⟨_, _, rfl, by omega, by omega, by omega⟩)) rfl rfl ?_
      obtain ⟨off, hoff, hof⟩ : ∃ off, sub (some ⟨p, 0, none⟩) J.length 1 T = some ⟨p, off, none⟩ ∧ (off = J.length ∨ (T = J.length ∧ off = 0)) := by
        unfold sub
        by_cases e : T = J.length
        · exact ⟨0, by rw [if_pos e], .inr ⟨e, rfl⟩⟩
        · exact ⟨J.length, by rw [if_neg e]; simp [add_lit], .inl rfl⟩
      rw [hoff]
      repeat (first | (refine G_id ?_; first | refine G_plain rfl rfl ?_) | (refine X_id ?_; first | refine X_yl (Yl_move rfl rfl) rfl rfl ?_))
      refine X_copy (news := []) rfl rfl rfl rfl rfl hS (Rd_nil _ _) rfl (fun _ h => by cases h) (by simp; omega) (fun w hS => ?_)
      rw [show splice (bv J ++ r) off (([] : List Value).take (T - J.length)) = bv J ++ r by simp [splice]] at hS
      rw [show ((min 0 (T - J.length) : Nat) : Int) = 0 by omega]
      repeat (first | (refine G_id ?_; first | refine G_nil ?_ | refine G_plain rfl rfl ?_) | (refine X_id ?_; first | refine X_yl (Yl_move rfl rfl) rfl rfl ?_ | refine X_yl (Yl_assign rfl rfl) rfl rfl ?_ | refine X_yl (Yl_add rfl rfl rfl (w64 (by omega) (by omega))) rfl rfl ?_) | (refine C_id ?_; first | refine C_region ?_) | (refine E_id ?_; first | refine E_code ?_))
      rw [show (J.length : Int) + 0 = (J.length : Nat) by omega]
      refine X_yl (Yl_slice (l := J.length) (h := T) rfl rfl rfl rfl (.inl ⟨rfl, rfl⟩) (.inr ⟨_, _, rfl, by omega, by omega, by omega⟩)) rfl rfl ?_
      rw [hoff]
      repeat (first | (refine G_id ?_; first | refine G_plain rfl rfl ?_) | (refine X_id ?_; first | refine X_yl (Yl_move rfl rfl) rfl rfl ?_))
      refine X_copy rfl rfl rfl rfl rfl hS (hbx.rd hS) (by simp) bv_one (by simp; omega) (fun w hS => ?_)
      repeat (first | (refine G_id ?_; first | refine G_nil ?_ | refine G_plain rfl rfl ?_) | (refine X_id ?_; first | refine X_yl (Yl_move rfl rfl) rfl rfl ?_ | refine X_yl (Yl_assign rfl rfl) rfl rfl ?_ | refine X_yl (Yl_add rfl rfl rfl (w64 (by omega) (by omega))) rfl rfl ?_) | (refine C_id ?_; first | refine C_region ?_) | (refine E_id ?_; first | refine E_code ?_ | refine E_blk_n ?_))
      refine E_round (i + 1) ⟨rfl, rfl, ?_, rfl, rfl, rfl, trivial⟩ ⟨by omega, r.drop x.s.length, by rw [hj0, ← hJ]; simp; omega, ?_⟩ (by omega)
      · show some _ = some _
        rw [hj0, ← hJ]
        congr 2
        simp
        omega
      · rw [hj0, ← hJ, bv_append]
        rcases hof with rfl | ⟨e, rfl⟩
        · rw [List.take_of_length_le (by simp; omega)] at hS
          have : splice (bv J ++ r) J.length (bv x.s) = bv J ++ bv x.s ++ r.drop x.s.length := by
            have := splice_mid (l := bv J) (m := r) (vs := bv x.s) (k := J.length) (n := 0) (by simp)
            rw [Nat.add_zero] at this
            rw [this]; simp [splice]
          rw [this] at hS
          exact hS
        · have h0 : x.s = [] := List.length_eq_zero_iff.1 (by omega)
          rw [h0] at hS ⊢
          simpa [splice, bv] using hS
    · obtain rfl : i = l.length - 1 := by omega
      have hJj : J = joined l := by rw [hJ, show l.length - 1 + 1 = l.length by omega, List.take_length]
      repeat (first | (refine G_id ?_; first | refine G_nil ?_ | refine G_plain rfl rfl ?_) | (refine X_id ?_; first | refine X_yl (Yl_move rfl rfl) rfl rfl ?_ | refine X_yl (Yl_assign rfl rfl) rfl rfl ?_ | refine X_yl (Yl_lss_f rfl rfl rfl (by omega)) rfl rfl ?_) | (refine C_id ?_; first | refine C_seq ?_ | refine C_region ?_ | refine C_ret ?_ | refine C_exit ?_ | refine C_cond_f rfl ?_) | (refine E_id ?_; first | refine E_code ?_ | refine E_then_exit ?_ | refine E_blk_same ?_ | refine E_ret1 rfl (Rv_tmp rfl) (Ret.mk ?_)))
      refine ⟨p, rfl, hS.head fun h hh => row_pts_at (n := J.length) ?_ h hh⟩
      rw [← hJj]; simp
end Cr
namespace Cr
open Go Go.Proofs
set_option maxRecDepth 100000
set_option maxHeartbeats 4000000
attribute [local irreducible] Calls

/-! ### big -/
def bigAt (n : Int) (c i : Nat) : UInt8 := b8 (ishr .u64 (IntKind.u64.wrap n) (8 * (c - 1 - i)))
def bigTo (n : Int) (c : Nat) : Nat → List UInt8
  | 0 => List.replicate c 0
  | i + 1 => (bigTo n c i).set i (bigAt n c i)
theorem bigTo_length (n : Int) (c : Nat) : ∀ i, (bigTo n c i).length = c
  | 0 => by simp [bigTo]
  | i + 1 => by simp [bigTo, bigTo_length n c i]
def bigB (n : Int) (c : Nat) : List UInt8 := bigTo n c c
theorem bigB_length (n : Int) (c : Nat) : (bigB n c).length = c := bigTo_length n c c
attribute [irreducible] bigB
theorem big_ (n : Int) (c : Nat) (W : World) (hc : c ≤ 1048576) :
    Calls Tryz.prog 82 #[.int .i64 n, .int .i64 (c : Nat)] W (Ret fun v w => ∃ p, v = .slice (some ⟨p, 0, none⟩) c c ∧ St W noF [pts p (.cells (bv (bigB n c)).toArray 5)] w) := by
  have hS := St.start W
  refine calls_C Tryz.func82 rfl Tryz.ntmps82 rfl ?_
  repeat (first | (refine G_id ?_; first | refine G_nil ?_ | refine G_plain rfl rfl ?_) | (refine X_id ?_; first | refine X_yl (Yl_move rfl rfl) rfl rfl ?_ | refine X_yl (Yl_assign rfl rfl) rfl rfl ?_ | refine X_yl (Yl_len rfl rfl) rfl rfl ?_ | refine X_makeB rfl rfl rfl (by omega) (by omega) rfl rfl hS (fun _ _ hS => ?_)) | (refine C_id ?_; first | refine C_seq ?_ | refine C_region ?_ | refine C_block ?_) | (refine E_id ?_; first | refine E_code ?_))
  rename_i p w0
  refine C_loop (α := Nat) (fun i => [(0, .int .i64 n), (1, .int .i64 (c : Nat)), (5, .slice (some ⟨p, 0, none⟩) c c), (10, .int .i64 (c : Nat)), (11, .int .i64 (i : Nat))])
    (fun i w => i ≤ c ∧ St W noF [pts p (.cells (bv (bigTo n c i)).toArray 5)] w) (fun i => c - i) 0 ⟨rfl, rfl, rfl, rfl, rfl, trivial⟩ ⟨Nat.zero_le _, hS⟩ ?_
  clear hS
  rintro i w ⟨hi, hS⟩
  obtain ⟨L, hLe⟩ : ∃ L, L = bigTo n c i := ⟨_, rfl⟩
  have hL : L.length = c := by rw [hLe]; exact bigTo_length n c i
  rw [← hLe] at hS
  by_cases hlt : i < c
  · repeat (first | (refine G_id ?_; first | refine G_nil ?_ | refine G_plain rfl rfl ?_) | (refine X_id ?_; first | refine X_yl (Yl_move rfl rfl) rfl rfl ?_ | refine X_yl (Yl_assign rfl rfl) rfl rfl ?_ | refine X_yl (Yl_lss_t rfl rfl rfl (by omega)) rfl rfl ?_ | refine X_yl (Yl_indexAddr rfl rfl rfl (by omega) (by omega) (by first | assumption | exact ⟨_, _, rfl⟩)) rfl rfl ?_ | refine X_yl (Yl_add rfl rfl rfl (w64 (by omega) (by omega))) rfl rfl ?_ | refine X_yl (Yl_sub rfl rfl rfl (w64 (by omega) (by omega))) rfl rfl ?_ | refine X_yl (Yl_mul rfl rfl rfl (w64 (by omega) (by omega))) rfl rfl ?_ | refine X_yl (Yl_convU8 rfl rfl) rfl rfl ?_ | refine X_yl (Yl_convInt rfl rfl rfl) rfl rfl ?_ | refine X_yl (Yl_shr rfl rfl rfl (by omega)) rfl rfl ?_ | refine X_storeBA rfl rfl rfl rfl hS (by omega) (fun _ hS => ?_)) | (refine C_id ?_; first | refine C_seq ?_ | refine C_region ?_ | refine C_block ?_ | refine C_skip ?_ | refine C_cond_t rfl ?_) | (refine E_id ?_; first | refine E_code ?_ | refine E_blk_n ?_))
    refine E_round (i + 1) ⟨rfl, rfl, rfl, rfl, rfl, trivial⟩ ⟨by omega, ?_⟩ (by omega)
    simp only [bigTo, bigAt]
    rw [← hLe]
    rw [show 0 + (i : Int).toNat * 1 = i by omega, show (8 * ((c : Int) - 1 - (i : Int))).toNat = 8 * (c - 1 - i) by omega] at hS
    exact hS
  · obtain rfl : i = c := by omega
    repeat (first | (refine G_id ?_; first | refine G_nil ?_ | refine G_plain rfl rfl ?_) | (refine X_id ?_; first | refine X_yl (Yl_move rfl rfl) rfl rfl ?_ | refine X_yl (Yl_assign rfl rfl) rfl rfl ?_ | refine X_yl (Yl_lss_f rfl rfl rfl (by omega)) rfl rfl ?_) | (refine C_id ?_; first | refine C_seq ?_ | refine C_region ?_ | refine C_ret ?_ | refine C_exit ?_ | refine C_cond_f rfl ?_) | (refine E_id ?_; first | refine E_code ?_ | refine E_then_exit ?_ | refine E_blk_same ?_ | refine E_ret1 rfl (Rv_tmp rfl) (Ret.mk ?_)))
    refine ⟨p, rfl, ?_⟩
    unfold bigB
    rw [← hLe]
    exact hS

/-! ### small -/
def smallTo (s : List UInt8) : Nat → Int
  | 0 => 0
  | i + 1 => ior .i64 (ishl .i64 (smallTo s i) 8) ((s.getD i 0).toNat : Int)
def smallN (s : List UInt8) : Int := smallTo s s.length
theorem small_ (a : Option Addr) (c : Nat) (s : List UInt8) (W : World) (hs : Rd W (bytes a s)) (hl : s.length ≤ 1048576) :
    Calls Tryz.prog 100 #[.slice a s.length c] W (Ret fun v w => v = .int .i64 (smallN s) ∧ W = w) := by
  have hS := St.start W
  have hso := hs.ro
  refine calls_C Tryz.func100 rfl Tryz.ntmps100 rfl ?_
  repeat (first | (refine G_id ?_; first | refine G_nil ?_ | refine G_plain rfl rfl ?_) | (refine X_id ?_; first | refine X_yl (Yl_move rfl rfl) rfl rfl ?_ | refine X_yl (Yl_assign rfl rfl) rfl rfl ?_ | refine X_yl (Yl_len rfl rfl) rfl rfl ?_) | (refine C_id ?_; first | refine C_seq ?_ | refine C_region ?_ | refine C_block ?_) | (refine E_id ?_; first | refine E_code ?_))
  refine C_loop (α := Nat) (fun i => [(3, .int .i64 (smallTo s i)), (6, .slice a s.length c), (7, .int .i64 (s.length : Nat)), (8, .int .i64 (i : Nat))])
    (fun i w => i ≤ s.length ∧ w = W) (fun i => s.length - i) 0 ⟨rfl, rfl, rfl, rfl, trivial⟩ ⟨Nat.zero_le _, rfl⟩ ?_
  rintro i w ⟨hi, rfl⟩
  by_cases hlt : i < s.length
  · obtain ⟨xb, xo, rfl⟩ := hs.base (by intro e; have := bv_length s; rw [e] at this; simp at this; omega)
    have hb : Ro w noF (bytes (some ⟨xb, xo, none⟩) s) := hso
    have h256 := UInt8.toNat_lt (s.getD ((i : Int).toNat * 1) 0)
    repeat (first | (refine G_id ?_; first | refine G_nil ?_ | refine G_plain rfl rfl ?_) | (refine X_id ?_; first | refine X_yl (Yl_move rfl rfl) rfl rfl ?_ | refine X_yl (Yl_assign rfl rfl) rfl rfl ?_ | refine X_yl (Yl_lss_t rfl rfl rfl (by omega)) rfl rfl ?_ | refine X_yl (Yl_indexAddr rfl rfl rfl (by omega) (by omega) (by first | assumption | exact ⟨_, _, rfl⟩)) rfl rfl ?_ | refine X_yl (Yl_add rfl rfl rfl (w64 (by omega) (by omega))) rfl rfl ?_ | refine X_yl (Yl_convInt rfl rfl (w64 (by omega) (by omega))) rfl rfl ?_ | refine X_yl (Yl_or rfl rfl rfl) rfl rfl ?_ | refine X_yl (Yl_shl rfl rfl rfl (by omega)) rfl rfl ?_ | refine X_yl (Yl_load rfl rfl ((hb.rd hS).cellB' (by omega))) rfl rfl ?_) | (refine C_id ?_; first | refine C_seq ?_ | refine C_region ?_ | refine C_block ?_ | refine C_skip ?_ | refine C_cond_t rfl ?_) | (refine E_id ?_; first | refine E_code ?_ | refine E_blk_n ?_))
    refine E_round (i + 1) ⟨?_, rfl, rfl, rfl, trivial⟩ ⟨by omega, rfl⟩ (by omega)
    show some _ = some _
    simp only [smallTo]
    rw [show (i : Int).toNat * 1 = i by omega]
    rfl
  · obtain rfl : i = s.length := by omega
    repeat (first | (refine G_id ?_; first | refine G_nil ?_ | refine G_plain rfl rfl ?_) | (refine X_id ?_; first | refine X_yl (Yl_move rfl rfl) rfl rfl ?_ | refine X_yl (Yl_assign rfl rfl) rfl rfl ?_ | refine X_yl (Yl_lss_f rfl rfl rfl (by omega)) rfl rfl ?_) | (refine C_id ?_; first | refine C_seq ?_ | refine C_region ?_ | refine C_ret ?_ | refine C_exit ?_ | refine C_cond_f rfl ?_) | (refine E_id ?_; first | refine E_code ?_ | refine E_then_exit ?_ | refine E_blk_same ?_ | refine E_ret1 rfl (Rv_tmp rfl) (Ret.mk ?_)))
    exact ⟨rfl, rfl⟩
end Cr
