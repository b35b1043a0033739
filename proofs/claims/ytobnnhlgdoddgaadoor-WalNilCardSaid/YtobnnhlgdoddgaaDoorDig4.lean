/-
  Layer 2 (digest): Write, Fork, Sum.
-/
import Derived.Test.YtobnnhlgdoddgaaDoorDig3
namespace Cr
open Go Go.Proofs
set_option maxRecDepth 100000
set_option maxHeartbeats 4000000
attribute [local irreducible] Calls

/-- A slice of slices of bytes, as data: where each lies, its room, its bytes. -/
structure Bs where
  a : Option Addr
  c : Nat
  s : List UInt8
def Bs.val (x : Bs) : Value := .slice x.a x.s.length x.c
/-- They can be read all the time. -/
structure Bss (W : World) (F : Nat → Prop) (a : Option Addr) (l : List Bs) : Prop where
  row : Ro W F (row a (l.map Bs.val))
  all : ∀ x ∈ l, Ro W F (bytes x.a x.s)
theorem Bss.mono {W w : World} {F F' : Nat → Prop} {a : Option Addr} {l : List Bs} (h : Bss W F a l) (hw : ∀ r, Ro W F r → Ro w F' r) : Bss w F' a l := ⟨hw _ h.row, fun x hx => hw _ (h.all x hx)⟩
def StrM.more (rd fs : List Int) (S : StrM) (l : List UInt8) : StrM := l.foldl (StrM.one rd fs) S
theorem StrM.more_ok {rd fs : List Int} (hf : fs.length = 8) : ∀ {l : List UInt8} {S : StrM}, S.ok → (S.more rd fs l).ok
  | [], _, h => h
  | c :: l, S, h => by
    show (StrM.more rd fs (S.one rd fs c) l).ok
    exact StrM.more_ok (rd := rd) hf (StrM.one_ok (rd := rd) h hf)
theorem StrM.more_n {rd fs : List Int} : ∀ {l : List UInt8} {S : StrM}, (S.more rd fs l).n = S.n + l.length
  | [], _ => rfl
  | c :: l, S => by
    have := StrM.more_n (rd := rd) (fs := fs) (l := l) (S := S.one rd fs c)
    simp only [StrM.more, List.foldl_cons, List.length_cons] at this ⊢
    rw [this]; simp only [StrM.one]; omega
theorem StrM.more_append {rd fs : List Int} {S : StrM} {l m : List UInt8} : S.more rd fs (l ++ m) = (S.more rd fs l).more rd fs m := by simp [StrM.more]
theorem StrM.more_snoc {rd fs : List Int} {S : StrM} {l : List UInt8} {i : Nat} (h : i < l.length) : S.more rd fs (l.take (i + 1)) = (S.more rd fs (l.take i)).one rd fs (l.getD i 0) := by
  rw [List.take_succ_eq_append_getElem h, StrM.more_append]
  simp [StrM.more, List.getD_eq_getElem?_getD, h]
def joined (l : List Bs) : List UInt8 := l.flatMap Bs.s
theorem joined_snoc {l : List Bs} {i : Nat} {x : Bs} (h : l[i]? = some x) : joined (l.take (i + 1)) = joined (l.take i) ++ x.s := by
  obtain ⟨hi, rfl⟩ := List.getElem?_eq_some_iff.1 h
  rw [List.take_succ_eq_append_getElem hi]
  simp only [joined, List.flatMap_append, List.flatMap_cons, List.flatMap_nil, List.append_nil]
theorem joined_take_le (l : List Bs) (i : Nat) : (joined (l.take i)).length ≤ (joined l).length := by
  have : joined l = joined (l.take i) ++ joined (l.drop i) := by unfold joined; rw [← List.flatMap_append, List.take_append_drop]
  rw [this]; simp

theorem write_nil (x : Value) (W : World) : Calls Tryd.prog 53 #[.pointer none, x] W (Ret fun v w => v = .pointer none ∧ W = w) := by
  refine calls_C Tryd.func53 rfl Tryd.ntmps53 rfl ?_
  repeat (first | (refine G_id ?_; first | refine G_nil ?_ | refine G_plain rfl rfl ?_) | (refine X_id ?_; first | refine X_yl (Yl_move rfl rfl) rfl rfl ?_ | refine X_yl (Yl_assign rfl rfl) rfl rfl ?_ | refine X_yl (Yl_eqlNil_none rfl rfl rfl) rfl rfl ?_) | (refine C_id ?_; first | refine C_seq ?_ | refine C_region ?_ | refine C_ret ?_ | refine C_cond_t rfl ?_) | (refine E_id ?_; first | refine E_code ?_ | refine E_then_ret ?_ | refine E_ret1 rfl (Rv_tmp rfl) (Ret.mk ?_)))
  exact ⟨rfl, rfl⟩
theorem dwrite_ (s : Nat) (S : StrM) (a : Option Addr) (c : Nat) (l : List Bs) (rd fs : List Int) (T : TypeId) (W : World) (F : Nat → Prop) (hok : S.ok) (hn : S.n + (joined l).length < 2305843009213693951) (hl : l.length < 2305843009213693951) (hG : Gl W F rd fs)
    (hB : Bss W F a l) (hS : St W F [pts s (.cells S.cells.toArray T)] W) :
    Calls Tryd.prog 53 #[.pointer (some ⟨s, 0, none⟩), .slice a l.length c] W (Ret fun v w => v = .pointer (some ⟨s, 0, none⟩) ∧ St W F [pts s (.cells (S.more rd fs (joined l)).cells.toArray T)] w) := by
  refine calls_C Tryd.func53 rfl Tryd.ntmps53 rfl ?_
  repeat (first | (refine G_id ?_; first | refine G_nil ?_ | refine G_plain rfl rfl ?_) | (refine X_id ?_; first | refine X_yl (Yl_move rfl rfl) rfl rfl ?_ | refine X_yl (Yl_assign rfl rfl) rfl rfl ?_ | refine X_yl (Yl_len rfl rfl) rfl rfl ?_ | refine X_yl (Yl_eqlNil_some rfl rfl rfl) rfl rfl ?_) | (refine C_id ?_; first | refine C_seq ?_ | refine C_region ?_ | refine C_block ?_ | refine C_skip ?_ | refine C_cond_f rfl ?_) | (refine E_id ?_; first | refine E_code ?_))
  refine C_loop (α := Nat) (fun i => [(0, .pointer (some ⟨s, 0, none⟩)), (11, .slice a l.length c), (12, .int .i64 (l.length : Nat)), (13, .int .i64 (i : Nat))])
    (fun i w => i ≤ l.length ∧ St W F [pts s (.cells (S.more rd fs (joined (l.take i))).cells.toArray T)] w) (fun i => l.length - i) 0 ⟨rfl, rfl, rfl, rfl, trivial⟩ ⟨Nat.zero_le _, hS⟩ ?_
  clear hS
  rintro i w ⟨hi, hS⟩
  by_cases hlt : i < l.length
  · have hx : l[i]? = some l[i] := List.getElem?_eq_getElem hlt
    generalize l[i] = x at hx
    have hxm := List.mem_of_getElem? hx
    have hbx := hB.all x hxm
    have hj := joined_snoc hx
    have hle := joined_take_le l (i + 1)
    rw [hj, List.length_append] at hle
    obtain ⟨ab, ao, rfl⟩ := (hB.row.rd hS).base (by intro e; simp at e; subst e; simp at hlt)
    have hr := hB.row
    replace hx : (l.map Bs.val)[i]? = some (.slice x.a x.s.length x.c) := by simp [hx, Bs.val]
    repeat (first | (refine G_id ?_; first | refine G_nil ?_ | refine G_plain rfl rfl ?_) | (refine X_id ?_; first | refine X_yl (Yl_move rfl rfl) rfl rfl ?_ | refine X_yl (Yl_assign rfl rfl) rfl rfl ?_ | refine X_yl (Yl_len rfl rfl) rfl rfl ?_ | refine X_yl (Yl_lss_t rfl rfl rfl (by omega)) rfl rfl ?_ | refine X_yl (Yl_indexAddr rfl rfl rfl (by omega) (by omega) (by first | assumption | exact ⟨_, _, rfl⟩)) rfl rfl ?_ | refine X_yl (Yl_load rfl rfl ((hr.rd hS).cellX (by omega) hx)) rfl rfl ?_) | (refine C_id ?_; first | refine C_seq ?_ | refine C_region ?_ | refine C_block ?_ | refine C_skip ?_ | refine C_cond_t rfl ?_) | (refine E_id ?_; first | refine E_code ?_))
    refine C_loop (α := Nat) (fun j => [(0, .pointer (some ⟨s, 0, none⟩)), (11, .slice (some ⟨ab, ao, none⟩) l.length c), (12, .int .i64 (l.length : Nat)), (13, .int .i64 (i : Nat)), (17, .slice x.a x.s.length x.c), (18, .int .i64 (x.s.length : Nat)), (19, .int .i64 (j : Nat))])
      (fun j w => j ≤ x.s.length ∧ St W F [pts s (.cells (S.more rd fs (joined (l.take i) ++ x.s.take j)).cells.toArray T)] w) (fun j => x.s.length - j) 0 ⟨rfl, rfl, rfl, rfl, rfl, rfl, rfl, trivial⟩ ⟨Nat.zero_le _, by simpa using hS⟩ ?_
    clear hS
    rintro j w ⟨hj', hS⟩
    by_cases hjl : j < x.s.length
    · obtain ⟨xb, xo, hxa⟩ := (hbx.rd hS).base (by intro e; have := bv_length x.s; rw [e] at this; simp at this; omega)
      have hb : Ro W F (bytes (some ⟨xb, xo, none⟩) x.s) := hxa ▸ hbx
      rw [hxa]
      repeat (first | (refine G_id ?_; first | refine G_nil ?_ | refine G_plain rfl rfl ?_) | (refine X_id ?_; first | refine X_yl (Yl_move rfl rfl) rfl rfl ?_ | refine X_yl (Yl_assign rfl rfl) rfl rfl ?_ | refine X_yl (Yl_lss_t rfl rfl rfl (by omega)) rfl rfl ?_ | refine X_yl (Yl_indexAddr rfl rfl rfl (by omega) (by omega) (by first | assumption | exact ⟨_, _, rfl⟩)) rfl rfl ?_ | refine X_yl (Yl_load rfl rfl ((hb.rd hS).cellB' (by omega))) rfl rfl ?_) | (refine C_id ?_; first | refine C_seq ?_ | refine C_region ?_ | refine C_block ?_ | refine C_skip ?_ | refine C_cond_t rfl ?_) | (refine E_id ?_; first | refine E_code ?_))
      obtain ⟨S', hSe⟩ : ∃ S', S' = S.more rd fs (joined (l.take i) ++ x.s.take j) := ⟨_, rfl⟩
      have hok' : S'.ok := hSe ▸ StrM.more_ok hG.first8 hok
      have hn' : S'.n < 2305843009213693951 := by rw [hSe, StrM.more_n]; simp; omega
      rw [← hSe] at hS
      obtain ⟨_, hc, hr, hw, hbk⟩ := hS.call [true]
      refine X_callg _ rfl rfl rfl rfl rfl (one_ s S' _ rd fs T _ _ hok' hn' (hG.mono hw) hc) ?_
      rintro _ w ⟨_, hS⟩
      replace hS := hbk hS
      clear hc hr hw hbk
      repeat (first | (refine G_id ?_; first | refine G_nil ?_ | refine G_plain rfl rfl ?_) | (refine X_id ?_; first | refine X_yl (Yl_move rfl rfl) rfl rfl ?_ | refine X_yl (Yl_add rfl rfl rfl (w64 (by omega) (by omega))) rfl rfl ?_) | (refine C_id ?_; first | refine C_region ?_) | (refine E_id ?_; first | refine E_code ?_ | refine E_blk_n ?_))
      refine E_round (j + 1) ⟨rfl, rfl, rfl, rfl, rfl, rfl, rfl, trivial⟩ ⟨by omega, ?_⟩ (by omega)
      rw [StrM.more_append, StrM.more_snoc hjl, ← StrM.more_append, ← hSe]
      rw [show (j : Int).toNat * 1 = j by omega] at hS
      exact hS
    · obtain rfl : j = x.s.length := by omega
      repeat (first | (refine G_id ?_; first | refine G_nil ?_ | refine G_plain rfl rfl ?_) | (refine X_id ?_; first | refine X_yl (Yl_move rfl rfl) rfl rfl ?_ | refine X_yl (Yl_lss_f rfl rfl rfl (by omega)) rfl rfl ?_ | refine X_yl (Yl_add rfl rfl rfl (w64 (by omega) (by omega))) rfl rfl ?_) | (refine C_id ?_; first | refine C_seq ?_ | refine C_region ?_ | refine C_exit ?_ | refine C_cond_f rfl ?_) | (refine E_id ?_; first | refine E_code ?_ | refine E_then_exit ?_ | refine E_blk_same ?_ | refine E_blk_n ?_))
      refine E_round (i + 1) ⟨rfl, rfl, rfl, rfl, trivial⟩ ⟨by omega, ?_⟩ (by omega)
      rw [hj]
      rw [List.take_length] at hS
      exact hS
  · obtain rfl : i = l.length := by omega
    rw [List.take_length] at hS
    repeat (first | (refine G_id ?_; first | refine G_nil ?_ | refine G_plain rfl rfl ?_) | (refine X_id ?_; first | refine X_yl (Yl_move rfl rfl) rfl rfl ?_ | refine X_yl (Yl_assign rfl rfl) rfl rfl ?_ | refine X_yl (Yl_lss_f rfl rfl rfl (by omega)) rfl rfl ?_) | (refine C_id ?_; first | refine C_seq ?_ | refine C_region ?_ | refine C_ret ?_ | refine C_exit ?_ | refine C_cond_f rfl ?_) | (refine E_id ?_; first | refine E_code ?_ | refine E_then_exit ?_ | refine E_blk_same ?_ | refine E_ret1 rfl (Rv_tmp rfl) (Ret.mk ?_)))
    exact ⟨rfl, hS⟩

/-! ### Fork -/
def StrM.init : StrM := ⟨List.replicate 8 0, List.replicate 64 0, 0⟩
theorem StrM.init_ok : StrM.init.ok := ⟨by simp [init], by simp [init]⟩
theorem fork_ (s : Nat) (S : StrM) (T : TypeId) (W : World) (hok : S.ok) (hs : Rd W (pts s (.cells S.cells.toArray T))) :
    Calls Tryd.prog 66 #[.pointer (some ⟨s, 0, none⟩)] W (Ret fun v w => ∃ p, v = .pointer (some ⟨p, 0, none⟩) ∧ St W noF [pts p (.cells S.cells.toArray 114)] w) := by
  obtain ⟨H, R, n⟩ := S
  obtain ⟨h8, r64⟩ := hok
  unfold StrM.cells at hs ⊢
  simp only at h8 r64 hs ⊢
  have hl1 : LenO (ints .u32 H) 8 := ⟨by rw [ints_length]; exact h8⟩
  have hl2 : LenO (bv R) 64 := ⟨by simp [r64]⟩
  have hc := hs.ro
  have hS := St.start W
  refine calls_C Tryd.func66 rfl Tryd.ntmps66 rfl ?_
  repeat (first | (refine G_id ?_; first | refine G_nil ?_ | refine G_plain rfl rfl ?_) | (refine X_id ?_; first | refine X_yl (Yl_move rfl rfl) rfl rfl ?_ | refine X_yl (Yl_assign rfl rfl) rfl rfl ?_ | refine X_yl (Yl_nilCheck rfl rfl) rfl rfl ?_ | refine X_yl (Yl_build rfl rfl rfl) rfl rfl ?_ | refine X_yl (Yl_neqNil_some rfl rfl rfl) rfl rfl ?_ | refine X_box rfl rfl rfl rfl hS (fun _ _ hS _ => ?_)) | (refine C_id ?_; first | refine C_seq ?_ | refine C_region ?_ | refine C_cond_t rfl ?_) | (refine E_id ?_; first | refine E_code ?_))
  rename_i bx wx _
  replace hS : St W noF [pts bx (.cells (ints .u32 (List.replicate 8 0) ++ (bv (List.replicate 64 0) ++ [Value.int .i64 0])).toArray 114)] wx := hS
  have hl3 : LenO (ints .u32 (List.replicate 8 0)) 8 := ⟨by rw [ints_length]; simp⟩
  refine X_yl (Yl_loadAgg rfl rfl (CellsAt.of_block (hc.rd hS).pts) (by simp [ints_length, h8, r64])) rfl rfl ?_
  repeat (first | (refine G_id ?_; first | refine G_nil ?_ | refine G_plain rfl rfl ?_) | (refine X_id ?_; first | refine X_yl (Yl_move rfl rfl) rfl rfl ?_ | refine X_yl (Yl_assign rfl rfl) rfl rfl ?_ | refine X_yl (Yl_nilCheck rfl rfl) rfl rfl ?_ | refine X_storeAll rfl rfl rfl rfl hS (fun _ hS => ?_)) | (refine C_id ?_; first | refine C_seq ?_ | refine C_region ?_ | refine C_ret ?_) | (refine E_id ?_; first | refine E_code ?_ | refine E_ret1 rfl (Rv_tmp rfl) (Ret.mk ?_)))
  exact ⟨_, rfl, hS⟩
end Cr
