/-
  Layer 2 (digest): Write, Fork, Sum.
  Bytes made; lists of byte slices as a resource. Over any program.
  Layer 2 (digest): Sum.
  Layer 2 (digest): Framed.
  bytes.Join (without a separator) and bytes.Equal.
  Layer 4 (wal): big, small, full, front, note.
  Layer 1 (block): what each function of package block does to a disk in memory.
  Layer 1 (block): New, Write, Flush.
  Layer 1 (block): Write, Flush.
  slices.Backward: what the function that it hands back does, round by round.
-/
import Derived.Test.YtooeiknmpndcgaaGreatDoorTnl8
import Derived.Test.YtooeiknmpndcgaaGreatDoorTnl4
import Derived.Test.YtooeiknmpndcgaaGreatDoorTnl3
import Derived.Lib.MakeNoZero
import Derived.Laws.Externs
namespace Cr
open Go Go.Proofs
set_option maxRecDepth 100000
set_option maxHeartbeats 4000000
attribute [local irreducible] Calls

structure Bs where
 a : Option Addr
 c : Nat
 s : List UInt8
def Bs.val (x : Bs) : Value := .slice x.a x.s.length x.c
structure Bss (W : World) (F : Nat → Prop) (a : Option Addr) (l : List Bs) : Prop where
 row : Ro W F (row a (l.map Bs.val))
 all : ∀ x ∈ l, Ro W F (bytes x.a x.s)
def StrM.more (rd fs : List Int) (S : StrM) (l : List UInt8) : StrM := l.foldl (StrM.one rd fs) S
theorem StrM.more_ok {rd fs : List Int} (hf : fs.length = 8) : ∀ {l : List UInt8} {S : StrM}, S.ok → (S.more rd fs l).ok
 | [], _, h => h
 | c :: l, S, h => by
  show (StrM.more rd fs (S.one rd fs c) l).ok
  exact StrM.more_ok (rd := rd) hf (StrM.one_ok (rd := rd) h hf)
theorem StrM.more_n {rd fs : List Int} : ∀ {l : List UInt8} {S : StrM}, (S.more rd fs l).n = S.n + l.length
 | [], _ => rfl
 | c :: l, S => by
  have := StrM.more_n (rd := rd) (fs := fs) (l := l) (S := S.one rd fs c)
  simp only [StrM.more, List.foldl_cons, List.length_cons] at this ⊢
  rw [this]; simp only [StrM.one]; omega
theorem StrM.more_append {rd fs : List Int} {S : StrM} {l m : List UInt8} : S.more rd fs (l ++ m) = (S.more rd fs l).more rd fs m := by simp [StrM.more]
theorem StrM.more_snoc {rd fs : List Int} {S : StrM} {l : List UInt8} {i : Nat} (h : i < l.length) : S.more rd fs (l.take (i + 1)) = (S.more rd fs (l.take i)).one rd fs (l.getD i 0) := by
 rw [List.take_succ_eq_append_getElem h, StrM.more_append]
 simp [StrM.more, List.getD_eq_getElem?_getD, h]
def joined (l : List Bs) : List UInt8 := l.flatMap Bs.s
theorem joined_snoc {l : List Bs} {i : Nat} {x : Bs} (h : l[i]? = some x) : joined (l.take (i + 1)) = joined (l.take i) ++ x.s := by
 obtain ⟨hi, rfl⟩ := List.getElem?_eq_some_iff.1 h
 rw [List.take_succ_eq_append_getElem hi]
 simp only [joined, List.flatMap_append, List.flatMap_cons, List.flatMap_nil, List.append_nil]
theorem joined_take_le (l : List Bs) (i : Nat) : (joined (l.take i)).length ≤ (joined l).length := by
 have : joined l = joined (l.take i) ++ joined (l.drop i) := by unfold joined; rw [← List.flatMap_append, List.take_append_drop]
 rw [this]; simp

theorem dwrite_ (s : Nat) (S : StrM) (a : Option Addr) (c : Nat) (l : List Bs) (rd fs : List Int) (T : TypeId) (W : World) (F : Nat → Prop) (hok : S.ok) (hn : S.n + (joined l).length < 2305843009213693951) (hl : l.length < 2305843009213693951) (hG : Gl W F rd fs)
  (hB : Bss W F a l) (hS : St W F [pts s (.cells S.cells.toArray T)] W) :
  Calls Tryz.prog 201 #[.pointer (some ⟨s, 0, none⟩), .slice a l.length c] W (Ret fun v w => v = .pointer (some ⟨s, 0, none⟩) ∧ St W F [pts s (.cells (S.more rd fs (joined l)).cells.toArray T)] w) := by
 refine calls_C Tryz.func201 rfl Tryz.ntmps201 rfl ?_
 repeat (first | (refine G_id ?_; first | refine G_nil ?_ | refine G_plain rfl rfl ?_) | (refine X_id ?_; first | refine X_yl (Yl_move rfl rfl) rfl rfl ?_ | refine X_yl (Yl_assign rfl rfl) rfl rfl ?_ | refine X_yl (Yl_len rfl rfl) rfl rfl ?_ | refine X_yl (Yl_eqlNil_some rfl rfl rfl) rfl rfl ?_) | (refine C_id ?_; first | refine C_seq ?_ | refine C_region ?_ | refine C_block ?_ | refine C_skip ?_ | refine C_cond_f rfl ?_) | (refine E_id ?_; first | refine E_code ?_))
 refine C_loop (α := Nat) (fun i => [(0, .pointer (some ⟨s, 0, none⟩)), (11, .slice a l.length c), (12, .int .i64 (l.length : Nat)), (13, .int .i64 (i : Nat))])
  (fun i w => i ≤ l.length ∧ St W F [pts s (.cells (S.more rd fs (joined (l.take i))).cells.toArray T)] w) (fun i => l.length - i) 0 ⟨rfl, rfl, rfl, rfl, trivial⟩ ⟨Nat.zero_le _, hS⟩ ?_
 clear hS
 rintro i w ⟨hi, hS⟩
 by_cases hlt : i < l.length
 ·have hx : l[i]? = some l[i] := List.getElem?_eq_getElem hlt
  generalize l[i] = x at hx
  have hxm := List.mem_of_getElem? hx
  have hbx := hB.all x hxm
  have hj := joined_snoc hx
  have hle := joined_take_le l (i + 1)
  rw [hj, List.length_append] at hle
  obtain ⟨ab, ao, rfl⟩ := (hB.row.rd hS).base (by intro e; simp at e; subst e; simp at hlt)
  have hr := hB.row
  replace hx : (l.map Bs.val)[i]? = some (.slice x.a x.s.length x.c) := by simp [hx, Bs.val]
  repeat (first | (refine G_id ?_; first | refine G_nil ?_ | refine G_plain rfl rfl ?_) | (refine X_id ?_; first | refine X_yl (Yl_move rfl rfl) rfl rfl ?_ | refine X_yl (Yl_assign rfl rfl) rfl rfl ?_ | refine X_yl (Yl_len rfl rfl) rfl rfl ?_ | refine X_yl (Yl_lss_t rfl rfl rfl (by omega)) rfl rfl ?_ | refine X_yl (Yl_indexAddr rfl rfl rfl (by omega) (by omega) (by first | assumption | exact ⟨_, _, rfl⟩)) rfl rfl ?_ | refine X_yl (Yl_load rfl rfl ((hr.rd hS).cellX (by omega) hx)) rfl rfl ?_) | (refine C_id ?_; first | refine C_seq ?_ | refine C_region ?_ | refine C_block ?_ | refine C_skip ?_ | refine C_cond_t rfl ?_) | (refine E_id ?_; first | refine E_code ?_))
  refine C_loop (α := Nat) (fun j => [(0, .pointer (some ⟨s, 0, none⟩)), (11, .slice (some ⟨ab, ao, none⟩) l.length c), (12, .int .i64 (l.length : Nat)), (13, .int .i64 (i : Nat)), (17, .slice x.a x.s.length x.c), (18, .int .i64 (x.s.length : Nat)), (19, .int .i64 (j : Nat))])
   (fun j w => j ≤ x.s.length ∧ St W F [pts s (.cells (S.more rd fs (joined (l.take i) ++ x.s.take j)).cells.toArray T)] w) (fun j => x.s.length - j) 0 ⟨rfl, rfl, rfl, rfl, rfl, rfl, rfl, trivial⟩ ⟨Nat.zero_le _, by simpa using hS⟩ ?_
  clear hS
  rintro j w ⟨hj', hS⟩
  by_cases hjl : j < x.s.length
  ·obtain ⟨xb, xo, hxa⟩ := (hbx.rd hS).base (by intro e; have := bv_length x.s; rw [e] at this; simp at this; omega)
   have hb : Ro W F (bytes (some ⟨xb, xo, none⟩) x.s) := hxa ▸ hbx
   rw [hxa]
   repeat (first | (refine G_id ?_; first | refine G_nil ?_ | refine G_plain rfl rfl ?_) | (refine X_id ?_; first | refine X_yl (Yl_move rfl rfl) rfl rfl ?_ | refine X_yl (Yl_assign rfl rfl) rfl rfl ?_ | refine X_yl (Yl_lss_t rfl rfl rfl (by omega)) rfl rfl ?_ | refine X_yl (Yl_indexAddr rfl rfl rfl (by omega) (by omega) (by first | assumption | exact ⟨_, _, rfl⟩)) rfl rfl ?_ | refine X_yl (Yl_load rfl rfl ((hb.rd hS).cellB' (by omega))) rfl rfl ?_) | (refine C_id ?_; first | refine C_seq ?_ | refine C_region ?_ | refine C_block ?_ | refine C_skip ?_ | refine C_cond_t rfl ?_) | (refine E_id ?_; first | refine E_code ?_))
   obtain ⟨S', hSe⟩ : ∃ S', S' = S.more rd fs (joined (l.take i) ++ x.s.take j) := ⟨_, rfl⟩
   have hok' : S'.ok := hSe ▸ StrM.more_ok hG.first8 hok
   have hn' : S'.n < 2305843009213693951 := by rw [hSe, StrM.more_n]; simp; omega
   rw [← hSe] at hS
   obtain ⟨_, hc, hr, hw, hbk⟩ := hS.call [true]
   refine X_callg _ rfl rfl rfl rfl rfl (one_ s S' _ rd fs T _ _ hok' hn' (hG.mono hw) hc) ?_
   rintro _ w ⟨_, hS⟩
   replace hS := hbk hS
   clear hc hr hw hbk
   repeat (first | (refine G_id ?_; first | refine G_nil ?_ | refine G_plain rfl rfl ?_) | (refine X_id ?_; first | refine X_yl (Yl_move rfl rfl) rfl rfl ?_ | refine X_yl (Yl_add rfl rfl rfl (w64 (by omega) (by omega))) rfl rfl ?_) | (refine C_id ?_; first | refine C_region ?_) | (refine E_id ?_; first | refine E_code ?_ | refine E_blk_n ?_))
   refine E_round (j + 1) ⟨rfl, rfl, rfl, rfl, rfl, rfl, rfl, trivial⟩ ⟨by omega, ?_⟩ (by omega)
   rw [StrM.more_append, StrM.more_snoc hjl, ← StrM.more_append, ← hSe]
   rw [show (j : Int).toNat * 1 = j by omega] at hS
   exact hS
  ·obtain rfl : j = x.s.length := by omega
   repeat (first | (refine G_id ?_; first | refine G_nil ?_ | refine G_plain rfl rfl ?_) | (refine X_id ?_; first | refine X_yl (Yl_move rfl rfl) rfl rfl ?_ | refine X_yl (Yl_lss_f rfl rfl rfl (by omega)) rfl rfl ?_ | refine X_yl (Yl_add rfl rfl rfl (w64 (by omega) (by omega))) rfl rfl ?_) | (refine C_id ?_; first | refine C_seq ?_ | refine C_region ?_ | refine C_exit ?_ | refine C_cond_f rfl ?_) | (refine E_id ?_; first | refine E_code ?_ | refine E_then_exit ?_ | refine E_blk_same ?_ | refine E_blk_n ?_))
   refine E_round (i + 1) ⟨rfl, rfl, rfl, rfl, trivial⟩ ⟨by omega, ?_⟩ (by omega)
   rw [hj]
   rw [List.take_length] at hS
   exact hS
 ·obtain rfl : i = l.length := by omega
  rw [List.take_length] at hS
  repeat (first | (refine G_id ?_; first | refine G_nil ?_ | refine G_plain rfl rfl ?_) | (refine X_id ?_; first | refine X_yl (Yl_move rfl rfl) rfl rfl ?_ | refine X_yl (Yl_assign rfl rfl) rfl rfl ?_ | refine X_yl (Yl_lss_f rfl rfl rfl (by omega)) rfl rfl ?_) | (refine C_id ?_; first | refine C_seq ?_ | refine C_region ?_ | refine C_ret ?_ | refine C_exit ?_ | refine C_cond_f rfl ?_) | (refine E_id ?_; first | refine E_code ?_ | refine E_then_exit ?_ | refine E_blk_same ?_ | refine E_ret1 rfl (Rv_tmp rfl) (Ret.mk ?_)))
  exact ⟨rfl, hS⟩

/-! ### Fork -/
def StrM.init : StrM := ⟨List.replicate 8 0, List.replicate 64 0, 0⟩
theorem StrM.init_ok : StrM.init.ok := ⟨by simp [init], by simp [init]⟩
theorem fork_ (s : Nat) (S : StrM) (T : TypeId) (W : World) (hok : S.ok) (hs : Rd W (pts s (.cells S.cells.toArray T))) :
  Calls Tryz.prog 224 #[.pointer (some ⟨s, 0, none⟩)] W (Ret fun v w => ∃ p, v = .pointer (some ⟨p, 0, none⟩) ∧ St W noF [pts p (.cells S.cells.toArray 308)] w) := by
 obtain ⟨H, R, n⟩ := S
 obtain ⟨h8, r64⟩ := hok
 unfold StrM.cells at hs ⊢
 simp only at h8 r64 hs ⊢
 have hl1 : LenO (ints .u32 H) 8 := ⟨by rw [ints_length]; exact h8⟩
 have hl2 : LenO (bv R) 64 := ⟨by simp [r64]⟩
 have hc := hs.ro
 have hS := St.start W
 refine calls_C Tryz.func224 rfl Tryz.ntmps224 rfl ?_
 repeat (first | (refine G_id ?_; first | refine G_nil ?_ | refine G_plain rfl rfl ?_) | (refine X_id ?_; first | refine X_yl (Yl_move rfl rfl) rfl rfl ?_ | refine X_yl (Yl_assign rfl rfl) rfl rfl ?_ | refine X_yl (Yl_nilCheck rfl rfl) rfl rfl ?_ | refine X_yl (Yl_build rfl rfl rfl) rfl rfl ?_ | refine X_yl (Yl_neqNil_some rfl rfl rfl) rfl rfl ?_ | refine X_box rfl rfl rfl rfl hS (fun _ _ hS _ => ?_)) | (refine C_id ?_; first | refine C_seq ?_ | refine C_region ?_ | refine C_cond_t rfl ?_) | (refine E_id ?_; first | refine E_code ?_))
 rename_i bx wx _
 replace hS : St W noF [pts bx (.cells (ints .u32 (List.replicate 8 0) ++ (bv (List.replicate 64 0) ++ [Value.int .i64 0])).toArray 308)] wx := hS
 have hl3 : LenO (ints .u32 (List.replicate 8 0)) 8 := ⟨by rw [ints_length]; simp⟩
 refine X_yl (Yl_loadAgg rfl rfl (CellsAt.of_block (hc.rd hS).pts) (by simp [ints_length, h8, r64])) rfl rfl ?_
 repeat (first | (refine G_id ?_; first | refine G_nil ?_ | refine G_plain rfl rfl ?_) | (refine X_id ?_; first | refine X_yl (Yl_move rfl rfl) rfl rfl ?_ | refine X_yl (Yl_assign rfl rfl) rfl rfl ?_ | refine X_yl (Yl_nilCheck rfl rfl) rfl rfl ?_ | refine X_storeAll rfl rfl rfl rfl hS (fun _ hS => ?_)) | (refine C_id ?_; first | refine C_seq ?_ | refine C_region ?_ | refine C_ret ?_) | (refine E_id ?_; first | refine E_code ?_ | refine E_ret1 rfl (Rv_tmp rfl) (Ret.mk ?_)))
 exact ⟨_, rfl, hS⟩
end Cr
namespace Cr
open Go
set_option maxRecDepth 10000
section
variable {P : Program} {o : Oper} {σ : Env} {w : World} {x y : Operand} {t ty e : TypeId} {N : Nat} {ds : Md} {K : Env → World → Prop}
theorem X_makeB {T bytes d c : Nat} {k k' : IntKind} {W : World} {F : Nat → Prop} {rs : List Res} (ho : o.op = .makeSlice t x y) (hx : ev σ x = some (.int k (c : Nat))) (hy : ev σ y = some (.int k' (c : Nat)))
  [h : Und P t (.slice T)] [hi : Inf P T (.int .u8 0) 1 bytes] (hb : bytes * c ≤ 281474976710656) (hm : c ≤ 9223372036854775807) (hd : o.dst = some d) (hN : Nat.blt d N = true) (hS : St W F rs w)
  (hk : ∀ b w', St W F (pts b (.cells (bv (List.replicate c 0)).toArray T) :: rs) w' → K ((d, .slice (some ⟨b, 0, none⟩) c c) :: σ) w') : X P o N ds σ w K :=
 X_make ho hx hy (by omega) (Int.le_refl _) (by rw [← Int.natCast_mul]; omega) (by omega) hd hN hS fun b w' hS' _ => hk b w' (by
  have e1 : (Value.int .u8 0).cells = #[Value.int .u8 0] := rfl
  rw [e1, madeCells_one, Int.toNat_natCast, Nat.mul_one, bv_rep] at hS'
  exact hS')
theorem X_storeBA {N : Nat} {ds : Md} {K : Env → World → Prop} {b off j : Nat} {c : UInt8} {L : List UInt8} {T : TypeId} {W : World} {F : Nat → Prop} {rs rs' : List Res} (ho : o.op = .store t x y) (hx : ev σ x = some (.pointer (some (adr (some ⟨b, off, none⟩) j)))) (hy : ev σ y = some (.int .u8 (c.toNat : Int))) [hs : Siz P t 1]
  (hd : o.dst = none) (hS : St W F rs w) [hh : Has rs b (.cells (bv L).toArray T (0, 0))] (hfit : off + j < L.length) [hu : Upd rs b (.cells (bv (L.set (off + j) c)).toArray T (0, 0)) rs']
  (h : ∀ w', St W F rs' w' → K σ w') : X P o N ds σ w K := X_storeB (off := off + j) ho hx hy hd hS hfit h
end
def rds (l : List Bs) : Res := Sep (l.map fun x => bytes x.a x.s)
theorem St.rdsNil {W : World} {F : Nat → Prop} {rs : List Res} {w : World} (hS : St W F rs w) : St W F (rds [] :: rs) w := by
 obtain ⟨h, hs, s⟩ := hS
 exact ⟨h, ⟨fun _ => none, h, fun _ => rfl, hs, fun _ => .inl rfl, fun _ => by simp⟩, s⟩
theorem St.rdsCons {W : World} {F : Nat → Prop} {rs : List Res} {w : World} {x : Bs} {l : List Bs} (hS : St W F (bytes x.a x.s :: rds l :: rs) w) : St W F (rds (l ++ [x]) :: rs) w := by
 obtain ⟨h, hs, s⟩ := hS
 refine ⟨h, ?_, s⟩
 obtain ⟨h1, h2, a, ⟨h3, h4, b, c, d', u'⟩, d, u⟩ := hs
 refine ⟨fun k => (h1 k).or (h3 k), h4, ?_, c, fun k => ?_, fun k => ?_⟩
 ·have : Sep (bytes x.a x.s :: (l.map fun x => bytes x.a x.s)) (fun k => (h1 k).or (h3 k)) := ⟨h1, h3, a, b, fun k => by
   rcases d k with e | e
   ·exact .inl e
   ·rw [u'] at e; simp at e; exact .inr e.1, fun _ => rfl⟩
  have p : (bytes x.a x.s :: (l.map fun x => bytes x.a x.s)).Perm ((l ++ [x]).map fun x => bytes x.a x.s) := by
   rw [List.map_append]; exact (List.perm_append_comm (l₁ := [bytes x.a x.s]) (l₂ := l.map fun x => bytes x.a x.s))
  exact Sep.perm p _ this
 ·rcases d k with e | e
  ·rcases d' k with e' | e'
   ·left; simp [e, e']
   ·exact .inr e'
  ·rw [u'] at e; simp at e; exact .inr e.2
 ·rw [u, u']; cases e1 : h1 k <;> simp [e1]
theorem Ro.sep {W : World} {F : Nat → Prop} {rs : List Res} (H : Ro W F (Sep rs)) : ∀ r ∈ rs, Ro W F r := by
 obtain ⟨f, hs, ha⟩ := H
 induction rs generalizing f with
 | nil => intro r hr; cases hr
 | cons x rs ih =>
  obtain ⟨h1, h2, hx, hrs, hd, hu⟩ := hs
  have s1 : ∀ b o, h1 b = some o → f b = some o := fun b o e => by rw [hu, e]; rfl
  have s2 : ∀ b o, h2 b = some o → f b = some o := fun b o e => by
   rw [hu]; rcases hd b with e' | e'
   ·simp [e', e]
   ·rw [e] at e'; simp at e'
  intro r hr
  cases hr with
  | head => exact ⟨h1, hx, fun b o e => ha b o (s1 b o e)⟩
  | tail _ hr => exact ih h2 hrs (fun b o e => ha b o (s2 b o e)) r hr
theorem Ro.rds {W : World} {F : Nat → Prop} {l : List Bs} (H : Ro W F (rds l)) : ∀ x ∈ l, Ro W F (bytes x.a x.s) := fun x hx => Ro.sep H _ (List.mem_map.2 ⟨x, hx, rfl⟩)
end Cr
namespace Cr
open Go Go.Proofs
set_option maxRecDepth 100000
set_option maxHeartbeats 4000000
attribute [local irreducible] Calls

theorem St.total {W : World} {F : Nat → Prop} {rs : List Res} {w : World} {b : Nat} {S : StrM} {T : TypeId} (hS : St W F rs w) [hh : Has rs b (.cells S.cells.toArray T (0, 0))] (hok : S.ok) : w.cell? ⟨b, 72, none⟩ = some (.int .i64 (S.n : Nat)) := by
 rw [cell_of_row w b 72 _ T (0, 0) hS.has]
 have h1 : (ints .u32 S.H).length = 8 := by rw [ints_length]; exact hok.h8
 have h2 : (bv S.R).length = 64 := by rw [bv_length]; exact hok.r64
 simp only [StrM.cells, List.getElem?_toArray]
 rw [List.getElem?_append_right (by omega), List.getElem?_append_right (by omega), h1, h2]
 rfl
def lenAt (n : Nat) (i : Nat) : UInt8 := b8 (ishr .u64 (IntKind.u64.wrap (IntKind.u64.wrap n * 8)) (8 * (7 - i)))
def lenB (n : Nat) : Nat → List UInt8
 | 0 => []
 | i + 1 => lenB n i ++ [lenAt n i]
def gap (n : Nat) : Nat := (119 - n % 64) % 64
def padB (n : Nat) : List UInt8 := 128 :: List.replicate (gap n) 0 ++ lenB n 8
def StrM.sum (rd fs : List Int) (S : StrM) : List UInt8 := outB (S.more rd fs (padB S.n)).H
theorem StrM.more_one {rd fs : List Int} {S : StrM} {l : List UInt8} {c : UInt8} : (S.more rd fs l).one rd fs c = S.more rd fs (l ++ [c]) := by simp [StrM.more]
theorem sum_ (s : Nat) (S : StrM) (rd fs : List Int) (T : TypeId) (W : World) (hok : S.ok) (hn : S.n < 1152921504606846976) (hG : Gl W noF rd fs) (hs : Rd W (pts s (.cells S.cells.toArray T))) :
  Calls Tryz.prog 202 #[.pointer (some ⟨s, 0, none⟩)] W (Ret fun v w => v = .agg (bv (S.sum rd fs)).toArray ∧ St W noF [] w) := by
 have hS := St.start W
 have hso := hs.ro
 have hf := hG.first8
 have key : ∀ l : List UInt8, l.length ≤ 100 → (S.more rd fs l).n < 2305843009213693951 := fun l hl => by rw [StrM.more_n]; omega
 refine calls_C Tryz.func202 rfl Tryz.ntmps202 rfl ?_
 repeat (first | (refine G_id ?_; first | refine G_nil ?_ | refine G_plain rfl rfl ?_) | (refine X_id ?_; first | refine X_yl (Yl_move rfl rfl) rfl rfl ?_ | refine X_alloc rfl rfl rfl hS (fun _ _ hS _ => ?_)) | (refine C_id ?_; first | refine C_seq ?_ | refine C_region ?_) | (refine E_id ?_; first | refine E_code ?_))
 rename_i b2 _ _
 rw [bv_rep] at hS
 refine X_callg _ rfl rfl rfl rfl rfl (fork_ s S T _ hok (hso.rd hS)) ?_
 rintro _ w ⟨p, rfl, hS'⟩
 replace hS := hS.plus hS'
 clear hS'
 repeat (first | (refine G_id ?_; first | refine G_nil ?_ | refine G_plain rfl rfl ?_) | (refine X_id ?_; first | refine X_yl (Yl_move rfl rfl) rfl rfl ?_ | refine X_yl (Yl_assign rfl rfl) rfl rfl ?_ | refine X_yl (Yl_nilCheck rfl rfl) rfl rfl ?_ | refine X_yl (Yl_fieldAddr0 rfl rfl rfl) rfl rfl ?_) | (refine C_id ?_; first | refine C_seq ?_ | refine C_region ?_) | (refine E_id ?_; first | refine E_code ?_))
 refine X_yl (Yl_load rfl rfl (hS.total hok)) rfl rfl ?_
 repeat (first | (refine G_id ?_; first | refine G_nil ?_ | refine G_plain rfl rfl ?_) | (refine X_id ?_; first | refine X_yl (Yl_move rfl rfl) rfl rfl ?_ | refine X_yl (Yl_assign rfl rfl) rfl rfl ?_) | (refine C_id ?_; first | refine C_seq ?_ | refine C_region ?_) | (refine E_id ?_; first | refine E_code ?_))
 obtain ⟨_, hc, hr, hw, hbk⟩ := hS.call [true, false]
 refine X_callg _ rfl rfl rfl rfl rfl (one_ p S 128 rd fs _ _ _ hok (by omega) (hG.mono hw) hc) ?_
 rintro _ w ⟨_, hS⟩
 replace hS := hbk hS
 clear hc hr hw hbk
 repeat (first | (refine G_id ?_; first | refine G_nil ?_) | (refine C_id ?_; first | refine C_seq ?_ | refine C_block ?_) | (refine E_id ?_; first | refine E_code ?_))
 refine C_loop (α := Nat) (fun k => [(2, .pointer (some ⟨b2, 0, none⟩)), (3, .pointer (some ⟨p, 0, none⟩)), (4, .int .i64 (S.n : Nat))])
  (fun k w => k ≤ gap S.n ∧ St W noF [pts p (.cells (S.more rd fs (128 :: List.replicate k 0)).cells.toArray 308), pts b2 (.cells (bv (List.replicate 32 0)).toArray 252)] w) (fun k => gap S.n - k) 0 ⟨rfl, rfl, rfl, trivial⟩ ⟨Nat.zero_le _, hS⟩ ?_
 clear hS
 rintro k w ⟨hk, hS⟩
 have hg64 : gap S.n < 64 := by unfold gap; omega
 obtain ⟨S', hSe⟩ : ∃ S', S' = S.more rd fs (128 :: List.replicate k 0) := ⟨_, rfl⟩
 have hok' : S'.ok := hSe ▸ StrM.more_ok hf hok
 have hn' : S'.n = S.n + 1 + k := by rw [hSe, StrM.more_n]; simp; omega
 rw [← hSe] at hS
 by_cases hkk : k < gap S.n
 ·have h56 : ((S'.n : Int) % 64 = 56) = False := by
   have : ¬ (S'.n : Int) % 64 = 56 := by unfold gap at hkk; omega
   simp [this]
  have h56' : ¬ (S'.n : Int) % 64 = 56 := by rw [h56]; exact id
  clear h56
  repeat (first | (refine G_id ?_; first | refine G_plain rfl rfl ?_) | (refine X_id ?_; first | refine X_yl (Yl_move rfl rfl) rfl rfl ?_ | refine X_yl (Yl_nilCheck rfl rfl) rfl rfl ?_ | refine X_yl (Yl_fieldAddr0 rfl rfl rfl) rfl rfl ?_) | (refine C_id ?_; first | refine C_seq ?_ | refine C_region ?_))
  refine X_yl (Yl_load rfl rfl (hS.total hok')) rfl rfl ?_
  repeat (first | (refine G_id ?_; first | refine G_nil ?_ | refine G_plain rfl rfl ?_) | (refine X_id ?_; first | refine X_yl (Yl_move rfl rfl) rfl rfl ?_ | refine X_yl (Yl_neq_t rfl rfl rfl (by omega)) rfl rfl ?_ | refine X_yl (Yl_remE rfl rfl rfl (by omega) (by omega)) rfl rfl ?_) | (refine C_id ?_; first | refine C_region ?_ | refine C_block ?_ | refine C_skip ?_ | refine C_cond_t rfl ?_) | (refine E_id ?_; first | refine E_code ?_))
  obtain ⟨_, hc, hr, hw, hbk⟩ := hS.call [true, false]
  refine X_callg _ rfl rfl rfl rfl rfl (one_ p S' 0 rd fs _ _ _ hok' (by omega) (hG.mono hw) hc) ?_
  rintro _ w ⟨_, hS⟩
  replace hS := hbk hS
  clear hc hr hw hbk
  repeat (first | (refine G_id ?_; first | refine G_nil ?_) | (refine E_id ?_; first | refine E_blk_n ?_))
  refine E_round (k + 1) ⟨rfl, rfl, rfl, trivial⟩ ⟨by omega, ?_⟩ (by omega)
  rw [hSe, StrM.more_one] at hS
  rw [show (128 :: List.replicate (k + 1) 0 : List UInt8) = 128 :: List.replicate k 0 ++ [0] by simp [List.replicate_succ']]
  exact hS
 ·obtain rfl : k = gap S.n := by omega
  have h56 : (S'.n : Int) % 64 = 56 := by unfold gap at hn'; omega
  repeat (first | (refine G_id ?_; first | refine G_plain rfl rfl ?_) | (refine X_id ?_; first | refine X_yl (Yl_move rfl rfl) rfl rfl ?_ | refine X_yl (Yl_nilCheck rfl rfl) rfl rfl ?_ | refine X_yl (Yl_fieldAddr0 rfl rfl rfl) rfl rfl ?_) | (refine C_id ?_; first | refine C_seq ?_ | refine C_region ?_))
  refine X_yl (Yl_load rfl rfl (hS.total hok')) rfl rfl ?_
  repeat (first | (refine G_id ?_; first | refine G_nil ?_ | refine G_plain rfl rfl ?_) | (refine X_id ?_; first | refine X_yl (Yl_move rfl rfl) rfl rfl ?_ | refine X_yl (Yl_neq_f rfl rfl rfl (by omega)) rfl rfl ?_ | refine X_yl (Yl_remE rfl rfl rfl (by omega) (by omega)) rfl rfl ?_) | (refine C_id ?_; first | refine C_seq ?_ | refine C_region ?_ | refine C_block ?_ | refine C_exit ?_ | refine C_cond_f rfl ?_) | (refine E_id ?_; first | refine E_code ?_ | refine E_then_exit ?_ | refine E_blk_same ?_))
  rw [hSe] at hS
  clear hSe hok' hn' h56
  refine C_loop (α := Nat) (fun i => [(2, .pointer (some ⟨b2, 0, none⟩)), (3, .pointer (some ⟨p, 0, none⟩)), (4, .int .i64 (S.n : Nat)), (22, .int .i64 (i : Nat))])
   (fun i w => i ≤ 8 ∧ St W noF [pts p (.cells (S.more rd fs (128 :: List.replicate (gap S.n) 0 ++ lenB S.n i)).cells.toArray 308), pts b2 (.cells (bv (List.replicate 32 0)).toArray 252)] w) (fun i => 8 - i) 0 ⟨rfl, rfl, rfl, rfl, trivial⟩ ⟨Nat.zero_le _, by simpa [lenB] using hS⟩ ?_
  clear hS
  rintro i w ⟨hi, hS⟩
  have hlen : ∀ i, (lenB S.n i).length = i := fun i => by
   induction i with
   | zero => rfl
   | succ i ih => simp [lenB, ih]
  obtain ⟨S', hSe⟩ : ∃ S', S' = S.more rd fs (128 :: List.replicate (gap S.n) 0 ++ lenB S.n i) := ⟨_, rfl⟩
  have hok' : S'.ok := hSe ▸ StrM.more_ok hf hok
  have hn' : S'.n < 2305843009213693951 := by rw [hSe]; exact key _ (by simp [hlen]; omega)
  rw [← hSe] at hS
  by_cases h8 : i < 8
  ·repeat (first | (refine G_id ?_; first | refine G_nil ?_ | refine G_plain rfl rfl ?_) | (refine X_id ?_; first | refine X_yl (Yl_move rfl rfl) rfl rfl ?_ | refine X_yl (Yl_assign rfl rfl) rfl rfl ?_ | refine X_yl (Yl_lss_t rfl rfl rfl (by omega)) rfl rfl ?_ | refine X_yl (Yl_sub rfl rfl rfl (w64 (by omega) (by omega))) rfl rfl ?_ | refine X_yl (Yl_mul rfl rfl rfl (w64 (by omega) (by omega))) rfl rfl ?_ | refine X_yl (Yl_mul rfl rfl rfl rfl) rfl rfl ?_ | refine X_yl (Yl_convU8 rfl rfl) rfl rfl ?_ | refine X_yl (Yl_convInt rfl rfl rfl) rfl rfl ?_ | refine X_yl (Yl_shr rfl rfl rfl (by omega)) rfl rfl ?_) | (refine C_id ?_; first | refine C_seq ?_ | refine C_region ?_ | refine C_block ?_ | refine C_skip ?_ | refine C_cond_t rfl ?_) | (refine E_id ?_; first | refine E_code ?_))
   obtain ⟨_, hc, hr, hw, hbk⟩ := hS.call [true, false]
   refine X_callg _ rfl rfl rfl rfl rfl (one_ p S' _ rd fs _ _ _ hok' hn' (hG.mono hw) hc) ?_
   rintro _ w ⟨_, hS⟩
   replace hS := hbk hS
   clear hc hr hw hbk
   repeat (first | (refine G_id ?_; first | refine G_nil ?_ | refine G_plain rfl rfl ?_) | (refine X_id ?_; first | refine X_yl (Yl_move rfl rfl) rfl rfl ?_ | refine X_yl (Yl_add rfl rfl rfl (w64 (by omega) (by omega))) rfl rfl ?_) | (refine C_id ?_; first | refine C_region ?_) | (refine E_id ?_; first | refine E_code ?_ | refine E_blk_n ?_))
   refine E_round (i + 1) ⟨rfl, rfl, rfl, rfl, trivial⟩ ⟨by omega, ?_⟩ (by omega)
   rw [hSe, StrM.more_one] at hS
   simp only [lenB, ← List.append_assoc]
   rw [show (8 * (7 - (i : Int))).toNat = 8 * (7 - i) by omega] at hS
   exact hS
  ·obtain rfl : i = 8 := by omega
   have hlen32 : LenO (bv (outB S'.H)) 32 := ⟨by rw [bv_length]; exact outB_length _⟩
   repeat (first | (refine G_id ?_; first | refine G_nil ?_ | refine G_plain rfl rfl ?_) | (refine X_id ?_; first | (refine X_callq 225 rfl rfl rfl rfl rfl hS (bytes_ p S'.H _ 308 _ hok'.h8 (hS.rd (List.mem_cons_self ..))) ?_; rintro _ _ rfl hS) | refine X_yl (Yl_move rfl rfl) rfl rfl ?_ | refine X_yl (Yl_nilCheck rfl rfl) rfl rfl ?_ | refine X_yl (Yl_fieldAddr0 rfl rfl rfl) rfl rfl ?_ | refine X_yl (Yl_lss_f rfl rfl rfl (by omega)) rfl rfl ?_ | refine X_storeAll rfl rfl rfl rfl hS (fun _ hS => ?_)) | (refine C_id ?_; first | refine C_seq ?_ | refine C_region ?_ | refine C_ret ?_ | refine C_exit ?_ | refine C_cond_f rfl ?_) | (refine E_id ?_; first | refine E_code ?_ | refine E_then_exit ?_ | refine E_blk_same ?_ | refine E_ret1 rfl (by first | exact Rv_tmp rfl | exact Rv_cell rfl (run_load1 hS.cell) | exact Rv_cell rfl (run_loadN hS.cellsN)) (Ret.mk ?_)))
   refine ⟨?_, hS.drops⟩
   rw [hSe]
   rfl
end Cr
namespace Cr
open Go Go.Proofs
set_option maxRecDepth 100000
set_option maxHeartbeats 4000000
attribute [local irreducible] Calls

def frameAt (n : Nat) (i : Nat) : UInt8 := b8 (ishr .i64 n (8 * (3 - i)))
def frameTo (n : Nat) : Nat → List UInt8
 | 0 => List.replicate 4 0
 | i + 1 => (frameTo n i).set i (frameAt n i)
theorem frameTo_length (n : Nat) : ∀ i, (frameTo n i).length = 4
 | 0 => by simp [frameTo]
 | i + 1 => by simp [frameTo, frameTo_length n i]
def frameB (n : Nat) : List UInt8 := frameTo n 4
theorem frameB_length (n : Nat) : (frameB n).length = 4 := frameTo_length n 4
def framed (l : List (List UInt8)) : List UInt8 := l.flatMap fun s => frameB s.length ++ s
theorem framed_snoc {l : List (List UInt8)} {i : Nat} {x : List UInt8} (h : l[i]? = some x) : framed (l.take (i + 1)) = framed (l.take i) ++ (frameB x.length ++ x) := by
 obtain ⟨hi, rfl⟩ := List.getElem?_eq_some_iff.1 h
 rw [List.take_succ_eq_append_getElem hi]
 simp only [framed, List.flatMap_append, List.flatMap_cons, List.flatMap_nil, List.append_nil]
theorem framed_take_le (l : List (List UInt8)) (i : Nat) : (framed (l.take i)).length ≤ (framed l).length := by
 have : framed l = framed (l.take i) ++ framed (l.drop i) := by unfold framed; rw [← List.flatMap_append, List.take_append_drop]
 rw [this]; simp
def digest (rd fs : List Int) (l : List (List UInt8)) : List UInt8 := (StrM.init.more rd fs (framed l)).sum rd fs
theorem digest_length (rd fs : List Int) (l : List (List UInt8)) : (digest rd fs l).length = 32 := by unfold digest StrM.sum; exact outB_length _
attribute [irreducible] digest
def texts (l : List Bs) : List (List UInt8) := l.map Bs.s
theorem framed_ (a : Option Addr) (c : Nat) (l : List Bs) (rd fs : List Int) (W : World) (hn : (framed (texts l)).length < 1152921504606846976) (hl : l.length < 2305843009213693951) (hG : Gl W noF rd fs) (hB : Bss W noF a l) :
  Calls Tryz.prog 172 #[.slice a l.length c] W (Ret fun v w => v = .agg (bv (digest rd fs (texts l))).toArray ∧ St W noF [] w) := by
 have hS := St.start W
 have hf := hG.first8
 refine calls_C Tryz.func172 rfl Tryz.ntmps172 rfl ?_
 repeat (first | (refine G_id ?_; first | refine G_nil ?_ | refine G_plain rfl rfl ?_) | (refine X_id ?_; first | refine X_yl (Yl_move rfl rfl) rfl rfl ?_ | refine X_yl (Yl_assign rfl rfl) rfl rfl ?_ | refine X_yl (Yl_len rfl rfl) rfl rfl ?_ | refine X_yl (Yl_build rfl rfl rfl) rfl rfl ?_ | refine X_box rfl rfl rfl rfl hS (fun _ _ hS _ => ?_) | refine X_alloc rfl rfl rfl hS (fun _ _ hS _ => ?_)) | (refine C_id ?_; first | refine C_seq ?_ | refine C_region ?_ | refine C_block ?_) | (refine E_id ?_; first | refine E_code ?_))
 rename_i b2 _ _ _ p wp _
 rw [bv_rep] at hS
 replace hS : St W noF [pts p (.cells StrM.init.cells.toArray 308), pts b2 (.cells (bv (List.replicate 32 0)).toArray 252)] wp := hS
 refine C_loop (α := Nat) (fun i => [(2, .pointer (some ⟨b2, 0, none⟩)), (3, .pointer (some ⟨p, 0, none⟩)), (10, .slice a l.length c), (11, .int .i64 (l.length : Nat)), (12, .int .i64 (i : Nat))])
  (fun i w => i ≤ l.length ∧ St W noF [pts p (.cells (StrM.init.more rd fs (framed ((texts l).take i))).cells.toArray 308), pts b2 (.cells (bv (List.replicate 32 0)).toArray 252)] w) (fun i => l.length - i) 0 ⟨rfl, rfl, rfl, rfl, rfl, trivial⟩ ⟨Nat.zero_le _, hS⟩ ?_
 clear hS
 rintro i w ⟨hi, hS⟩
 have hle := framed_take_le (texts l) i
 obtain ⟨S', hSe⟩ : ∃ S', S' = StrM.init.more rd fs (framed ((texts l).take i)) := ⟨_, rfl⟩
 have hok' : S'.ok := hSe ▸ StrM.more_ok hf StrM.init_ok
 have hn' : S'.n = (framed ((texts l).take i)).length := by rw [hSe, StrM.more_n]; simp [StrM.init]
 rw [← hSe] at hS
 by_cases hlt : i < l.length
 ·have hx0 : l[i]? = some l[i] := List.getElem?_eq_getElem hlt
  generalize l[i] = x at hx0
  have hxm := List.mem_of_getElem? hx0
  have hbx := hB.all x hxm
  have hj := framed_snoc (l := texts l) (i := i) (x := x.s) (by simp [texts, hx0])
  have hle1 := framed_take_le (texts l) (i + 1)
  rw [hj, List.length_append, List.length_append, frameB_length] at hle1
  obtain ⟨ab, ao, rfl⟩ := (hB.row.rd hS).base (by intro e; simp at e; subst e; simp at hlt)
  have hr := hB.row
  have hx : (l.map Bs.val)[i]? = some (.slice x.a x.s.length x.c) := by simp [hx0, Bs.val]
  repeat (first | (refine G_id ?_; first | refine G_nil ?_ | refine G_plain rfl rfl ?_) | (refine X_id ?_; first | refine X_yl (Yl_move rfl rfl) rfl rfl ?_ | refine X_yl (Yl_assign rfl rfl) rfl rfl ?_ | refine X_yl (Yl_lss_t rfl rfl rfl (by omega)) rfl rfl ?_ | refine X_yl (Yl_indexAddr rfl rfl rfl (by omega) (by omega) (by first | assumption | exact ⟨_, _, rfl⟩)) rfl rfl ?_ | refine X_yl (Yl_load rfl rfl ((hr.rd hS).cellX (by omega) hx)) rfl rfl ?_ | refine X_alloc rfl rfl rfl hS (fun _ _ hS _ => ?_)) | (refine C_id ?_; first | refine C_seq ?_ | refine C_region ?_ | refine C_block ?_ | refine C_skip ?_ | refine C_cond_t rfl ?_) | (refine E_id ?_; first | refine E_code ?_))
  rename_i b6 _ _
  refine C_loop (α := Nat) (fun j => [(2, .pointer (some ⟨b2, 0, none⟩)), (3, .pointer (some ⟨p, 0, none⟩)), (10, .slice (some ⟨ab, ao, none⟩) l.length c), (11, .int .i64 (l.length : Nat)), (12, .int .i64 (i : Nat)), (5, .slice x.a x.s.length x.c), (6, .pointer (some ⟨b6, 0, none⟩)), (16, .int .i64 (j : Nat))])
   (fun j w => j ≤ 4 ∧ St W noF [pts b6 (.cells (bv (frameTo x.s.length j)).toArray 309), pts p (.cells S'.cells.toArray 308), pts b2 (.cells (bv (List.replicate 32 0)).toArray 252)] w) (fun j => 4 - j) 0 ⟨rfl, rfl, rfl, rfl, rfl, rfl, rfl, rfl, trivial⟩ ⟨Nat.zero_le _, hS⟩ ?_
  clear hS
  rintro j w ⟨hj4, hS⟩
  obtain ⟨B, hBe⟩ : ∃ B, B = frameTo x.s.length j := ⟨_, rfl⟩
  have hBl : B.length = 4 := by rw [hBe]; exact frameTo_length _ _
  rw [← hBe] at hS
  by_cases hj : j < 4
  ·repeat (first | (refine G_id ?_; first | refine G_nil ?_ | refine G_plain rfl rfl ?_) | (refine X_id ?_; first | refine X_yl (Yl_move rfl rfl) rfl rfl ?_ | refine X_yl (Yl_assign rfl rfl) rfl rfl ?_ | refine X_yl (Yl_len rfl rfl) rfl rfl ?_ | refine X_yl (Yl_lss_t rfl rfl rfl (by omega)) rfl rfl ?_ | refine X_yl (Yl_indexAddr_arr rfl rfl rfl (by omega) (by omega)) rfl rfl ?_ | refine X_yl (Yl_add rfl rfl rfl (w64 (by omega) (by omega))) rfl rfl ?_ | refine X_yl (Yl_sub rfl rfl rfl (w64 (by omega) (by omega))) rfl rfl ?_ | refine X_yl (Yl_mul rfl rfl rfl (w64 (by omega) (by omega))) rfl rfl ?_ | refine X_yl (Yl_convU8 rfl rfl) rfl rfl ?_ | refine X_yl (Yl_shr rfl rfl rfl (by omega)) rfl rfl ?_ | refine X_storeB rfl rfl rfl rfl hS (by omega) (fun _ hS => ?_)) | (refine C_id ?_; first | refine C_seq ?_ | refine C_region ?_ | refine C_block ?_ | refine C_skip ?_ | refine C_cond_t rfl ?_) | (refine E_id ?_; first | refine E_code ?_ | refine E_blk_n ?_))
   refine E_round (j + 1) ⟨rfl, rfl, rfl, rfl, rfl, rfl, rfl, rfl, trivial⟩ ⟨by omega, ?_⟩ (by omega)
   simp only [frameTo, frameAt]
   rw [← hBe]
   rw [show (8 * (3 - (j : Int))).toNat = 8 * (3 - j) by omega, show 0 + (j : Int).toNat * 1 = j by omega] at hS
   exact hS
  ·obtain rfl : j = 4 := by omega
   repeat (first | (refine G_id ?_; first | refine G_nil ?_ | refine G_plain rfl rfl ?_) | (refine X_id ?_; first | refine X_yl (Yl_move rfl rfl) rfl rfl ?_ | refine X_yl (Yl_lss_f rfl rfl rfl (by omega)) rfl rfl ?_ | refine X_yl (Yl_slice_arr rfl rfl) rfl rfl ?_ | refine X_buildSlice rfl rfl rfl rfl rfl rfl rfl rfl hS (fun _ _ hS _ => ?_)) | (refine C_id ?_; first | refine C_seq ?_ | refine C_region ?_ | refine C_exit ?_ | refine C_cond_f rfl ?_) | (refine E_id ?_; first | refine E_code ?_ | refine E_then_exit ?_ | refine E_blk_same ?_))
   rename_i nb wb _
   obtain ⟨_, hc, hr, hw, hbk⟩ := hS.call [false, false, true]
   have hBs : Bss wb _ (some ⟨nb, 0, none⟩) [⟨some ⟨b6, 0, none⟩, 4, B⟩, x] := ⟨by
    have := (hr _ (List.mem_cons_self ..)).own_row
    simpa [Bs.val, hBl] using this, fun y hy => by
    simp only [List.mem_cons, List.not_mem_nil, or_false] at hy
    rcases hy with rfl | rfl
    ·exact (hr _ (List.mem_cons_of_mem _ (List.mem_cons_self ..))).mono fun h hh => ⟨h, row_pts_at (n := 4) (by simp [← bv_length, ← hBl]) h hh, fun _ _ e => e⟩
    ·exact hw _ hbx⟩
   refine X_callg _ rfl rfl rfl rfl rfl (dwrite_ p S' _ _ _ rd fs _ _ _ hok' (by simp [joined, hBl]; omega) (by simp) (hG.mono hw) hBs hc) ?_
   rintro _ w ⟨rfl, hS⟩
   replace hS := hbk hS
   clear hc hr hw hbk hBs
   repeat (first | (refine G_id ?_; first | refine G_nil ?_ | refine G_plain rfl rfl ?_) | (refine X_id ?_; first | refine X_yl (Yl_move rfl rfl) rfl rfl ?_ | refine X_yl (Yl_add rfl rfl rfl (w64 (by omega) (by omega))) rfl rfl ?_) | (refine C_id ?_; first | refine C_region ?_) | (refine E_id ?_; first | refine E_code ?_ | refine E_blk_n ?_))
   refine E_round (i + 1) ⟨rfl, rfl, rfl, rfl, rfl, trivial⟩ ⟨by omega, ?_⟩ (by omega)
   have hS := hS.pick [0, 2]
   rw [framed_snoc (x := x.s) (by simp [texts, hx0]), StrM.more_append, ← hSe]
   rw [show joined [⟨some ⟨b6, 0, none⟩, 4, B⟩, x] = frameB x.s.length ++ x.s by rw [hBe]; simp [joined, frameB]] at hS
   exact hS
 ·obtain rfl : i = l.length := by omega
  have hlen32 : LenO (bv (S'.sum rd fs)) 32 := ⟨by rw [bv_length]; exact outB_length _⟩
  repeat (first | (refine G_id ?_; first | refine G_nil ?_ | refine G_plain rfl rfl ?_) | (refine X_id ?_; first | (refine X_callq 202 rfl rfl rfl rfl rfl hS (sum_ p S' rd fs 308 _ hok' (by omega) (hG.mono fun r hr => (hr.rd hS).ro) (hS.rd (List.mem_cons_self ..))) ?_; rintro _ _ rfl hS) | refine X_yl (Yl_move rfl rfl) rfl rfl ?_ | refine X_yl (Yl_lss_f rfl rfl rfl (by omega)) rfl rfl ?_ | refine X_storeAll rfl rfl rfl rfl hS (fun _ hS => ?_)) | (refine C_id ?_; first | refine C_seq ?_ | refine C_region ?_ | refine C_ret ?_ | refine C_exit ?_ | refine C_cond_f rfl ?_) | (refine E_id ?_; first | refine E_code ?_ | refine E_then_exit ?_ | refine E_blk_same ?_ | refine E_ret1 rfl (by first | exact Rv_tmp rfl | exact Rv_cell rfl (run_load1 hS.cell) | exact Rv_cell rfl (run_loadN hS.cellsN)) (Ret.mk ?_)))
  refine ⟨?_, hS.drops⟩
  rw [hSe, show (texts l).take l.length = texts l from List.take_of_length_le (by simp [texts])]
  unfold digest
  rfl
end Cr
namespace Cr
open Go Go.Proofs
set_option maxRecDepth 100000
set_option maxHeartbeats 4000000
attribute [local irreducible] Calls

theorem equal_ (a b : Option Addr) (n m c c' : Nat) (s t : List UInt8) (W : World) (ha : Rd W (bytes a s)) (hb : Rd W (bytes b t)) (hn : s.length = n) (hm : t.length = m) :
  Calls Tryz.prog 100 #[.slice a n c, .slice b m c'] W (Ret fun v w => v = .bool (decide (s = t)) ∧ W = w) := by
 refine calls_C Tryz.func100 rfl Tryz.ntmps100 rfl ?_
 repeat (first | (refine G_id ?_; first | refine G_nil ?_ | refine G_plain rfl rfl ?_) | (refine X_id ?_; first | refine X_yl (Yl_move rfl rfl) rfl rfl ?_ | refine X_yl (Yl_assign rfl rfl) rfl rfl ?_) | (refine C_id ?_; first | refine C_seq ?_ | refine C_region ?_) | (refine E_id ?_; first | refine E_code ?_))
 refine X_yl (Yl_bytesStr rfl rfl ha hn) rfl rfl ?_
 repeat (first | (refine G_id ?_; first | refine G_plain rfl rfl ?_) | (refine X_id ?_; first | refine X_yl (Yl_move rfl rfl) rfl rfl ?_))
 refine X_yl (Yl_bytesStr rfl rfl hb hm) rfl rfl ?_
 repeat (first | (refine G_id ?_; first | refine G_plain rfl rfl ?_))
 refine X_yl (Yl_eqlStr rfl rfl rfl) rfl rfl ?_
 repeat (first | (refine G_id ?_; first | refine G_nil ?_ | refine G_plain rfl rfl ?_) | (refine X_id ?_; first | refine X_yl (Yl_assign rfl rfl) rfl rfl ?_) | (refine C_id ?_; first | refine C_ret ?_) | (refine E_id ?_; first | refine E_code ?_ | refine E_ret1 rfl (Rv_tmp rfl) (Ret.mk ?_)))
 exact ⟨rfl, rfl⟩

theorem mkNoZero (n : Nat) (w : World) (hn : n ≤ 281474976710656) : ∃ cs : Array Value, (callFunc 230 #[.int .i64 n]).run Tryz.prog w = .ok (.value (.slice (some ⟨w.heap.size, 0, none⟩) n cs.size)) (w.drew.drew.alloc (.cells cs 5)) ∧ n ≤ cs.size := by
 obtain ⟨cs, hrun, hle, _⟩ := Lib.run_makeNoZero (P := Tryz.prog) (w := w) #[3] 26 5 (Und.und (P := Tryz.prog) (t := 26) (d := .slice 5)) n hn
 refine ⟨cs, ?_, hle⟩
 rw [run_callFunc_extern Tryz.func230 (by kernel_rfl) (by kernel_rfl) (by kernel_rfl) (e := Extern.BytealgMakeNoZero.makeNoZero #[3] #[26]) (by kernel_rfl), hrun]
 rfl
theorem St.alloc2 {W : World} {F : Nat → Prop} {rs : List Res} {w : World} (hS : St W F rs w) (o : Obj) : St W F (pts w.heap.size o :: rs) (w.drew.drew.alloc o) := hS.drew.drew.alloc o

theorem join_ (ab ao c : Nat) (l : List Bs) (W : World) (hB : Bss W noF (some ⟨ab, ao, none⟩) l) (h2 : 2 ≤ l.length) (hc : l.length ≤ c) (hl : l.length ≤ 1099511627776) (hn : (joined l).length ≤ 1099511627776) :
  Calls Tryz.prog 205 #[.slice (some ⟨ab, ao, none⟩) l.length c, .slice none 0 0] W (Ret fun v w => ∃ p, v = .slice (some ⟨p, 0, none⟩) (joined l).length (joined l).length ∧ St W noF [bytes (some ⟨p, 0, none⟩) (joined l)] w) := by
 have hS := St.start W
 refine calls_C Tryz.func205 rfl Tryz.ntmps205 rfl ?_
 repeat (first | (refine G_id ?_; first | refine G_nil ?_ | refine G_plain rfl rfl ?_) | (refine X_id ?_; first | refine X_yl (Yl_move rfl rfl) rfl rfl ?_ | refine X_yl (Yl_assign rfl rfl) rfl rfl ?_ | refine X_yl (Yl_len rfl rfl) rfl rfl ?_ | refine X_yl (Yl_eql_f rfl rfl rfl (by omega)) rfl rfl ?_ | refine X_yl (Yl_gtr_f rfl rfl rfl (by omega)) rfl rfl ?_) | (refine C_id ?_; first | refine C_seq ?_ | refine C_region ?_ | refine C_block ?_ | refine C_skip ?_ | refine C_cond_f rfl ?_) | (refine E_id ?_; first | refine E_code ?_))
 refine C_loop (α := Nat) (fun i => [(0, .slice (some ⟨ab, ao, none⟩) l.length c), (1, .slice none 0 0), (5, .int .i64 ((joined (l.take i)).length : Nat)), (42, .slice (some ⟨ab, ao, none⟩) l.length c), (43, .int .i64 (l.length : Nat)), (44, .int .i64 (i : Nat))])
  (fun i w => i ≤ l.length ∧ St W noF [] w) (fun i => l.length - i) 0 ⟨rfl, rfl, rfl, rfl, rfl, rfl, trivial⟩ ⟨Nat.zero_le _, hS⟩ ?_
 clear hS
 rintro i w ⟨hi, hS⟩
 have hr := hB.row
 by_cases hlt : i < l.length
 ·have hx0 : l[i]? = some l[i] := List.getElem?_eq_getElem hlt
  generalize l[i] = x at hx0
  have hx : (l.map Bs.val)[i]? = some (.slice x.a x.s.length x.c) := by simp [hx0, Bs.val]
  have hj := joined_snoc hx0
  have hle := joined_take_le l (i + 1)
  have hjl : (joined (l.take (i + 1))).length = (joined (l.take i)).length + x.s.length := by rw [hj]; simp
  rw [hjl] at hle
  clear hj
  repeat (first | (refine G_id ?_; first | refine G_nil ?_ | refine G_plain rfl rfl ?_) | (refine X_id ?_; first | refine X_yl (Yl_move rfl rfl) rfl rfl ?_ | refine X_yl (Yl_assign rfl rfl) rfl rfl ?_ | refine X_yl (Yl_len rfl rfl) rfl rfl ?_ | refine X_yl (Yl_lss_t rfl rfl rfl (by omega)) rfl rfl ?_ | refine X_yl (Yl_gtr_f rfl rfl rfl (by omega)) rfl rfl ?_ | refine X_yl (Yl_indexAddr rfl rfl rfl (by omega) (by omega) (by first | assumption | exact ⟨_, _, rfl⟩)) rfl rfl ?_ | refine X_yl (Yl_add rfl rfl rfl (w64 (by omega) (by omega))) rfl rfl ?_ | refine X_yl (Yl_sub rfl rfl rfl (w64 (by omega) (by omega))) rfl rfl ?_ | refine X_yl (Yl_load rfl rfl ((hr.rd hS).cellX (by omega) hx)) rfl rfl ?_) | (refine C_id ?_; first | refine C_seq ?_ | refine C_region ?_ | refine C_block ?_ | refine C_skip ?_ | refine C_cond_t rfl ?_ | refine C_cond_f rfl ?_) | (refine E_id ?_; first | refine E_code ?_ | refine E_blk_n ?_))
  refine E_round (i + 1) ⟨rfl, rfl, by rw [hjl]; rfl, rfl, rfl, rfl, trivial⟩ ⟨by omega, hS⟩ (by omega)
 ·obtain rfl : i = l.length := by omega
  rw [List.take_length]
  repeat (first | (refine G_id ?_; first | refine G_nil ?_ | refine G_plain rfl rfl ?_) | (refine X_id ?_; first | refine X_yl (Yl_move rfl rfl) rfl rfl ?_ | refine X_yl (Yl_lss_f rfl rfl rfl (by omega)) rfl rfl ?_) | (refine C_id ?_; first | refine C_seq ?_ | refine C_region ?_ | refine C_exit ?_ | refine C_cond_f rfl ?_) | (refine E_id ?_; first | refine E_code ?_ | refine E_then_exit ?_ | refine E_blk_same ?_))
  obtain ⟨cs, hrun, hcs⟩ := mkNoZero (joined l).length w (by omega)
  refine X_run rfl rfl rfl hrun rfl rfl ?_
  replace hS := hS.alloc2 (.cells cs 5)
  generalize w.drew.drew.alloc (.cells cs 5) = w2 at hS ⊢
  generalize w.heap.size = p at hS ⊢
  clear hrun
  obtain ⟨T, hT⟩ : ∃ T, T = (joined l).length := ⟨_, rfl⟩
  have hjt := joined_take_le l
  rw [← hT] at hcs hn hjt ⊢
  repeat (first | (refine G_id ?_; first | refine G_plain rfl rfl ?_) | (refine X_id ?_; first | refine X_yl (Yl_move rfl rfl) rfl rfl ?_))
  refine X_yl (Yl_slice3 (l := 0) (h := T) (k := T) rfl rfl rfl rfl rfl ⟨_, _, rfl, by omega, by omega, hcs⟩ ⟨_, _, rfl, by omega, by omega, Nat.le_refl _⟩ (.inl ⟨rfl, rfl⟩)) rfl rfl ?_
  rw [sub_zero, Nat.sub_zero]
  obtain ⟨x, hx0⟩ : ∃ x, l[0]? = some x := ⟨_, List.getElem?_eq_getElem (by omega)⟩
  have hx : (l.map Bs.val)[0]? = some (.slice x.a x.s.length x.c) := by simp [hx0, Bs.val]
  have hbx := hB.all x (List.mem_of_getElem? hx0)
  have hj0 := joined_snoc hx0
  simp only [List.take_zero, Nat.zero_add] at hj0
  replace hj0 : joined (l.take 1) = x.s := by rw [hj0]; rfl
  have hx1 := hjt 1
  rw [hj0] at hx1
  obtain ⟨c0, rfl⟩ : ∃ c0 : List Value, cs = c0.toArray := ⟨cs.toList, by simp⟩
  have hc0 : T ≤ c0.length := by simpa using hcs
  repeat (first | (refine G_id ?_; first | refine G_nil ?_ | refine G_plain rfl rfl ?_) | (refine X_id ?_; first | refine X_yl (Yl_move rfl rfl) rfl rfl ?_ | refine X_yl (Yl_assign rfl rfl) rfl rfl ?_ | refine X_yl (Yl_indexAddr rfl rfl rfl (by omega) (by omega) (by first | assumption | exact ⟨_, _, rfl⟩)) rfl rfl ?_ | refine X_yl (Yl_load rfl rfl ((hr.rd hS).cellX (by omega) hx)) rfl rfl ?_) | (refine C_id ?_; first | refine C_seq ?_ | refine C_region ?_) | (refine E_id ?_; first | refine E_code ?_))
  refine X_copy rfl rfl rfl rfl rfl hS (hbx.rd hS) (by simp) bv_one (by omega) (fun w hS => ?_)
  rw [List.take_of_length_le (by simp; omega)] at hS
  replace hS : St W noF [pts p (.cells (bv (joined (l.take 1)) ++ c0.drop x.s.length).toArray 5)] w := by
   rw [hj0]; simpa [splice] using hS
  have hmin : min x.s.length T = (joined (l.take 1)).length := by rw [hj0]; omega
  rw [hmin]
  have hjx : (joined (l.take 1)).length = x.s.length := by rw [hj0]
  clear hmin hx hx0 hbx hj0
  repeat (first | (refine G_id ?_; first | refine G_nil ?_ | refine G_plain rfl rfl ?_) | (refine X_id ?_; first | refine X_yl (Yl_move rfl rfl) rfl rfl ?_ | refine X_yl (Yl_assign rfl rfl) rfl rfl ?_) | (refine C_id ?_; first | refine C_seq ?_ | refine C_region ?_) | (refine E_id ?_; first | refine E_code ?_))
  refine X_yl (Yl_slice (l := 1) (h := l.length) rfl rfl rfl rfl (.inl ⟨rfl, rfl⟩) (.inr ⟨_, _, rfl, by omega, by omega, by omega⟩)) rfl rfl ?_
  rw [show sub (some ⟨ab, ao, none⟩) 1 1 c = some ⟨ab, ao + 1, none⟩ by unfold sub; rw [if_neg (by omega)]; simp [add_lit]]
  have hr' : Ro W noF (row (some ⟨ab, ao + 1, none⟩) ((l.map Bs.val).drop 1)) := hr.mono fun h hh => by
   have := row.part (a := some ⟨ab, ao, none⟩) (cs' := (l.map Bs.val).drop 1) (i := 1) (fun j v hv => by simpa [Nat.add_comm] using hv) h hh
   simpa [adr] using this
  clear hr
  repeat (first | (refine G_id ?_; first | refine G_nil ?_ | refine G_plain rfl rfl ?_) | (refine X_id ?_; first | refine X_yl (Yl_move rfl rfl) rfl rfl ?_ | refine X_yl (Yl_len rfl rfl) rfl rfl ?_) | (refine C_id ?_; first | refine C_block ?_) | (refine E_id ?_; first | refine E_code ?_))
  refine C_loop (α := Nat) (fun i => [(1, .slice none 0 0), (8, .slice (some ⟨p, 0, none⟩) T T), (9, .int .i64 ((joined (l.take (i + 1))).length : Nat)), (70, .slice (some ⟨ab, ao + 1, none⟩) (l.length - 1) (c - 1)), (71, .int .i64 ((l.length - 1 : Nat) : Int)), (72, .int .i64 (i : Nat))])
   (fun i w => i ≤ l.length - 1 ∧ ∃ r, r.length + (joined (l.take (i + 1))).length = c0.length ∧ St W noF [pts p (.cells (bv (joined (l.take (i + 1))) ++ r).toArray 5)] w) (fun i => l.length - 1 - i) 0 ⟨rfl, rfl, rfl, rfl, rfl, rfl, trivial⟩ ⟨Nat.zero_le _, _, by simp; omega, hS⟩ ?_
  clear hS
  rintro i w ⟨hi, r, hrl, hS⟩
  have hjt1 := hjt (i + 1)
  obtain ⟨J, hJ⟩ : ∃ J, J = joined (l.take (i + 1)) := ⟨_, rfl⟩
  rw [← hJ] at hS hrl hjt1 ⊢
  by_cases hlt : i < l.length - 1
  ·obtain ⟨x, hx0⟩ : ∃ x, l[i + 1]? = some x := ⟨_, List.getElem?_eq_getElem (by omega)⟩
   have hbx := hB.all x (List.mem_of_getElem? hx0)
   have hj0 := joined_snoc hx0
   have hx : ((l.map Bs.val).drop 1)[i]? = some (.slice x.a x.s.length x.c) := by simp [hx0, Bs.val]
   have hx1 := hjt (i + 1 + 1)
   rw [hj0, ← hJ, List.length_append] at hx1
   have hr := hr'
   repeat (first | (refine G_id ?_; first | refine G_nil ?_ | refine G_plain rfl rfl ?_) | (refine X_id ?_; first | refine X_yl (Yl_move rfl rfl) rfl rfl ?_ | refine X_yl (Yl_assign rfl rfl) rfl rfl ?_ | refine X_yl (Yl_lss_t rfl rfl rfl (by omega)) rfl rfl ?_ | refine X_yl (Yl_indexAddr rfl rfl rfl (by omega) (by omega) (by first | assumption | exact ⟨_, _, rfl⟩)) rfl rfl ?_ | refine X_yl (Yl_load rfl rfl ((hr.rd hS).cellX (by omega) hx)) rfl rfl ?_) | (refine C_id ?_; first | refine C_seq ?_ | refine C_region ?_ | refine C_block ?_ | refine C_skip ?_ | refine C_cond_t rfl ?_) | (refine E_id ?_; first | refine E_code ?_))
   refine X_yl (Yl_slice (l := J.length) (h := T) rfl rfl rfl rfl (.inl ⟨rfl, rfl⟩) (.inr ⟨_, _, rfl, by omega, by omega, by omega⟩)) rfl rfl ?_
   obtain ⟨off, hoff, hof⟩ : ∃ off, sub (some ⟨p, 0, none⟩) J.length 1 T = some ⟨p, off, none⟩ ∧ (off = J.length ∨ (T = J.length ∧ off = 0)) := by
    unfold sub
    by_cases e : T = J.length
    ·exact ⟨0, by rw [if_pos e], .inr ⟨e, rfl⟩⟩
    ·exact ⟨J.length, by rw [if_neg e]; simp [add_lit], .inl rfl⟩
   rw [hoff]
   repeat (first | (refine G_id ?_; first | refine G_plain rfl rfl ?_) | (refine X_id ?_; first | refine X_yl (Yl_move rfl rfl) rfl rfl ?_))
   refine X_copy (news := []) rfl rfl rfl rfl rfl hS (Rd_nil _ _) rfl (fun _ h => by cases h) (by simp; omega) (fun w hS => ?_)
   rw [show splice (bv J ++ r) off (([] : List Value).take (T - J.length)) = bv J ++ r by simp [splice]] at hS
   rw [show ((min 0 (T - J.length) : Nat) : Int) = 0 by omega]
   repeat (first | (refine G_id ?_; first | refine G_nil ?_ | refine G_plain rfl rfl ?_) | (refine X_id ?_; first | refine X_yl (Yl_move rfl rfl) rfl rfl ?_ | refine X_yl (Yl_assign rfl rfl) rfl rfl ?_ | refine X_yl (Yl_add rfl rfl rfl (w64 (by omega) (by omega))) rfl rfl ?_) | (refine C_id ?_; first | refine C_region ?_) | (refine E_id ?_; first | refine E_code ?_))
   rw [show (J.length : Int) + 0 = (J.length : Nat) by omega]
   refine X_yl (Yl_slice (l := J.length) (h := T) rfl rfl rfl rfl (.inl ⟨rfl, rfl⟩) (.inr ⟨_, _, rfl, by omega, by omega, by omega⟩)) rfl rfl ?_
   rw [hoff]
   repeat (first | (refine G_id ?_; first | refine G_plain rfl rfl ?_) | (refine X_id ?_; first | refine X_yl (Yl_move rfl rfl) rfl rfl ?_))
   refine X_copy rfl rfl rfl rfl rfl hS (hbx.rd hS) (by simp) bv_one (by simp; omega) (fun w hS => ?_)
   repeat (first | (refine G_id ?_; first | refine G_nil ?_ | refine G_plain rfl rfl ?_) | (refine X_id ?_; first | refine X_yl (Yl_move rfl rfl) rfl rfl ?_ | refine X_yl (Yl_assign rfl rfl) rfl rfl ?_ | refine X_yl (Yl_add rfl rfl rfl (w64 (by omega) (by omega))) rfl rfl ?_) | (refine C_id ?_; first | refine C_region ?_) | (refine E_id ?_; first | refine E_code ?_ | refine E_blk_n ?_))
   refine E_round (i + 1) ⟨rfl, rfl, ?_, rfl, rfl, rfl, trivial⟩ ⟨by omega, r.drop x.s.length, by rw [hj0, ← hJ]; simp; omega, ?_⟩ (by omega)
   ·show some _ = some _
    rw [hj0, ← hJ]
    congr 2
    simp
    omega
   ·rw [hj0, ← hJ, bv_append]
    rcases hof with rfl | ⟨e, rfl⟩
    ·rw [List.take_of_length_le (by simp; omega)] at hS
     have : splice (bv J ++ r) J.length (bv x.s) = bv J ++ bv x.s ++ r.drop x.s.length := by
      have := splice_mid (l := bv J) (m := r) (vs := bv x.s) (k := J.length) (n := 0) (by simp)
      rw [Nat.add_zero] at this
      rw [this]; simp [splice]
     rw [this] at hS
     exact hS
    ·have h0 : x.s = [] := List.length_eq_zero_iff.1 (by omega)
     rw [h0] at hS ⊢
     simpa [splice, bv] using hS
  ·obtain rfl : i = l.length - 1 := by omega
   have hJj : J = joined l := by rw [hJ, show l.length - 1 + 1 = l.length by omega, List.take_length]
   repeat (first | (refine G_id ?_; first | refine G_nil ?_ | refine G_plain rfl rfl ?_) | (refine X_id ?_; first | refine X_yl (Yl_move rfl rfl) rfl rfl ?_ | refine X_yl (Yl_assign rfl rfl) rfl rfl ?_ | refine X_yl (Yl_lss_f rfl rfl rfl (by omega)) rfl rfl ?_) | (refine C_id ?_; first | refine C_seq ?_ | refine C_region ?_ | refine C_ret ?_ | refine C_exit ?_ | refine C_cond_f rfl ?_) | (refine E_id ?_; first | refine E_code ?_ | refine E_then_exit ?_ | refine E_blk_same ?_ | refine E_ret1 rfl (Rv_tmp rfl) (Ret.mk ?_)))
   refine ⟨p, rfl, hS.head fun h hh => row_pts_at (n := J.length) ?_ h hh⟩
   rw [← hJj]; simp
end Cr
namespace Cr
open Go Go.Proofs
set_option maxRecDepth 100000
set_option maxHeartbeats 4000000
attribute [local irreducible] Calls

/-! ### big -/
def bigAt (n : Int) (c i : Nat) : UInt8 := b8 (ishr .u64 (IntKind.u64.wrap n) (8 * (c - 1 - i)))
def bigTo (n : Int) (c : Nat) : Nat → List UInt8
 | 0 => List.replicate c 0
 | i + 1 => (bigTo n c i).set i (bigAt n c i)
theorem bigTo_length (n : Int) (c : Nat) : ∀ i, (bigTo n c i).length = c
 | 0 => by simp [bigTo]
 | i + 1 => by simp [bigTo, bigTo_length n c i]
def bigB (n : Int) (c : Nat) : List UInt8 := bigTo n c c
theorem bigB_length (n : Int) (c : Nat) : (bigB n c).length = c := bigTo_length n c c
attribute [irreducible] bigB
theorem big_ (n : Int) (c : Nat) (W : World) (hc : c ≤ 1048576) :
  Calls Tryz.prog 176 #[.int .i64 n, .int .i64 (c : Nat)] W (Ret fun v w => ∃ p, v = .slice (some ⟨p, 0, none⟩) c c ∧ St W noF [pts p (.cells (bv (bigB n c)).toArray 5)] w) := by
 have hS := St.start W
 refine calls_C Tryz.func176 rfl Tryz.ntmps176 rfl ?_
 repeat (first | (refine G_id ?_; first | refine G_nil ?_ | refine G_plain rfl rfl ?_) | (refine X_id ?_; first | refine X_yl (Yl_move rfl rfl) rfl rfl ?_ | refine X_yl (Yl_assign rfl rfl) rfl rfl ?_ | refine X_yl (Yl_len rfl rfl) rfl rfl ?_ | refine X_makeB rfl rfl rfl (by omega) (by omega) rfl rfl hS (fun _ _ hS => ?_)) | (refine C_id ?_; first | refine C_seq ?_ | refine C_region ?_ | refine C_block ?_) | (refine E_id ?_; first | refine E_code ?_))
 rename_i p w0
 refine C_loop (α := Nat) (fun i => [(0, .int .i64 n), (1, .int .i64 (c : Nat)), (5, .slice (some ⟨p, 0, none⟩) c c), (10, .int .i64 (c : Nat)), (11, .int .i64 (i : Nat))])
  (fun i w => i ≤ c ∧ St W noF [pts p (.cells (bv (bigTo n c i)).toArray 5)] w) (fun i => c - i) 0 ⟨rfl, rfl, rfl, rfl, rfl, trivial⟩ ⟨Nat.zero_le _, hS⟩ ?_
 clear hS
 rintro i w ⟨hi, hS⟩
 obtain ⟨L, hLe⟩ : ∃ L, L = bigTo n c i := ⟨_, rfl⟩
 have hL : L.length = c := by rw [hLe]; exact bigTo_length n c i
 rw [← hLe] at hS
 by_cases hlt : i < c
 ·repeat (first | (refine G_id ?_; first | refine G_nil ?_ | refine G_plain rfl rfl ?_) | (refine X_id ?_; first | refine X_yl (Yl_move rfl rfl) rfl rfl ?_ | refine X_yl (Yl_assign rfl rfl) rfl rfl ?_ | refine X_yl (Yl_lss_t rfl rfl rfl (by omega)) rfl rfl ?_ | refine X_yl (Yl_indexAddr rfl rfl rfl (by omega) (by omega) (by first | assumption | exact ⟨_, _, rfl⟩)) rfl rfl ?_ | refine X_yl (Yl_add rfl rfl rfl (w64 (by omega) (by omega))) rfl rfl ?_ | refine X_yl (Yl_sub rfl rfl rfl (w64 (by omega) (by omega))) rfl rfl ?_ | refine X_yl (Yl_mul rfl rfl rfl (w64 (by omega) (by omega))) rfl rfl ?_ | refine X_yl (Yl_convU8 rfl rfl) rfl rfl ?_ | refine X_yl (Yl_convInt rfl rfl rfl) rfl rfl ?_ | refine X_yl (Yl_shr rfl rfl rfl (by omega)) rfl rfl ?_ | refine X_storeBA rfl rfl rfl rfl hS (by omega) (fun _ hS => ?_)) | (refine C_id ?_; first | refine C_seq ?_ | refine C_region ?_ | refine C_block ?_ | refine C_skip ?_ | refine C_cond_t rfl ?_) | (refine E_id ?_; first | refine E_code ?_ | refine E_blk_n ?_))
  refine E_round (i + 1) ⟨rfl, rfl, rfl, rfl, rfl, trivial⟩ ⟨by omega, ?_⟩ (by omega)
  simp only [bigTo, bigAt]
  rw [← hLe]
  rw [show 0 + (i : Int).toNat * 1 = i by omega, show (8 * ((c : Int) - 1 - (i : Int))).toNat = 8 * (c - 1 - i) by omega] at hS
  exact hS
 ·obtain rfl : i = c := by omega
  repeat (first | (refine G_id ?_; first | refine G_nil ?_ | refine G_plain rfl rfl ?_) | (refine X_id ?_; first | refine X_yl (Yl_move rfl rfl) rfl rfl ?_ | refine X_yl (Yl_assign rfl rfl) rfl rfl ?_ | refine X_yl (Yl_lss_f rfl rfl rfl (by omega)) rfl rfl ?_) | (refine C_id ?_; first | refine C_seq ?_ | refine C_region ?_ | refine C_ret ?_ | refine C_exit ?_ | refine C_cond_f rfl ?_) | (refine E_id ?_; first | refine E_code ?_ | refine E_then_exit ?_ | refine E_blk_same ?_ | refine E_ret1 rfl (Rv_tmp rfl) (Ret.mk ?_)))
  refine ⟨p, rfl, ?_⟩
  unfold bigB
  rw [← hLe]
  exact hS

/-! ### small -/
def smallTo (s : List UInt8) : Nat → Int
 | 0 => 0
 | i + 1 => ior .i64 (ishl .i64 (smallTo s i) 8) ((s.getD i 0).toNat : Int)
def smallN (s : List UInt8) : Int := smallTo s s.length
theorem small_ (a : Option Addr) (c : Nat) (s : List UInt8) (W : World) (hs : Rd W (bytes a s)) (hl : s.length ≤ 1048576) :
  Calls Tryz.prog 199 #[.slice a s.length c] W (Ret fun v w => v = .int .i64 (smallN s) ∧ W = w) := by
 have hS := St.start W
 have hso := hs.ro
 refine calls_C Tryz.func199 rfl Tryz.ntmps199 rfl ?_
 repeat (first | (refine G_id ?_; first | refine G_nil ?_ | refine G_plain rfl rfl ?_) | (refine X_id ?_; first | refine X_yl (Yl_move rfl rfl) rfl rfl ?_ | refine X_yl (Yl_assign rfl rfl) rfl rfl ?_ | refine X_yl (Yl_len rfl rfl) rfl rfl ?_) | (refine C_id ?_; first | refine C_seq ?_ | refine C_region ?_ | refine C_block ?_) | (refine E_id ?_; first | refine E_code ?_))
 refine C_loop (α := Nat) (fun i => [(3, .int .i64 (smallTo s i)), (6, .slice a s.length c), (7, .int .i64 (s.length : Nat)), (8, .int .i64 (i : Nat))])
  (fun i w => i ≤ s.length ∧ w = W) (fun i => s.length - i) 0 ⟨rfl, rfl, rfl, rfl, trivial⟩ ⟨Nat.zero_le _, rfl⟩ ?_
 rintro i w ⟨hi, rfl⟩
 by_cases hlt : i < s.length
 ·obtain ⟨xb, xo, rfl⟩ := hs.base (by intro e; have := bv_length s; rw [e] at this; simp at this; omega)
  have hb : Ro w noF (bytes (some ⟨xb, xo, none⟩) s) := hso
  have h256 := UInt8.toNat_lt (s.getD ((i : Int).toNat * 1) 0)
  repeat (first | (refine G_id ?_; first | refine G_nil ?_ | refine G_plain rfl rfl ?_) | (refine X_id ?_; first | refine X_yl (Yl_move rfl rfl) rfl rfl ?_ | refine X_yl (Yl_assign rfl rfl) rfl rfl ?_ | refine X_yl (Yl_lss_t rfl rfl rfl (by omega)) rfl rfl ?_ | refine X_yl (Yl_indexAddr rfl rfl rfl (by omega) (by omega) (by first | assumption | exact ⟨_, _, rfl⟩)) rfl rfl ?_ | refine X_yl (Yl_add rfl rfl rfl (w64 (by omega) (by omega))) rfl rfl ?_ | refine X_yl (Yl_convInt rfl rfl (w64 (by omega) (by omega))) rfl rfl ?_ | refine X_yl (Yl_or rfl rfl rfl) rfl rfl ?_ | refine X_yl (Yl_shl rfl rfl rfl (by omega)) rfl rfl ?_ | refine X_yl (Yl_load rfl rfl ((hb.rd hS).cellB' (by omega))) rfl rfl ?_) | (refine C_id ?_; first | refine C_seq ?_ | refine C_region ?_ | refine C_block ?_ | refine C_skip ?_ | refine C_cond_t rfl ?_) | (refine E_id ?_; first | refine E_code ?_ | refine E_blk_n ?_))
  refine E_round (i + 1) ⟨?_, rfl, rfl, rfl, trivial⟩ ⟨by omega, rfl⟩ (by omega)
  show some _ = some _
  simp only [smallTo]
  rw [show (i : Int).toNat * 1 = i by omega]
  rfl
 ·obtain rfl : i = s.length := by omega
  repeat (first | (refine G_id ?_; first | refine G_nil ?_ | refine G_plain rfl rfl ?_) | (refine X_id ?_; first | refine X_yl (Yl_move rfl rfl) rfl rfl ?_ | refine X_yl (Yl_assign rfl rfl) rfl rfl ?_ | refine X_yl (Yl_lss_f rfl rfl rfl (by omega)) rfl rfl ?_) | (refine C_id ?_; first | refine C_seq ?_ | refine C_region ?_ | refine C_ret ?_ | refine C_exit ?_ | refine C_cond_f rfl ?_) | (refine E_id ?_; first | refine E_code ?_ | refine E_then_exit ?_ | refine E_blk_same ?_ | refine E_ret1 rfl (Rv_tmp rfl) (Ret.mk ?_)))
  exact ⟨rfl, rfl⟩
end Cr
namespace Cr
open Go Go.Proofs
set_option maxRecDepth 100000

structure DiskM where
 off : Bool
 armed : Bool
 left : Int
 laid : List (List UInt8)
 line : List (Int × List UInt8)
 writes : Int
 flushes : Int
structure DiskM.ok (D : DiskM) : Prop where
 laid64 : ∀ s ∈ D.laid, s.length = 64
 line64 : ∀ x ∈ D.line, x.2.length = 64 ∧ 0 ≤ x.1 ∧ x.1 < D.laid.length
 some_ : 1 ≤ D.laid.length
 most : D.laid.length ≤ 4096
 left0 : 0 ≤ D.left
 left1 : D.left ≤ 9223372036854775807
def laidCells (l : List (List UInt8)) : List Value := l.flatMap bv
def lineCells (l : List (Int × List UInt8)) : List Value := l.flatMap fun x => .int .i64 x.1 :: bv x.2
def disk (p : Nat) (D : DiskM) : Res := fun h => D.ok ∧ ∃ al cl ai ci, D.laid.length ≤ cl ∧ D.line.length ≤ ci ∧
 Sep [pts p (.cells #[.bool D.off, .bool D.armed, .int .i64 D.left, .slice al D.laid.length cl, .slice ai D.line.length ci, .int .i64 D.writes, .int .i64 D.flushes] 218),
  own 298 64 al cl (laidCells D.laid), own 300 65 ai ci (lineCells D.line)] h

theorem St.shutR {W : World} {F : Nat → Prop} {r : Res} {rs rs' : List Res} {w : World} (hS : St W F (rs' ++ rs) w) (hr : ∀ h, Sep rs' h → r h) : St W F (r :: rs) w :=
 hS.imp fun h hh => by
  obtain ⟨h1, h2, a, b, c, d⟩ := Sep.append hh
  exact ⟨h1, h2, hr _ a, b, c, d⟩
/-! ### On, Sectors, has, use -/
theorem Rd.disk {w : World} {p : Nat} {D : DiskM} (h : Rd w (disk p D)) : D.ok ∧ ∃ al cl ai ci, D.laid.length ≤ cl ∧ D.line.length ≤ ci ∧
  w.heap[p]? = some (.cells #[.bool D.off, .bool D.armed, .int .i64 D.left, .slice al D.laid.length cl, .slice ai D.line.length ci, .int .i64 D.writes, .int .i64 D.flushes] 218) ∧
  Rd w (row al (laidCells D.laid)) ∧ Rd w (row ai (lineCells D.line)) := by
 obtain ⟨f, ⟨hok, al, cl, ai, ci, h1, h2, hs⟩, ha⟩ := h
 have hr := Rd.sep ⟨f, hs, ha⟩
 exact ⟨hok, al, cl, ai, ci, h1, h2, (hr _ (by simp)).pts, (hr _ (List.mem_cons_of_mem _ (List.mem_cons_self ..))).own_row, (hr _ (List.mem_cons_of_mem _ (List.mem_cons_of_mem _ (List.mem_cons_self ..)))).own_row⟩
theorem on_ (p : Nat) (D : DiskM) (W : World) (hd : Rd W (disk p D)) :
  Calls Tryz.prog 123 #[.pointer (some ⟨p, 0, none⟩)] W (Ret fun v w => v = .bool (!D.off) ∧ W = w) := by
 obtain ⟨_, al, cl, ai, ci, _, _, hc, _, _⟩ := hd.disk
 have hS := St.start W
 refine calls_C Tryz.func123 rfl Tryz.ntmps123 rfl ?_
 repeat (first | (refine G_id ?_; first | refine G_nil ?_ | refine G_plain rfl rfl ?_ | refine G_yes rfl rfl rfl rfl ?_) | (refine X_id ?_; first | refine X_yl (Yl_move rfl rfl) rfl rfl ?_ | refine X_yl (Yl_assign rfl rfl) rfl rfl ?_ | refine X_yl (Yl_nilCheck rfl rfl) rfl rfl ?_ | refine X_yl (Yl_fieldAddr0 rfl rfl rfl) rfl rfl ?_ | refine X_yl (Yl_pick_t rfl rfl rfl) rfl rfl ?_ | refine X_yl (Yl_not_b rfl rfl) rfl rfl ?_ | refine X_yl (Yl_neqNil_some rfl rfl rfl) rfl rfl ?_ | refine X_yl (Yl_load rfl rfl (cell_at (by assumption))) rfl rfl ?_) | (refine C_id ?_; first | refine C_seq ?_ | refine C_region ?_ | refine C_ret ?_) | (refine E_id ?_; first | refine E_code ?_ | refine E_ret1 rfl (Rv_tmp rfl) (Ret.mk ?_)))
 exact ⟨rfl, rfl⟩
theorem sectors_ (p : Nat) (D : DiskM) (W : World) (hd : Rd W (disk p D)) :
  Calls Tryz.prog 124 #[.pointer (some ⟨p, 0, none⟩)] W (Ret fun v w => v = .int .i64 (D.laid.length : Nat) ∧ W = w) := by
 obtain ⟨_, al, cl, ai, ci, _, _, hc, _, _⟩ := hd.disk
 have hS := St.start W
 refine calls_C Tryz.func124 rfl Tryz.ntmps124 rfl ?_
 repeat (first | (refine G_id ?_; first | refine G_nil ?_ | refine G_plain rfl rfl ?_) | (refine X_id ?_; first | refine X_yl (Yl_move rfl rfl) rfl rfl ?_ | refine X_yl (Yl_assign rfl rfl) rfl rfl ?_ | refine X_yl (Yl_nilCheck rfl rfl) rfl rfl ?_ | refine X_yl (Yl_fieldAddr0 rfl rfl rfl) rfl rfl ?_ | refine X_yl (Yl_len rfl rfl) rfl rfl ?_ | refine X_yl (Yl_eqlNil_some rfl rfl rfl) rfl rfl ?_ | refine X_yl (Yl_load rfl rfl (cell_at (by assumption))) rfl rfl ?_) | (refine C_id ?_; first | refine C_seq ?_ | refine C_region ?_ | refine C_ret ?_ | refine C_skip ?_ | refine C_cond_f rfl ?_) | (refine E_id ?_; first | refine E_code ?_ | refine E_ret1 rfl (Rv_tmp rfl) (Ret.mk ?_)))
 exact ⟨rfl, rfl⟩
def inDisk (D : DiskM) (no : Int) : Bool := decide (0 ≤ no ∧ no < D.laid.length)
theorem has_ (p : Nat) (D : DiskM) (no : Int) (W : World) (hd : Rd W (disk p D)) :
  Calls Tryz.prog 196 #[.pointer (some ⟨p, 0, none⟩), .int .i64 no] W (Ret fun v w => v = .bool (inDisk D no) ∧ W = w) := by
 by_cases h : 0 ≤ no
 ·refine calls_C Tryz.func196 rfl Tryz.ntmps196 rfl ?_
  repeat (first | (refine G_id ?_; first | refine G_nil ?_ | refine G_plain rfl rfl ?_ | refine G_yes rfl rfl rfl rfl ?_) | (refine X_id ?_; first | refine X_yl (Yl_move rfl rfl) rfl rfl ?_ | refine X_yl (Yl_assign rfl rfl) rfl rfl ?_ | refine X_yl (Yl_geq_t rfl rfl rfl (by omega)) rfl rfl ?_) | (refine C_id ?_; first | refine C_seq ?_ | refine C_region ?_) | (refine E_id ?_; first | refine E_code ?_))
  refine X_callg _ rfl rfl rfl rfl rfl (sectors_ p D W hd) ?_
  rintro _ _ ⟨rfl, rfl⟩
  repeat (first | (refine G_id ?_; first | refine G_nil ?_ | refine G_plain rfl rfl ?_ | refine G_yes rfl rfl rfl rfl ?_) | (refine X_id ?_; first | refine X_yl (Yl_assign rfl rfl) rfl rfl ?_ | refine X_yl (Yl_pick_t rfl rfl rfl) rfl rfl ?_ | refine X_yl (Yl_lss rfl rfl rfl) rfl rfl ?_) | (refine C_id ?_; first | refine C_ret ?_) | (refine E_id ?_; first | refine E_code ?_ | refine E_ret1 rfl (Rv_tmp rfl) (Ret.mk ?_)))
  exact ⟨by simp [inDisk, h], rfl⟩
 ·refine calls_C Tryz.func196 rfl Tryz.ntmps196 rfl ?_
  repeat (first | (refine G_id ?_; first | refine G_nil ?_ | refine G_plain rfl rfl ?_ | refine G_no rfl rfl rfl rfl rfl rfl ?_) | (refine X_id ?_; first | refine X_yl (Yl_move rfl rfl) rfl rfl ?_ | refine X_yl (Yl_assign rfl rfl) rfl rfl ?_ | refine X_yl (Yl_pick_f rfl rfl rfl) rfl rfl ?_ | refine X_yl (Yl_geq_f rfl rfl rfl (by omega)) rfl rfl ?_) | (refine C_id ?_; first | refine C_seq ?_ | refine C_region ?_ | refine C_ret ?_) | (refine E_id ?_; first | refine E_code ?_ | refine E_ret1 rfl (Rv_tmp rfl) (Ret.mk ?_)))
  exact ⟨by simp [inDisk, h], rfl⟩

/-! ### power -/
def useB (off armed : Bool) (left : Int) : Bool := !off && (!armed || decide (¬ left = 0))
def useOff (off armed : Bool) (left : Int) : Bool := off || (armed && decide (left = 0))
def useLeft (off armed : Bool) (left : Int) : Int := if off = false ∧ armed = true ∧ ¬ left = 0 then left - 1 else left
theorem use_ (p : Nat) (off armed : Bool) (left : Int) (r : List Value) (T : TypeId) (W : World) (F : Nat → Prop) (h0 : 0 ≤ left) (h1 : left ≤ 9223372036854775807)
  (hS : St W F [pts p (.cells (.bool off :: .bool armed :: .int .i64 left :: r).toArray T)] W) :
  Calls Tryz.prog 204 #[.pointer (some ⟨p, 0, none⟩)] W (Ret fun v w => v = .bool (useB off armed left) ∧
   St W F [pts p (.cells (.bool (useOff off armed left) :: .bool armed :: .int .i64 (useLeft off armed left) :: r).toArray T)] w) := by
 cases off
 ·cases armed
  ·refine calls_C Tryz.func204 rfl Tryz.ntmps204 rfl ?_
   repeat (first | (refine G_id ?_; first | refine G_nil ?_ | refine G_plain rfl rfl ?_) | (refine X_id ?_; first | refine X_yl (Yl_move rfl rfl) rfl rfl ?_ | refine X_yl (Yl_assign rfl rfl) rfl rfl ?_ | refine X_yl (Yl_nilCheck rfl rfl) rfl rfl ?_ | refine X_yl (Yl_fieldAddr0 rfl rfl rfl) rfl rfl ?_ | refine X_yl (Yl_not_f rfl rfl) rfl rfl ?_ | refine X_yl (Yl_load rfl rfl hS.cell) rfl rfl ?_) | (refine C_id ?_; first | refine C_seq ?_ | refine C_region ?_ | refine C_block ?_ | refine C_ret ?_ | refine C_cond_t rfl ?_ | refine C_cond_f rfl ?_) | (refine E_id ?_; first | refine E_code ?_ | refine E_then_ret ?_ | refine E_blk_ret ?_ | refine E_ret1 rfl (Rv_tmp rfl) (Ret.mk ?_)))
   exact ⟨rfl, hS⟩
  ·by_cases h : left = 0
   ·subst h
    refine calls_C Tryz.func204 rfl Tryz.ntmps204 rfl ?_
    repeat (first | (refine G_id ?_; first | refine G_nil ?_ | refine G_plain rfl rfl ?_) | (refine X_id ?_; first | refine X_yl (Yl_move rfl rfl) rfl rfl ?_ | refine X_yl (Yl_assign rfl rfl) rfl rfl ?_ | refine X_yl (Yl_nilCheck rfl rfl) rfl rfl ?_ | refine X_yl (Yl_fieldAddr0 rfl rfl rfl) rfl rfl ?_ | refine X_yl (Yl_not_t rfl rfl) rfl rfl ?_ | refine X_yl (Yl_eql_t rfl rfl rfl (by omega)) rfl rfl ?_ | refine X_yl (Yl_load rfl rfl hS.cell) rfl rfl ?_ | refine X_store rfl rfl rfl rfl hS (fun _ hS _ => ?_)) | (refine C_id ?_; first | refine C_seq ?_ | refine C_region ?_ | refine C_block ?_ | refine C_ret ?_ | refine C_cond_t rfl ?_ | refine C_cond_f rfl ?_) | (refine E_id ?_; first | refine E_code ?_ | refine E_then_ret ?_ | refine E_blk_ret ?_ | refine E_ret1 rfl (Rv_tmp rfl) (Ret.mk ?_)))
    exact ⟨rfl, hS⟩
   ·refine calls_C Tryz.func204 rfl Tryz.ntmps204 rfl ?_
    repeat (first | (refine G_id ?_; first | refine G_nil ?_ | refine G_plain rfl rfl ?_) | (refine X_id ?_; first | refine X_yl (Yl_move rfl rfl) rfl rfl ?_ | refine X_yl (Yl_assign rfl rfl) rfl rfl ?_ | refine X_yl (Yl_nilCheck rfl rfl) rfl rfl ?_ | refine X_yl (Yl_fieldAddr0 rfl rfl rfl) rfl rfl ?_ | refine X_yl (Yl_not_t rfl rfl) rfl rfl ?_ | refine X_yl (Yl_eql_f rfl rfl rfl (by omega)) rfl rfl ?_ | refine X_yl (Yl_sub rfl rfl rfl (w64 (by omega) (by omega))) rfl rfl ?_ | refine X_yl (Yl_load rfl rfl hS.cell) rfl rfl ?_ | refine X_store rfl rfl rfl rfl hS (fun _ hS _ => ?_)) | (refine C_id ?_; first | refine C_seq ?_ | refine C_region ?_ | refine C_block ?_ | refine C_ret ?_ | refine C_skip ?_ | refine C_cond_f rfl ?_) | (refine E_id ?_; first | refine E_code ?_ | refine E_blk_n ?_ | refine E_ret1 rfl (Rv_tmp rfl) (Ret.mk ?_)))
    exact ⟨by simp [useB, h], by simpa [useOff, useLeft, h] using hS⟩
 ·refine calls_C Tryz.func204 rfl Tryz.ntmps204 rfl ?_
  repeat (first | (refine G_id ?_; first | refine G_nil ?_ | refine G_plain rfl rfl ?_) | (refine X_id ?_; first | refine X_yl (Yl_move rfl rfl) rfl rfl ?_ | refine X_yl (Yl_assign rfl rfl) rfl rfl ?_ | refine X_yl (Yl_nilCheck rfl rfl) rfl rfl ?_ | refine X_yl (Yl_fieldAddr0 rfl rfl rfl) rfl rfl ?_ | refine X_yl (Yl_load rfl rfl hS.cell) rfl rfl ?_) | (refine C_id ?_; first | refine C_seq ?_ | refine C_region ?_ | refine C_block ?_ | refine C_ret ?_ | refine C_cond_t rfl ?_) | (refine E_id ?_; first | refine E_code ?_ | refine E_then_ret ?_ | refine E_blk_ret ?_ | refine E_ret1 rfl (Rv_tmp rfl) (Ret.mk ?_)))
  exact ⟨rfl, hS⟩
end Cr
namespace Cr
open Go Go.Proofs
set_option maxRecDepth 100000

/-! ### New -/
def zero64 : List UInt8 := List.replicate 64 0
def newDisk (n : Nat) : DiskM := { off := false, armed := false, left := 0, laid := List.replicate n zero64, line := [], writes := 0, flushes := 0 }
theorem newDisk_ok {n : Nat} (h : 1 ≤ n) (h' : n ≤ 4096) : (newDisk n).ok := by
 refine ⟨fun s hs => ?_, fun x hx => by simp [newDisk] at hx, by simpa [newDisk] using h, by simpa [newDisk] using h', by simp [newDisk], by simp [newDisk]⟩
 simp [newDisk] at hs; rw [hs.2]; simp [zero64]
theorem laidCells_replicate (n : Nat) : laidCells (List.replicate n zero64) = List.replicate (n * 64) (.int .u8 0) := by
 induction n with
 | zero => rfl
 | succ n ih =>
  have e : bv zero64 = List.replicate 64 (.int .u8 0) := by simp [bv, zero64]
  have : laidCells (List.replicate (n + 1) zero64) = bv zero64 ++ laidCells (List.replicate n zero64) := by simp [laidCells, List.replicate_succ]
  rw [this, ih, e, List.replicate_append_replicate]
  congr 1; omega
theorem madeCells_zeros (m n : Nat) : madeCells (List.replicate m (Value.int .u8 0)).toArray n = (List.replicate n (if m = 0 then default else Value.int .u8 0)).toArray := by
 apply Array.ext
 ·simp [madeCells]
 ·intro i h1 h2
  simp only [madeCells, Array.getElem_map, Array.getElem_range, List.size_toArray, List.length_replicate]
  by_cases hm : m = 0
  ·subst hm; simp
  ·have : i % m < m := Nat.mod_lt _ (by omega)
   simp [hm, this]
theorem new_ (n : Nat) (W : World) (h1 : 1 ≤ n) (h2 : n ≤ 4096) : Calls Tryz.prog 80 #[.int .i64 (n : Int)] W (Ret fun v w => ∃ p, v = .tuple #[.pointer (some ⟨p, 0, none⟩), .int .i64 0] ∧ St W noF [disk p (newDisk n)] w) := by
 have hS := St.start W
 refine calls_C Tryz.func80 rfl Tryz.ntmps80 rfl ?_
 repeat (first | (refine G_id ?_; first | refine G_nil ?_ | refine G_plain rfl rfl ?_ | refine G_yes rfl rfl rfl rfl ?_) | (refine X_id ?_; first | refine X_yl (Yl_move rfl rfl) rfl rfl ?_ | refine X_yl (Yl_assign rfl rfl) rfl rfl ?_ | refine X_yl (Yl_pick_f rfl rfl rfl) rfl rfl ?_ | refine X_yl (Yl_lss_f rfl rfl rfl (by omega)) rfl rfl ?_ | refine X_yl (Yl_gtr_f rfl rfl rfl (by omega)) rfl rfl ?_) | (refine C_id ?_; first | refine C_seq ?_ | refine C_region ?_ | refine C_skip ?_ | refine C_cond_f rfl ?_) | (refine E_id ?_; first | refine E_code ?_))
 refine X_make rfl rfl rfl (by omega) (by omega) (by omega) (by omega) rfl rfl hS (fun al w hS _ => ?_)
 repeat (first | (refine G_id ?_; first | refine G_nil ?_ | refine G_plain rfl rfl ?_) | (refine X_id ?_; first | refine X_yl (Yl_assign rfl rfl) rfl rfl ?_ | refine X_yl (Yl_build rfl rfl rfl) rfl rfl ?_ | refine X_box rfl rfl rfl rfl hS (fun _ _ hS _ => ?_)) | (refine C_id ?_; first | refine C_ret ?_) | (refine E_id ?_; first | refine E_code ?_ | refine E_ret2 rfl (Rv_tmp rfl) (Rv_tmp rfl) (Ret.mk ?_)))
 refine ⟨_, rfl, ?_⟩
 have e : madeCells (Value.agg (List.replicate 64 (Value.int .u8 0)).toArray).cells ((n : Int).toNat * 64) = (laidCells (newDisk n).laid).toArray := by
  show madeCells (List.replicate 64 (Value.int .u8 0)).toArray _ = _
  rw [madeCells_zeros, newDisk, laidCells_replicate]; simp
 rw [e] at hS
 have hl : (laidCells (newDisk n).laid).length = n * 64 := by rw [newDisk, laidCells_replicate]; simp
 have hS := ((hS.second (own_of_pts (c := n) (cs := laidCells (newDisk n).laid) hl (by simp only [maxLen]; omega) (by simp))).own_none 300 65 none).sel [false, true, true]
 refine St.shutR (rs' := [_, _, _]) (rs := []) hS fun h hh => ⟨newDisk_ok h1 h2, some ⟨al, 0, none⟩, n, none, 0, by simp [newDisk], by simp [newDisk], ?_⟩
 have el : (newDisk n).laid.length = n := by simp [newDisk]
 rw [el]
 exact hh

/-! ### slices.Clone at bytes -/
theorem clone_ (a : Option Addr) (n c : Nat) (s : List UInt8) (W : World) (hs : Rd W (bytes a s)) (hn : s.length = n) (hlim : n ≤ 1073741824) :
  Calls Tryz.prog 198 #[.slice a n c] W (Ret fun v w => ∃ a' c', v = .slice a' n c' ∧ (a' = none ↔ a = none) ∧ n ≤ c' ∧ St W noF [own 5 1 a' c' (bv s)] w) := by
 have hS := St.start W
 cases a with
 | none =>
  have h0 : bv s = [] := hs.none_nil
  obtain rfl : n = 0 := by rw [← hn, ← bv_length s, h0]; rfl
  refine calls_C Tryz.func198 rfl Tryz.ntmps198 rfl ?_
  repeat (first | (refine G_id ?_; first | refine G_nil ?_ | refine G_plain rfl rfl ?_) | (refine X_id ?_; first | refine X_yl (Yl_move rfl rfl) rfl rfl ?_ | refine X_yl (Yl_assign rfl rfl) rfl rfl ?_ | refine X_yl (Yl_eqlNilSlice rfl rfl rfl) rfl rfl ?_) | (refine C_id ?_; first | refine C_seq ?_ | refine C_region ?_ | refine C_ret ?_ | refine C_cond_t rfl ?_) | (refine E_id ?_; first | refine E_code ?_ | refine E_then_ret ?_ | refine E_ret1 rfl (Rv_tmp rfl) (Ret.mk ?_)))
  refine ⟨none, 0, rfl, by simp, by omega, ?_⟩
  rw [h0]
  exact hS.own_none _ _ _
 | some ad =>
  refine calls_C Tryz.func198 rfl Tryz.ntmps198 rfl ?_
  repeat (first | (refine G_id ?_; first | refine G_nil ?_ | refine G_plain rfl rfl ?_) | (refine X_id ?_; first | refine X_yl (Yl_move rfl rfl) rfl rfl ?_ | refine X_yl (Yl_assign rfl rfl) rfl rfl ?_ | refine X_yl (Yl_eqlNilSlice rfl rfl rfl) rfl rfl ?_ | refine X_buildSlice rfl rfl rfl rfl rfl rfl rfl rfl hS (fun _ _ hS _ => ?_)) | (refine C_id ?_; first | refine C_seq ?_ | refine C_region ?_ | refine C_skip ?_ | refine C_cond_f rfl ?_) | (refine E_id ?_; first | refine E_code ?_))
  rename_i b w hb
  have hs := hs.below hb
  repeat (first | fail)
  refine X_append rfl rfl rfl rfl rfl hS rfl (by omega) hs (by simp [hn]) bv_one (by omega) (by simp only [maxLen]; omega) (fun a' c' w hS hc hnil => ?_)
  repeat (first | (refine G_id ?_; first | refine G_nil ?_ | refine G_plain rfl rfl ?_) | (refine X_id ?_; first | refine X_yl (Yl_assign rfl rfl) rfl rfl ?_) | (refine C_id ?_; first | refine C_ret ?_) | (refine E_id ?_; first | refine E_code ?_ | refine E_ret1 rfl (Rv_tmp rfl) (Ret.mk ?_)))
  refine ⟨a', c', by rw [Nat.zero_add], by rw [hnil]; simp, by omega, hS⟩
end Cr
namespace Cr
open Go Go.Proofs
set_option maxRecDepth 100000
set_option maxHeartbeats 4000000

theorem add64_ (b off : Nat) (x y : Int) (l l' : List Value) (T : TypeId) (W : World) (F : Nat → Prop) [hn : Nth l off (.int .i64 x)] [hs : Spl l off [.int .i64 (IntKind.i64.wrap (x + y))] l'] (hS : St W F [pts b (.cells l.toArray T)] W) :
  Calls Tryz.prog 74 #[.pointer (some ⟨b, off, none⟩), .int .i64 y] W (Ret fun v w => v = .int .i64 (IntKind.i64.wrap (x + y)) ∧ St W F [pts b (.cells l'.toArray T)] w) := by
 refine calls_C Tryz.func74 rfl Tryz.ntmps74 rfl ?_
 repeat (first | (refine G_id ?_; first | refine G_nil ?_ | refine G_plain rfl rfl ?_) | (refine X_id ?_; first | refine X_yl (Yl_move rfl rfl) rfl rfl ?_ | refine X_yl (Yl_assign rfl rfl) rfl rfl ?_ | refine X_yl (Yl_nilCheck rfl rfl) rfl rfl ?_ | refine X_yl (Yl_fieldAddr rfl rfl rfl) rfl rfl ?_ | refine X_eadd rfl rfl rfl rfl rfl rfl hS (fun _ hS => ?_)) | (refine C_id ?_; first | refine C_seq ?_ | refine C_region ?_ | refine C_ret ?_) | (refine E_id ?_; first | refine E_code ?_ | refine E_ret1 rfl (Rv_tmp rfl) (Ret.mk ?_)))
 exact ⟨rfl, hS⟩

def DiskM.used (D : DiskM) : DiskM := { D with off := useOff D.off D.armed D.left, left := useLeft D.off D.armed D.left }
def DiskM.write (D : DiskM) (no : Int) (b : List UInt8) : Int × DiskM :=
 if D.off then (9, D) else if inDisk D no = false ∨ b.length ≠ 64 then (1, D) else if useB D.off D.armed D.left = false then (9, D.used)
 else (0, { D.used with line := D.line ++ [(no, b)], writes := IntKind.i64.wrap (D.writes + 1) })
theorem DiskM.write_use {D : DiskM} {no : Int} {b : List UInt8} (h : D.off = false) (hin : inDisk D no = true) (hb : b.length = 64) (hu : useB D.off D.armed D.left = false) : D.write no b = (9, D.used) := by
 unfold DiskM.write
 rw [if_neg (by simp [h]), if_neg (by simp [hin, hb]), if_pos hu]
theorem DiskM.write_yes {D : DiskM} {no : Int} {b : List UInt8} (h : D.off = false) (hin : inDisk D no = true) (hb : b.length = 64) (hu : useB D.off D.armed D.left = true) : D.write no b = (0, { D.used with line := D.line ++ [(no, b)], writes := IntKind.i64.wrap (D.writes + 1) }) := by
 unfold DiskM.write
 rw [if_neg (by simp [h]), if_neg (by simp [hin, hb]), if_neg (by simp [hu])]
theorem DiskM.used_ok {D : DiskM} (h : D.ok) : D.used.ok := by
 obtain ⟨h1, h2, h3, h4, h5, h6⟩ := h
 refine ⟨h1, h2, h3, h4, ?_, ?_⟩ <;> simp only [DiskM.used, useLeft] <;> split <;> omega
theorem DiskM.line_ok {D : DiskM} (h : D.ok) {no : Int} {b : List UInt8} {wr : Int} (hn : inDisk D no = true) (hb : b.length = 64) : ({ D with line := D.line ++ [(no, b)], writes := wr } : DiskM).ok := by
 obtain ⟨h1, h2, h3, h4, h5, h6⟩ := h
 refine ⟨h1, fun x hx => ?_, h3, h4, h5, h6⟩
 simp only [List.mem_append, List.mem_singleton] at hx
 rcases hx with hx | rfl
 ·exact h2 x hx
 ·have : 0 ≤ no ∧ no < D.laid.length := by simpa [inDisk] using hn
  exact ⟨hb, this.1, this.2⟩
theorem St.openDisk {W : World} {F : Nat → Prop} {p : Nat} {D : DiskM} {rs : List Res} {w : World} (hS : St W F (disk p D :: rs) w) : D.ok ∧ ∃ al cl ai ci, D.laid.length ≤ cl ∧ D.line.length ≤ ci ∧
  St W F (pts p (.cells #[.bool D.off, .bool D.armed, .int .i64 D.left, .slice al D.laid.length cl, .slice ai D.line.length ci, .int .i64 D.writes, .int .i64 D.flushes] 218) ::
   own 298 64 al cl (laidCells D.laid) :: own 300 65 ai ci (lineCells D.line) :: rs) w := by
 obtain ⟨h, ⟨h1, h2, ⟨hok, al, cl, ai, ci, c1, c2, hs⟩, hr, hd, hu⟩, s⟩ := hS
 exact ⟨hok, al, cl, ai, ci, c1, c2, h, Sep.append_mk (rs := [_, _, _]) hs hr hd hu, s⟩
theorem St.shutDisk {W : World} {F : Nat → Prop} {p : Nat} {D : DiskM} {rs : List Res} {w : World} {al ai : Option Addr} {cl ci : Nat} (hok : D.ok) (c1 : D.laid.length ≤ cl) (c2 : D.line.length ≤ ci)
  (hS : St W F (pts p (.cells #[.bool D.off, .bool D.armed, .int .i64 D.left, .slice al D.laid.length cl, .slice ai D.line.length ci, .int .i64 D.writes, .int .i64 D.flushes] 218) ::
   own 298 64 al cl (laidCells D.laid) :: own 300 65 ai ci (lineCells D.line) :: rs) w) : St W F (disk p D :: rs) w :=
 St.shutR (rs' := [_, _, _]) (rs := rs) hS fun _ hh => ⟨hok, al, cl, ai, ci, c1, c2, hh⟩
theorem lineCells_append (l m : List (Int × List UInt8)) : lineCells (l ++ m) = lineCells l ++ lineCells m := by simp [lineCells]
theorem lineCells_length {l : List (Int × List UInt8)} (h : ∀ x ∈ l, x.2.length = 64) : (lineCells l).length = l.length * 65 := by
 induction l with
 | nil => rfl
 | cons x l ih =>
  have := ih fun y hy => h y (List.mem_cons_of_mem _ hy)
  have h0 := h x (List.mem_cons_self ..)
  simp only [lineCells, List.flatMap_cons, List.length_append, List.length_cons, bv_length, h0] at this ⊢
  omega
theorem laidCells_length {l : List (List UInt8)} (h : ∀ x ∈ l, x.length = 64) : (laidCells l).length = l.length * 64 := by
 induction l with
 | nil => rfl
 | cons x l ih =>
  have := ih fun y hy => h y (List.mem_cons_of_mem _ hy)
  have h0 := h x (List.mem_cons_self ..)
  simp only [laidCells, List.flatMap_cons, List.length_append, List.length_cons, bv_length, h0] at this ⊢
  omega

theorem one_int {k : IntKind} {n : Int} {l : List Value} (h : ∀ u ∈ l, u.oneCell' = true) : ∀ u ∈ Value.int k n :: l, u.oneCell' = true := fun u hu => by
 rcases List.mem_cons.mp hu with rfl | hu
 ·rfl
 ·exact h u hu
theorem write_ (p : Nat) (D : DiskM) (no : Int) (a : Option Addr) (n c : Nat) (b : List UInt8) (W : World) (F : Nat → Prop) (hS : St W F [disk p D] W) (hb : Ro W F (bytes a b)) (hn : b.length = n) (hline : D.line.length < 1073741824) :
  Calls Tryz.prog 177 #[.pointer (some ⟨p, 0, none⟩), .int .i64 no, .slice a n c] W (Ret fun v w => v = .int .i64 (D.write no b).1 ∧ St W F [disk p (D.write no b).2] w) := by
 have hd := hS.rd (List.mem_cons_self ..)
 cases hoff : D.off
 ·have hon := on_ p D W hd
  rw [hoff] at hon
  cases hin : inDisk D no
  ·have hhas := has_ p D no W hd
   rw [hin] at hhas
   refine calls_C Tryz.func177 rfl Tryz.ntmps177 rfl ?_
   repeat (first | (refine G_id ?_; first | refine G_nil ?_ | refine G_plain rfl rfl ?_ | refine G_no rfl rfl rfl rfl rfl rfl ?_) | (refine X_id ?_; first | (refine X_callg 123 rfl rfl rfl rfl rfl hon ?_; rintro _ _ ⟨rfl, rfl⟩) | (refine X_callg 196 rfl rfl rfl rfl rfl hhas ?_; rintro _ _ ⟨rfl, rfl⟩) | refine X_yl (Yl_move rfl rfl) rfl rfl ?_ | refine X_yl (Yl_assign rfl rfl) rfl rfl ?_ | refine X_yl (Yl_pick_t rfl rfl rfl) rfl rfl ?_ | refine X_yl (Yl_not_t rfl rfl) rfl rfl ?_ | refine X_yl (Yl_not_f rfl rfl) rfl rfl ?_) | (refine C_id ?_; first | refine C_seq ?_ | refine C_region ?_ | refine C_block ?_ | refine C_ret ?_ | refine C_cond_t rfl ?_ | refine C_cond_f rfl ?_) | (refine E_id ?_; first | refine E_code ?_ | refine E_then_ret ?_ | refine E_blk_ret ?_ | refine E_ret1 rfl (Rv_tmp rfl) (Ret.mk ?_)))
   refine ⟨by simp [DiskM.write, hoff, hin], by simpa [DiskM.write, hoff, hin] using hS⟩
  ·have hhas := has_ p D no W hd
   rw [hin] at hhas
   by_cases hb64 : b.length = 64
   ·have hn64 : n = 64 := by omega
    subst hn64
    obtain ⟨hok, al, cl, ai, ci, c1, c2, hS⟩ := hS.openDisk
    have hbr := hb.start
    obtain ⟨bb, bo, rfl⟩ := hbr.base (fun e => by rw [← bv_length, e] at hb64; cases hb64)
    have hcells := hbr.cellsAt rfl
    have hlc : LenIs (bv b) 64 := ⟨by simp [hb64]⟩
    cases huse : useB D.off D.armed D.left
    ·refine calls_C Tryz.func177 rfl Tryz.ntmps177 rfl ?_
     repeat (first | (refine G_id ?_; first | refine G_nil ?_ | refine G_plain rfl rfl ?_ | refine G_yes rfl rfl rfl rfl ?_) | (refine X_id ?_; first | (refine X_callg 123 rfl rfl rfl rfl rfl hon ?_; rintro _ _ ⟨rfl, rfl⟩) | (refine X_callg 196 rfl rfl rfl rfl rfl hhas ?_; rintro _ _ ⟨rfl, rfl⟩) | refine X_yl (Yl_move rfl rfl) rfl rfl ?_ | refine X_yl (Yl_assign rfl rfl) rfl rfl ?_ | refine X_yl (Yl_nilCheck rfl rfl) rfl rfl ?_ | refine X_yl (Yl_fieldAddr0 rfl rfl rfl) rfl rfl ?_ | refine X_yl (Yl_pick_f rfl rfl rfl) rfl rfl ?_ | refine X_yl (Yl_not_t rfl rfl) rfl rfl ?_ | refine X_yl (Yl_len rfl rfl) rfl rfl ?_ | refine X_yl (Yl_neq_f rfl rfl rfl (by omega)) rfl rfl ?_) | (refine C_id ?_; first | refine C_seq ?_ | refine C_region ?_ | refine C_block ?_ | refine C_cond_f rfl ?_) | (refine E_id ?_; first | refine E_code ?_))
     obtain ⟨_, hc, hr, hw, hbk⟩ := hS.call [true, false, false]
     refine X_callg _ rfl rfl rfl rfl rfl (use_ p D.off D.armed D.left _ _ _ _ hok.left0 hok.left1 hc) ?_
     rintro _ w ⟨rfl, hS⟩
     replace hS := hbk hS
     clear hc hr hw hbk
     rw [huse]
     repeat (first | (refine G_id ?_; first | refine G_nil ?_ | refine G_plain rfl rfl ?_) | (refine X_id ?_; first | refine X_yl (Yl_assign rfl rfl) rfl rfl ?_ | refine X_yl (Yl_not_f rfl rfl) rfl rfl ?_) | (refine C_id ?_; first | refine C_seq ?_ | refine C_region ?_ | refine C_ret ?_ | refine C_cond_t rfl ?_) | (refine E_id ?_; first | refine E_code ?_ | refine E_then_ret ?_ | refine E_blk_ret ?_ | refine E_ret1 rfl (Rv_tmp rfl) (Ret.mk ?_)))
     rw [DiskM.write_use hoff hin hb64 huse]
     exact ⟨rfl, St.shutDisk (DiskM.used_ok hok) c1 c2 hS⟩
    ·refine calls_C Tryz.func177 rfl Tryz.ntmps177 rfl ?_
     repeat (first | (refine G_id ?_; first | refine G_nil ?_ | refine G_plain rfl rfl ?_ | refine G_yes rfl rfl rfl rfl ?_) | (refine X_id ?_; first | (refine X_callg 123 rfl rfl rfl rfl rfl hon ?_; rintro _ _ ⟨rfl, rfl⟩) | (refine X_callg 196 rfl rfl rfl rfl rfl hhas ?_; rintro _ _ ⟨rfl, rfl⟩) | refine X_yl (Yl_move rfl rfl) rfl rfl ?_ | refine X_yl (Yl_assign rfl rfl) rfl rfl ?_ | refine X_yl (Yl_nilCheck rfl rfl) rfl rfl ?_ | refine X_yl (Yl_fieldAddr0 rfl rfl rfl) rfl rfl ?_ | refine X_yl (Yl_pick_f rfl rfl rfl) rfl rfl ?_ | refine X_yl (Yl_not_t rfl rfl) rfl rfl ?_ | refine X_yl (Yl_len rfl rfl) rfl rfl ?_ | refine X_yl (Yl_neq_f rfl rfl rfl (by omega)) rfl rfl ?_) | (refine C_id ?_; first | refine C_seq ?_ | refine C_region ?_ | refine C_block ?_ | refine C_cond_f rfl ?_) | (refine E_id ?_; first | refine E_code ?_))
     obtain ⟨_, hc, hr, hw, hbk⟩ := hS.call [true, false, false]
     refine X_callg _ rfl rfl rfl rfl rfl (use_ p D.off D.armed D.left _ _ _ _ hok.left0 hok.left1 hc) ?_
     rintro _ w ⟨rfl, hS⟩
     replace hS := hbk hS
     clear hc hr hw hbk
     rw [huse]
     repeat (first | (refine G_id ?_; first | refine G_nil ?_ | refine G_plain rfl rfl ?_) | (refine X_id ?_; first | refine X_yl (Yl_assign rfl rfl) rfl rfl ?_ | refine X_yl (Yl_not_t rfl rfl) rfl rfl ?_) | (refine C_id ?_; first | refine C_seq ?_ | refine C_skip ?_ | refine C_cond_f rfl ?_) | (refine E_id ?_; first | refine E_code ?_ | refine E_blk_n ?_))
     have hcells : CellsAt w.drew ⟨bb, bo, none⟩ (bv b) := (hb.rd hS).cellsAt rfl
     refine C_ord (.s 0 (.s 1 (.s 2 (.s 3 (.s 4 (.s 5 (.s 6 (.s 7 (.s 8 (.s 9 (.h 10 (.h 11 (.s 12 (.s 13 (.h 14 .nil .no))) .no) .no))))))))))) mixed (by kernel_rfl) rfl ?_
     have hS := hS.drew
     repeat (first | (refine X_id ?_; first | refine X_buildSlice rfl rfl rfl rfl rfl rfl rfl rfl hS (fun _ _ hS _ => ?_)) | (refine GO_id ?_; first | refine GO_pure rfl rfl (fun _ => Yl_move rfl rfl) rfl rfl ?_ | refine GO_pure rfl rfl (fun _ => Yl_nilCheck rfl rfl) rfl rfl ?_ | refine GO_pure rfl rfl (fun _ => Yl_fieldAddr0 rfl rfl rfl) rfl rfl ?_ | refine GO_pure rfl rfl (fun _ => Yl_build rfl rfl rfl) rfl rfl ?_ | refine GO_pure rfl rfl (fun _ => Yl_arrayAt rfl rfl (by omega)) rfl rfl ?_ | refine GO_read (fun w' => w'.cell? _ = some _) rfl rfl hS.cell (fun _ hc => Yl_load rfl rfl hc) rfl rfl ?_ | refine GO_read (fun w' => CellsAt w' _ _) rfl rfl (by assumption) (fun _ hc => Yl_loadAgg rfl rfl hc (by simp; omega)) rfl rfl ?_ | refine GO_hard rfl rfl ?_) | (refine Keep_id ?_; first | refine And.intro (by repeat (first | exact trivial | refine And.intro (.inl (by decide +kernel)) ?_ | refine And.intro (.inr (by first | assumption | exact hS.cell | exact cell_at (by assumption) | exact hS.cellI (by omega) | exact hS.cellIP (by omega) | exact hS.cellsN | exact ((hr.rd hS).cellX (by omega) hx) | exact ((hr2.rd hS).cellX (by omega) hx2) | exact hS.cellB (by omega) | exact hS.cellBA (by omega) | exact (hb.rd hS).cellB' (by omega) | exact (hb2.rd hS).cellB' (by omega) | exact (hg.rd hS).cellI (by omega) | exact (hg2.rd hS).cellI (by omega) | exact ((hr.rd hS).cellF (by first | omega | (dsimp only; omega)) hx) | exact ((hr2.rd hS).cellF (by first | omega | (dsimp only; omega)) hx2) | exact hS.cellO 0 (by omega) | exact hS.cellO 1 (by omega) | exact hS.cellIA (by omega) | exact (hg.rd hS).cellIA (by omega) | exact (hg2.rd hS).cellIA (by omega) | exact cell_at (hc.rd hS).pts | exact hb.rd hS | exact (hr.rd hS).cellsF7 (by first | omega | (dsimp only; omega)) hst4 rfl | exact (hr2.rd hS).cellsF7 (by first | omega | (dsimp only; omega)) hst4 rfl | exact hS.cellO 4 (by omega) | exact hS.cellO 5 (by omega) | exact hS.cellO 6 (by omega) | exact hS.cellO 7 (by omega) | exact hS.cellO 8 (by omega) | exact hS.cellO 9 (by omega) | exact hS.cellO 10 (by omega) | exact hS.cellO 11 (by omega) | exact hS.cellO 12 (by omega) | exact hS.cellO 13 (by omega) | exact hS.cellO 2 (by omega) | exact hS.cellO 3 (by omega))) ?_)) ?_))
     refine X_append rfl rfl rfl rfl rfl hS (lineCells_length fun x hx => (hok.line64 x hx).1) c2 (hS.rd (List.mem_cons_self ..)).own_row (by simp [hb64]) (one_int bv_one) (by omega) (by simp only [maxLen]; omega) (fun a' c' w hS hc hnil => ?_)
     repeat (first | (refine G_id ?_; first | refine G_plain rfl rfl ?_) | (refine X_id ?_; first | refine X_yl (Yl_move rfl rfl) rfl rfl ?_ | refine X_yl (Yl_nilCheck rfl rfl) rfl rfl ?_ | refine X_yl (Yl_fieldAddr0 rfl rfl rfl) rfl rfl ?_ | refine X_store rfl rfl rfl rfl hS (fun _ hS _ => ?_)) | (refine C_id ?_; first | refine C_seq ?_ | refine C_region ?_) | (refine E_id ?_; first | refine E_code ?_) | (refine GO_id ?_; first | refine GO_nil ?_ | refine GO_pure rfl rfl (fun _ => Yl_nilCheck rfl rfl) rfl rfl ?_ | refine GO_pure rfl rfl (fun _ => Yl_fieldAddr0 rfl rfl rfl) rfl rfl ?_ | refine GO_hard rfl rfl ?_) | (refine Keep_id ?_; first | refine And.intro (by repeat (first | exact trivial | refine And.intro (.inl (by decide +kernel)) ?_ | refine And.intro (.inr (by first | assumption | exact hS.cell | exact cell_at (by assumption) | exact hS.cellI (by omega) | exact hS.cellIP (by omega) | exact hS.cellsN | exact ((hr.rd hS).cellX (by omega) hx) | exact ((hr2.rd hS).cellX (by omega) hx2) | exact hS.cellB (by omega) | exact hS.cellBA (by omega) | exact (hb.rd hS).cellB' (by omega) | exact (hb2.rd hS).cellB' (by omega) | exact (hg.rd hS).cellI (by omega) | exact (hg2.rd hS).cellI (by omega) | exact ((hr.rd hS).cellF (by first | omega | (dsimp only; omega)) hx) | exact ((hr2.rd hS).cellF (by first | omega | (dsimp only; omega)) hx2) | exact hS.cellO 0 (by omega) | exact hS.cellO 1 (by omega) | exact hS.cellIA (by omega) | exact (hg.rd hS).cellIA (by omega) | exact (hg2.rd hS).cellIA (by omega) | exact cell_at (hc.rd hS).pts | exact hb.rd hS | exact (hr.rd hS).cellsF7 (by first | omega | (dsimp only; omega)) hst4 rfl | exact (hr2.rd hS).cellsF7 (by first | omega | (dsimp only; omega)) hst4 rfl | exact hS.cellO 4 (by omega) | exact hS.cellO 5 (by omega) | exact hS.cellO 6 (by omega) | exact hS.cellO 7 (by omega) | exact hS.cellO 8 (by omega) | exact hS.cellO 9 (by omega) | exact hS.cellO 10 (by omega) | exact hS.cellO 11 (by omega) | exact hS.cellO 12 (by omega) | exact hS.cellO 13 (by omega) | exact hS.cellO 2 (by omega) | exact hS.cellO 3 (by omega))) ?_)) ?_))
     obtain ⟨_, hc, hr, hw, hbk⟩ := hS.call [false, false, true, false]
     refine X_callg _ rfl rfl rfl rfl rfl (add64_ p 5 D.writes 1 _ _ _ _ _ hc) ?_
     rintro _ w ⟨rfl, hS⟩
     replace hS := hbk hS
     clear hc hr hw hbk
     repeat (first | (refine G_id ?_; first | refine G_nil ?_ | refine G_plain rfl rfl ?_) | (refine X_id ?_; first | refine X_yl (Yl_assign rfl rfl) rfl rfl ?_) | (refine C_id ?_; first | refine C_seq ?_ | refine C_region ?_ | refine C_ret ?_) | (refine E_id ?_; first | refine E_code ?_ | refine E_ret1 rfl (Rv_tmp rfl) (Ret.mk ?_)))
     rw [DiskM.write_yes hoff hin hb64 huse]
     have hok' := DiskM.line_ok (wr := IntKind.i64.wrap (D.writes + 1)) (DiskM.used_ok hok) (no := no) (b := b) hin hb64
     refine ⟨rfl, St.shutDisk (al := al) (ai := a') hok' c1 (show (D.line ++ [(no, b)]).length ≤ c' by simpa using hc) ?_⟩
     have hS := hS.pick [0, 2, 0]
     show St W F [pts p (.cells #[_, _, _, _, .slice a' ((D.line ++ [(no, b)]).length : Nat) c', _, _] 218), _, own _ _ _ _ (lineCells (D.line ++ [(no, b)]))] w
     rw [lineCells_append, List.length_append]
     simpa [lineCells, DiskM.used] using hS
   ·refine calls_C Tryz.func177 rfl Tryz.ntmps177 rfl ?_
    repeat (first | (refine G_id ?_; first | refine G_nil ?_ | refine G_plain rfl rfl ?_ | refine G_yes rfl rfl rfl rfl ?_) | (refine X_id ?_; first | (refine X_callg 123 rfl rfl rfl rfl rfl hon ?_; rintro _ _ ⟨rfl, rfl⟩) | (refine X_callg 196 rfl rfl rfl rfl rfl hhas ?_; rintro _ _ ⟨rfl, rfl⟩) | refine X_yl (Yl_move rfl rfl) rfl rfl ?_ | refine X_yl (Yl_assign rfl rfl) rfl rfl ?_ | refine X_yl (Yl_pick_f rfl rfl rfl) rfl rfl ?_ | refine X_yl (Yl_not_t rfl rfl) rfl rfl ?_ | refine X_yl (Yl_len rfl rfl) rfl rfl ?_ | refine X_yl (Yl_neq_t rfl rfl rfl (by omega)) rfl rfl ?_) | (refine C_id ?_; first | refine C_seq ?_ | refine C_region ?_ | refine C_block ?_ | refine C_ret ?_ | refine C_cond_t rfl ?_ | refine C_cond_f rfl ?_) | (refine E_id ?_; first | refine E_code ?_ | refine E_then_ret ?_ | refine E_blk_ret ?_ | refine E_ret1 rfl (Rv_tmp rfl) (Ret.mk ?_)))
    refine ⟨by simp [DiskM.write, hoff, hin, hb64], by simpa [DiskM.write, hoff, hin, hb64] using hS⟩
 ·have hon := on_ p D W hd
  rw [hoff] at hon
  refine calls_C Tryz.func177 rfl Tryz.ntmps177 rfl ?_
  repeat (first | (refine G_id ?_; first | refine G_nil ?_ | refine G_plain rfl rfl ?_) | (refine X_id ?_; first | (refine X_callg 123 rfl rfl rfl rfl rfl hon ?_; rintro _ _ ⟨rfl, rfl⟩) | refine X_yl (Yl_move rfl rfl) rfl rfl ?_ | refine X_yl (Yl_assign rfl rfl) rfl rfl ?_ | refine X_yl (Yl_not_f rfl rfl) rfl rfl ?_) | (refine C_id ?_; first | refine C_seq ?_ | refine C_region ?_ | refine C_block ?_ | refine C_ret ?_ | refine C_cond_t rfl ?_) | (refine E_id ?_; first | refine E_code ?_ | refine E_then_ret ?_ | refine E_blk_ret ?_ | refine E_ret1 rfl (Rv_tmp rfl) (Ret.mk ?_)))
  exact ⟨by simp [DiskM.write, hoff], by simpa [DiskM.write, hoff] using hS⟩
end Cr
namespace Cr
open Go Go.Proofs
set_option maxRecDepth 100000

theorem backward_waiting (l bx n c : Nat) (a : Option Addr) (cs : List Value) (w : World) (T : TypeId) (hn : n ≤ 4611686018427387904) (hcs : cs.length = n * 65) (Inv : Nat → World → Prop) (Stop : World → Prop)
  (hbx : ∀ k w, Inv k w → w.heap[bx]? = some (.cells #[.slice a n c] T)) (hrow : ∀ k w, Inv k w → Rd w (row a cs)) (hl : ∀ k w, Inv k w → ∃ r : Loop, r.params.size = 2 ∧ w.heap[l]? = some (.loop r) ∧ (k ≠ 0 →
   RoundIn Fence.wide 0 Tryz.prog l r.fn ((r.params.zip #[.int .i64 ((k - 1 : Nat) : Int), .agg ((cs.drop ((k - 1) * 65)).take 65).toArray]).foldl (fun tmps (t, a) => tmps.setIfInBounds t a) r.tmps) r.assign r.body w
    (Ret fun v w' => (v = .bool true ∧ Inv (k - 1) w') ∨ (v = .bool false ∧ Stop w')))) (h0 : Inv n w) :
  CallsIn Fence.wide 0 Tryz.prog 222 #[.func (.yield l) #[] #[], .pointer (some ⟨bx, 0, none⟩)] w (Ret fun _ w' => Inv 0 w' ∨ Stop w') := by
 refine callsIn_wide.2 ?_
 have hb := hbx _ _ h0
 refine calls_C Tryz.func222 rfl Tryz.ntmps222 rfl ?_
 repeat (first | (refine G_id ?_; first | refine G_nil ?_ | refine G_plain rfl rfl ?_) | (refine X_id ?_; first | refine X_yl (Yl_assign rfl rfl) rfl rfl ?_ | refine X_yl (Yl_len rfl rfl) rfl rfl ?_ | refine X_yl (Yl_sub rfl rfl rfl (w64 (by omega) (by omega))) rfl rfl ?_ | refine X_yl (Yl_load rfl rfl (cell_at (by assumption))) rfl rfl ?_) | (refine C_id ?_; first | refine C_seq ?_ | refine C_region ?_ | refine C_block ?_) | (refine E_id ?_; first | refine E_code ?_))
 refine C_loop (α := Nat) (fun k => [(0, .func (.yield l) #[] #[]), (1, .pointer (some ⟨bx, 0, none⟩)), (3, .int .i64 ((k : Int) - 1))]) (fun k w => k ≤ n ∧ Inv k w) (fun k => k) n ⟨rfl, rfl, rfl, trivial⟩ ⟨Nat.le_refl _, h0⟩ ?_
 clear hb h0
 rintro k w ⟨hk, hi⟩
 have hb := hbx _ _ hi
 by_cases h0 : k = 0
 ·subst h0
  repeat (first | (refine G_id ?_; first | refine G_nil ?_ | refine G_plain rfl rfl ?_) | (refine X_id ?_; first | refine X_yl (Yl_move rfl rfl) rfl rfl ?_ | refine X_yl (Yl_geq_f rfl rfl rfl (by omega)) rfl rfl ?_) | (refine C_id ?_; first | refine C_seq ?_ | refine C_region ?_ | refine C_exit ?_ | refine C_cond_f rfl ?_) | (refine E_id ?_; first | refine E_code ?_ | refine E_then_exit ?_ | refine E_blk_same ?_ | refine E_end0 rfl (Ret.mk ?_)))
  exact .inl hi
 ·obtain ⟨r, hp, hlr, hr⟩ := hl _ _ hi
  have hr := hr h0
  have hcs0 : cs ≠ [] := by intro e; rw [e] at hcs; simp at hcs; omega
  have ha := (hrow _ _ hi).base hcs0
  have hseg := (hrow _ _ hi).seg ((k - 1) * 65) 65
  have e1 : ((k : Int) - 1).toNat = k - 1 := by omega
  have e2 : ((k - 1 : Nat) : Int) = (k : Int) - 1 := by omega
  rw [e2] at hr
  repeat (first | (refine G_id ?_; first | refine G_nil ?_ | refine G_plain rfl rfl ?_) | (refine X_id ?_; first | refine X_yl (Yl_move rfl rfl) rfl rfl ?_ | refine X_yl (Yl_geq_t rfl rfl rfl (by omega)) rfl rfl ?_ | refine X_yl (Yl_indexAddr rfl rfl rfl (by omega) (by omega) (by first | assumption | exact ⟨_, _, rfl⟩)) rfl rfl ?_ | refine X_yl (Yl_load rfl rfl (cell_at (by assumption))) rfl rfl ?_) | (refine C_id ?_; first | refine C_seq ?_ | refine C_region ?_ | refine C_block ?_ | refine C_skip ?_ | refine C_cond_t rfl ?_) | (refine E_id ?_; first | refine E_code ?_))
  rw [e1]
  refine X_yl (Yl_loadAgg rfl rfl hseg (by simp; omega)) rfl rfl ?_
  refine G_yield rfl rfl rfl rfl rfl rfl hlr (by rw [hp]; rfl) hr ?_
  rintro v w' (⟨rfl, hi'⟩ | ⟨rfl, hs⟩)
  ·repeat (first | (refine G_id ?_; first | refine G_nil ?_ | refine G_plain rfl rfl ?_) | (refine X_id ?_; first | refine X_yl (Yl_move rfl rfl) rfl rfl ?_ | refine X_yl (Yl_assign rfl rfl) rfl rfl ?_ | refine X_yl (Yl_not_t rfl rfl) rfl rfl ?_ | refine X_yl (Yl_sub rfl rfl rfl (w64 (by omega) (by omega))) rfl rfl ?_) | (refine C_id ?_; first | refine C_region ?_ | refine C_skip ?_ | refine C_cond_f rfl ?_) | (refine E_id ?_; first | refine E_code ?_ | refine E_blk_n ?_))
   refine E_round (k - 1) ⟨rfl, rfl, ?_, trivial⟩ ⟨by omega, hi'⟩ (by omega)
   rw [e2]; rfl
  ·repeat (first | (refine G_id ?_; first | refine G_nil ?_ | refine G_plain rfl rfl ?_) | (refine X_id ?_; first | refine X_yl (Yl_not_f rfl rfl) rfl rfl ?_) | (refine C_id ?_; first | refine C_ret ?_ | refine C_cond_t rfl ?_) | (refine E_id ?_; first | refine E_code ?_ | refine E_then_ret ?_ | refine E_blk_ret ?_ | refine E_ret0 rfl (Ret.mk ?_)))
   exact .inr hs
end Cr
