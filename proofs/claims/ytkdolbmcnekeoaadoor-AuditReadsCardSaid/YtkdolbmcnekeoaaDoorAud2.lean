/-
  Structs and slices that a run makes: build, make, append, copy, slicing. Over any program.
  Slicing, copy, arrays' slices; stores whose cells are known as a list only. Over any program.
  'for .. := range f { .. }', f a function: rules for the walk. Over any program.
  Bits, strings of bytes. Over any program.
  Lists of cells in parts; bytes in a block; quotients. Over any program.
  Calls that make memory. Over any program.
  Conversions between bytes and strings, strings' comparison, copy, append of zeros. Over any program.
  Operations on strings: sums, lengths, pieces, bytes of a string. Over any program.
  Calls of functions without a Go body (sync/atomic, internal/race), deferred calls. Over any program.
-/
import Derived.Test.YtkdolbmcnekeoaaDoorAud1
import Derived.Laws.BytesString
import Derived.Laws.Strings
import Derived.Laws.CopyRow
import Derived.Lib.ConvBytes
import Derived.Laws.Concat
namespace Cr
open Go

theorem set_mid (l : List Value) (i : Nat) (v : Value) (h : i < l.length) : l.set i v = l.take i ++ v :: l.drop (i + 1) := by
  rw [List.set_eq_take_append_cons_drop, if_pos h]
theorem splice_fold (off : Nat) : ∀ (vs cs : List Value) (k : Nat), off + k + vs.length ≤ cs.length →
    (((vs.zipIdx k).foldl (fun (c : Array Value) (x : Value × Nat) => c.setIfInBounds (off + x.2) x.1) cs.toArray)) = (cs.take (off + k) ++ vs ++ cs.drop (off + k + vs.length)).toArray
  | [], cs, k, _ => by simp
  | v :: vs, cs, k, h => by
    simp only [List.zipIdx_cons, List.foldl_cons, List.length_cons] at h ⊢
    rw [List.setIfInBounds_toArray, splice_fold off vs (cs.set (off + k) v) (k + 1) (by simp; omega)]
    congr 1
    have h1 : off + k < cs.length := by omega
    have hl : (cs.take (off + k)).length = off + k := by simp; omega
    rw [set_mid cs _ v h1, show off + (k + 1) = (cs.take (off + k)).length + 1 by omega, List.take_length_add_append, show (cs.take (off + k)).length + 1 + vs.length = (cs.take (off + k)).length + (1 + vs.length) by omega, List.drop_length_add_append]
    simp only [List.take_succ_cons, List.take_zero, List.append_assoc, List.cons_append, List.nil_append, show 1 + vs.length = vs.length + 1 by omega, List.drop_succ_cons, List.drop_drop]
    rw [show off + k + (vs.length + 1) = off + k + 1 + vs.length by omega]

/-- One part laid: what 'fill' does with it. -/
theorem fill_step {place : Nat → Option (Nat × Nat)} {i off : Nat} {v : Value} {vs cs : List Value} {r : List (Nat × Value)} (hp : place i = some (off, vs.length)) (hv : v.cells = vs.toArray) (hfit : off + vs.length ≤ cs.length) :
    Instr.fill place cs.toArray ((i, v) :: r) = Instr.fill place (cs.take off ++ vs ++ cs.drop (off + vs.length)).toArray r := by
  simp only [Instr.fill, hp, hv]
  rw [if_neg (by simp; omega)]
  congr 1
  have := splice_fold off vs cs 0 (by simpa using hfit)
  simp only [Nat.add_zero] at this
  rw [← this, ← Array.foldl_toList]
  simp

section
variable {P : Program} {o : Oper} {σ : Env} {w : World} {N : Nat} {ds : Md} {K : Env → World → Prop}
variable {x y : Operand} {t ty e : TypeId}

/-- The places of a struct's fields, as 'build' reads them. -/
def places (P : Program) (fs : List Field) : List (Nat × Nat) := fs.map fun f => (f.offset, P.cellsOf f.type)
class Str (P : Program) (t : TypeId) (pl : outParam (List (Nat × Nat))) : Prop where
  str : ∃ fs : List Field, P.underlying t = some (.struct fs.toArray) ∧ fs.map (fun f => (P.info? f.type).map (·.size)) = pl.map (fun x => some x.2) ∧ fs.map (·.offset) = pl.map (·.1)
theorem run_places : ∀ (fs : List Field) (pl : List (Nat × Nat)) (w : World), fs.map (fun f => (P.info? f.type).map (·.size)) = pl.map (fun x => some x.2) → fs.map (·.offset) = pl.map (·.1) →
    (fs.mapM (fun f => do pure (f.offset, ← Go.sizeOf f.type)) : Sem (List (Nat × Nat))).run P w = .ok pl w
  | [], pl, w, h, _ => by
    cases pl with
    | nil => simp
    | cons _ _ => simp at h
  | f :: fs, pl, w, h1, h2 => by
    cases pl with
    | nil => simp at h1
    | cons q pl =>
      simp only [List.map_cons, List.cons.injEq] at h1 h2
      have hs : (Go.sizeOf f.type).run P w = .ok q.2 w := run_sizeOf (h := ⟨h1.1⟩) w
      have := run_places fs pl w h1.2 h2.2
      have hf : (do pure (f.offset, ← Go.sizeOf f.type) : Sem (Nat × Nat)).run P w = .ok q w := by
        rw [Sem.run_bind, hs]
        show Result.ok (f.offset, q.2) w = _
        rw [h2.1]
      rw [List.mapM_cons, Sem.run_bind, hf]
      show (List.mapM _ fs >>= _ : Sem _).run P w = _
      rw [Sem.run_bind, this]
      rfl
/-- The parts laid over the cells, one behind the other. -/
class Lay (pl : List (Nat × Nat)) (cs : List Value) (parts : List (Nat × Value)) (cs' : outParam (List Value)) : Prop where
  lay : Instr.fill (fun i => pl[i]?) cs.toArray parts = some cs'.toArray
instance (pl : List (Nat × Nat)) (cs : List Value) : Lay pl cs [] cs := ⟨rfl⟩
class NthP (l : List (Nat × Nat)) (n : Nat) (a b : outParam Nat) : Prop where
  nth : l[n]? = some (a, b)
instance (a b : Nat) (l : List (Nat × Nat)) : NthP ((a, b) :: l) 0 a b := ⟨rfl⟩
instance (u : Nat × Nat) (l : List (Nat × Nat)) (n a b : Nat) [h : NthP l n a b] : NthP (u :: l) (n + 1) a b := ⟨by simpa using h.nth⟩
instance (pl : List (Nat × Nat)) (cs cs1 cs2 vs : List Value) (i off n : Nat) (v : Value) (r : List (Nat × Value)) [hn : NthP pl i off n] [hv : CellsOf v vs] [hl : LenIs vs n] [hs : Spl cs off vs cs1] [hr : Lay pl cs1 r cs2] : Lay pl cs ((i, v) :: r) cs2 := ⟨by
  rw [fill_step (off := off) (by rw [hl.len]; exact hn.nth) hv.cells hs.spl.1, hs.spl.2]; exact hr.lay⟩
def evps (σ : Env) : List (Nat × Operand) → Option (List (Nat × Value))
  | [] => some []
  | (i, x) :: r => match ev σ x, evps σ r with
    | some v, some l => some ((i, v) :: l)
    | _, _ => none
theorem Fr.evalps {a : Act} (h : Fr σ N ds a) : ∀ {xs : List (Nat × Operand)} {vs : List (Nat × Value)}, evps σ xs = some vs → xs.map (fun x => (x.1, a.eval x.2)) = vs
  | [], vs, he => by simpa [evps] using he
  | (i, x) :: r, vs, he => by
    unfold evps at he
    cases hx : ev σ x with
    | none => simp [hx] at he
    | some v =>
      cases hr : evps σ r with
      | none => simp [hx, hr] at he
      | some l =>
        simp [hx, hr] at he
        subst he
        simp [h.eval hx, h.evalps hr]
theorem run_build {z : Value} {n m : Nat} {pl : List (Nat × Nat)} {parts : List (Nat × Value)} {cs cs' : List Value} [hi : Inf P t z n m] [hs : Str P t pl] (hz : z.cells = cs.toArray) (hl : Instr.fill (fun i => pl[i]?) cs.toArray parts = some cs'.toArray) :
    (Instr.build t parts.toArray).run P w = .ok (.agg cs'.toArray) w := by
  obtain ⟨i, hi, hz', _⟩ := info_parts hi.inf
  obtain ⟨fs, h1, h2, h3⟩ := hs.str
  have hp := run_places (P := P) fs pl w h2 h3
  have hp' : (fs.toArray.mapM (fun f => do pure (f.offset, ← Go.sizeOf f.type)) : Sem (Array (Nat × Nat))).run P w = .ok pl.toArray w := by
    rw [List.mapM_toArray, ← bind_pure_comp, Sem.run_bind, hp]
    rfl
  have hq : (zeroValue t).run P w = .ok z w := by simp [zeroValue, typeInfo, hi, hz']
  unfold Instr.build
  rw [Sem.run_bind, hq]
  show (underlying t >>= _ : Sem _).run P w = _
  rw [Sem.run_bind, run_underlying h1]
  show (Array.mapM _ fs.toArray >>= _ : Sem _).run P w = _
  rw [Sem.run_bind, hp']
  simp only [Result.andThen, hz]
  simp [hl]
theorem Yl_build {z : Value} {n m : Nat} {pl : List (Nat × Nat)} {xs : List (Nat × Operand)} {parts : List (Nat × Value)} {cs cs' : List Value} (ho : o.op = .build t xs.toArray) (hx : evps σ xs = some parts) [hi : Inf P t z n m] [hs : Str P t pl] (hz : z.cells = cs.toArray) [hl : Lay pl cs parts cs'] : Yl P o σ w (.agg cs'.toArray) := ⟨fun N ds a ha => by
  have := run_build (P := P) (t := t) (w := w) hz hl.lay
  have e := ha.evalps hx
  simp [execOp, ho, e, this]⟩

/-! ### slices -/
theorem firstCells_row {size m c : Nat} {a : Option Addr} {news : List Value} (h : Rd w (row a news)) (hl : news.length = m * size) : (Builtin.firstCells size m (.slice a m c)).run P w = .ok news.toArray w := by
  cases a with
  | none =>
    obtain ⟨f, hr, _⟩ := h
    rcases hr with ⟨rfl, _⟩ | ⟨b, off, _, _, _, hx, _⟩
    · simp [Builtin.firstCells]
    · cases hx
  | some ad =>
    obtain ⟨f, hr, ha⟩ := h
    refine run_firstCells_some (P := P) w size m ad m c news hl fun j v hv => ?_
    rcases hr with ⟨rfl, _⟩ | ⟨b, off, cells, T, fz, hx, hf, hc⟩
    · cases hv
    · obtain rfl : ad = ⟨b, off, none⟩ := Option.some.inj hx
      rw [add_lit, cell_of_row w b _ cells T fz (ha b _ (by rw [hf]; exact single_self _ _))]
      exact hc j v hv

/-- A new block of a run's own, as a row of c places of e cells. -/
theorem own_of_pts {T e c : Nat} {b : Nat} {l cs : List Value} (hl : l.length = c * e) (hc : c ≤ maxLen) (hcs : l.take cs.length = cs) : ∀ h, pts b (.cells l.toArray T (0, 0)) h → own T e (some ⟨b, 0, none⟩) c cs h := fun h hh => by
  have : cs.length ≤ c * e := by rw [← hl, ← hcs]; simp; omega
  exact ⟨this, hc, .inr ⟨b, l.toArray, rfl, hh, by simpa using hl, by simpa using hcs⟩⟩
theorem own_none (T e : Nat) (a : Option Addr) : own T e a 0 [] (fun _ => none) := ⟨by simp, by simp [maxLen], .inl ⟨rfl, fun _ => rfl⟩⟩
/-- The nil slice, and each without places, is owned by everyone. -/
theorem St.own_none {W : World} {F : Nat → Prop} {rs : List Res} (hS : St W F rs w) (T e : Nat) (a : Option Addr) : St W F (own T e a 0 [] :: rs) w := by
  obtain ⟨h, hs, s⟩ := hS
  exact ⟨h, ⟨_, h, Cr.own_none T e a, hs, fun _ => .inl rfl, fun _ => by simp⟩, s⟩

class HasOwn (rs : List Res) (a : Option Addr) (T e c : outParam Nat) (cs : outParam (List Value)) (rest : outParam (List Res)) : Prop where
  has : rs.Perm (own T e a c cs :: rest)
instance (rs : List Res) (a : Option Addr) (T e c : Nat) (cs : List Value) : HasOwn (own T e a c cs :: rs) a T e c cs rs := ⟨.refl _⟩
instance (r : Res) (rs : List Res) (a : Option Addr) (T e c : Nat) (cs : List Value) (rest : List Res) [h : HasOwn rs a T e c cs rest] : HasOwn (r :: rs) a T e c cs (r :: rest) := ⟨(List.Perm.cons r h.has).trans (.swap _ _ _)⟩

theorem run_append {T size bytes c n m c2 : Nat} {a a2 : Option Addr} {cs news : List Value} {z : Value} {W : World} {F : Nat → Prop} {rest : List Res} (tx : TypeId) [h : Und P t (.slice T)] [hx : Und P tx (.slice T)] [hi : Inf P T z size bytes]
    (hS : St W F (own T size a c cs :: rest) w) (hcs : cs.length = n * size) (hnews : Rd w (row a2 news)) (hl : news.length = m * size) (h1 : ∀ u ∈ news, u.oneCell' = true) (hnc : n ≤ c) (hfit : (n + m) * bytes ≤ 140737488355328) (hmax : n + m ≤ maxLen) :
    ∃ a' c' w', (Builtin.append_ #[t, tx] ty #[.slice a n c, .slice a2 m c2]).run P w = .ok (.slice a' (n + m) c') w' ∧ St W F (own T size a' c' (cs ++ news) :: rest) w' ∧ n + m ≤ c' ∧ (a' = none ↔ a = none ∧ m = 0) := by
  obtain ⟨i, hi', hz', hsz, hby⟩ := info_parts hi.inf
  have hz := hi.zs
  subst hsz hby
  have hf := firstCells_row (P := P) (size := i.size) (m := m) (c := c2) hnews hl
  obtain ⟨f, ⟨f1, f2, ho, hs, hd, hu⟩, s⟩ := hS
  have hlt : ((n + m : Nat) : Int) ≤ 9223372036854775807 := by simp only [maxLen] at hmax; omega
  by_cases hroom : n + m ≤ c
  · have ho' := ho
    obtain ⟨_, hcm, ⟨rfl, he⟩ | ⟨b, cells, rfl, hf1, hcz, ht⟩⟩ := ho
    · obtain rfl : n = 0 := by omega
      obtain rfl : m = 0 := by omega
      obtain rfl : news = [] := List.eq_nil_of_length_eq_zero (by simpa using hl)
      refine ⟨a, 0, w, ?_, ⟨f, ⟨f1, f2, by simpa using ho', hs, hd, hu⟩, s⟩, by omega, by simp⟩
      cases a <;> simp [Builtin.append_, run_underlying h.und, run_underlying hx.und, Go.sizeOf, typeInfo, hi', Builtin.lenOf, hf, storeCells]
    · have hb : w.heap[b]? = some (.cells cells T (0, 0)) := s.agrees b _ (by rw [hu, hf1, single_self]; rfl)
      have hfit2 : n * i.size + news.length ≤ cells.size := by rw [hl, hcz, ← Nat.add_mul]; exact Nat.mul_le_mul_right _ hroom
      have hst := run_storeCells_at P b (n * i.size) T news 0 cells w hb (by simpa using hfit2) h1
      simp only [Nat.add_zero] at hst
      have u := setBlock_row hb (cells.toList.take (n * i.size) ++ news ++ cells.toList.drop (n * i.size + news.length)).toArray
      have hlen : (cells.toList.take (n * i.size) ++ news ++ cells.toList.drop (n * i.size + news.length)).length = c * i.size := by
        simp only [List.length_append, List.length_take, List.length_drop, Array.length_toList]; omega
      refine ⟨some ⟨b, 0, none⟩, c, w.setRow b (cells.toList.take (n * i.size) ++ news ++ cells.toList.drop (n * i.size + news.length)).toArray, ?_, ?_, hroom, by simp⟩
      · simp [Builtin.append_, run_underlying h.und, run_underlying hx.und, Go.sizeOf, typeInfo, hi', Builtin.lenOf, hf, hroom, add_lit, hst]
      · have hS2 : St W F (pts b (.cells cells T (0, 0)) :: rest) w := ⟨f, ⟨f1, f2, hf1, hs, hd, hu⟩, s⟩
        refine (hS2.set u).imp fun g hg => hg.mono_head (own_of_pts (c := c) hlen hcm ?_)
        rw [hcs] at ht
        rw [ht, List.take_append_of_le_length (by simp), List.take_of_length_le (by simp)]
  · have hge : n + m ≤ grownCap w (n + m) c T := grownCap_ge w (n + m) c T
    have hcm : grownCap w (n + m) c T ≤ maxLen := grownCap_le_maxLen w (n + m) c T hmax
    have hn' : ¬ (n + m ≤ c) := hroom
    have hmin : ¬ (9223372036854775807 < ((n : Int) + (m : Int))) := by omega
    have h48 : ¬ (281474976710656 < Builtin.nextslicecap (n + m) c * i.bytes) := by have := growslice_fits (show c < n + m by omega) hfit; omega
    have hfd : (Builtin.firstCells i.size m (.slice a2 m c2)).run P w.drew = .ok news.toArray w.drew := firstCells_row (P := P) (by
      obtain ⟨g, hg, ha⟩ := hnews; exact ⟨g, hg, ha⟩) hl
    have hod : (Builtin.firstCells i.size n (.slice a n c)).run P w.drew = .ok cs.toArray w.drew := firstCells_row (P := P) (size := i.size) ⟨f1, ho.row, fun b o e => s.agrees b o (by rw [hu, e]; rfl)⟩ hcs
    let blk := cs.toArray ++ news.toArray ++ Builtin.zeroCells z.cells (grownCap w (n + m) c T - (n + m))
    have hS2 : St W F rest w := St.drop ⟨f, ⟨f1, f2, ho, hs, hd, hu⟩, s⟩
    refine ⟨some ⟨w.heap.size, 0, none⟩, grownCap w (n + m) c T, w.drew.alloc (.cells blk T), ?_, ?_, hge, by simp; omega⟩
    · simp [Builtin.append_, run_underlying h.und, run_underlying hx.und, Go.sizeOf, typeInfo, zeroValue, hi', hz', Builtin.lenOf, hn', hmin, h48, Question.forced, hod, hfd, newRow, grownCap, blk]
    · have hlen : blk.toList.length = grownCap w (n + m) c T * i.size := by
        simp only [blk, Array.length_toList, Array.size_append, List.size_toArray, size_zeroCells, hz, hcs, hl, ← Nat.add_mul]
        congr 1; omega
      have h3 := hS2.drew.alloc (.cells blk T)
      refine St.imp h3 fun g hg => hg.mono_head ?_
      have key := own_of_pts (T := T) (e := i.size) (c := grownCap w (n + m) c T) (b := w.heap.size) (l := blk.toList) (cs := cs ++ news) hlen hcm (by simp only [blk, Array.toList_append]; exact List.take_left)
      simpa using key
theorem X_append {T size bytes c n m c2 : Nat} {a a2 : Option Addr} {cs news : List Value} {z : Value} {W : World} {F : Nat → Prop} {rs rest : List Res} {d : Nat} {tx : TypeId} (ho : o.op = .call { callee := .builtin .append, args := #[x, y], argTypes := #[t, tx] }) (hx : ev σ x = some (.slice a n c)) (hy : ev σ y = some (.slice a2 m c2))
    [h : Und P t (.slice T)] [hx' : Und P tx (.slice T)] [hi : Inf P T z size bytes] (hd : o.dst = some d) (hN : Nat.blt d N = true) (hS : St W F rs w) [hh : HasOwn rs a T size c cs rest] (hcs : cs.length = n * size) (hnc : n ≤ c) (hnews : Rd w (row a2 news)) (hl : news.length = m * size) (h1 : ∀ u ∈ news, u.oneCell' = true)
    (hfit : (n + m) * bytes ≤ 140737488355328) (hmax : n + m ≤ maxLen)
    (hk : ∀ a' c' w', St W F (own T size a' c' (cs ++ news) :: rest) w' → n + m ≤ c' → (a' = none ↔ a = none ∧ m = 0) → K ((d, .slice a' (n + m) c') :: σ) w') : X P o N ds σ w K := ⟨fun f ha K' Q' hK => by
  obtain ⟨a', c', w', hr, hS', hc', hn⟩ := run_append (P := P) (t := t) (ty := o.type) (c2 := c2) tx (hS.perm hh.has) hcs hnews hl h1 hnc hfit hmax
  unfold Oper.wp
  have hexec : (execOp f.eval o).run P w = .ok (.value (.slice a' (n + m) c')) w' := by
    simp [execOp, ho, resolve, invoke, builtin, ha.eval hx, ha.eval hy, hr]
  rw [hexec]
  have := hK _ _ _ (ha.put (lt_of_blt hN) (.slice a' (n + m) c')) (hk a' c' w' hS' hc' hn)
  rw [← hd] at this
  exact this⟩

/-! ### make, slice literals -/
theorem madeCells_one (z : Value) (n : Nat) : madeCells #[z] n = (List.replicate n z).toArray := by
  apply Array.ext
  · simp [madeCells]
  · intro i h1 h2
    have : i % 1 = 0 := by omega
    simp [madeCells, this]
theorem X_make {T size bytes d : Nat} {k k' : IntKind} {l c : Int} {z : Value} {W : World} {F : Nat → Prop} {rs : List Res} (ho : o.op = .makeSlice t x y) (hx : ev σ x = some (.int k l)) (hy : ev σ y = some (.int k' c))
    [h : Und P t (.slice T)] [hi : Inf P T z size bytes] (h0 : 0 ≤ l) (hlc : l ≤ c) (hb : (bytes : Int) * c ≤ 281474976710656) (hm : c ≤ 9223372036854775807) (hd : o.dst = some d) (hN : Nat.blt d N = true) (hS : St W F rs w)
    (hk : ∀ b w', St W F (pts b (.cells (madeCells z.cells (c.toNat * size)) T (0, 0)) :: rs) w' → RowKit.Below w.heap.size w w' → K ((d, .slice (some ⟨b, 0, none⟩) l.toNat c.toNat) :: σ) w') : X P o N ds σ w K := ⟨fun f ha K' Q' hK => by
  obtain ⟨i, hi', hz', hsz, hby⟩ := info_parts hi.inf
  subst hsz hby
  have hr := run_make (P := P) w t T i z h.und hi' hz' k k' l c h0 hlc hb hm
  unfold Oper.wp
  have hexec : (execOp f.eval o).run P w = .ok (.value (.slice (some ⟨w.heap.size, 0, none⟩) l.toNat c.toNat)) (w.alloc (.cells (madeCells z.cells (c.toNat * i.size)) T)) := by
    simp [execOp, ho, ha.eval hx, ha.eval hy, hr]
  rw [hexec]
  have := hK _ _ _ (ha.put (lt_of_blt hN) (.slice (some ⟨w.heap.size, 0, none⟩) l.toNat c.toNat)) (hk w.heap.size _ (hS.alloc _) ((RowKit.Below.refl _ _).alloc (Nat.le_refl _) _))
  rw [← hd] at this
  exact this⟩
/-- make, of elements of one cell. -/
theorem X_make1 {T bytes d : Nat} {k k' : IntKind} {l c : Int} {z : Value} {W : World} {F : Nat → Prop} {rs : List Res} (ho : o.op = .makeSlice t x y) (hx : ev σ x = some (.int k l)) (hy : ev σ y = some (.int k' c))
    [h : Und P t (.slice T)] [hi : Inf P T z 1 bytes] (hz : z.cells = #[z]) (h0 : 0 ≤ l) (hlc : l ≤ c) (hb : (bytes : Int) * c ≤ 281474976710656) (hm : c ≤ 9223372036854775807) (hd : o.dst = some d) (hN : Nat.blt d N = true) (hS : St W F rs w)
    (hk : ∀ b w', St W F (own T 1 (some ⟨b, 0, none⟩) c.toNat (List.replicate l.toNat z) :: rs) w' → K ((d, .slice (some ⟨b, 0, none⟩) l.toNat c.toNat) :: σ) w') : X P o N ds σ w K :=
  X_make ho hx hy h0 hlc hb hm hd hN hS fun b w' hS' _ => hk b w' (hS'.imp fun g hg => hg.mono_head fun q hq => by
    rw [hz, madeCells_one] at hq
    refine own_of_pts (l := List.replicate (c.toNat * 1) z) (by simp) (by simp only [maxLen]; omega) ?_ q hq
    simp [List.take_replicate]; omega)

class AppL (a b : List Value) (c : outParam (List Value)) : Prop where
  app : a ++ b = c
instance (b : List Value) : AppL [] b b := ⟨rfl⟩
instance (v : Value) (a b c : List Value) [h : AppL a b c] : AppL (v :: a) b (v :: c) := ⟨by simp [h.app]⟩
instance (a : List Value) : AppL a [] a := ⟨by simp⟩
/-- The cells of a slice literal's parts. -/
class CellsAll (parts : List (Nat × Value)) (size : Nat) (l : outParam (List Value)) : Prop where
  all : ∃ ls : List (List Value), ls.length = parts.length ∧ (∀ (i : Nat) (p : Nat × Value) (vs : List Value), parts[i]? = some p → ls[i]? = some vs → p.2.cells = vs.toArray ∧ vs.length = size) ∧ ls.flatten = l
instance (size : Nat) : CellsAll [] size [] := ⟨[], rfl, by simp, rfl⟩
instance (i size : Nat) (v : Value) (vs l l' : List Value) (r : List (Nat × Value)) [hv : CellsOf v vs] [hn : LenIs vs size] [hr : CellsAll r size l] [ha : AppL vs l l'] : CellsAll ((i, v) :: r) size l' := ⟨by
  obtain ⟨ls, h1, h2, h3⟩ := hr.all
  refine ⟨vs :: ls, by simp [h1], fun j p us hp hu => ?_, by simp [h3, ha.app]⟩
  cases j with
  | zero => simp at hp hu; subst hp; subst hu; exact ⟨hv.cells, hn.len⟩
  | succ j => exact h2 j p us (by simpa using hp) (by simpa using hu)⟩
theorem fill_row {size : Nat} : ∀ (parts : List (Nat × Value)) (ls : List (List Value)) (k : Nat) (A Z : List Value), ls.length = parts.length → (∀ (i : Nat) (p : Nat × Value) (vs : List Value), parts[i]? = some p → ls[i]? = some vs → p.2.cells = vs.toArray ∧ vs.length = size) →
    parts.map (·.1) = List.range' k parts.length → A.length = k * size → Z.length = parts.length * size →
    Instr.fill (fun i => some (i * size, size)) (A ++ Z).toArray parts = some (A ++ ls.flatten).toArray
  | [], ls, k, A, Z, h1, _, _, _, hZ => by
    obtain rfl : ls = [] := List.eq_nil_of_length_eq_zero (by simpa using h1)
    obtain rfl : Z = [] := List.eq_nil_of_length_eq_zero (by simpa using hZ)
    simp [Instr.fill]
  | (i, v) :: r, ls, k, A, Z, h1, h2, h3, hA, hZ => by
    cases ls with
    | nil => simp at h1
    | cons vs ls =>
      obtain ⟨hv, hn⟩ := h2 0 (i, v) vs rfl rfl
      simp only [List.map_cons, List.length_cons, List.range'_succ, List.cons.injEq] at h3
      obtain ⟨rfl, h3⟩ := h3
      simp only [List.length_cons] at hZ h1
      have hZ' : size ≤ Z.length := by rw [hZ, Nat.add_mul]; omega
      rw [fill_step (off := i * size) (vs := vs) (by simp [hn]) hv (by simp [hA, hn]; exact hZ')]
      have e : (A ++ Z).take (i * size) ++ vs ++ (A ++ Z).drop (i * size + vs.length) = (A ++ vs) ++ Z.drop size := by
        rw [← hA, List.take_left, List.drop_length_add_append, hn]
      rw [e, fill_row r ls (i + 1) (A ++ vs) (Z.drop size) (by omega) (fun j p us hp hu => h2 (j + 1) p us (by simpa using hp) (by simpa using hu)) h3 (by simp [hA, hn, Nat.add_mul]) (by simp [hZ, Nat.add_mul])]
      simp
theorem X_buildSlice {T size bytes d n : Nat} {z : Value} {xs : List (Nat × Operand)} {parts : List (Nat × Value)} {l : List Value} {W : World} {F : Nat → Prop} {rs : List Res} (ho : o.op = .buildSlice t n xs.toArray) (hx : evps σ xs = some parts) (hn : parts.length = n) (hidx : parts.map (·.1) = List.range' 0 n)
    [h : Und P t (.slice T)] [hi : Inf P T z size bytes] (hsm : Nat.ble (n * size) 16777216 = true) (hnm : Nat.ble n 16777216 = true) [hl : CellsAll parts size l] (hd : o.dst = some d) (hN : Nat.blt d N = true) (hS : St W F rs w)
    (hk : ∀ b w', St W F (own T size (some ⟨b, 0, none⟩) n l :: rs) w' → RowKit.Below w.heap.size w w' → K ((d, .slice (some ⟨b, 0, none⟩) n n) :: σ) w') : X P o N ds σ w K := ⟨fun f ha K' Q' hK => by
  obtain ⟨i, hi', hz', hsz, hby⟩ := info_parts hi.inf
  have hz := hi.zs
  subst hsz hby
  subst hn
  obtain ⟨ls, h1, h2, h3⟩ := hl.all
  have hsm' : parts.length * i.size ≤ 16777216 := Nat.le_of_ble_eq_true hsm
  have e := ha.evalps hx
  have hlen : l.length = parts.length * i.size := by
    rw [← h3, List.length_flatten]
    have : ls.map List.length = List.replicate parts.length i.size := by
      apply List.ext_getElem
      · simp [h1]
      · intro j hj1 hj2
        simp at hj1 hj2 ⊢
        exact (h2 j _ _ (List.getElem?_eq_getElem (by omega)) (List.getElem?_eq_getElem hj1)).2
    rw [this]; simp
  have hfill : ∀ zc : Array Value, Instr.fill (fun j => some (j * i.size, i.size)) ((Array.range (parts.length * i.size)).map (zc[· % zc.size]!)) parts = some l.toArray := fun zc => by
    have hq := fill_row (size := i.size) parts ls 0 [] ((Array.range (parts.length * i.size)).map (zc[· % zc.size]!)).toList h1 h2 hidx (by simp) (by simp)
    simp only [List.nil_append, Array.toArray_toList] at hq
    rw [hq, h3]
  have hexec : (execOp f.eval o).run P w = .ok (.value (.slice (some ⟨w.heap.size, 0, none⟩) parts.length parts.length)) (w.alloc (.cells l.toArray T)) := by
    have hsm2 : ¬ (16777216 < parts.length * i.size) := by omega
    have hq : ∀ zc : Array Value, ((Instr.fill (fun j => some (j * i.size, i.size)) ((Array.range (parts.length * i.size)).map (zc[· % zc.size]!)) parts)) = some l.toArray := hfill
    simp only [execOp, ho, List.map_toArray, e, Sem.run_bind, Instr.buildSlice, run_underlying h.und, Result.andThen_ok, Go.sizeOf, typeInfo, run_program, hi', Sem.run_pure, zeroValue]
    by_cases h00 : parts.length * i.size = 0
    · simp [h00, newRow]
      have := hq #[]
      rw [h00] at this
      simp at this
      simp [this]
    · simp [hsm2, h00, newRow, hq, hi', hz']
  unfold Oper.wp
  rw [hexec]
  have hmx : parts.length ≤ maxLen := by
    simp only [maxLen]
    have := Nat.le_of_ble_eq_true hnm
    omega
  have := hK _ _ _ (ha.put (lt_of_blt hN) (.slice (some ⟨w.heap.size, 0, none⟩) parts.length parts.length)) (hk w.heap.size _ ((hS.alloc (.cells l.toArray T)).imp fun g hg => hg.mono_head (own_of_pts (e := i.size) (c := parts.length) (cs := l) hlen hmx (by simp))) ((RowKit.Below.refl _ _).alloc (Nat.le_refl _) _))
  rw [← hd] at this
  exact this⟩
end
end Cr
namespace Cr
open Go

/-- The base of x[l:..], where x has places for c elements of e cells each. -/
def sub (a : Option Addr) (l e c : Nat) : Option Addr := if c = l then a else a.map (·.add (l * e))
theorem sub_zero (a : Option Addr) (e c : Nat) : sub a 0 e c = a := by
  unfold sub; cases a <;> simp [Addr.add]
theorem row_sub {a : Option Addr} {cs cs' : List Value} {l e c : Nat} (hs : ∀ j v, cs'[j]? = some v → cs[l * e + j]? = some v) (hz : c = l → cs' = []) : ∀ h, row a cs h → ∃ h', row (sub a l e c) cs' h' ∧ ∀ b o, h' b = some o → h b = some o := by
  intro h H
  unfold sub
  by_cases hc : c = l
  · have := hz hc; subst this
    exact ⟨fun _ => none, .inl ⟨rfl, fun _ => rfl⟩, fun _ _ h => by cases h⟩
  · rw [if_neg hc]
    rcases H with ⟨rfl, hh⟩ | ⟨b, off, cells, T, fz, rfl, hh, hk⟩
    · have : cs' = [] := by
        cases cs' with
        | nil => rfl
        | cons x l => have := hs 0 x rfl; simp at this
      exact ⟨h, .inl ⟨this, hh⟩, fun _ _ x => x⟩
    · exact ⟨h, .inr ⟨b, off + l * e, cells, T, fz, by simp [add_lit], hh, fun j v hv => by rw [Nat.add_assoc]; exact hk _ _ (hs j v hv)⟩, fun _ _ x => x⟩
theorem Rd.sub {w : World} {a : Option Addr} {cs : List Value} {l h e c : Nat} (H : Rd w (row a cs)) (hh : h ≤ c) (hl : l ≤ h) : Rd w (row (sub a l e c) ((cs.drop (l * e)).take ((h - l) * e))) :=
  H.mono (row_sub (fun j v hv => by
    rw [List.getElem?_take] at hv; split at hv
    · simpa using hv
    · cases hv) (fun hc => by subst hc; simp [show h - c = 0 by omega]))
theorem Ro.sub {w : World} {F : Nat → Prop} {a : Option Addr} {cs : List Value} {l h e c : Nat} (H : Ro w F (row a cs)) (hh : h ≤ c) (hl : l ≤ h) : Ro w F (row (Cr.sub a l e c) ((cs.drop (l * e)).take ((h - l) * e))) :=
  H.mono (row_sub (fun j v hv => by
    rw [List.getElem?_take] at hv; split at hv
    · simpa using hv
    · cases hv) (fun hc => by subst hc; simp [show h - c = 0 by omega]))
theorem Rd.subBytes {w : World} {a : Option Addr} {s : List UInt8} {l h c : Nat} (H : Rd w (bytes a s)) (hh : h ≤ c) (hl : l ≤ h) : Rd w (bytes (Cr.sub a l 1 c) ((s.drop l).take (h - l))) := by
  have := Rd.sub (e := 1) H hh hl
  simpa [bytes, bv_take, bv_drop] using this
theorem Ro.subBytes {w : World} {F : Nat → Prop} {a : Option Addr} {s : List UInt8} {l h c : Nat} (H : Ro w F (bytes a s)) (hh : h ≤ c) (hl : l ≤ h) : Ro w F (bytes (Cr.sub a l 1 c) ((s.drop l).take (h - l))) := by
  have := Ro.sub (e := 1) H hh hl
  simpa [bytes, bv_take, bv_drop] using this

section
variable {P : Program} {o : Oper} {σ : Env} {w : World} {N : Nat} {ds : Md} {K : Env → World → Prop}
variable {x y : Operand} {t ty e : TypeId}

def evo (σ : Env) : Option Operand → Option (Option Value)
  | none => some none
  | some x => match ev σ x with | some v => some (some v) | none => none
theorem Fr.evalo {a : Act} (h : Fr σ N ds a) {x : Option Operand} {v : Option Value} (hx : evo σ x = some v) : x.map a.eval = v := by
  cases x with
  | none => simpa [evo] using hx
  | some x =>
    unfold evo at hx
    cases he : ev σ x with
    | none => simp [he] at hx
    | some u => simp [he] at hx; subst hx; simp [h.eval he]
/-- What a bound comes to: absent, it is d; else within 0 .. m. -/
def Bnd (v : Option Value) (d m n : Nat) : Prop := (v = none ∧ n = d) ∨ (∃ k i, v = some (.int k i) ∧ 0 ≤ i ∧ i.toNat = n ∧ n ≤ m)
theorem Bnd.none {d m : Nat} : Bnd none d m d := .inl ⟨rfl, rfl⟩
theorem Bnd.some {k : IntKind} {i : Int} {d m : Nat} (h0 : 0 ≤ i) (h : i ≤ m) : Bnd (some (.int k i)) d m i.toNat := .inr ⟨k, i, rfl, h0, rfl, by omega⟩
theorem run_bound {k : IntKind} {i : Int} {m : Nat} {c : BoundsCode} (h0 : 0 ≤ i) (h : i.toNat ≤ m) : (Instr.sliceBound (.int k i) m c).run P w = .ok i.toNat w := by
  have : i ≤ m := by omega
  simp [Instr.sliceBound, asIntOf, h0, this]
theorem run_bounds {b : Bool} {len cap : Nat} {lo hi : Option Value} {l h : Nat} (hh : Bnd hi len cap h) (hl : Bnd lo 0 h l) : (Instr.sliceBounds b len cap lo hi none).run P w = .ok (l, h, cap) w := by
  unfold Instr.sliceBounds
  rcases hh with ⟨rfl, rfl⟩ | ⟨k, i, rfl, h0, rfl, h1⟩ <;> rcases hl with ⟨rfl, rfl⟩ | ⟨k', j, rfl, h0', rfl, h1'⟩ <;> simp [run_bound, *]
theorem run_bounds3 {b : Bool} {len cap : Nat} {lo hi mx : Option Value} {l h m : Nat} (hm : ∃ k i, mx = some (.int k i) ∧ 0 ≤ i ∧ i.toNat = m ∧ m ≤ cap) (hh : ∃ k i, hi = some (.int k i) ∧ 0 ≤ i ∧ i.toNat = h ∧ h ≤ m) (hl : Bnd lo 0 h l) : (Instr.sliceBounds b len cap lo hi mx).run P w = .ok (l, h, m) w := by
  unfold Instr.sliceBounds
  obtain ⟨k, i, rfl, h0, rfl, h1⟩ := hm
  obtain ⟨k2, i2, rfl, h02, rfl, h12⟩ := hh
  rcases hl with ⟨rfl, rfl⟩ | ⟨k', j, rfl, h0', rfl, h1'⟩ <;> simp [run_bound, *]
theorem Yl_slice {a : Option Addr} {n c m l h : Nat} {lo hi : Option Operand} {vl vh : Option Value} (ho : o.op = .slice t x lo hi none) (hx : ev σ x = some (.slice a n c)) (hlo : evo σ lo = some vl) (hhi : evo σ hi = some vh) [hu : Und P t (.slice e)] [hs : Siz P e m] (hh : Bnd vh n c h) (hl : Bnd vl 0 h l) :
    Yl P o σ w (.slice (sub a l m c) (h - l) (c - l)) := ⟨fun N ds f ha => by
  have hb := run_bounds (P := P) (w := w) (b := true) hh hl
  have hsz : (Go.sizeOf e).run P w = .ok m w := run_sizeOf w
  simp [execOp, ho, ha.eval hx, ha.evalo hlo, ha.evalo hhi, Instr.sliceAt, Instr.slice, run_underlying hu.und, hb, hsz, sub]⟩
theorem Yl_slice3 {a : Option Addr} {n c m l h k : Nat} {lo hi mx : Option Operand} {vl vh vm : Option Value} (ho : o.op = .slice t x lo hi mx) (hx : ev σ x = some (.slice a n c)) (hlo : evo σ lo = some vl) (hhi : evo σ hi = some vh) (hmx : evo σ mx = some vm) [hu : Und P t (.slice e)] [hs : Siz P e m]
    (hm : ∃ k' i, vm = some (.int k' i) ∧ 0 ≤ i ∧ i.toNat = k ∧ k ≤ c) (hh : ∃ k' i, vh = some (.int k' i) ∧ 0 ≤ i ∧ i.toNat = h ∧ h ≤ k) (hl : Bnd vl 0 h l) :
    Yl P o σ w (.slice (sub a l m k) (h - l) (k - l)) := ⟨fun N ds f ha => by
  have hb := run_bounds3 (P := P) (w := w) (b := true) (len := n) hm hh hl
  have hsz : (Go.sizeOf e).run P w = .ok m w := run_sizeOf w
  simp [execOp, ho, ha.eval hx, ha.evalo hlo, ha.evalo hhi, ha.evalo hmx, Instr.sliceAt, Instr.slice, run_underlying hu.und, hb, hsz, sub]⟩
theorem Yl_slice_str {s : ByteArray} {l h : Nat} {lo hi : Option Operand} {vl vh : Option Value} (ho : o.op = .slice t x lo hi none) (hx : ev σ x = some (.string s)) (hlo : evo σ lo = some vl) (hhi : evo σ hi = some vh) [hu : Und P t .string] (hh : Bnd vh s.size s.size h) (hl : Bnd vl 0 h l) :
    Yl P o σ w (.string (s.extract l h)) := ⟨fun N ds f ha => by
  have hb := run_bounds (P := P) (w := w) (b := false) hh hl
  simp [execOp, ho, ha.eval hx, ha.evalo hlo, ha.evalo hhi, Instr.sliceAt, Instr.slice, run_underlying hu.und, hb]⟩
/-- arr[:], arr an array's address. -/
theorem Yl_slice_arr {b off n : Nat} (ho : o.op = .slice t x none none none) (hx : ev σ x = some (.pointer (some ⟨b, off, none⟩))) [hu : Und P t (.array n e)] {m : Nat} [hs : Siz P e m] :
    Yl P o σ w (.slice (some ⟨b, off, none⟩) n n) := ⟨fun N ds f ha => by
  have hb := run_bounds (P := P) (w := w) (b := false) (len := n) (cap := n) (lo := none) (hi := none) .none .none
  have hsz : (Go.sizeOf e).run P w = .ok m w := run_sizeOf w
  simp [execOp, ho, ha.eval hx, Instr.sliceAt, Instr.sureAddr, run_underlying hu.und, hb, hsz, Addr.add]⟩
theorem Yl_slice_arr2 {b off n m l h : Nat} {lo hi : Option Operand} {vl vh : Option Value} (ho : o.op = .slice t x lo hi none) (hx : ev σ x = some (.pointer (some ⟨b, off, none⟩))) (hlo : evo σ lo = some vl) (hhi : evo σ hi = some vh) [hu : Und P t (.array n e)] [hs : Siz P e m] (hh : Bnd vh n n h) (hl : Bnd vl 0 h l) :
    Yl P o σ w (.slice (sub (some ⟨b, off, none⟩) l m n) (h - l) (n - l)) := ⟨fun N ds f ha => by
  have hb := run_bounds (P := P) (w := w) (b := false) hh hl
  have hsz : (Go.sizeOf e).run P w = .ok m w := run_sizeOf w
  simp [execOp, ho, ha.eval hx, ha.evalo hlo, ha.evalo hhi, Instr.sliceAt, Instr.sureAddr, run_underlying hu.und, hb, hsz, sub]
  split <;> rfl⟩
theorem Yl_arrayAt {a : Addr} {n c m : Nat} (ho : o.op = .sliceToArrayPointer t x) (hx : ev σ x = some (.slice (some a) n c)) [hu : Und P t (.array m e)] (hm : m ≤ n) : Yl P o σ w (.pointer (some a)) := ⟨fun N ds f ha => by
  have : ¬ n < m := by omega
  simp [execOp, ho, ha.eval hx, Instr.arrayAt, run_underlying hu.und, this]⟩

/-! ### stores by lists -/
def splice (l : List Value) (n : Nat) (vs : List Value) : List Value := l.take n ++ vs ++ l.drop (n + vs.length)
theorem splice_length {l vs : List Value} {n : Nat} (h : n + vs.length ≤ l.length) : (splice l n vs).length = l.length := by simp [splice]; omega
theorem splice_append {cs r vs : List Value} {i : Nat} (h : i + vs.length ≤ cs.length) : splice (cs ++ r) i vs = splice cs i vs ++ r := by
  unfold splice
  rw [List.take_append_of_le_length (by omega), List.drop_append_of_le_length h]
  simp
theorem X_storeL {b off m : Nat} {v : Value} {l vs : List Value} {T : TypeId} {W : World} {F : Nat → Prop} {rs rs' : List Res} (ho : o.op = .store t x y) (hx : ev σ x = some (.pointer (some ⟨b, off, none⟩))) (hy : ev σ y = some v) [hv : CellsOf v vs] [hs : Siz P t m] (hm : vs.length = m) (h1 : ∀ u ∈ vs, u.oneCell' = true)
    (hd : o.dst = none) (hS : St W F rs w) [hh : Has rs b (.cells l.toArray T (0, 0))] (hfit : off + vs.length ≤ l.length) [hu : Upd rs b (.cells (splice l off vs).toArray T (0, 0)) rs']
    (h : ∀ w', St W F rs' w' → (∀ k, k ≠ b → w'.heap[k]? = w.heap[k]?) → K σ w') : X P o N ds σ w K := ⟨fun a ha K' Q' hK => by
  unfold Oper.wp
  have hb := hS.has (b := b) (o := .cells l.toArray T (0, 0))
  have hr := run_storeVar (P := P) (t := t) hv.cells hm h1 hb hfit
  have hexec : (execOp a.eval o).run P w = .ok .skip (w.setRow b (splice l off vs).toArray) := by
    simp [execOp, ho, ha.eval hx, ha.eval hy, Instr.storeAt, Instr.sureAddr, hr, splice]
  rw [hexec]
  have u := setBlock_row hb (splice l off vs).toArray
  refine hK _ _ _ (?_ : Fr σ N ds _) (h _ (hS.upd u) u.other)
  rw [hd]
  exact ha⟩
/-- A store of one cell into a row of the run's own. -/
theorem X_storeOwn {T sz c i : Nat} {a : Option Addr} {v : Value} {cs : List Value} {W : World} {F : Nat → Prop} {rs rest : List Res} {ad : Addr} (ho : o.op = .store t x y) (hx : ev σ x = some (.pointer (some ad))) (had : ad = adr a i) (hy : ev σ y = some v) (hv : v.cells = #[v]) (h1 : v.oneCell' = true) [hs : Siz P t 1]
    (hd : o.dst = none) (hS : St W F rs w) [hh : HasOwn rs a T sz c cs rest] (hi : i < cs.length)
    (h : ∀ w', St W F (own T sz a c (cs.set i v) :: rest) w' → K σ w') : X P o N ds σ w K := ⟨fun f ha K' Q' hK => by
  subst had
  obtain ⟨g, ⟨g1, g2, hown, hrest, hdj, hu⟩, s⟩ := hS.perm hh.has
  obtain ⟨hle, hcm, ⟨rfl, _⟩ | ⟨b, cells, rfl, rfl, hcz, ht⟩⟩ := hown
  · rw [Nat.zero_mul] at hle; omega
  · have hb : w.heap[b]? = some (.cells cells T (0, 0)) := s.agrees b _ (by rw [hu, single_self]; rfl)
    have hlen : cells.toList.length = c * sz := by simpa using hcz
    have hb' : w.heap[b]? = some (.cells cells.toList.toArray T (0, 0)) := by simpa using hb
    have hr := run_storeVar (P := P) (t := t) (off := i) (vs := [v]) hv rfl (fun u hu => by simp at hu; subst hu; exact h1) hb' (by simp; omega)
    have e : cells.toList.take i ++ [v] ++ cells.toList.drop (i + 1) = cells.toList.set i v := by rw [set_mid _ _ _ (by omega)]; simp
    simp only [List.length_cons, List.length_nil, Nat.zero_add, e] at hr
    have hexec : (execOp f.eval o).run P w = .ok .skip (w.setRow b (cells.toList.set i v).toArray) := by
      simp [execOp, ho, ha.eval hx, ha.eval hy, Instr.storeAt, Instr.sureAddr, adr, hr]
    unfold Oper.wp
    rw [hexec]
    have u := setBlock_row hb (cells.toList.set i v).toArray
    have hS2 : St W F (pts b (.cells cells T (0, 0)) :: rest) w := ⟨g, ⟨_, g2, rfl, hrest, hdj, hu⟩, s⟩
    refine hK _ _ _ (?_ : Fr σ N ds _) (h _ ((hS2.set u).imp fun q hq => hq.mono_head (own_of_pts (by simp [hcz]) hcm ?_)))
    · rw [hd]; exact ha
    · simp only [List.length_set]
      rw [List.take_set, ht]⟩
/-- A store of several cells into a row of the run's own. -/
theorem X_storeOwnN {T sz c i m : Nat} {a : Option Addr} {v : Value} {cs vs : List Value} {W : World} {F : Nat → Prop} {rs rest : List Res} {ad : Addr} (ho : o.op = .store t x y) (hx : ev σ x = some (.pointer (some ad))) (had : ad = adr a i) (hy : ev σ y = some v) [hv : CellsOf v vs] (h1 : ∀ u ∈ vs, u.oneCell' = true) [hs : Siz P t m] (hm : vs.length = m)
    (hd : o.dst = none) (hS : St W F rs w) [hh : HasOwn rs a T sz c cs rest] (hi : i + vs.length ≤ cs.length) (hpos : 0 < cs.length)
    (h : ∀ w', St W F (own T sz a c (splice cs i vs) :: rest) w' → K σ w') : X P o N ds σ w K := ⟨fun f ha K' Q' hK => by
  subst had
  obtain ⟨g, ⟨g1, g2, hown, hrest, hdj, hu⟩, s⟩ := hS.perm hh.has
  obtain ⟨hle, hcm, ⟨rfl, _⟩ | ⟨b, cells, rfl, rfl, hcz, ht⟩⟩ := hown
  · rw [Nat.zero_mul] at hle; omega
  · have hb : w.heap[b]? = some (.cells cells T (0, 0)) := s.agrees b _ (by rw [hu, single_self]; rfl)
    have hlen : cells.toList.length = c * sz := by simpa using hcz
    have hb' : w.heap[b]? = some (.cells cells.toList.toArray T (0, 0)) := by simpa using hb
    have hr := run_storeVar (P := P) (t := t) (off := i) (vs := vs) hv.cells hm h1 hb' (by omega)
    have hexec : (execOp f.eval o).run P w = .ok .skip (w.setRow b (splice cells.toList i vs).toArray) := by
      have : (storeVar t ⟨b, i, none⟩ v).run P w = .ok () (w.setRow b (splice cells.toList i vs).toArray) := hr
      simp [execOp, ho, ha.eval hx, ha.eval hy, Instr.storeAt, Instr.sureAddr, adr, this]
    unfold Oper.wp
    rw [hexec]
    have u := setBlock_row hb (splice cells.toList i vs).toArray
    have hS2 : St W F (pts b (.cells cells T (0, 0)) :: rest) w := ⟨g, ⟨_, g2, rfl, hrest, hdj, hu⟩, s⟩
    have hsl : (splice cells.toList i vs).length = c * sz := by rw [splice_length (by omega)]; exact hlen
    refine hK _ _ _ (?_ : Fr σ N ds _) (h _ ((hS2.set u).imp fun q hq => hq.mono_head (own_of_pts hsl hcm ?_)))
    · rw [hd]; exact ha
    · have e1 : cells.toList = cs ++ cells.toList.drop cs.length := by
        have := List.take_append_drop cs.length cells.toList
        rw [ht] at this; exact this.symm
      rw [e1, splice_append hi, List.take_left]⟩
end
end Cr
namespace Cr
open Go

theorem setBlock_put {w : World} {b : Nat} {o o' : Obj} (h : w.heap[b]? = some o) : SetBlock w { w with heap := w.heap.setIfInBounds b o' } b o' := by
  have hlt := lt_of_get h
  refine ⟨by simp, ?_, fun k hk => ?_, rfl, rfl, rfl⟩
  · simp [hlt]
  · simp [Ne.symm hk]

section
variable {P : Program} {Q : Exit → Act → World → Prop} {N : Nat} {ds : Md} {σ : Env} {w : World}
theorem Yl_makeFunc {o : Oper} {fn : Fn} {xs ys : List Operand} {first captured : List Value} (ho : o.op = .makeFunc fn xs.toArray ys.toArray) (hx : evs σ xs = some first) (hy : evs σ ys = some captured) : Yl P o σ w (.func fn first.toArray captured.toArray) := ⟨fun N ds a ha => by
  simp [execOp, ho, Instr.makeFunc, ha.evals hx, ha.evals hy]⟩
theorem run_load1 {t : TypeId} {ad : Addr} {v : Value} [h : One P t] (hc : w.cell? ad = some v) : (loadVar t ad).run P w = .ok v w := by
  simp [loadVar, h.one, load, Sem.run, hc]
theorem run_loadN {t : TypeId} {a : Addr} {cs : List Value} {n : Nat} [h : Agg P t] [hs : Siz P t n] (hc : CellsN w a n cs) : (loadVar t a).run P w = .ok (.agg cs.toArray) w := by
  obtain ⟨hc, rfl⟩ := hc
  exact run_loadAgg hc
theorem E_code2 {Q : Exit → Act → World → Prop} {y : Code} {ds' : Md} (hF : Fc ds' = Fc ds) (h : C P y Q N ds σ w) : E (Exit.then (y.wpIn (Fc ds') 0 P Q) Q) .normal N ds σ w := ⟨fun a ha => by rw [hF]; exact h.run a ha⟩
theorem E_plain {Q : Exit → Act → World → Prop} {e : Exit} (h : E Q e N ds σ w) : E Q e N ds σ w := h
def recd (fn : FuncId) (tm : Array Value) (ps : Array Tmp) (assign body : Code) (r : Nat) (st : LoopState) (jump : Option Code) : Loop :=
  { state := st, pending := jump, fn, tmps := tm, params := ps, assign, body, defers := r }
def mark (r : Nat) : Deferred := { target := .collected r, args := #[] }
/-- A yield's call, in the function that is ranged over. -/
theorem G_yield {ops : Array Oper} {rest : List Oper} {o : Oper} {f : Operand} {xs : List Operand} {vs : List Value} {ts : Array TypeId} {l d : Nat} {r : Loop} {R : Value → World → Prop} (hgd : o.guard = none) (ho : o.op = .call { callee := .value f, args := xs.toArray, argTypes := ts }) (hf : ev σ f = some (.func (.yield l) #[] #[])) (hv : evs σ xs = some vs)
    (hd : o.dst = some d) (hN : Nat.blt d N = true) (hl : w.heap[l]? = some (.loop r)) (hsz : vs.length = r.params.size)
    (hr : RoundIn Fence.wide 0 P l r.fn ((r.params.zip vs.toArray).foldl (fun tmps (t, a) => tmps.setIfInBounds t a) r.tmps) r.assign r.body w (Ret R)) (h : ∀ v w', R v w' → G P ops Q rest N ds ((d, v) :: σ) w') : G P ops Q (o :: rest) N ds σ w := ⟨fun a ha =>
  wpListIn_plain hgd fun K hK => by
    have hsem : o.semAt (Fc ds).round a.eval = execOp a.eval o := Oper.semAt_eq _ _ _ fun c hc => by rw [ho] at hc; cases hc
    refine ⟨fun _ _ => trivial, ?_⟩
    rw [hsem]
    have hexec : (execOp a.eval o).run P w = .ok (.round l r.fn ((r.params.zip vs.toArray).foldl (fun tmps (t, a) => tmps.setIfInBounds t a) r.tmps) r.assign r.body) w := by
      simp [execOp, ho, resolve, ha.eval hf, Deferred.ofValue, invoke, ha.evals hv, Instr.yield, Instr.getLoop, getObj, Sem.run, hl, hsz]
    rw [hexec]
    refine ⟨Fc_depth ds, ?_⟩
    obtain ⟨hF, hr⟩ := hr
    refine ⟨trivial, fun c cs hroom => ?_⟩
    obtain ⟨e, w', hR, hs⟩ := hr c cs (fun _ h => by simp [Fence.wide] at h)
    obtain ⟨v, rfl, hR⟩ := hR
    refine ⟨.returned v, w', ?_, hs⟩
    have := (h v w' hR).run _ (ha.put (lt_of_blt hN) v)
    rw [← hd] at this
    exact hK _ _ this⟩
/-- The frame of a round: the loop's slots with the parameters laid. -/
theorem Fr.round {tm : Array Value} (hsz : tm.size = N) (h : ∀ n v, look σ n = some v → tm[n]? = some v) (l : Nat) : Fr σ N ⟨[], some l⟩ { tmps := tm, defers := [] } := ⟨hsz, rfl, h⟩
def QA (P : Program) (l : Nat) (body : Code) (R : Ending → World → Prop) : Exit → Act → World → Prop :=
  Exit.then (fun a1 w1 => ∃ w2, (Instr.beginRound l).run P w1 = .ok () w2 ∧ body.wpIn (Fc ⟨[], some l⟩) 0 P (roundPost P l R) a1 w2) (fun _ _ _ => False)
theorem round_C {l : Nat} {f : FuncId} {tm : Array Value} {assign body : Code} {R : Ending → World → Prop} (hF : Fr σ N ⟨[], some l⟩ { tmps := tm, defers := [] }) (h : C P assign (QA P l body R) N ⟨[], some l⟩ σ w) :
    RoundIn Fence.wide 0 P l f tm assign body w R := roundIn_of_wpIn (F := Fence.wide) trivial (h.run _ hF)
theorem C_eq {A A' : Code} {Q : Exit → Act → World → Prop} (e : A = A') (h : C P A' Q N ds σ w) : C P A Q N ds σ w := e ▸ h
theorem E_begin {l : Nat} {fn : FuncId} {tm : Array Value} {ps : Array Tmp} {A B : Code} {rr : Nat} {j : Option Code} {body : Code} {R : Ending → World → Prop} (hl : w.heap[l]? = some (.loop (recd fn tm ps A B rr .ready j))) (h : ∀ w2, SetBlock w w2 l (.loop (recd fn tm ps A B rr .busy j)) → C P body (roundPost P l R) N ⟨[], some l⟩ σ w2) :
    E (QA P l body R) .normal N ⟨[], some l⟩ σ w := ⟨fun a ha => ⟨{ w with heap := w.heap.setIfInBounds l (.loop (recd fn tm ps A B rr .busy j)) }, by
  simp [Instr.beginRound, Instr.getLoop, getObj, setObj, Sem.run, hl, recd], (h _ (setBlock_put hl)).run a ha⟩⟩
theorem run_endRound {l : Nat} {fn : FuncId} {tm : Array Value} {ps : Array Tmp} {A B : Code} {rr : Nat} {st : LoopState} {j0 : Option Code} {j : Option Code} (hl : w.heap[l]? = some (.loop (recd fn tm ps A B rr st j0))) :
    (Instr.endRound l j).run P w = .ok (.bool j.isNone) { w with heap := w.heap.setIfInBounds l (.loop (recd fn tm ps A B rr (if j.isNone then .ready else .done) j)) } := by
  simp [Instr.endRound, Instr.getLoop, getObj, setObj, Sem.run, hl, recd]
theorem E_round_n {l : Nat} {fn : FuncId} {tm : Array Value} {ps : Array Tmp} {A B : Code} {rr : Nat} {st : LoopState} {j0 : Option Code} {R : Ending → World → Prop} {m : Md} (hl : w.heap[l]? = some (.loop (recd fn tm ps A B rr st j0))) (h : ∀ w', SetBlock w w' l (.loop (recd fn tm ps A B rr .ready none)) → R (.returned (.bool true)) w') : E (roundPost P l R) .normal N m σ w :=
  ⟨fun _ _ => ⟨_, _, run_endRound (j := none) hl, h _ (setBlock_put hl)⟩⟩
theorem E_round_ret {l : Nat} {fn : FuncId} {tm : Array Value} {ps : Array Tmp} {A B : Code} {rr : Nat} {st : LoopState} {j0 : Option Code} {R : Ending → World → Prop} {m : Md} (hl : w.heap[l]? = some (.loop (recd fn tm ps A B rr st j0))) (h : ∀ w', SetBlock w w' l (.loop (recd fn tm ps A B rr .done (some .ret))) → R (.returned (.bool false)) w') : E (roundPost P l R) .ret N m σ w :=
  ⟨fun _ _ => ⟨_, _, run_endRound (j := some .ret) hl, h _ (setBlock_put hl)⟩⟩
theorem E_round_exit {l id : Nat} {fn : FuncId} {tm : Array Value} {ps : Array Tmp} {A B : Code} {rr : Nat} {st : LoopState} {j0 : Option Code} {R : Ending → World → Prop} {m : Md} (hl : w.heap[l]? = some (.loop (recd fn tm ps A B rr st j0))) (h : ∀ w', SetBlock w w' l (.loop (recd fn tm ps A B rr .done (some (.exit id)))) → R (.returned (.bool false)) w') : E (roundPost P l R) (.exit id) N m σ w :=
  ⟨fun _ _ => ⟨_, _, run_endRound (j := some (.exit id)) hl, h _ (setBlock_put hl)⟩⟩

theorem C_rangeFunc {W : World} {F : Nat → Prop} {rs : List Res} {g : Operand} {ps : Array Tmp} {assign body : Code} {gid : FuncId} {first captured : List Value} (J : Nat → Nat → Option Code → World → Prop)
    (hro : ds.ro = none) (hg : ev σ g = some (.func (.func gid) first.toArray captured.toArray)) [hfun : Fun P gid] (hS : St W F rs w)
    (hcall : ∀ A B, A = assign → B = body → ∀ fn tm l r w1, tm.size = N → (∀ n v, look σ n = some v → tm[n]? = some v) → St W F (pts l (.loop (recd fn tm ps A B r .ready none)) :: pts r (.deferred (some [])) :: rs) w1 →
      CallsIn Fence.wide 0 P gid (first ++ (.func (.yield l) #[] #[] :: captured)).toArray w1 (Ret fun _ w3 => ∃ st jump, st ≠ .busy ∧ w3.heap[l]? = some (.loop (recd fn tm ps A B r st jump)) ∧
        ∀ w4, SetBlock w3 w4 l (.loop (recd fn tm ps A B r .exhausted jump)) → J l r jump w4))
    (hnone : ∀ l r w4, J l r none w4 → E Q .normal N ⟨mark r :: ds.ds, none⟩ σ w4)
    (hsome : ∀ l r c w4, J l r (some c) w4 → C P c Q N ⟨mark r :: ds.ds, none⟩ σ w4) : C P (.rangeFunc g ps assign body) Q N ds σ w := ⟨fun a ha => by
  rw [Fc_none hro]
  refine wpIn_rangeFunc fun fn _ => ?_
  have s1 := hS.alloc (.deferred (some []))
  have s2 := s1.alloc (.loop (recd fn a.tmps ps assign body w.heap.size .ready none))
  simp only [World.size_alloc] at s2
  obtain ⟨w1, hw1⟩ : ∃ w1, w1 = (w.alloc (.deferred (some []))).alloc (.loop (recd fn a.tmps ps assign body w.heap.size .ready none)) := ⟨_, rfl⟩
  rw [← hw1] at s2
  refine ⟨w.heap.size + 1, [mark w.heap.size], w1, { target := .fn (.func gid) captured.toArray, args := first.toArray ++ #[.func (.yield (w.heap.size + 1)) #[] #[]] }, w1, gid,
    (first ++ (.func (.yield (w.heap.size + 1)) #[] #[] :: captured)).toArray, w1, ?_, ?_, fun _ _ => trivial, ?_, fun h => by simp [Fence.wide] at h, ?_⟩
  · rw [hw1]
    simp [Instr.enterLoop, Fence.wide, recd, mark, newObj, Sem.run]
  · simp only [resolve, ha.eval hg, List.map_toArray, List.map_cons, List.map_nil]
    rfl
  · have := hfun.run (first ++ (.func (.yield (w.heap.size + 1)) #[] #[] :: captured)).toArray w1
    simp only [invoke]
    simpa using this
  · obtain ⟨_, hc⟩ := hcall _ _ rfl rfl fn a.tmps (w.heap.size + 1) w.heap.size _ ha.size ha.at_ s2
    refine ⟨trivial, fun cs hr => ?_⟩
    obtain ⟨e, w3, fr, ⟨v, he, st, jump, hst, hl, hJ⟩, hs, hfn, hlv⟩ := hc cs hr
    subst he
    refine ⟨.returned v, w3, fr, ⟨jump, { w3 with heap := w3.heap.setIfInBounds (w.heap.size + 1) (.loop (recd fn a.tmps ps assign body w.heap.size .exhausted jump)) }, ?_, ?_⟩, hs, hfn, hlv⟩
    · simp [Instr.endLoop, Instr.getLoop, getObj, setObj, Sem.run, hl, recd, hst]
    · have hJ' := hJ _ (setBlock_put hl)
      have ha' : Fr σ N ⟨mark w.heap.size :: ds.ds, none⟩ { a with defers := [mark w.heap.size] ++ a.defers } := ⟨ha.size, by simp [ha.defers], ha.at_⟩
      cases jump with
      | none => exact (hnone _ _ _ hJ').run _ ha'
      | some c => exact (hsome _ _ c _ hJ').run _ ha'⟩
/-- A return behind a range over a function: the mark goes. -/
theorem E_mark {fn : Func} {R : Ending → World → Prop} {r : Nat} {dl : List Deferred} {e : Exit} (he : e = .ret ∨ e = .normal) (hr : w.heap[r]? = some (.deferred (some []))) (h : ∀ w', SetBlock w w' r (.deferred none) → E (BP P fn R) e N ⟨dl, none⟩ σ w') : E (BP P fn R) e N ⟨mark r :: dl, none⟩ σ w := ⟨fun a ha => by
  have h1 := h _ (setBlock_put hr)
  have h2 := h1.run { a with defers := dl } ⟨ha.size, rfl, ha.at_⟩
  have hd : a.defers = mark r :: dl := ha.defers
  have hk : (Instr.takeDeferred r).run P w = .ok [] { w with heap := w.heap.setIfInBounds r (.deferred none) } := by
    simp [Instr.takeDeferred, getObj, setObj, Sem.run, hr]
  rcases he with rfl | rfl
  · show LeavesInM _ _ _ _ a.tmps R a.defers .returning w
    rw [hd]
    exact ⟨by simp, .inl ⟨r, _, rfl, hk, h2⟩⟩
  · show LeavesInM _ _ _ _ a.tmps R a.defers .returning w
    rw [hd]
    exact ⟨by simp, .inl ⟨r, _, rfl, hk, h2⟩⟩⟩
end
end Cr
namespace Cr
open Go
def iand (k : IntKind) (x y : Int) : Int := k.wrap (BitVec.ofInt k.bits x &&& BitVec.ofInt k.bits y).toNat
def ior (k : IntKind) (x y : Int) : Int := k.wrap (BitVec.ofInt k.bits x ||| BitVec.ofInt k.bits y).toNat
def ixor (k : IntKind) (x y : Int) : Int := k.wrap (BitVec.ofInt k.bits x ^^^ BitVec.ofInt k.bits y).toNat
def ishl (k : IntKind) (x : Int) (n : Nat) : Int := k.wrap (x * 2 ^ (min n k.bits))
def ishr (k : IntKind) (x : Int) (n : Nat) : Int := x.fdiv (2 ^ (min n k.bits))
section
variable {P : Program} {o : Oper} {σ : Env} {w : World} {x y : Operand} {t ty : TypeId} {k k' : IntKind} {a b : Int}
theorem Yl_and (ho : o.op = .binOp .and t x y ty) (hx : ev σ x = some (.int k a)) (hy : ev σ y = some (.int k b)) : Yl P o σ w (.int k (iand k a b)) := ⟨fun N ds f ha => by
  simp only [execOp, ho, ha.eval hx, ha.eval hy, binOp, eqGuard, Op.intBits, ne_eq, not_true_eq_false, if_false]; rfl⟩
theorem Yl_or (ho : o.op = .binOp .or t x y ty) (hx : ev σ x = some (.int k a)) (hy : ev σ y = some (.int k b)) : Yl P o σ w (.int k (ior k a b)) := ⟨fun N ds f ha => by
  simp only [execOp, ho, ha.eval hx, ha.eval hy, binOp, eqGuard, Op.intBits, ne_eq, not_true_eq_false, if_false]; rfl⟩
theorem Yl_xor (ho : o.op = .binOp .xor t x y ty) (hx : ev σ x = some (.int k a)) (hy : ev σ y = some (.int k b)) : Yl P o σ w (.int k (ixor k a b)) := ⟨fun N ds f ha => by
  simp only [execOp, ho, ha.eval hx, ha.eval hy, binOp, eqGuard, Op.intBits, ne_eq, not_true_eq_false, if_false]; rfl⟩
theorem Yl_shl (ho : o.op = .binOp .shl t x y ty) (hx : ev σ x = some (.int k a)) (hy : ev σ y = some (.int k' b)) (hb : 0 ≤ b) : Yl P o σ w (.int k (ishl k a b.toNat)) := ⟨fun N ds f ha => by
  have : ¬ b < 0 := by omega
  simp only [execOp, ho, ha.eval hx, ha.eval hy, binOp, eqGuard, Op.shift, if_neg this]; rfl⟩
theorem Yl_shr (ho : o.op = .binOp .shr t x y ty) (hx : ev σ x = some (.int k a)) (hy : ev σ y = some (.int k' b)) (hb : 0 ≤ b) : Yl P o σ w (.int k (ishr k a b.toNat)) := ⟨fun N ds f ha => by
  have : ¬ b < 0 := by omega
  simp only [execOp, ho, ha.eval hx, ha.eval hy, binOp, eqGuard, Op.shift, if_neg this]; rfl⟩
/-- A call that touches nothing of ours. -/
theorem X_callq {N : Nat} {ds : Md} {K : Env → World → Prop} (g : FuncId) {f : Operand} {xs : List Operand} {vs : List Value} {ts : Array TypeId} {d : Nat} {R : Value → Prop} {W : World} {F : Nat → Prop} {rs : List Res} (ho : o.op = .call { callee := .value f, args := xs.toArray, argTypes := ts }) (hf : ev σ f = some (.func (.func g) #[] #[])) (hv : evs σ xs = some vs) [hg : Fun P g]
    (hd : o.dst = some d) (hN : Nat.blt d N = true) (hS : St W F rs w) (hc : Calls P g vs.toArray w (Ret fun v w' => R v ∧ St w noF [] w')) (h : ∀ v w', R v → St W F rs w' → K ((d, v) :: σ) w') : X P o N ds σ w K :=
  X_callg g ho hf hv hd hN hc fun v w' ⟨hR, h'⟩ => h v w' hR (hS.below h'.toBelow)
theorem iand_7 (x : Int) : iand .i64 x 7 = x % 8 := by
  unfold iand
  have e : (BitVec.ofInt IntKind.i64.bits x &&& BitVec.ofInt IntKind.i64.bits 7).toNat = (x % 8).toNat := by
    rw [BitVec.toNat_and, BitVec.toNat_ofInt, BitVec.toNat_ofInt]
    show (x % 18446744073709551616).toNat &&& 7 = _
    rw [show (7 : Nat) = 2 ^ 3 - 1 from rfl, Nat.and_two_pow_sub_one_eq_mod]
    omega
  rw [e, IntKind.wrap_i64]
  omega
/-! blocks of numbers -/
def ints (k : IntKind) (L : List Int) : List Value := L.map (Value.int k)
theorem ints_length (k : IntKind) (L : List Int) : (ints k L).length = L.length := by simp [ints]
instance ones_ints (k : IntKind) (L : List Int) : Ones (ints k L) := ⟨fun u hu => by simp [ints] at hu; obtain ⟨n, _, rfl⟩ := hu; rfl⟩
theorem ints_get {k : IntKind} {L : List Int} {i : Nat} (h : i < L.length) : (ints k L)[i]? = some (.int k (L.getD i 0)) := by
  simp [ints, h, List.getD_eq_getElem?_getD]
theorem ints_rep (k : IntKind) (n : Nat) (x : Int) : List.replicate n (Value.int k x) = ints k (List.replicate n x) := by simp [ints]
theorem ints_set {k : IntKind} {L : List Int} {i : Nat} {x : Int} : (ints k L).set i (.int k x) = ints k (L.set i x) := by simp [ints, List.map_set]
theorem St.cellI {W : World} {F : Nat → Prop} {rs : List Res} {b off : Nat} {k : IntKind} {L : List Int} {T : TypeId} (hS : St W F rs w) [hh : Has rs b (.cells (ints k L).toArray T (0, 0))] (h : off < L.length) : w.cell? ⟨b, off, none⟩ = some (.int k (L.getD off 0)) := by
  rw [cell_of_row w b off _ T (0, 0) hS.has]
  simpa using ints_get (k := k) h
theorem X_storeI {N : Nat} {ds : Md} {K : Env → World → Prop} {b off : Nat} {k : IntKind} {n : Int} {L : List Int} {T : TypeId} {W : World} {F : Nat → Prop} {rs rs' : List Res} (ho : o.op = .store t x y) (hx : ev σ x = some (.pointer (some ⟨b, off, none⟩))) (hy : ev σ y = some (.int k n)) [hs : Siz P t 1]
    (hd : o.dst = none) (hS : St W F rs w) [hh : Has rs b (.cells (ints k L).toArray T (0, 0))] (hfit : off < L.length) [hu : Upd rs b (.cells (ints k (L.set off n)).toArray T (0, 0)) rs']
    (h : ∀ w', St W F rs' w' → K σ w') : X P o N ds σ w K := by
  have e : splice (ints k L) off [.int k n] = ints k (L.set off n) := by
    rw [← ints_set, set_mid _ _ _ (by rw [ints_length]; exact hfit)]
    simp [splice]
  have hu' : Upd rs b (.cells (splice (ints k L) off [.int k n]).toArray T (0, 0)) rs' := by rw [e]; exact hu
  exact X_storeL ho hx hy rfl (fun u hu => by simp at hu; subst hu; rfl) hd hS (by rw [ints_length]; exact hfit) (fun w' h' _ => h w' h')
theorem St.cellIP {W : World} {F : Nat → Prop} {rs : List Res} {b off : Nat} {k : IntKind} {L : List Int} {r : List Value} {T : TypeId} (hS : St W F rs w) [hh : Has rs b (.cells (ints k L ++ r).toArray T (0, 0))] (h : off < L.length) : w.cell? ⟨b, off, none⟩ = some (.int k (L.getD off 0)) := by
  rw [cell_of_row w b off _ T (0, 0) hS.has]
  have := ints_get (k := k) h
  simp only [List.getElem?_toArray]
  rw [List.getElem?_append_left (by rw [ints_length]; exact h)]
  exact this
theorem X_storeIP {N : Nat} {ds : Md} {K : Env → World → Prop} {b off : Nat} {k : IntKind} {n : Int} {L : List Int} {r : List Value} {T : TypeId} {W : World} {F : Nat → Prop} {rs rs' : List Res} (ho : o.op = .store t x y) (hx : ev σ x = some (.pointer (some ⟨b, off, none⟩))) (hy : ev σ y = some (.int k n)) [hs : Siz P t 1]
    (hd : o.dst = none) (hS : St W F rs w) [hh : Has rs b (.cells (ints k L ++ r).toArray T (0, 0))] (hfit : off < L.length) [hu : Upd rs b (.cells (ints k (L.set off n) ++ r).toArray T (0, 0)) rs']
    (h : ∀ w', St W F rs' w' → K σ w') : X P o N ds σ w K := by
  have e : splice (ints k L ++ r) off [.int k n] = ints k (L.set off n) ++ r := by
    rw [splice_append (by rw [ints_length]; exact hfit), ← ints_set, set_mid _ _ _ (by rw [ints_length]; exact hfit)]
    simp [splice]
  have hu' : Upd rs b (.cells (splice (ints k L ++ r) off [.int k n]).toArray T (0, 0)) rs' := by rw [e]; exact hu
  exact X_storeL ho hx hy rfl (fun u hu => by simp at hu; subst hu; rfl) hd hS (by rw [List.length_append, ints_length]; exact Nat.le_trans hfit (Nat.le_add_right _ _)) (fun w' h' _ => h w' h')
/-- A call of a closure that changes nothing. -/
theorem X_callc {N : Nat} {ds : Md} {K : Env → World → Prop} (g : FuncId) {f : Operand} {xs : List Operand} {vs captured : List Value} {ts : Array TypeId} {d : Nat} {R : Value → Prop} (ho : o.op = .call { callee := .value f, args := xs.toArray, argTypes := ts }) (hf : ev σ f = some (.func (.func g) #[] captured.toArray)) (hv : evs σ xs = some vs) [hg : Fun P g]
    (hd : o.dst = some d) (hN : Nat.blt d N = true) (hc : Calls P g (vs ++ captured).toArray w (Ret fun v w' => R v ∧ w = w')) (h : ∀ v, R v → K ((d, v) :: σ) w) : X P o N ds σ w K :=
  X_call (first := []) (captured := captured) ho hf hv hd hN (by simpa using hc) (by
    intro v w' h'
    obtain ⟨hR, e⟩ := h'
    subst e
    exact h v hR)
theorem row_pts_at {b off n : Nat} {l cs : List Value} {T : TypeId} (hs : (l.drop off).take n = cs) : ∀ h, pts b (.cells l.toArray T (0, 0)) h → row (some ⟨b, off, none⟩) cs h := fun _ hg => .inr ⟨b, off, l.toArray, T, (0, 0), rfl, hg, fun j v hv => by
  subst hs
  rw [List.getElem?_take] at hv
  split at hv
  · rw [List.getElem?_drop] at hv
    simpa using hv
  · cases hv⟩
theorem Rd.cellI {b o i : Nat} {k : IntKind} {L : List Int} (H : Rd w (row (some ⟨b, o, none⟩) (ints k L))) (h : i < L.length) : w.cell? ⟨b, o + i, none⟩ = some (.int k (L.getD i 0)) := H.cells i _ (ints_get h)
/-- One cell of a row. -/
theorem Rd.cell {a : Option Addr} {cs : List Value} {i : Nat} {v : Value} (H : Rd w (row a cs)) (hi : cs[i]? = some v) : w.cell? (adr a i) = some v := H.cells i v hi
end
end Cr
namespace Cr
open Go
/-! parts of known length -/
class LenO (l : List Value) (n : outParam Nat) : Prop where
  len : l.length = n
instance : LenO [] 0 := ⟨rfl⟩
instance (v : Value) (l : List Value) (n : Nat) [h : LenO l n] : LenO (v :: l) (n + 1) := ⟨by simp [h.len]⟩
instance (l m : List Value) (n k : Nat) [h : LenO l n] [h' : LenO m k] : LenO (l ++ m) (n + k) := ⟨by simp [h.len, h'.len]⟩
instance (n : Nat) (v : Value) : LenO (List.replicate n v) n := ⟨by simp⟩
instance (n : Nat) : LenO (bv (List.replicate n 0)) n := ⟨by simp⟩
instance (l : List Value) (n : Nat) [h : LenO l n] : LenIs l n := ⟨h.len⟩
class SubO (k n : Nat) (j : outParam Nat) : Prop where
  eq : n = j + k
instance (n : Nat) : SubO 0 n n := ⟨rfl⟩
instance (k n j : Nat) [h : SubO k n j] : SubO (k + 1) (n + 1) j := ⟨by rw [h.eq]; omega⟩
instance nth_part (l m : List Value) (n k j : Nat) (v : Value) [hl : LenO l k] [hs : SubO k n j] [h : Nth m j v] : Nth (l ++ m) n v := ⟨by
  have := hl.len
  rw [hs.eq, List.getElem?_append_right (by omega), show j + k - l.length = j by omega]
  exact h.nth⟩
instance spl_part (l m vs m' : List Value) (n k j : Nat) [hl : LenO l k] [hs : SubO k n j] [h : Spl m j vs m'] : Spl (l ++ m) n vs (l ++ m') := ⟨by
  have e := hl.len
  have := h.spl
  rw [hs.eq]
  refine ⟨by simp; omega, ?_⟩
  rw [← this.2, show j + k = l.length + j by omega, List.take_length_add_append, show l.length + j + vs.length = l.length + (j + vs.length) by omega, List.drop_length_add_append]
  simp⟩
instance spl_front (l m vs : List Value) (k : Nat) [hl : LenO l k] [hv : LenO vs k] : Spl (l ++ m) 0 vs (vs ++ m) := ⟨by
  have e := hl.len
  have e' := hv.len
  refine ⟨by simp; omega, ?_⟩
  simp [show vs.length = l.length by omega]⟩
instance seg_part (l m cs : List Value) (n k j c : Nat) [hl : LenO l k] [hs : SubO k n j] [h : Seg m j c cs] : Seg (l ++ m) n c cs := ⟨by
  have e := hl.len
  rw [hs.eq, show j + k = l.length + j by omega, List.drop_length_add_append]
  exact h.seg⟩
theorem splice_mid {l m vs : List Value} {k n : Nat} (h : l.length = k) : splice (l ++ m) (k + n) vs = l ++ splice m n vs := by
  subst h
  unfold splice
  rw [List.take_length_add_append, Nat.add_assoc, List.drop_length_add_append]
  simp
theorem splice_all {l vs : List Value} (h : l.length = vs.length) : splice l 0 vs = vs := by
  unfold splice; simp [← h]
/-! bytes -/
def b8 (x : Int) : UInt8 := UInt8.ofNat (x % 256).toNat
theorem b8_nat (x : Int) : ((b8 x).toNat : Int) = x % 256 := by
  have h : (x % 256).toNat < 256 := by omega
  unfold b8
  simp only [UInt8.toNat_ofNat']
  omega
theorem u8_wrap (x : Int) : IntKind.u8.wrap x = ((b8 x).toNat : Int) := by
  rw [b8_nat]
  simp [IntKind.wrap, IntKind.bits, IntKind.signed]
theorem bv_set {R : List UInt8} {i : Nat} {c : UInt8} : (bv R).set i (.int .u8 (c.toNat : Int)) = bv (R.set i c) := by simp [bv, List.map_set]
theorem bv_getD {l : List UInt8} {i : Nat} (h : i < l.length) : (bv l)[i]? = some (.int .u8 ((l.getD i 0).toNat : Int)) := by
  rw [bv_get h]; simp [List.getD_eq_getElem?_getD, h]
theorem bv_rep (n : Nat) : List.replicate n (Value.int .u8 0) = bv (List.replicate n 0) := by simp [bv]
instance lenO_bvset (R : List UInt8) (i : Nat) (c : UInt8) (n : Nat) [h : LenO (bv R) n] : LenO (bv (R.set i c)) n := ⟨by have := h.len; simpa using this⟩
instance lenO_intsset (k : IntKind) (L : List Int) (i : Nat) (c : Int) (n : Nat) [h : LenO (ints k L) n] : LenO (ints k (L.set i c)) n := ⟨by have := h.len; simpa [ints] using this⟩
section
variable {P : Program} {o : Oper} {σ : Env} {w : World} {x y : Operand} {t ty : TypeId} {k k' : IntKind} {a b : Int}
theorem Yl_quoE (ho : o.op = .binOp .quo t x y ty) (hx : ev σ x = some (.int .i64 a)) (hy : ev σ y = some (.int .i64 b)) (h0 : 0 ≤ a) (h1 : a ≤ 9223372036854775807) (hb : 0 < b) : Yl P o σ w (.int .i64 (a / b)) :=
  Yl_quo ho hx hy (by omega) (by
    rw [Int.tdiv_eq_ediv_of_nonneg h0]
    have h2 := Int.ediv_nonneg h0 (Int.le_of_lt hb)
    have h3 := Int.ediv_le_self b h0
    exact w64 (by omega) (by omega))
theorem Yl_remE (ho : o.op = .binOp .rem t x y ty) (hx : ev σ x = some (.int k a)) (hy : ev σ y = some (.int k b)) (h0 : 0 ≤ a) (hb : 0 < b) : Yl P o σ w (.int k (a % b)) :=
  Yl_rem ho hx hy (by omega) (Int.tmod_eq_emod_of_nonneg h0)
theorem Yl_convU8 {src dst : TypeId} {i : Int} (ho : o.op = .convert src dst x) (hx : ev σ x = some (.int k i)) {d : TypeDesc} [hs : Und P src d] [hd : Und P dst (.int .u8)] : Yl P o σ w (.int .u8 ((b8 i).toNat : Int)) :=
  Yl_convInt (hs := hs) ho hx (u8_wrap i)
theorem Rd.cellX {a : Option Addr} {cs : List Value} {i' i : Nat} {v : Value} (H : Rd w (row a cs)) (hi : i' = i) (h : cs[i]? = some v) : w.cell? (adr a i') = some v := by subst hi; exact H.cells _ _ h
/-- One cell of a block stored. -/
theorem X_setG {N : Nat} {ds : Md} {K : Env → World → Prop} {b off : Nat} {v : Value} {l l' : List Value} {T : TypeId} {W : World} {F : Nat → Prop} {rs rs' : List Res} (ho : o.op = .store t x y) (hx : ev σ x = some (.pointer (some ⟨b, off, none⟩))) (hy : ev σ y = some v) [hv : Cell1 v] [hc : CellsOf v [v]] [hs : Siz P t 1]
    (hd : o.dst = none) (hS : St W F rs w) [hh : Has rs b (.cells l.toArray T (0, 0))] (hfit : off < l.length) (hl : l.set off v = l') [hu : Upd rs b (.cells l'.toArray T (0, 0)) rs']
    (h : ∀ w', St W F rs' w' → K σ w') : X P o N ds σ w K := by
  have e : splice l off [v] = l' := by
    rw [← hl, set_mid _ _ _ hfit]
    simp [splice]
  have hu' : Upd rs b (.cells (splice l off [v]).toArray T (0, 0)) rs' := by rw [e]; exact hu
  exact X_storeL (vs := [v]) ho hx hy rfl (fun u hu => by simp at hu; subst hu; exact hv.one) hd hS hfit (fun w' h' _ => h w' h')
/-- A byte stored in a block of bytes. -/
theorem X_storeB {N : Nat} {ds : Md} {K : Env → World → Prop} {b off : Nat} {c : UInt8} {L : List UInt8} {T : TypeId} {W : World} {F : Nat → Prop} {rs rs' : List Res} (ho : o.op = .store t x y) (hx : ev σ x = some (.pointer (some ⟨b, off, none⟩))) (hy : ev σ y = some (.int .u8 (c.toNat : Int))) [hs : Siz P t 1]
    (hd : o.dst = none) (hS : St W F rs w) [hh : Has rs b (.cells (bv L).toArray T (0, 0))] (hfit : off < L.length) [hu : Upd rs b (.cells (bv (L.set off c)).toArray T (0, 0)) rs']
    (h : ∀ w', St W F rs' w' → K σ w') : X P o N ds σ w K := X_setG (l := bv L) ho hx hy hd hS (by simpa using hfit) bv_set h
theorem St.cellB {W : World} {F : Nat → Prop} {rs : List Res} {b off : Nat} {L : List UInt8} {T : TypeId} (hS : St W F rs w) [hh : Has rs b (.cells (bv L).toArray T (0, 0))] (h : off < L.length) : w.cell? ⟨b, off, none⟩ = some (.int .u8 ((L.getD off 0).toNat : Int)) := by
  rw [cell_of_row w b off _ T (0, 0) hS.has]
  simpa using bv_getD h
theorem Rd.cellB {a : Option Addr} {s : List UInt8} {i : Nat} (H : Rd w (bytes a s)) (h : i < s.length) : w.cell? (adr a i) = some (.int .u8 ((s.getD i 0).toNat : Int)) := H.cells i _ (bv_getD h)
theorem Rd.cellB' {b o i : Nat} {s : List UInt8} (H : Rd w (bytes (some ⟨b, o, none⟩) s)) (h : i < s.length) : w.cell? ⟨b, o + i, none⟩ = some (.int .u8 ((s.getD i 0).toNat : Int)) := H.cellB h
theorem X_storeMB {N : Nat} {ds : Md} {K : Env → World → Prop} {b off k i : Nat} {c : UInt8} {l r : List Value} {L : List UInt8} {T : TypeId} {W : World} {F : Nat → Prop} {rs rs' : List Res} (ho : o.op = .store t x y) (hx : ev σ x = some (.pointer (some ⟨b, off, none⟩))) (hy : ev σ y = some (.int .u8 (c.toNat : Int))) [hs : Siz P t 1]
    (hd : o.dst = none) (hS : St W F rs w) [hh : Has rs b (.cells (l ++ (bv L ++ r)).toArray T (0, 0))] (hoff : off = k + i) [hl : LenO l k] (hfit : i < L.length) [hu : Upd rs b (.cells (l ++ (bv (L.set i c) ++ r)).toArray T (0, 0)) rs']
    (h : ∀ w', St W F rs' w' → K σ w') : X P o N ds σ w K := by
  have e := hl.len
  subst hoff
  refine X_setG (l := l ++ (bv L ++ r)) (l' := l ++ (bv (L.set i c) ++ r)) ho hx hy hd hS (by simp; omega) ?_ h
  rw [List.set_append_right _ _ (by omega), show k + i - l.length = i by omega, List.set_append_left _ _ (by simpa using hfit), bv_set]
/-- A store over the whole of a block. -/
theorem X_storeAll {N : Nat} {ds : Md} {K : Env → World → Prop} {b m : Nat} {v : Value} {l vs : List Value} {T : TypeId} {W : World} {F : Nat → Prop} {rs rs' : List Res} (ho : o.op = .store t x y) (hx : ev σ x = some (.pointer (some ⟨b, 0, none⟩))) (hy : ev σ y = some v) [hv : CellsOf v vs] [hs : Siz P t m] [h1 : Ones vs]
    (hd : o.dst = none) (hS : St W F rs w) [hh : Has rs b (.cells l.toArray T (0, 0))] [hm : LenO vs m] [hl : LenO l m] [hu : Upd rs b (.cells vs.toArray T (0, 0)) rs']
    (h : ∀ w', St W F rs' w' → K σ w') : X P o N ds σ w K := by
  have e : splice l 0 vs = vs := splice_all (by rw [hm.len, hl.len])
  have hu' : Upd rs b (.cells (splice l 0 vs).toArray T (0, 0)) rs' := by rw [e]; exact hu
  exact X_storeL ho hx hy hm.len h1.ones hd hS (by rw [hm.len, hl.len]; omega) (fun w' h' _ => h w' h')
end
end Cr
namespace Cr
open Go
theorem St.wide {W : World} {F : Nat → Prop} {rs : List Res} {w : World} (hS : St W noF rs w) : St W F rs w := by
  obtain ⟨h, hs, s⟩ := hS
  exact ⟨h, hs, s.agrees, fun b o e => (s.foot b o e).imp (fun h => h.elim) id, s.size, s.os, s.tape, s.output, fun b h1 _ => s.kept b h1 (fun h => h)⟩
/-- What was held and is no more touched stays, what a call made comes to it. -/
theorem St.plus {W : World} {F : Nat → Prop} {rs rs' rs'' : List Res} {w w' : World} (hS : St W F rs w) (h' : St w noF rs' w') [ha : AppR rs' rs rs''] : St W F rs'' w' := by
  obtain ⟨_, _, _, _, hbk⟩ := hS.call []
  exact hbk (h'.wide)
end Cr
namespace Cr
open Go
set_option maxRecDepth 10000
def str (s : List UInt8) : ByteArray := ⟨s.toArray⟩
section
variable {P : Program} {o : Oper} {σ : Env} {w : World} {x y : Operand} {t ty e : TypeId} {N : Nat} {ds : Md} {K : Env → World → Prop}
theorem fold_push (s : List UInt8) : ∀ acc : ByteArray, (s.map fun b => (b.toNat : Int)).foldl (fun r n => r.push (UInt8.ofNat n.toNat)) acc = ⟨acc.data ++ s.toArray⟩ := by
  induction s with
  | nil => intro acc; simp
  | cons c s ih =>
    intro acc
    rw [List.map_cons, List.foldl_cons, ih]
    congr 1
    have : UInt8.ofNat ((c.toNat : Int)).toNat = c := by simp
    rw [this]
    simp [ByteArray.push]
theorem run_bytesStr {a : Option Addr} {s : List UInt8} {n c : Nat} (h : Rd w (bytes a s)) (hn : s.length = n) : (Conv.bytesToString (.slice a n c)).run P w = .ok (.string (str s)) w := by
  cases a with
  | none =>
    have : bv s = [] := h.none_nil
    have hs : s = [] := by cases s with
      | nil => rfl
      | cons => simp [bv] at this
    subst hs
    rfl
  | some ad =>
    have hf := firstCells_row (P := P) (size := 1) (m := n) (c := c) h (by simp [hn])
    simp only [Builtin.firstCells, Nat.mul_one] at hf
    rw [run_bytesToString w ad n c (s.map fun b => (b.toNat : Int)) (by rw [hf, List.map_map]; rfl), fold_push]
    simp [str]
theorem Yl_bytesStr {src dst : TypeId} {a : Option Addr} {s : List UInt8} {n c : Nat} (ho : o.op = .convert src dst x) (hx : ev σ x = some (.slice a n c)) [hs : Und P src (.slice e)] [he : Und P e (.int .u8)] [hd : Und P dst .string] (h : Rd w (bytes a s)) (hn : s.length = n) : Yl P o σ w (.string (str s)) := ⟨fun N ds f ha => by
  have := run_bytesStr (P := P) (c := c) h hn
  simp only [execOp, ho, ha.eval hx, convert, Sem.run_bind, run_underlying hs.und, run_underlying hd.und, run_underlying he.und, Result.andThen_ok, this]
  rfl⟩
theorem str_toList (s : List UInt8) : (str s).toList = s := ByteArray.toList_mk s
theorem str_inj {s t : List UInt8} (h : str s = str t) : s = t := by rw [← str_toList s, h, str_toList]
theorem Yl_eqlStr {a b : List UInt8} (ho : o.op = .binOp .eql t x y ty) (hx : ev σ x = some (.string (str a))) (hy : ev σ y = some (.string (str b))) : Yl P o σ w (.bool (decide (a = b))) := ⟨fun N ds f ha => by
  simp only [execOp, ho, ha.eval hx, ha.eval hy, binOp, eqGuard, Op.stringOp, str_toList]
  have : (a == b) = decide (a = b) := by by_cases h : a = b <;> simp [h]
  rw [this]; rfl⟩
theorem Yl_neqStr {a b : List UInt8} (ho : o.op = .binOp .neq t x y ty) (hx : ev σ x = some (.string (str a))) (hy : ev σ y = some (.string (str b))) : Yl P o σ w (.bool (decide (¬ a = b))) := ⟨fun N ds f ha => by
  simp only [execOp, ho, ha.eval hx, ha.eval hy, binOp, eqGuard, Op.stringOp, str_toList]
  have : (!(a == b)) = decide (¬ a = b) := by by_cases h : a = b <;> simp [h]
  rw [this]; rfl⟩
/-- copy into a block of the run's own. -/
theorem X_copy {sT T : TypeId} {g off n c m c2 d : Nat} {a : Option Addr} {l news : List Value} {W : World} {F : Nat → Prop} {rs rs' : List Res} {z : Value} {bytes : Nat} {TT : TypeId} (ho : o.op = .call { callee := .builtin .copy, args := #[x, y], argTypes := #[t, sT] }) (hx : ev σ x = some (.slice (some ⟨g, off, none⟩) n c)) (hy : ev σ y = some (.slice a m c2))
    [h : Und P t (.slice T)] [hi : Inf P T z 1 bytes] (hd : o.dst = some d) (hN : Nat.blt d N = true) (hS : St W F rs w) [hh : Has rs g (.cells l.toArray TT (0, 0))] (hnews : Rd w (row a news)) (hl : news.length = m) (h1 : ∀ u ∈ news, u.oneCell' = true) (hfit : off + n ≤ l.length)
    [hu : Upd rs g (.cells (splice l off (news.take n)).toArray TT (0, 0)) rs'] (hk : ∀ w', St W F rs' w' → K ((d, .int .i64 ((min m n : Nat) : Int)) :: σ) w') : X P o N ds σ w K := ⟨fun f ha K' Q' hK => by
  have hb := hS.has (b := g) (o := .cells l.toArray TT (0, 0))
  obtain ⟨i, hi', hz', hsz, hby⟩ := info_parts hi.inf
  have hmin : (news.take n).length = Nat.min m n := by simp [hl]; exact Nat.min_comm _ _
  have hfc : (Builtin.firstCells 1 (Nat.min m n) (.slice a m c2)).run P w = .ok (news.take n).toArray w := by
    have h2 : Rd w (row a (news.take n)) := hnews.mono fun h hr => by
      rcases hr with ⟨rfl, h0⟩ | ⟨b, o', cells, T', fz, hb', rfl, hc⟩
      · exact ⟨h, .inl ⟨by simp, h0⟩, fun _ _ e => e⟩
      · refine ⟨_, .inr ⟨b, o', cells, T', fz, hb', rfl, fun j v hv => ?_⟩, fun _ _ e => e⟩
        rw [List.getElem?_take] at hv
        split at hv
        · exact hc j v hv
        · cases hv
    have := firstCells_row (P := P) (size := 1) (m := Nat.min m n) (c := c2) h2 (by omega)
    cases a <;> exact this
  have h1' : ∀ v ∈ news.take n, v.oneCell' = true := fun v hv => h1 v (List.mem_of_mem_take hv)
  have hst := run_storeCells_at P g off TT (news.take n) 0 l.toArray w hb (by simp; omega) h1'
  simp only [Nat.add_zero] at hst
  have hexec : (execOp f.eval o).run P w = .ok (.value (.int .i64 ((Nat.min m n : Nat) : Int))) (w.setRow g (splice l off (news.take n)).toArray) := by
    simp only [execOp, ho, resolve, invoke, builtin, ha.eval hx, ha.eval hy, Builtin.copy_, Sem.run_bind, Sem.run_pure, Result.andThen_ok, List.map_toArray, List.map_cons, List.map_nil]
    simp [run_underlying h.und, Builtin.lenOf, Go.sizeOf, typeInfo, hi', hsz, hfc, hst, goInt, splice]
  unfold Oper.wp
  rw [hexec]
  have u := setBlock_row hb (splice l off (news.take n)).toArray
  have := hK _ _ _ (ha.put (lt_of_blt hN) (.int .i64 ((Nat.min m n : Nat) : Int))) (hk _ (hS.upd u))
  rw [← hd] at this
  exact this⟩
theorem zeroCells_one {z : Value} (hz : z.cells = #[z]) (m : Nat) : Builtin.zeroCells z.cells m = (List.replicate m z).toArray := by
  rw [hz]
  apply Array.ext
  · simp [Builtin.zeroCells]
  · intro i h1 h2
    have : i % 1 = 0 := by omega
    simp [Builtin.zeroCells, this]
theorem run_appendZ {T bytes c n m : Nat} {k k' : IntKind} {a : Option Addr} {cs : List Value} {z : Value} {W : World} {F : Nat → Prop} {rest : List Res} (tx : TypeId) [h : Und P t (.slice T)] [hx : Und P tx (.int k')] [hi : Inf P T z 1 bytes] (hzc : z.cells = #[z]) (hz1 : z.oneCell' = true)
    (hS : St W F (own T 1 a c cs :: rest) w) (hcs : cs.length = n) (hnc : n ≤ c) (hfit : (n + m) * bytes ≤ 140737488355328) (hmax : n + m ≤ maxLen) :
    ∃ a' c' w', (Builtin.append_ #[t, tx] ty #[.slice a n c, .int k (m : Nat)]).run P w = .ok (.slice a' (n + m) c') w' ∧ St W F (own T 1 a' c' (cs ++ List.replicate m z) :: rest) w' ∧ n + m ≤ c' ∧ (a' = none ↔ a = none ∧ m = 0) := by
  obtain ⟨i, hi', hz', hsz, hby⟩ := info_parts hi.inf
  subst hby
  obtain ⟨f, ⟨f1, f2, ho, hs, hd, hu⟩, s⟩ := hS
  have hlt : ((n + m : Nat) : Int) ≤ 9223372036854775807 := by simp only [maxLen] at hmax; omega
  have hw64 : IntKind.i64.wrap (m : Int) = m := w64 (by omega) (by omega)
  have hm0 : ¬ ((m : Int) < 0) := by omega
  have hmb : ¬ (281474976710656 < (m : Int) * i.bytes) := by
    have h1 : (n + m) * i.bytes = n * i.bytes + m * i.bytes := Nat.add_mul ..
    rw [← Int.natCast_mul]
    generalize m * i.bytes = q at h1 ⊢
    omega
  have hnew : ∀ w : World, (if m = 0 then pure #[] else do pure (Builtin.zeroCells (← zeroValue T).cells m) : Sem (Array Value)).run P w = .ok (List.replicate m z).toArray w := fun w => by
    by_cases h0 : m = 0
    · subst h0; simp
    · rw [if_neg h0]
      simp [zeroValue, typeInfo, hi', hz', zeroCells_one hzc]
  by_cases hroom : n + m ≤ c
  · have ho' := ho
    obtain ⟨_, hcm, ⟨rfl, he⟩ | ⟨b, cells, rfl, hf1, hcz, ht⟩⟩ := ho
    · obtain rfl : n = 0 := by omega
      obtain rfl : m = 0 := by omega
      obtain rfl : cs = [] := List.eq_nil_of_length_eq_zero hcs
      refine ⟨a, 0, w, ?_, ⟨f, ⟨f1, f2, by simpa using ho', hs, hd, hu⟩, s⟩, by omega, by simp⟩
      cases a <;> simp [Builtin.append_, run_underlying h.und, run_underlying hx.und, Go.sizeOf, typeInfo, hi', asInt, asIntOf, storeCells, IntKind.wrap_i64]
    · have hb : w.heap[b]? = some (.cells cells T (0, 0)) := s.agrees b _ (by rw [hu, hf1, single_self]; rfl)
      have hfit2 : n + (List.replicate m z).length ≤ cells.size := by simp; omega
      have h1 : ∀ u ∈ List.replicate m z, u.oneCell' = true := fun u hu => by rw [List.eq_of_mem_replicate hu]; exact hz1
      have hst := run_storeCells_at P b n T (List.replicate m z) 0 cells w hb (by simpa using hfit2) h1
      simp only [Nat.add_zero] at hst
      have u := setBlock_row hb (cells.toList.take n ++ List.replicate m z ++ cells.toList.drop (n + (List.replicate m z).length)).toArray
      have hlen : (cells.toList.take n ++ List.replicate m z ++ cells.toList.drop (n + (List.replicate m z).length)).length = c * 1 := by
        simp only [List.length_append, List.length_take, List.length_drop, Array.length_toList, List.length_replicate] at hfit2 ⊢; omega
      refine ⟨some ⟨b, 0, none⟩, c, w.setRow b (cells.toList.take n ++ List.replicate m z ++ cells.toList.drop (n + (List.replicate m z).length)).toArray, ?_, ?_, hroom, by simp⟩
      · have hst2 : (storeCells ⟨b, n, none⟩ (List.replicate m z)).run P w = .ok () (w.setRow b (cells.toList.take n ++ List.replicate m z ++ cells.toList.drop (n + (List.replicate m z).length)).toArray) := hst
        rw [show (Builtin.append_ #[t, tx] ty #[.slice (some ⟨b, 0, none⟩) n c, .int k (m : Nat)]).run P w =
          ((if m = 0 then pure #[] else do pure (Builtin.zeroCells (← zeroValue T).cells m) : Sem (Array Value)).run P w).andThen (fun r w' => ((storeCells ⟨b, n, none⟩ r.toList).run P w').andThen fun _ w' => .ok (.slice (some ⟨b, 0, none⟩) (n + m) c) w') by
            simp [Builtin.append_, run_underlying h.und, run_underlying hx.und, Go.sizeOf, typeInfo, hi', hw64, hm0, hmb, hsz, hroom, add_lit, asInt, asIntOf], hnew w]
        simp only [Result.andThen_ok, hst2]
      · have hS2 : St W F (pts b (.cells cells T (0, 0)) :: rest) w := ⟨f, ⟨f1, f2, hf1, hs, hd, hu⟩, s⟩
        refine (hS2.set u).imp fun g hg => hg.mono_head (own_of_pts (c := c) hlen hcm ?_)
        rw [hcs] at ht
        rw [ht, List.take_append_of_le_length (by simp), List.take_of_length_le (by simp)]
  · have hge : n + m ≤ grownCap w (n + m) c T := grownCap_ge w (n + m) c T
    have hcm : grownCap w (n + m) c T ≤ maxLen := grownCap_le_maxLen w (n + m) c T hmax
    have hn' : ¬ (n + m ≤ c) := hroom
    have hmin : ¬ (9223372036854775807 < ((n : Int) + (m : Int))) := by omega
    have h48 : ¬ (281474976710656 < Builtin.nextslicecap (n + m) c * i.bytes) := by have := growslice_fits (show c < n + m by omega) hfit; omega
    have hod : (Builtin.firstCells 1 n (.slice a n c)).run P w.drew = .ok cs.toArray w.drew := firstCells_row (P := P) (size := 1) ⟨f1, ho.row, fun b o e => s.agrees b o (by rw [hu, e]; rfl)⟩ (by omega)
    let blk := cs.toArray ++ (List.replicate m z).toArray ++ Builtin.zeroCells z.cells (grownCap w (n + m) c T - (n + m))
    have hS2 : St W F rest w := St.drop ⟨f, ⟨f1, f2, ho, hs, hd, hu⟩, s⟩
    refine ⟨some ⟨w.heap.size, 0, none⟩, grownCap w (n + m) c T, w.drew.alloc (.cells blk T), ?_, ?_, hge, by simp; omega⟩
    · have hmm : m ≠ 0 := by omega
      simp [Builtin.append_, run_underlying h.und, run_underlying hx.und, Go.sizeOf, typeInfo, zeroValue, hi', hz', hw64, hm0, hmb, hsz, hn', hmin, h48, asInt, asIntOf, Question.forced, hod, hmm, zeroCells_one hzc, newRow, grownCap, blk]
    · have hlen : blk.toList.length = grownCap w (n + m) c T * 1 := by
        simp only [blk, Array.length_toList, Array.size_append, List.size_toArray, size_zeroCells, hzc, hcs, List.length_replicate]
        simp; omega
      have h3 := hS2.drew.alloc (.cells blk T)
      refine St.imp h3 fun g hg => hg.mono_head ?_
      have key := own_of_pts (T := T) (e := 1) (c := grownCap w (n + m) c T) (b := w.heap.size) (l := blk.toList) (cs := cs ++ List.replicate m z) hlen hcm (by
        simp only [blk, Array.toList_append]; exact List.take_left)
      simpa using key
/-- append of zeros onto a slice without room: the slice need only be read. -/
theorem X_appendZ_grow {T bytes c n m : Nat} {k k' : IntKind} {a : Option Addr} {cs : List Value} {z : Value} {W : World} {F : Nat → Prop} {rs : List Res} {d : Nat} {tx : TypeId} (ho : o.op = .call { callee := .builtin .append, args := #[x, y], argTypes := #[t, tx] }) (hx : ev σ x = some (.slice a n c)) (hy : ev σ y = some (.int k (m : Nat)))
    [h : Und P t (.slice T)] [hx' : Und P tx (.int k')] [hi : Inf P T z 1 bytes] (hzc : z.cells = #[z]) (hd : o.dst = some d) (hN : Nat.blt d N = true) (hS : St W F rs w) (hr : Rd w (row a cs)) (hcs : cs.length = n) (hg : c < n + m) (hm : 0 < m)
    (hfit : (n + m) * bytes ≤ 140737488355328) (hmax : n + m ≤ maxLen)
    (hk : ∀ b c' w', St W F (own T 1 (some ⟨b, 0, none⟩) c' (cs ++ List.replicate m z) :: rs) w' → n + m ≤ c' → K ((d, .slice (some ⟨b, 0, none⟩) (n + m) c') :: σ) w') : X P o N ds σ w K := ⟨fun f ha K' Q' hK => by
  obtain ⟨i, hi', hz', hsz, hby⟩ := info_parts hi.inf
  subst hby
  have hlt : ((n + m : Nat) : Int) ≤ 9223372036854775807 := by simp only [maxLen] at hmax; omega
  have hw64 : IntKind.i64.wrap (m : Int) = m := w64 (by omega) (by omega)
  have hm0 : ¬ ((m : Int) < 0) := by omega
  have hmb : ¬ (281474976710656 < (m : Int) * i.bytes) := by
    have h1 : (n + m) * i.bytes = n * i.bytes + m * i.bytes := Nat.add_mul ..
    rw [← Int.natCast_mul]
    generalize m * i.bytes = q at h1 ⊢
    omega
  have hge : n + m ≤ grownCap w (n + m) c T := grownCap_ge w (n + m) c T
  have hcm : grownCap w (n + m) c T ≤ maxLen := grownCap_le_maxLen w (n + m) c T hmax
  have hn' : ¬ (n + m ≤ c) := by omega
  have hmin : ¬ (9223372036854775807 < ((n : Int) + (m : Int))) := by omega
  have h48 : ¬ (281474976710656 < Builtin.nextslicecap (n + m) c * i.bytes) := by have := growslice_fits (show c < n + m by omega) hfit; omega
  have hod : (Builtin.firstCells 1 n (.slice a n c)).run P w.drew = .ok cs.toArray w.drew := firstCells_row (P := P) (size := 1) (by obtain ⟨g, hg, ha⟩ := hr; exact ⟨g, hg, ha⟩) (by omega)
  let blk := cs.toArray ++ (List.replicate m z).toArray ++ Builtin.zeroCells z.cells (grownCap w (n + m) c T - (n + m))
  have hlen : blk.toList.length = grownCap w (n + m) c T * 1 := by
    simp only [blk, Array.length_toList, Array.size_append, List.size_toArray, size_zeroCells, hzc, hcs, List.length_replicate]
    simp; omega
  have hexec : (execOp f.eval o).run P w = .ok (.value (.slice (some ⟨w.heap.size, 0, none⟩) (n + m) (grownCap w (n + m) c T))) (w.drew.alloc (.cells blk T)) := by
    have hmm : m ≠ 0 := by omega
    simp [execOp, ho, resolve, invoke, builtin, ha.eval hx, ha.eval hy, Builtin.append_, run_underlying h.und, run_underlying hx'.und, Go.sizeOf, typeInfo, zeroValue, hi', hz', hw64, hm0, hmb, hsz, hn', hmin, h48, asInt, asIntOf, Question.forced, hod, hmm, zeroCells_one hzc, newRow, grownCap, blk]
  unfold Oper.wp
  rw [hexec]
  have := hK _ _ _ (ha.put (lt_of_blt hN) (.slice (some ⟨w.heap.size, 0, none⟩) (n + m) (grownCap w (n + m) c T))) (hk w.heap.size _ (w.drew.alloc (.cells blk T)) (St.imp (hS.drew.alloc (.cells blk T)) fun g hg => hg.mono_head (by
    have key := own_of_pts (T := T) (e := 1) (c := grownCap w (n + m) c T) (b := w.heap.size) (l := blk.toList) (cs := cs ++ List.replicate m z) hlen hcm (by
      simp only [blk, Array.toList_append]; exact List.take_left)
    simpa using key)) hge)
  rw [← hd] at this
  exact this⟩
theorem X_appendZ {T bytes c n m : Nat} {k k' : IntKind} {a : Option Addr} {cs : List Value} {z : Value} {W : World} {F : Nat → Prop} {rs rest : List Res} {d : Nat} {tx : TypeId} (ho : o.op = .call { callee := .builtin .append, args := #[x, y], argTypes := #[t, tx] }) (hx : ev σ x = some (.slice a n c)) (hy : ev σ y = some (.int k (m : Nat)))
    [h : Und P t (.slice T)] [hx' : Und P tx (.int k')] [hi : Inf P T z 1 bytes] (hzc : z.cells = #[z]) (hz1 : z.oneCell' = true) (hd : o.dst = some d) (hN : Nat.blt d N = true) (hS : St W F rs w) [hh : HasOwn rs a T 1 c cs rest] (hcs : cs.length = n) (hnc : n ≤ c)
    (hfit : (n + m) * bytes ≤ 140737488355328) (hmax : n + m ≤ maxLen)
    (hk : ∀ a' c' w', St W F (own T 1 a' c' (cs ++ List.replicate m z) :: rest) w' → n + m ≤ c' → (a' = none ↔ a = none ∧ m = 0) → K ((d, .slice a' (n + m) c') :: σ) w') : X P o N ds σ w K := ⟨fun f ha K' Q' hK => by
  obtain ⟨a', c', w', hr, hS', hc', hn⟩ := run_appendZ (P := P) (t := t) (ty := o.type) (k := k) (m := m) tx hzc hz1 (hS.perm hh.has) hcs hnc hfit hmax
  unfold Oper.wp
  have hexec : (execOp f.eval o).run P w = .ok (.value (.slice a' (n + m) c')) w' := by
    simp [execOp, ho, resolve, invoke, builtin, ha.eval hx, ha.eval hy, hr]
  rw [hexec]
  have := hK _ _ _ (ha.put (lt_of_blt hN) (.slice a' (n + m) c')) (hk a' c' w' hS' hc' hn)
  rw [← hd] at this
  exact this⟩
end
end Cr
namespace Cr
open Go
section
variable {P : Program} {o : Oper} {σ : Env} {w : World} {N : Nat} {ds : Md} {K : Env → World → Prop} {x y : Operand} {t ty e : TypeId}
theorem str_size (s : List UInt8) : (str s).size = s.length := by simp [str, ByteArray.size]
theorem str_app (a b : List UInt8) : str a ++ str b = str (a ++ b) := ByteArray.mk_append_mk a b
theorem str_of (s : ByteArray) : ∃ l, s = str l := ⟨s.data.toList, by cases s; simp [str]⟩
theorem str_extract (s : List UInt8) (l h : Nat) : (str s).extract l h = str ((s.drop l).take (h - l)) := by
  apply ByteArray.ext
  simp [str, ByteArray.data_extract, List.extract_eq_take_drop]
theorem Yl_addStr {a b : List UInt8} (ho : o.op = .binOp .add t x y ty) (hx : ev σ x = some (.string (str a))) (hy : ev σ y = some (.string (str b))) (hl : a.length + b.length ≤ 9223372036854775807) : Yl P o σ w (.string (str (a ++ b))) := ⟨fun N ds f ha => by
  have h := run_string_add_sum (P := P) w (str a) (str b) (by rw [str_size, str_size]; exact hl)
  rw [str_app] at h
  simp [execOp, ho, ha.eval hx, ha.eval hy, binOp, eqGuard, h]⟩
theorem Yl_eqlStrT {a b : List UInt8} (ho : o.op = .binOp .eql t x y ty) (hx : ev σ x = some (.string (str a))) (hy : ev σ y = some (.string (str b))) (h : a = b) : Yl P o σ w (.bool true) := by
  have := Yl_eqlStr (P := P) (w := w) ho hx hy
  rwa [decide_eq_true h] at this
theorem Yl_eqlStrF {a b : List UInt8} (ho : o.op = .binOp .eql t x y ty) (hx : ev σ x = some (.string (str a))) (hy : ev σ y = some (.string (str b))) (h : ¬ a = b) : Yl P o σ w (.bool false) := by
  have := Yl_eqlStr (P := P) (w := w) ho hx hy
  rwa [decide_eq_false h] at this
theorem Yl_neqStrF {a b : List UInt8} (ho : o.op = .binOp .neq t x y ty) (hx : ev σ x = some (.string (str a))) (hy : ev σ y = some (.string (str b))) (h : a = b) : Yl P o σ w (.bool false) := by
  have := Yl_neqStr (P := P) (w := w) ho hx hy
  rwa [decide_eq_false (fun q => q h)] at this
theorem Yl_neqStrT {a b : List UInt8} (ho : o.op = .binOp .neq t x y ty) (hx : ev σ x = some (.string (str a))) (hy : ev σ y = some (.string (str b))) (h : ¬ a = b) : Yl P o σ w (.bool true) := by
  have := Yl_neqStr (P := P) (w := w) ho hx hy
  rwa [decide_eq_true h] at this
theorem Yl_lenStr {s : List UInt8} (ho : o.op = .call { callee := .builtin .len, args := #[x], argTypes := #[t] }) (hx : ev σ x = some (.string (str s))) [h : Und P t .string] : Yl P o σ w (.int .i64 (s.length : Nat)) := by
  have := Yl_len_str (P := P) (w := w) ho hx
  rwa [str_size] at this
theorem Yl_sliceStr {s : List UInt8} {l h : Nat} {lo hi : Option Operand} {vl vh : Option Value} (ho : o.op = .slice t x lo hi none) (hx : ev σ x = some (.string (str s))) (hlo : evo σ lo = some vl) (hhi : evo σ hi = some vh) [hu : Und P t .string] (hh : Bnd vh s.length s.length h) (hl : Bnd vl 0 h l) :
    Yl P o σ w (.string (str ((s.drop l).take (h - l)))) := by
  rw [← str_extract]
  exact Yl_slice_str ho hx hlo hhi (by rw [str_size]; exact hh) hl
theorem Yl_indexStr {s : List UInt8} {k : IntKind} {i : Int} {b : UInt8} (ho : o.op = .index t x y) (hx : ev σ x = some (.string (str s))) (hy : ev σ y = some (.int k i)) [h : Und P t .string] (h0 : 0 ≤ i) (hb : s[i.toNat]? = some b) :
    Yl P o σ w (.int .u8 (b.toNat : Int)) := by
  have hlt := (List.getElem?_eq_some_iff.1 hb).1
  have := Yl_index_str (P := P) (w := w) (s := str s) ho hx hy h0 (by rw [str_size]; exact hlt)
  have e : (str s)[i.toNat]'(by rw [str_size]; exact hlt) = b := by
    obtain ⟨_, he⟩ := List.getElem?_eq_some_iff.1 hb
    rw [← he]; rfl
  rwa [e] at this
/-! ### errors that may be nil -/
theorem run_eqlIfSome {d : TypeId} {u : Value} {ms : Array (String × TypeId)} [h : Und P t (.interface ms)] : (Op.equal t (.iface d u) .nilIface).run P w = .ok false w := by
  have key : ∀ d', (Op.equalIn (d' + 1) t (.iface d u) .nilIface).run P w = .ok false w := fun d' => by
    rw [Op.equalIn]; simp [run_underlying h.und]
  exact key 9999
theorem run_eqlIfNil {ms : Array (String × TypeId)} [h : Und P t (.interface ms)] : (Op.equal t .nilIface .nilIface).run P w = .ok true w := by
  have key : ∀ d', (Op.equalIn (d' + 1) t .nilIface .nilIface).run P w = .ok true w := fun d' => by
    rw [Op.equalIn]; simp [run_underlying h.und]
  exact key 9999
theorem Yl_neqIfSome {d : TypeId} {u : Value} {ms : Array (String × TypeId)} (ho : o.op = .binOp .neq t x y ty) (hx : ev σ x = some (.iface d u)) (hy : ev σ y = some .nilIface) [h : Und P t (.interface ms)] : Yl P o σ w (.bool true) := ⟨fun N ds f ha => by
  simp only [execOp, ho, ha.eval hx, ha.eval hy, eqGuard_at_iface, binOp, Sem.run_bind, Sem.run_pure, Result.andThen_ok, run_eqlIfSome (ms := ms)]; rfl⟩
theorem Yl_neqIfNil {ms : Array (String × TypeId)} (ho : o.op = .binOp .neq t x (.const .nilIface) ty) (hx : ev σ x = some .nilIface) [h : Und P t (.interface ms)] : Yl P o σ w (.bool false) := ⟨fun N ds f ha => by
  have hy : f.eval (.const .nilIface) = .nilIface := rfl
  simp only [execOp, ho, ha.eval hx, hy, eqGuard_nil_constR, binOp, Sem.run_bind, Sem.run_pure, Result.andThen_ok, run_eqlIfNil (ms := ms)]; rfl⟩
theorem St.strBytes {W : World} {F : Nat → Prop} {rs : List Res} (hS : St W F rs w) (e : TypeId) (s : List UInt8) : St W F (bytes (some ⟨w.heap.size, 0, none⟩) s :: rs) (Lib.bytesWorld w e (str s)) := by
  have h1 := hS.drew.alloc (.cells (Lib.bytesCells w e (str s)) e)
  have h2 := h1.set (w' := Lib.bytesWorld w e (str s)) (o' := .cells (Lib.bytesCells w e (str s)) e ((Lib.bytesCells w e (str s)).size, (Lib.bytesCells w e (str s)).size + 1))
    ⟨by rw [Lib.bytesWorld_size]; simp [World.alloc, World.drew, -World.alloc_eq, -World.drew_eq], Lib.bytesWorld_at_new w e (str s), fun k hk => by
      have hk : k ≠ w.heap.size := hk
      rcases Nat.lt_or_ge k w.heap.size with h | h
      · rw [Lib.bytesWorld_at_old w e (str s) k h]
        simp [World.alloc, World.drew, -World.alloc_eq, -World.drew_eq, Array.getElem?_push, hk]
      · rw [Array.getElem?_eq_none (by rw [Lib.bytesWorld_size]; omega), Array.getElem?_eq_none (by simp [World.alloc, World.drew, -World.alloc_eq, -World.drew_eq]; omega)],
      rfl, rfl, rfl⟩
  refine h2.head fun h hh => ?_
  refine .inr ⟨w.heap.size, 0, _, e, _, rfl, hh, fun i v hv => ?_⟩
  have hlt := (List.getElem?_eq_some_iff.1 hv).1
  rw [bv_length] at hlt
  rw [bv_get hlt] at hv
  rw [← Option.some.inj hv, Nat.zero_add]
  unfold Lib.bytesCells
  rw [Array.getElem?_append_left (by simp [str]; exact hlt)]
  simp [str, hlt]
theorem X_strBytes {src dst : TypeId} {s : List UInt8} {d : Nat} {W : World} {F : Nat → Prop} {rs : List Res} (ho : o.op = .convert src dst x) (hx : ev σ x = some (.string (str s))) [hs : Und P src .string] [hd : Und P dst (.slice e)] [he : Und P e (.int .u8)]
    (hdst : o.dst = some d) (hN : Nat.blt d N = true) (hS : St W F rs w) (h : ∀ b c w', St W F (bytes (some ⟨b, 0, none⟩) s :: rs) w' → s.length ≤ c → K ((d, .slice (some ⟨b, 0, none⟩) s.length c) :: σ) w') : X P o N ds σ w K := ⟨fun f ha K' Q' hK => by
  have hr := Lib.run_convert_string_bytes (P := P) w src dst e (str s) hs.und hd.und he.und
  have hexec : (execOp f.eval o).run P w = .ok (.value (.slice (some ⟨w.heap.size, 0, none⟩) s.length (grownCap w (str s).size 0 e))) (Lib.bytesWorld w e (str s)) := by
    simp only [execOp, ho, ha.eval hx, Sem.run_bind, hr, Result.andThen_ok, str_size]
    rfl
  unfold Oper.wp
  rw [hexec]
  have := hK _ _ _ (ha.put (lt_of_blt hN) (.slice (some ⟨w.heap.size, 0, none⟩) s.length (grownCap w (str s).size 0 e))) (h _ _ _ (hS.strBytes e s) (by have := grownCap_ge w (str s).size 0 e; rw [str_size] at this; rw [str_size]; exact this))
  rw [← hdst] at this
  exact this⟩
end
end Cr
namespace Cr
open Go

class ELoad (P : Program) (g : FuncId) (k : outParam IntKind) : Prop where
  run : ∀ {a : Addr} {x : Int} {w : World}, w.cell? a = some (.int k x) → (callFunc g #[.pointer (some a)]).run P w = .ok (.value (.int k x)) w
class EStore (P : Program) (g : FuncId) : Prop where
  run : ∀ {a : Addr} {k : IntKind} {y : Int} {u : Value} {w : World}, w.cell? a = some u → w.frozen? a = false → (callFunc g #[.pointer (some a), .int k y]).run P w = .ok (.value (.tuple #[])) (w.setCell a (.int k y))
class EAdd (P : Program) (g : FuncId) (k : outParam IntKind) : Prop where
  run : ∀ {a : Addr} {x y s : Int} {w : World}, w.cell? a = some (.int k x) → w.frozen? a = false → (Op.intArith .add k x y).run P w = .ok (.int k s) w → (callFunc g #[.pointer (some a), .int k y]).run P w = .ok (.value (.int k s)) (w.setCell a (.int k s))
class ECas (P : Program) (g : FuncId) (k : outParam IntKind) : Prop where
  hit : ∀ {a : Addr} {x y : Int} {w : World}, w.cell? a = some (.int k x) → w.frozen? a = false → (callFunc g #[.pointer (some a), .int k x, .int k y]).run P w = .ok (.value (.bool true)) (w.setCell a (.int k y))
class EMark0 (P : Program) (g : FuncId) : Prop where
  run : ∀ w, (callFunc g #[]).run P w = .ok (.value (.tuple #[])) w
class EMark (P : Program) (g : FuncId) : Prop where
  run : ∀ (a : Addr) w, (callFunc g #[.pointer (some a)]).run P w = .ok (.value (.tuple #[])) w

theorem setBlock_cell {w : World} {b off : Nat} {l l' : List Value} {T : TypeId} {v : Value} (h : w.heap[b]? = some (.cells l.toArray T (0, 0))) (hs : l.set off v = l') : SetBlock w (w.setCell ⟨b, off, none⟩ v) b (.cells l'.toArray T (0, 0)) := by
  rw [setCell_eq_setRow w b off _ T (0, 0) v h]
  have := setBlock_row h (l.toArray.setIfInBounds off v)
  rw [List.setIfInBounds_toArray, hs] at this
  rwa [List.setIfInBounds_toArray, hs]
theorem Spl.set {l l' : List Value} {n : Nat} {v : Value} [h : Spl l n [v] l'] : l.set n v = l' := by
  have := h.spl
  simp only [List.length_cons, List.length_nil] at this
  rw [set_mid _ _ _ (by omega), ← this.2]; simp

section
variable {P : Program} {o : Oper} {σ : Env} {w : World} {N : Nat} {ds : Md} {K : Env → World → Prop}
variable {f : Operand} {xs : List Operand} {vs : List Value} {ts : Array TypeId} {g : FuncId} {d : Nat}
theorem X_run {v : Value} {w' : World} (ho : o.op = .call { callee := .value f, args := xs.toArray, argTypes := ts }) (hf : ev σ f = some (.func (.func g) #[] #[])) (hv : evs σ xs = some vs) (hrun : (callFunc g vs.toArray).run P w = .ok (.value v) w')
    (hd : o.dst = some d) (hN : Nat.blt d N = true) (h : K ((d, v) :: σ) w') : X P o N ds σ w K := ⟨fun a ha K' Q' hK => by
  unfold Oper.wp
  have hexec : (execOp a.eval o).run P w = .ok (.value v) w' := by
    simp [execOp, ho, resolve, ha.eval hf, Deferred.ofValue, invoke, ha.evals hv, hrun]
  rw [hexec]
  have := hK _ _ _ (ha.put (lt_of_blt hN) v) h
  rw [← hd] at this
  exact this⟩
theorem X_eload {k : IntKind} {a : Addr} {x : Int} [hg : ELoad P g k] (ho : o.op = .call { callee := .value f, args := xs.toArray, argTypes := ts }) (hf : ev σ f = some (.func (.func g) #[] #[])) (hv : evs σ xs = some [.pointer (some a)]) (hc : w.cell? a = some (.int k x))
    (hd : o.dst = some d) (hN : Nat.blt d N = true) (h : K ((d, .int k x) :: σ) w) : X P o N ds σ w K := X_run ho hf hv (hg.run hc) hd hN h
theorem X_emark0 [hg : EMark0 P g] (ho : o.op = .call { callee := .value f, args := xs.toArray, argTypes := ts }) (hf : ev σ f = some (.func (.func g) #[] #[])) (hv : evs σ xs = some [])
    (hd : o.dst = some d) (hN : Nat.blt d N = true) (h : K ((d, .tuple #[]) :: σ) w) : X P o N ds σ w K := X_run ho hf hv (hg.run w) hd hN h
theorem X_emark {a : Addr} [hg : EMark P g] (ho : o.op = .call { callee := .value f, args := xs.toArray, argTypes := ts }) (hf : ev σ f = some (.func (.func g) #[] #[])) (hv : evs σ xs = some [.pointer (some a)])
    (hd : o.dst = some d) (hN : Nat.blt d N = true) (h : K ((d, .tuple #[]) :: σ) w) : X P o N ds σ w K := X_run ho hf hv (hg.run a w) hd hN h
variable {W : World} {F : Nat → Prop} {rs rs' : List Res} {b off : Nat} {l l' : List Value} {T : TypeId}
theorem frozen_none {w : World} {b off : Nat} {cs : Array Value} {T : TypeId} (h : w.heap[b]? = some (.cells cs T (0, 0))) : w.frozen? ⟨b, off, none⟩ = false := frozen_of_row w b off cs T h
theorem X_estore {k : IntKind} {y : Int} {u : Value} [hg : EStore P g] (ho : o.op = .call { callee := .value f, args := xs.toArray, argTypes := ts }) (hf : ev σ f = some (.func (.func g) #[] #[])) (hv : evs σ xs = some [.pointer (some ⟨b, off, none⟩), .int k y])
    (hd : o.dst = some d) (hN : Nat.blt d N = true) (hS : St W F rs w) [hh : Has rs b (.cells l.toArray T (0, 0))] [hn : Nth l off u] [hsp : Spl l off [.int k y] l'] [hu : Upd rs b (.cells l'.toArray T (0, 0)) rs']
    (h : ∀ w', St W F rs' w' → K ((d, .tuple #[]) :: σ) w') : X P o N ds σ w K :=
  have hb := hS.has (b := b) (o := .cells l.toArray T (0, 0))
  X_run ho hf hv (hg.run (hS.cell (b := b) (off := off) (l := l) (T := T) (fz := (0, 0)) (v := u)) (frozen_none hb)) hd hN (h _ (hS.upd (setBlock_cell hb hsp.set)))
theorem X_ecas {k : IntKind} {y x : Int} [hg : ECas P g k] (ho : o.op = .call { callee := .value f, args := xs.toArray, argTypes := ts }) (hf : ev σ f = some (.func (.func g) #[] #[])) (hv : evs σ xs = some [.pointer (some ⟨b, off, none⟩), .int k x, .int k y])
    (hd : o.dst = some d) (hN : Nat.blt d N = true) (hS : St W F rs w) [hh : Has rs b (.cells l.toArray T (0, 0))] [hn : Nth l off (.int k x)] [hsp : Spl l off [.int k y] l'] [hu : Upd rs b (.cells l'.toArray T (0, 0)) rs']
    (h : ∀ w', St W F rs' w' → K ((d, .bool true) :: σ) w') : X P o N ds σ w K :=
  have hb := hS.has (b := b) (o := .cells l.toArray T (0, 0))
  X_run ho hf hv (hg.hit (hS.cell (b := b) (off := off) (l := l) (T := T) (fz := (0, 0)) (v := .int k x)) (frozen_none hb)) hd hN (h _ (hS.upd (setBlock_cell hb hsp.set)))
theorem X_eadd {k : IntKind} {y x s : Int} [hg : EAdd P g k] (ho : o.op = .call { callee := .value f, args := xs.toArray, argTypes := ts }) (hf : ev σ f = some (.func (.func g) #[] #[])) (hv : evs σ xs = some [.pointer (some ⟨b, off, none⟩), .int k y]) (hs : k.wrap (x + y) = s)
    (hd : o.dst = some d) (hN : Nat.blt d N = true) (hS : St W F rs w) [hh : Has rs b (.cells l.toArray T (0, 0))] [hn : Nth l off (.int k x)] [hsp : Spl l off [.int k s] l'] [hu : Upd rs b (.cells l'.toArray T (0, 0)) rs']
    (h : ∀ w', St W F rs' w' → K ((d, .int k s) :: σ) w') : X P o N ds σ w K :=
  have hb := hS.has (b := b) (o := .cells l.toArray T (0, 0))
  X_run ho hf hv (hg.run (hS.cell (b := b) (off := off) (l := l) (T := T) (fz := (0, 0)) (v := .int k x)) (frozen_none hb) (by rw [← hs]; rfl)) hd hN (h _ (hS.upd (setBlock_cell hb hsp.set)))

/-! ### deferred calls -/
variable {ops : Array Oper} {Q : Exit → Act → World → Prop} {rest : List Oper}
theorem G_defer {dl : List Deferred} {first captured : List Value} (hgd : o.guard = none) (ho : o.op = .defer { callee := .value f, args := xs.toArray, argTypes := ts }) (hf : ev σ f = some (.func (.func g) first.toArray captured.toArray)) (hv : evs σ xs = some vs) (hd : o.dst = none)
    (h : G P ops Q rest N ⟨{ target := .fn (.func g) captured.toArray, args := (first ++ vs).toArray } :: dl, none⟩ σ w) : G P ops Q (o :: rest) N ⟨dl, none⟩ σ w := ⟨fun a ha =>
  wpListIn_plain hgd fun K hK => by
    refine ⟨fun _ _ => trivial, ?_⟩
    have hexec : (o.semAt (Fc ⟨dl, none⟩).round a.eval).run P w = .ok (.defer { target := .fn (.func g) captured.toArray, args := (first ++ vs).toArray }) w := by
      show (execOp a.eval o).run P w = _
      simp [execOp, ho, resolve, ha.eval hf, Deferred.ofValue, ha.evals hv]
    rw [hexec]
    refine hK _ _ (h.run _ ?_)
    rw [hd]
    exact ⟨ha.size, by simp [Act.put, ha.defers], ha.at_⟩⟩
theorem E_end0d {fn : Func} {R : Ending → World → Prop} (h : fn.results = #[]) (hR : R (.returned (.tuple #[])) w) : E (bodyPost P fn R) .normal N md0 σ w :=
  ⟨fun _ ha => ⟨ha.defers, _, by simp [results, h], hR⟩⟩
theorem E_ret0d {fn : Func} {R : Ending → World → Prop} (h : fn.results = #[]) (hR : R (.returned (.tuple #[])) w) : E (bodyPost P fn R) .ret N md0 σ w :=
  ⟨fun _ ha => ⟨ha.defers, _, by simp [results, h], hR⟩⟩
/-- A deferred call, at the end: the callee's body, walked. -/
theorem E_defer {fn fn' : Func} {R : Ending → World → Prop} {dl : List Deferred} {e : Exit} {captured args : List Value} {body : Code} {N' : Nat} (hf : P.funcs[g]? = some fn') (hb : fn'.body = some body) (hN : fn'.ntmps = N') (hl : Nat.ble (args ++ captured).length N' = true) [hg : Fun P g]
    (he : e = .ret ∨ e = .normal) (h : C P body (bodyPost P fn' (Ret fun _ w' => E (BP P fn R) e N ⟨dl, none⟩ σ w')) N' md0 (enum 0 (args ++ captured)) w) :
    E (BP P fn R) e N ⟨{ target := .fn (.func g) captured.toArray, args := args.toArray } :: dl, none⟩ σ w := ⟨fun a ha => by
  have hd : a.defers = { target := .fn (.func g) captured.toArray, args := args.toArray } :: dl := ha.defers
  have hcall : CallsDIn Fence.wide 0 P g (args ++ captured).toArray .returning w fun e' u' w' => u' = .returning ∧ Ret (fun _ w' => E (BP P fn R) e N ⟨dl, none⟩ σ w') e' w' :=
    callsDIn_of_wp (F := Fence.wide) hf hb trivial (h.run _ (enum_fr hN hl)) rfl
  have hinv : (invoke (.fn (.func g) captured.toArray) args.toArray).run P w = .ok (.enter g (args ++ captured).toArray) w := by
    have := hg.run (args ++ captured).toArray w
    simp only [invoke]
    simpa using this
  have key : LeavesInM (Fc md0) 0 P fn a.tmps R a.defers .returning w := by
    rw [hd]
    refine ⟨by simp, .inr ⟨fun h => by simp [Fc, Fence.wide] at h, .func g, captured.toArray, g, (args ++ captured).toArray, rfl, hinv, fun _ _ => trivial, ?_⟩⟩
    refine CallsDIn.mono hcall ?_
    rintro e' u' w' ⟨rfl, v, rfl, hE⟩
    have := hE.run { a with defers := dl } ⟨ha.size, rfl, ha.at_⟩
    rcases he with rfl | rfl <;> exact this
  rcases he with rfl | rfl <;> exact key⟩
end
end Cr
