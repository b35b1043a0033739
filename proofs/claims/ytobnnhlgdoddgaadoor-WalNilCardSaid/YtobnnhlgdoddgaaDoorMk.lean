/-
  Structs and slices that a run makes: build, make, append, copy, slicing. Over any program.
-/
import Derived.Test.YtobnnhlgdoddgaaDoorMem
namespace Cr
open Go

theorem set_mid (l : List Value) (i : Nat) (v : Value) (h : i < l.length) : l.set i v = l.take i ++ v :: l.drop (i + 1) := by
  rw [List.set_eq_take_append_cons_drop, if_pos h]
theorem splice_fold (off : Nat) : ∀ (vs cs : List Value) (k : Nat), off + k + vs.length ≤ cs.length →
    (((vs.zipIdx k).foldl (fun (c : Array Value) (x : Value × Nat) => c.setIfInBounds (off + x.2) x.1) cs.toArray)) = (cs.take (off + k) ++ vs ++ cs.drop (off + k + vs.length)).toArray
  | [], cs, k, _ => by simp
  | v :: vs, cs, k, h => by
    simp only [List.zipIdx_cons, List.foldl_cons, List.length_cons] at h ⊢
    rw [List.setIfInBounds_toArray, splice_fold off vs (cs.set (off + k) v) (k + 1) (by simp; omega)]
    congr 1
    have h1 : off + k < cs.length := by omega
    have hl : (cs.take (off + k)).length = off + k := by simp; omega
    rw [set_mid cs _ v h1, show off + (k + 1) = (cs.take (off + k)).length + 1 by omega, List.take_length_add_append, show (cs.take (off + k)).length + 1 + vs.length = (cs.take (off + k)).length + (1 + vs.length) by omega, List.drop_length_add_append]
    simp only [List.take_succ_cons, List.take_zero, List.append_assoc, List.cons_append, List.nil_append, show 1 + vs.length = vs.length + 1 by omega, List.drop_succ_cons, List.drop_drop]
    rw [show off + k + (vs.length + 1) = off + k + 1 + vs.length by omega]

/-- One part laid: what 'fill' does with it. -/
theorem fill_step {place : Nat → Option (Nat × Nat)} {i off : Nat} {v : Value} {vs cs : List Value} {r : List (Nat × Value)} (hp : place i = some (off, vs.length)) (hv : v.cells = vs.toArray) (hfit : off + vs.length ≤ cs.length) :
    Instr.fill place cs.toArray ((i, v) :: r) = Instr.fill place (cs.take off ++ vs ++ cs.drop (off + vs.length)).toArray r := by
  simp only [Instr.fill, hp, hv]
  rw [if_neg (by simp; omega)]
  congr 1
  have := splice_fold off vs cs 0 (by simpa using hfit)
  simp only [Nat.add_zero] at this
  rw [← this, ← Array.foldl_toList]
  simp

section
variable {P : Program} {o : Oper} {σ : Env} {w : World} {N : Nat} {ds : Md} {K : Env → World → Prop}
variable {x y : Operand} {t ty e : TypeId}

/-- The places of a struct's fields, as 'build' reads them. -/
def places (P : Program) (fs : List Field) : List (Nat × Nat) := fs.map fun f => (f.offset, P.cellsOf f.type)
class Str (P : Program) (t : TypeId) (pl : outParam (List (Nat × Nat))) : Prop where
  str : ∃ fs : List Field, P.underlying t = some (.struct fs.toArray) ∧ fs.map (fun f => (P.info? f.type).map (·.size)) = pl.map (fun x => some x.2) ∧ fs.map (·.offset) = pl.map (·.1)
theorem run_places : ∀ (fs : List Field) (pl : List (Nat × Nat)) (w : World), fs.map (fun f => (P.info? f.type).map (·.size)) = pl.map (fun x => some x.2) → fs.map (·.offset) = pl.map (·.1) →
    (fs.mapM (fun f => do pure (f.offset, ← Go.sizeOf f.type)) : Sem (List (Nat × Nat))).run P w = .ok pl w
  | [], pl, w, h, _ => by
    cases pl with
    | nil => simp
    | cons _ _ => simp at h
  | f :: fs, pl, w, h1, h2 => by
    cases pl with
    | nil => simp at h1
    | cons q pl =>
      simp only [List.map_cons, List.cons.injEq] at h1 h2
      have hs : (Go.sizeOf f.type).run P w = .ok q.2 w := run_sizeOf (h := ⟨h1.1⟩) w
      have := run_places fs pl w h1.2 h2.2
      have hf : (do pure (f.offset, ← Go.sizeOf f.type) : Sem (Nat × Nat)).run P w = .ok q w := by
        rw [Sem.run_bind, hs]
        show Result.ok (f.offset, q.2) w = _
        rw [h2.1]
      rw [List.mapM_cons, Sem.run_bind, hf]
      show (List.mapM _ fs >>= _ : Sem _).run P w = _
      rw [Sem.run_bind, this]
      rfl
/-- The parts laid over the cells, one behind the other. -/
class Lay (pl : List (Nat × Nat)) (cs : List Value) (parts : List (Nat × Value)) (cs' : outParam (List Value)) : Prop where
  lay : Instr.fill (fun i => pl[i]?) cs.toArray parts = some cs'.toArray
instance (pl : List (Nat × Nat)) (cs : List Value) : Lay pl cs [] cs := ⟨rfl⟩
class NthP (l : List (Nat × Nat)) (n : Nat) (a b : outParam Nat) : Prop where
  nth : l[n]? = some (a, b)
instance (a b : Nat) (l : List (Nat × Nat)) : NthP ((a, b) :: l) 0 a b := ⟨rfl⟩
instance (u : Nat × Nat) (l : List (Nat × Nat)) (n a b : Nat) [h : NthP l n a b] : NthP (u :: l) (n + 1) a b := ⟨by simpa using h.nth⟩
instance (pl : List (Nat × Nat)) (cs cs1 cs2 vs : List Value) (i off n : Nat) (v : Value) (r : List (Nat × Value)) [hn : NthP pl i off n] [hv : CellsOf v vs] [hl : LenIs vs n] [hs : Spl cs off vs cs1] [hr : Lay pl cs1 r cs2] : Lay pl cs ((i, v) :: r) cs2 := ⟨by
  rw [fill_step (off := off) (by rw [hl.len]; exact hn.nth) hv.cells hs.spl.1, hs.spl.2]; exact hr.lay⟩
def evps (σ : Env) : List (Nat × Operand) → Option (List (Nat × Value))
  | [] => some []
  | (i, x) :: r => match ev σ x, evps σ r with
    | some v, some l => some ((i, v) :: l)
    | _, _ => none
theorem Fr.evalps {a : Act} (h : Fr σ N ds a) : ∀ {xs : List (Nat × Operand)} {vs : List (Nat × Value)}, evps σ xs = some vs → xs.map (fun x => (x.1, a.eval x.2)) = vs
  | [], vs, he => by simpa [evps] using he
  | (i, x) :: r, vs, he => by
    unfold evps at he
    cases hx : ev σ x with
    | none => simp [hx] at he
    | some v =>
      cases hr : evps σ r with
      | none => simp [hx, hr] at he
      | some l =>
        simp [hx, hr] at he
        subst he
        simp [h.eval hx, h.evalps hr]
theorem run_build {z : Value} {n m : Nat} {pl : List (Nat × Nat)} {parts : List (Nat × Value)} {cs cs' : List Value} [hi : Inf P t z n m] [hs : Str P t pl] (hz : z.cells = cs.toArray) (hl : Instr.fill (fun i => pl[i]?) cs.toArray parts = some cs'.toArray) :
    (Instr.build t parts.toArray).run P w = .ok (.agg cs'.toArray) w := by
  obtain ⟨i, hi, hz', _⟩ := info_parts hi.inf
  obtain ⟨fs, h1, h2, h3⟩ := hs.str
  have hp := run_places (P := P) fs pl w h2 h3
  have hp' : (fs.toArray.mapM (fun f => do pure (f.offset, ← Go.sizeOf f.type)) : Sem (Array (Nat × Nat))).run P w = .ok pl.toArray w := by
    rw [List.mapM_toArray, ← bind_pure_comp, Sem.run_bind, hp]
    rfl
  have hq : (zeroValue t).run P w = .ok z w := by simp [zeroValue, typeInfo, hi, hz']
  unfold Instr.build
  rw [Sem.run_bind, hq]
  show (underlying t >>= _ : Sem _).run P w = _
  rw [Sem.run_bind, run_underlying h1]
  show (Array.mapM _ fs.toArray >>= _ : Sem _).run P w = _
  rw [Sem.run_bind, hp']
  simp only [Result.andThen, hz]
  simp [hl]
theorem Yl_build {z : Value} {n m : Nat} {pl : List (Nat × Nat)} {xs : List (Nat × Operand)} {parts : List (Nat × Value)} {cs cs' : List Value} (ho : o.op = .build t xs.toArray) (hx : evps σ xs = some parts) [hi : Inf P t z n m] [hs : Str P t pl] (hz : z.cells = cs.toArray) [hl : Lay pl cs parts cs'] : Yl P o σ w (.agg cs'.toArray) := ⟨fun N ds a ha => by
  have := run_build (P := P) (t := t) (w := w) hz hl.lay
  have e := ha.evalps hx
  simp [execOp, ho, e, this]⟩

/-! ### slices -/
theorem firstCells_row {size m c : Nat} {a : Option Addr} {news : List Value} (h : Rd w (row a news)) (hl : news.length = m * size) : (Builtin.firstCells size m (.slice a m c)).run P w = .ok news.toArray w := by
  cases a with
  | none =>
    obtain ⟨f, hr, _⟩ := h
    rcases hr with ⟨rfl, _⟩ | ⟨b, off, _, _, _, hx, _⟩
    · simp [Builtin.firstCells]
    · cases hx
  | some ad =>
    obtain ⟨f, hr, ha⟩ := h
    refine run_firstCells_some (P := P) w size m ad m c news hl fun j v hv => ?_
    rcases hr with ⟨rfl, _⟩ | ⟨b, off, cells, T, fz, hx, hf, hc⟩
    · cases hv
    · obtain rfl : ad = ⟨b, off, none⟩ := Option.some.inj hx
      rw [add_lit, cell_of_row w b _ cells T fz (ha b _ (by rw [hf]; exact single_self _ _))]
      exact hc j v hv

/-- A new block of a run's own, as a row of c places of e cells. -/
theorem own_of_pts {T e c : Nat} {b : Nat} {l cs : List Value} (hl : l.length = c * e) (hc : c ≤ maxLen) (hcs : l.take cs.length = cs) : ∀ h, pts b (.cells l.toArray T (0, 0)) h → own T e (some ⟨b, 0, none⟩) c cs h := fun h hh => by
  have : cs.length ≤ c * e := by rw [← hl, ← hcs]; simp; omega
  exact ⟨this, hc, .inr ⟨b, l.toArray, rfl, hh, by simpa using hl, by simpa using hcs⟩⟩
theorem own_none (T e : Nat) (a : Option Addr) : own T e a 0 [] (fun _ => none) := ⟨by simp, by simp [maxLen], .inl ⟨rfl, fun _ => rfl⟩⟩
/-- The nil slice, and each without places, is owned by everyone. -/
theorem St.own_none {W : World} {F : Nat → Prop} {rs : List Res} (hS : St W F rs w) (T e : Nat) (a : Option Addr) : St W F (own T e a 0 [] :: rs) w := by
  obtain ⟨h, hs, s⟩ := hS
  exact ⟨h, ⟨_, h, Cr.own_none T e a, hs, fun _ => .inl rfl, fun _ => by simp⟩, s⟩

class HasOwn (rs : List Res) (a : Option Addr) (T e c : outParam Nat) (cs : outParam (List Value)) (rest : outParam (List Res)) : Prop where
  has : rs.Perm (own T e a c cs :: rest)
instance (rs : List Res) (a : Option Addr) (T e c : Nat) (cs : List Value) : HasOwn (own T e a c cs :: rs) a T e c cs rs := ⟨.refl _⟩
instance (r : Res) (rs : List Res) (a : Option Addr) (T e c : Nat) (cs : List Value) (rest : List Res) [h : HasOwn rs a T e c cs rest] : HasOwn (r :: rs) a T e c cs (r :: rest) := ⟨(List.Perm.cons r h.has).trans (.swap _ _ _)⟩

theorem run_append {T size bytes c n m c2 : Nat} {a a2 : Option Addr} {cs news : List Value} {z : Value} {W : World} {F : Nat → Prop} {rest : List Res} (tx : TypeId) [h : Und P t (.slice T)] [hx : Und P tx (.slice T)] [hi : Inf P T z size bytes]
    (hS : St W F (own T size a c cs :: rest) w) (hcs : cs.length = n * size) (hnews : Rd w (row a2 news)) (hl : news.length = m * size) (h1 : ∀ u ∈ news, u.oneCell' = true) (hnc : n ≤ c) (hfit : (n + m) * bytes ≤ 140737488355328) (hmax : n + m ≤ maxLen) :
    ∃ a' c' w', (Builtin.append_ #[t, tx] ty #[.slice a n c, .slice a2 m c2]).run P w = .ok (.slice a' (n + m) c') w' ∧ St W F (own T size a' c' (cs ++ news) :: rest) w' ∧ n + m ≤ c' ∧ (a' = none ↔ a = none ∧ m = 0) := by
  obtain ⟨i, hi', hz', hsz, hby⟩ := info_parts hi.inf
  have hz := hi.zs
  subst hsz hby
  have hf := firstCells_row (P := P) (size := i.size) (m := m) (c := c2) hnews hl
  obtain ⟨f, ⟨f1, f2, ho, hs, hd, hu⟩, s⟩ := hS
  have hlt : ((n + m : Nat) : Int) ≤ 9223372036854775807 := by simp only [maxLen] at hmax; omega
  by_cases hroom : n + m ≤ c
  · have ho' := ho
    obtain ⟨_, hcm, ⟨rfl, he⟩ | ⟨b, cells, rfl, hf1, hcz, ht⟩⟩ := ho
    · obtain rfl : n = 0 := by omega
      obtain rfl : m = 0 := by omega
      obtain rfl : news = [] := List.eq_nil_of_length_eq_zero (by simpa using hl)
      refine ⟨a, 0, w, ?_, ⟨f, ⟨f1, f2, by simpa using ho', hs, hd, hu⟩, s⟩, by omega, by simp⟩
      cases a <;> simp [Builtin.append_, run_underlying h.und, run_underlying hx.und, Go.sizeOf, typeInfo, hi', Builtin.lenOf, hf, storeCells]
    · have hb : w.heap[b]? = some (.cells cells T (0, 0)) := s.agrees b _ (by rw [hu, hf1, single_self]; rfl)
      have hfit2 : n * i.size + news.length ≤ cells.size := by rw [hl, hcz, ← Nat.add_mul]; exact Nat.mul_le_mul_right _ hroom
      have hst := run_storeCells_at P b (n * i.size) T news 0 cells w hb (by simpa using hfit2) h1
      simp only [Nat.add_zero] at hst
      have u := setBlock_row hb (cells.toList.take (n * i.size) ++ news ++ cells.toList.drop (n * i.size + news.length)).toArray
      have hlen : (cells.toList.take (n * i.size) ++ news ++ cells.toList.drop (n * i.size + news.length)).length = c * i.size := by
        simp only [List.length_append, List.length_take, List.length_drop, Array.length_toList]; omega
      refine ⟨some ⟨b, 0, none⟩, c, w.setRow b (cells.toList.take (n * i.size) ++ news ++ cells.toList.drop (n * i.size + news.length)).toArray, ?_, ?_, hroom, by simp⟩
      · simp [Builtin.append_, run_underlying h.und, run_underlying hx.und, Go.sizeOf, typeInfo, hi', Builtin.lenOf, hf, hroom, add_lit, hst]
      · have hS2 : St W F (pts b (.cells cells T (0, 0)) :: rest) w := ⟨f, ⟨f1, f2, hf1, hs, hd, hu⟩, s⟩
        refine (hS2.set u).imp fun g hg => hg.mono_head (own_of_pts (c := c) hlen hcm ?_)
        rw [hcs] at ht
        rw [ht, List.take_append_of_le_length (by simp), List.take_of_length_le (by simp)]
  · have hge : n + m ≤ grownCap w (n + m) c T := grownCap_ge w (n + m) c T
    have hcm : grownCap w (n + m) c T ≤ maxLen := grownCap_le_maxLen w (n + m) c T hmax
    have hn' : ¬ (n + m ≤ c) := hroom
    have hmin : ¬ (9223372036854775807 < ((n : Int) + (m : Int))) := by omega
    have h48 : ¬ (281474976710656 < Builtin.nextslicecap (n + m) c * i.bytes) := by have := growslice_fits (show c < n + m by omega) hfit; omega
    have hfd : (Builtin.firstCells i.size m (.slice a2 m c2)).run P w.drew = .ok news.toArray w.drew := firstCells_row (P := P) (by
      obtain ⟨g, hg, ha⟩ := hnews; exact ⟨g, hg, ha⟩) hl
    have hod : (Builtin.firstCells i.size n (.slice a n c)).run P w.drew = .ok cs.toArray w.drew := firstCells_row (P := P) (size := i.size) ⟨f1, ho.row, fun b o e => s.agrees b o (by rw [hu, e]; rfl)⟩ hcs
    let blk := cs.toArray ++ news.toArray ++ Builtin.zeroCells z.cells (grownCap w (n + m) c T - (n + m))
    have hS2 : St W F rest w := St.drop ⟨f, ⟨f1, f2, ho, hs, hd, hu⟩, s⟩
    refine ⟨some ⟨w.heap.size, 0, none⟩, grownCap w (n + m) c T, w.drew.alloc (.cells blk T), ?_, ?_, hge, by simp; omega⟩
    · simp [Builtin.append_, run_underlying h.und, run_underlying hx.und, Go.sizeOf, typeInfo, zeroValue, hi', hz', Builtin.lenOf, hn', hmin, h48, Question.forced, hod, hfd, newRow, grownCap, blk]
    · have hlen : blk.toList.length = grownCap w (n + m) c T * i.size := by
        simp only [blk, Array.length_toList, Array.size_append, List.size_toArray, size_zeroCells, hz, hcs, hl, ← Nat.add_mul]
        congr 1; omega
      have h3 := hS2.drew.alloc (.cells blk T)
      refine St.imp h3 fun g hg => hg.mono_head ?_
      have key := own_of_pts (T := T) (e := i.size) (c := grownCap w (n + m) c T) (b := w.heap.size) (l := blk.toList) (cs := cs ++ news) hlen hcm (by simp only [blk, Array.toList_append]; exact List.take_left)
      simpa using key
theorem X_append {T size bytes c n m c2 : Nat} {a a2 : Option Addr} {cs news : List Value} {z : Value} {W : World} {F : Nat → Prop} {rs rest : List Res} {d : Nat} {tx : TypeId} (ho : o.op = .call { callee := .builtin .append, args := #[x, y], argTypes := #[t, tx] }) (hx : ev σ x = some (.slice a n c)) (hy : ev σ y = some (.slice a2 m c2))
    [h : Und P t (.slice T)] [hx' : Und P tx (.slice T)] [hi : Inf P T z size bytes] (hd : o.dst = some d) (hN : Nat.blt d N = true) (hS : St W F rs w) [hh : HasOwn rs a T size c cs rest] (hcs : cs.length = n * size) (hnc : n ≤ c) (hnews : Rd w (row a2 news)) (hl : news.length = m * size) (h1 : ∀ u ∈ news, u.oneCell' = true)
    (hfit : (n + m) * bytes ≤ 140737488355328) (hmax : n + m ≤ maxLen)
    (hk : ∀ a' c' w', St W F (own T size a' c' (cs ++ news) :: rest) w' → n + m ≤ c' → (a' = none ↔ a = none ∧ m = 0) → K ((d, .slice a' (n + m) c') :: σ) w') : X P o N ds σ w K := ⟨fun f ha K' Q' hK => by
  obtain ⟨a', c', w', hr, hS', hc', hn⟩ := run_append (P := P) (t := t) (ty := o.type) (c2 := c2) tx (hS.perm hh.has) hcs hnews hl h1 hnc hfit hmax
  unfold Oper.wp
  have hexec : (execOp f.eval o).run P w = .ok (.value (.slice a' (n + m) c')) w' := by
    simp [execOp, ho, resolve, invoke, builtin, ha.eval hx, ha.eval hy, hr]
  rw [hexec]
  have := hK _ _ _ (ha.put (lt_of_blt hN) (.slice a' (n + m) c')) (hk a' c' w' hS' hc' hn)
  rw [← hd] at this
  exact this⟩

/-! ### make, slice literals -/
theorem madeCells_one (z : Value) (n : Nat) : madeCells #[z] n = (List.replicate n z).toArray := by
  apply Array.ext
  · simp [madeCells]
  · intro i h1 h2
    have : i % 1 = 0 := by omega
    simp [madeCells, this]
theorem X_make {T size bytes d : Nat} {k k' : IntKind} {l c : Int} {z : Value} {W : World} {F : Nat → Prop} {rs : List Res} (ho : o.op = .makeSlice t x y) (hx : ev σ x = some (.int k l)) (hy : ev σ y = some (.int k' c))
    [h : Und P t (.slice T)] [hi : Inf P T z size bytes] (h0 : 0 ≤ l) (hlc : l ≤ c) (hb : (bytes : Int) * c ≤ 281474976710656) (hm : c ≤ 9223372036854775807) (hd : o.dst = some d) (hN : Nat.blt d N = true) (hS : St W F rs w)
    (hk : ∀ b w', St W F (pts b (.cells (madeCells z.cells (c.toNat * size)) T (0, 0)) :: rs) w' → RowKit.Below w.heap.size w w' → K ((d, .slice (some ⟨b, 0, none⟩) l.toNat c.toNat) :: σ) w') : X P o N ds σ w K := ⟨fun f ha K' Q' hK => by
  obtain ⟨i, hi', hz', hsz, hby⟩ := info_parts hi.inf
  subst hsz hby
  have hr := run_make (P := P) w t T i z h.und hi' hz' k k' l c h0 hlc hb hm
  unfold Oper.wp
  have hexec : (execOp f.eval o).run P w = .ok (.value (.slice (some ⟨w.heap.size, 0, none⟩) l.toNat c.toNat)) (w.alloc (.cells (madeCells z.cells (c.toNat * i.size)) T)) := by
    simp [execOp, ho, ha.eval hx, ha.eval hy, hr]
  rw [hexec]
  have := hK _ _ _ (ha.put (lt_of_blt hN) (.slice (some ⟨w.heap.size, 0, none⟩) l.toNat c.toNat)) (hk w.heap.size _ (hS.alloc _) ((RowKit.Below.refl _ _).alloc (Nat.le_refl _) _))
  rw [← hd] at this
  exact this⟩
/-- make, of elements of one cell. -/
theorem X_make1 {T bytes d : Nat} {k k' : IntKind} {l c : Int} {z : Value} {W : World} {F : Nat → Prop} {rs : List Res} (ho : o.op = .makeSlice t x y) (hx : ev σ x = some (.int k l)) (hy : ev σ y = some (.int k' c))
    [h : Und P t (.slice T)] [hi : Inf P T z 1 bytes] (hz : z.cells = #[z]) (h0 : 0 ≤ l) (hlc : l ≤ c) (hb : (bytes : Int) * c ≤ 281474976710656) (hm : c ≤ 9223372036854775807) (hd : o.dst = some d) (hN : Nat.blt d N = true) (hS : St W F rs w)
    (hk : ∀ b w', St W F (own T 1 (some ⟨b, 0, none⟩) c.toNat (List.replicate l.toNat z) :: rs) w' → K ((d, .slice (some ⟨b, 0, none⟩) l.toNat c.toNat) :: σ) w') : X P o N ds σ w K :=
  X_make ho hx hy h0 hlc hb hm hd hN hS fun b w' hS' _ => hk b w' (hS'.imp fun g hg => hg.mono_head fun q hq => by
    rw [hz, madeCells_one] at hq
    refine own_of_pts (l := List.replicate (c.toNat * 1) z) (by simp) (by simp only [maxLen]; omega) ?_ q hq
    simp [List.take_replicate]; omega)

class AppL (a b : List Value) (c : outParam (List Value)) : Prop where
  app : a ++ b = c
instance (b : List Value) : AppL [] b b := ⟨rfl⟩
instance (v : Value) (a b c : List Value) [h : AppL a b c] : AppL (v :: a) b (v :: c) := ⟨by simp [h.app]⟩
instance (a : List Value) : AppL a [] a := ⟨by simp⟩
/-- The cells of a slice literal's parts. -/
class CellsAll (parts : List (Nat × Value)) (size : Nat) (l : outParam (List Value)) : Prop where
  all : ∃ ls : List (List Value), ls.length = parts.length ∧ (∀ (i : Nat) (p : Nat × Value) (vs : List Value), parts[i]? = some p → ls[i]? = some vs → p.2.cells = vs.toArray ∧ vs.length = size) ∧ ls.flatten = l
instance (size : Nat) : CellsAll [] size [] := ⟨[], rfl, by simp, rfl⟩
instance (i size : Nat) (v : Value) (vs l l' : List Value) (r : List (Nat × Value)) [hv : CellsOf v vs] [hn : LenIs vs size] [hr : CellsAll r size l] [ha : AppL vs l l'] : CellsAll ((i, v) :: r) size l' := ⟨by
  obtain ⟨ls, h1, h2, h3⟩ := hr.all
  refine ⟨vs :: ls, by simp [h1], fun j p us hp hu => ?_, by simp [h3, ha.app]⟩
  cases j with
  | zero => simp at hp hu; subst hp; subst hu; exact ⟨hv.cells, hn.len⟩
  | succ j => exact h2 j p us (by simpa using hp) (by simpa using hu)⟩
theorem fill_row {size : Nat} : ∀ (parts : List (Nat × Value)) (ls : List (List Value)) (k : Nat) (A Z : List Value), ls.length = parts.length → (∀ (i : Nat) (p : Nat × Value) (vs : List Value), parts[i]? = some p → ls[i]? = some vs → p.2.cells = vs.toArray ∧ vs.length = size) →
    parts.map (·.1) = List.range' k parts.length → A.length = k * size → Z.length = parts.length * size →
    Instr.fill (fun i => some (i * size, size)) (A ++ Z).toArray parts = some (A ++ ls.flatten).toArray
  | [], ls, k, A, Z, h1, _, _, _, hZ => by
    obtain rfl : ls = [] := List.eq_nil_of_length_eq_zero (by simpa using h1)
    obtain rfl : Z = [] := List.eq_nil_of_length_eq_zero (by simpa using hZ)
    simp [Instr.fill]
  | (i, v) :: r, ls, k, A, Z, h1, h2, h3, hA, hZ => by
    cases ls with
    | nil => simp at h1
    | cons vs ls =>
      obtain ⟨hv, hn⟩ := h2 0 (i, v) vs rfl rfl
      simp only [List.map_cons, List.length_cons, List.range'_succ, List.cons.injEq] at h3
      obtain ⟨rfl, h3⟩ := h3
      simp only [List.length_cons] at hZ h1
      have hZ' : size ≤ Z.length := by rw [hZ, Nat.add_mul]; omega
      rw [fill_step (off := i * size) (vs := vs) (by simp [hn]) hv (by simp [hA, hn]; exact hZ')]
      have e : (A ++ Z).take (i * size) ++ vs ++ (A ++ Z).drop (i * size + vs.length) = (A ++ vs) ++ Z.drop size := by
        rw [← hA, List.take_left, List.drop_length_add_append, hn]
      rw [e, fill_row r ls (i + 1) (A ++ vs) (Z.drop size) (by omega) (fun j p us hp hu => h2 (j + 1) p us (by simpa using hp) (by simpa using hu)) h3 (by simp [hA, hn, Nat.add_mul]) (by simp [hZ, Nat.add_mul])]
      simp
theorem X_buildSlice {T size bytes d n : Nat} {z : Value} {xs : List (Nat × Operand)} {parts : List (Nat × Value)} {l : List Value} {W : World} {F : Nat → Prop} {rs : List Res} (ho : o.op = .buildSlice t n xs.toArray) (hx : evps σ xs = some parts) (hn : parts.length = n) (hidx : parts.map (·.1) = List.range' 0 n)
    [h : Und P t (.slice T)] [hi : Inf P T z size bytes] (hsm : Nat.ble (n * size) 16777216 = true) (hnm : Nat.ble n 16777216 = true) [hl : CellsAll parts size l] (hd : o.dst = some d) (hN : Nat.blt d N = true) (hS : St W F rs w)
    (hk : ∀ b w', St W F (own T size (some ⟨b, 0, none⟩) n l :: rs) w' → RowKit.Below w.heap.size w w' → K ((d, .slice (some ⟨b, 0, none⟩) n n) :: σ) w') : X P o N ds σ w K := ⟨fun f ha K' Q' hK => by
  obtain ⟨i, hi', hz', hsz, hby⟩ := info_parts hi.inf
  have hz := hi.zs
  subst hsz hby
  subst hn
  obtain ⟨ls, h1, h2, h3⟩ := hl.all
  have hsm' : parts.length * i.size ≤ 16777216 := Nat.le_of_ble_eq_true hsm
  have e := ha.evalps hx
  have hlen : l.length = parts.length * i.size := by
    rw [← h3, List.length_flatten]
    have : ls.map List.length = List.replicate parts.length i.size := by
      apply List.ext_getElem
      · simp [h1]
      · intro j hj1 hj2
        simp at hj1 hj2 ⊢
        exact (h2 j _ _ (List.getElem?_eq_getElem (by omega)) (List.getElem?_eq_getElem hj1)).2
    rw [this]; simp
  have hfill : ∀ zc : Array Value, Instr.fill (fun j => some (j * i.size, i.size)) ((Array.range (parts.length * i.size)).map (zc[· % zc.size]!)) parts = some l.toArray := fun zc => by
    have hq := fill_row (size := i.size) parts ls 0 [] ((Array.range (parts.length * i.size)).map (zc[· % zc.size]!)).toList h1 h2 hidx (by simp) (by simp)
    simp only [List.nil_append, Array.toArray_toList] at hq
    rw [hq, h3]
  have hexec : (execOp f.eval o).run P w = .ok (.value (.slice (some ⟨w.heap.size, 0, none⟩) parts.length parts.length)) (w.alloc (.cells l.toArray T)) := by
    have hsm2 : ¬ (16777216 < parts.length * i.size) := by omega
    have hq : ∀ zc : Array Value, ((Instr.fill (fun j => some (j * i.size, i.size)) ((Array.range (parts.length * i.size)).map (zc[· % zc.size]!)) parts)) = some l.toArray := hfill
    simp only [execOp, ho, List.map_toArray, e, Sem.run_bind, Instr.buildSlice, run_underlying h.und, Result.andThen_ok, Go.sizeOf, typeInfo, run_program, hi', Sem.run_pure, zeroValue]
    by_cases h00 : parts.length * i.size = 0
    · simp [h00, newRow]
      have := hq #[]
      rw [h00] at this
      simp at this
      simp [this]
    · simp [hsm2, h00, newRow, hq, hi', hz']
  unfold Oper.wp
  rw [hexec]
  have hmx : parts.length ≤ maxLen := by
    simp only [maxLen]
    have := Nat.le_of_ble_eq_true hnm
    omega
  have := hK _ _ _ (ha.put (lt_of_blt hN) (.slice (some ⟨w.heap.size, 0, none⟩) parts.length parts.length)) (hk w.heap.size _ ((hS.alloc (.cells l.toArray T)).imp fun g hg => hg.mono_head (own_of_pts (e := i.size) (c := parts.length) (cs := l) hlen hmx (by simp))) ((RowKit.Below.refl _ _).alloc (Nat.le_refl _) _))
  rw [← hd] at this
  exact this⟩
end
end Cr
