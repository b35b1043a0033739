/-
  Places in memory, slices as resources, and the operations that read or write memory or make it. Over any program.
-/
import Derived.Test.YtobnnhlgdoddgaaDoorOps
namespace Cr
open Go

/-! ### slices as resources -/
/-- The place of cell i of a slice's base. -/
def adr (a : Option Addr) (i : Nat) : Addr := match a with | some x => ⟨x.block, x.off + i, none⟩ | none => ⟨0, i, none⟩
/-- From a on lie the cells cs (to be read). -/
def row (a : Option Addr) (cs : List Value) : Res := fun h =>
  (cs = [] ∧ ∀ k, h k = none) ∨ ∃ b off cells T fz, a = some ⟨b, off, none⟩ ∧ h = single b (.cells cells T fz) ∧ ∀ i v, cs[i]? = some v → cells[off + i]? = some v
/-- A row of the run's own: of c places of e cells each; cs is what stands in front. -/
def own (T : TypeId) (e : Nat) (a : Option Addr) (c : Nat) (cs : List Value) : Res := fun h =>
  cs.length ≤ c * e ∧ c ≤ maxLen ∧
  ((c = 0 ∧ ∀ k, h k = none) ∨ ∃ b cells, a = some ⟨b, 0, none⟩ ∧ h = single b (.cells cells T (0, 0)) ∧ cells.size = c * e ∧ cells.toList.take cs.length = cs)
def bv (l : List UInt8) : List Value := l.map fun b => Value.int .u8 b.toNat
def bytes (a : Option Addr) (l : List UInt8) : Res := row a (bv l)

theorem own.row {T : TypeId} {e : Nat} {a : Option Addr} {c : Nat} {cs : List Value} {h : Frag} (H : own T e a c cs h) : row a cs h := by
  obtain ⟨hl, _, ⟨rfl, hh⟩ | ⟨b, cells, ha, hh, hs, ht⟩⟩ := H
  · exact .inl ⟨List.eq_nil_of_length_eq_zero (by simpa using hl), hh⟩
  · refine .inr ⟨b, 0, cells, T, _, ha, hh, fun i v hv => ?_⟩
    rw [← ht, List.getElem?_take] at hv
    split at hv
    · simpa using hv
    · cases hv
theorem Rd.own_row {w : World} {T : TypeId} {e : Nat} {a : Option Addr} {c : Nat} {cs : List Value} (H : Rd w (own T e a c cs)) : Rd w (row a cs) :=
  H.mono fun h hh => ⟨h, hh.row, fun _ _ x => x⟩
theorem Ro.own_row {w : World} {F : Nat → Prop} {T : TypeId} {e : Nat} {a : Option Addr} {c : Nat} {cs : List Value} (H : Ro w F (own T e a c cs)) : Ro w F (row a cs) :=
  H.mono fun h hh => ⟨h, hh.row, fun _ _ x => x⟩
theorem row.part {a : Option Addr} {cs cs' : List Value} {i : Nat} (hs : ∀ j v, cs'[j]? = some v → cs[i + j]? = some v) : ∀ h, row a cs h → ∃ h', row (some (adr a i)) cs' h' ∧ ∀ b o, h' b = some o → h b = some o := by
  intro h H
  rcases H with ⟨rfl, hh⟩ | ⟨b, off, cells, T, fz, rfl, hh, hc⟩
  · have : cs' = [] := by
      cases cs' with
      | nil => rfl
      | cons x l => have := hs 0 x rfl; simp at this
    exact ⟨h, .inl ⟨this, hh⟩, fun _ _ x => x⟩
  · exact ⟨h, .inr ⟨b, off + i, cells, T, fz, rfl, hh, fun j v hv => by rw [Nat.add_assoc]; exact hc _ _ (hs j v hv)⟩, fun _ _ x => x⟩
theorem row.nil_any {a a' : Option Addr} : ∀ h, row a [] h → ∃ h', row a' [] h' ∧ ∀ b o, h' b = some o → h b = some o := fun _ _ => ⟨fun _ => none, .inl ⟨rfl, fun _ => rfl⟩, fun _ _ h => by cases h⟩
theorem row_nil (a : Option Addr) : row a [] (fun _ => none) := .inl ⟨rfl, fun _ => rfl⟩
theorem Rd_nil (w : World) (a : Option Addr) : Rd w (row a []) := ⟨_, row_nil a, fun _ _ h => by cases h⟩
theorem Ro_nil (w : World) (F : Nat → Prop) (a : Option Addr) : Ro w F (row a []) := ⟨_, row_nil a, fun _ _ h => by cases h⟩

/-- The cells cs lie at a. -/
def CellsAt (w : World) (a : Addr) (cs : List Value) : Prop := ∀ j v, cs[j]? = some v → w.cell? (a.add j) = some v
theorem add_lit (b o j : Nat) : (⟨b, o, none⟩ : Addr).add j = ⟨b, o + j, none⟩ := by unfold Addr.add; split <;> simp_all
theorem CellsAt.of_block {w : World} {b : Nat} {l : List Value} {T : TypeId} {fz : Nat × Nat} (h : w.heap[b]? = some (.cells l.toArray T fz)) : CellsAt w ⟨b, 0, none⟩ l := fun j v hv => by
  rw [add_lit, cell_of_row w b _ _ T fz h]; simpa using hv
theorem Rd.cells {w : World} {a : Option Addr} {cs : List Value} (H : Rd w (row a cs)) : ∀ j v, cs[j]? = some v → w.cell? (adr a j) = some v := fun j v hv => by
  obtain ⟨h, hr, ha⟩ := H
  rcases hr with ⟨rfl, _⟩ | ⟨b, off, cells, T, fz, rfl, rfl, hc⟩
  · cases hv
  · show w.cell? ⟨b, off + j, none⟩ = _
    rw [cell_of_row w b _ cells T fz (ha b _ (single_self _ _))]
    exact hc j v hv
theorem Rd.none_nil {w : World} {cs : List Value} (H : Rd w (row none cs)) : cs = [] := by
  obtain ⟨f, hr, _⟩ := H
  rcases hr with ⟨rfl, _⟩ | ⟨b, off, _, _, _, hx, _⟩
  · rfl
  · cases hx
theorem bv_one {l : List UInt8} : ∀ u ∈ bv l, u.oneCell' = true := fun u hu => by
  simp [bv] at hu; obtain ⟨b, _, rfl⟩ := hu; rfl
theorem Rd.base {w : World} {a : Option Addr} {cs : List Value} (H : Rd w (row a cs)) (h : cs ≠ []) : ∃ b off, a = some ⟨b, off, none⟩ := by
  obtain ⟨f, hr, _⟩ := H
  rcases hr with ⟨rfl, _⟩ | ⟨b, off, _, _, _, hx, _⟩
  · exact absurd rfl h
  · exact ⟨b, off, hx⟩
theorem Rd.seg {w : World} {a : Option Addr} {cs : List Value} (H : Rd w (row a cs)) (i n : Nat) : CellsAt w (adr a i) ((cs.drop i).take n) := fun j v hv => by
  rw [List.getElem?_take] at hv
  split at hv
  · simp only [List.getElem?_drop] at hv
    have := H.cells _ _ hv
    have e : (adr a i).add j = adr a (i + j) := by
      cases a with
      | none => simp [adr, add_lit]
      | some x => simp [adr, add_lit, Nat.add_assoc]
    rw [e]; exact this
  · cases hv
theorem Rd.cellsAt {w : World} {a : Addr} {cs : List Value} (hsp : a.spot = none) (H : Rd w (row (some a) cs)) : CellsAt w a cs := fun j v hv => by
  have := H.cells j v hv
  obtain ⟨b, o, s⟩ := a
  subst hsp
  rw [add_lit]; exact this
theorem bv_get {l : List UInt8} {i : Nat} (h : i < l.length) : (bv l)[i]? = some (.int .u8 (l[i].toNat : Int)) := by simp [bv, h]
@[simp] theorem bv_length (l : List UInt8) : (bv l).length = l.length := by simp [bv]
theorem bv_append (l m : List UInt8) : bv (l ++ m) = bv l ++ bv m := by simp [bv]
theorem bv_take (l : List UInt8) (n : Nat) : bv (l.take n) = (bv l).take n := by simp [bv]
theorem bv_drop (l : List UInt8) (n : Nat) : bv (l.drop n) = (bv l).drop n := by simp [bv]
theorem bv_inj {l m : List UInt8} (h : bv l = bv m) : l = m := by
  induction l generalizing m with
  | nil => cases m <;> simp_all [bv]
  | cons x l ih =>
    cases m with
    | nil => simp [bv] at h
    | cons y m =>
      simp only [bv, List.map_cons, List.cons.injEq, Value.int.injEq, true_and] at h
      have : x = y := UInt8.toNat_inj.1 (by omega)
      rw [this, ih h.2]

theorem St.sel {W : World} {F : Nat → Prop} {rs : List Res} {w : World} (m : List Bool) {pre rest : List Res} [sp : Split rs m pre rest] (hS : St W F rs w) : St W F (pre ++ rest) w := hS.perm sp.perm
theorem St.head {W : World} {F : Nat → Prop} {r r' : Res} {rs : List Res} {w : World} (hS : St W F (r :: rs) w) (hr : ∀ h, r h → r' h) : St W F (r' :: rs) w := hS.imp fun _ h => h.mono_head hr
theorem St.second {W : World} {F : Nat → Prop} {q r r' : Res} {rs : List Res} {w : World} (hS : St W F (q :: r :: rs) w) (hr : ∀ h, r h → r' h) : St W F (q :: r' :: rs) w := hS.imp fun _ h => h.mono_tail fun _ h => h.mono_head hr

section
variable {P : Program} {o : Oper} {σ : Env} {w : World} {N : Nat} {ds : Md} {K : Env → World → Prop}
variable {x y : Operand} {t ty e : TypeId}

/-! ### what a goal is, told cheaply -/
section
variable {ops : Array Oper} {Q : Exit → Act → World → Prop} {l : List Oper} {K' : Act → World → Prop} {ord : List (Nat × Bool)} {invs : Invs} {c : Code} {ex : Exit} {A B : Prop}
theorem X_id (h : X P o N ds σ w K) : X P o N ds σ w K := h
theorem G_id (h : G P ops Q l N ds σ w) : G P ops Q l N ds σ w := h
theorem GO_id (h : GO P ops K' ord invs N ds σ w) : GO P ops K' ord invs N ds σ w := h
theorem C_id (h : C P c Q N ds σ w) : C P c Q N ds σ w := h
theorem E_id (h : E Q ex N ds σ w) : E Q ex N ds σ w := h
theorem Keep_id {k : Nat} (h : keepAll ops k invs w ∧ B) : keepAll ops k invs w ∧ B := h
end

/-! ### places -/
class Fld (P : Program) (s f : Nat) (off : outParam Nat) (t : outParam TypeId) (n : outParam Nat) : Prop where
  fld : ∃ fs fd, P.underlying s = some (.struct fs) ∧ fs[f]? = some fd ∧ fd.offset = off ∧ fd.type = t ∧ (P.info? t).map (·.size) = some n
theorem Yl_fieldAddr {s f off t n b i : Nat} (ho : o.op = .fieldAddr s x f) (hx : ev σ x = some (.pointer (some ⟨b, i, none⟩))) [h : Fld P s f off t n] (hn : Nat.blt 0 n = true) : Yl P o σ w (.pointer (some ⟨b, i + off, none⟩)) := ⟨fun N ds a ha => by
  obtain ⟨fs, fd, h1, h2, h3, h4, h5⟩ := h.fld
  have hsz : (Go.sizeOf fd.type).run P w = .ok n w := by rw [h4]; exact run_sizeOf (h := ⟨h5⟩) w
  have h0 : ¬ n = 0 := by have := lt_of_blt hn; omega
  simp [execOp, ho, ha.eval hx, Instr.fieldAt, run_underlying h1, h2, Instr.sureAddr, fieldPlace, hsz, h0, h3, add_lit]⟩
theorem Yl_fieldAddr0 {s f off t n b : Nat} (ho : o.op = .fieldAddr s x f) (hx : ev σ x = some (.pointer (some ⟨b, 0, none⟩))) [h : Fld P s f off t n] (hn : Nat.blt 0 n = true) : Yl P o σ w (.pointer (some ⟨b, off, none⟩)) := by
  have := Yl_fieldAddr (w := w) ho hx (h := h) hn
  rwa [Nat.zero_add] at this
theorem Yl_field1 {s f off t b : Nat} {l : List Value} {v : Value} (ho : o.op = .field s x f) (hx : ev σ x = some (.agg l.toArray)) [h : Fld P s f off t b] [h1 : One P t] [hv : Nth l off v] : Yl P o σ w v := ⟨fun N ds a ha => by
  obtain ⟨fs, fd, h1', h2, h3, h4, h5⟩ := h.fld
  subst h4
  simp [execOp, ho, ha.eval hx, Instr.field, run_underlying h1', h2, part, h1.one, asAgg, h3, hv.nth]⟩
theorem Yl_fieldN {s f off t n : Nat} {l : Array Value} (ho : o.op = .field s x f) (hx : ev σ x = some (.agg l)) [h : Fld P s f off t n] [h1 : Agg P t] : Yl P o σ w (.agg (l.extract off (off + n))) := ⟨fun N ds a ha => by
  obtain ⟨fs, fd, h1', h2, h3, h4, h5⟩ := h.fld
  subst h4
  have hsz : (Go.sizeOf fd.type).run P w = .ok n w := run_sizeOf (h := ⟨h5⟩) w
  simp [execOp, ho, ha.eval hx, Instr.field, run_underlying h1', h2, part, h1.agg, asAgg, h3, hsz]⟩
theorem adr_add {a : Addr} (h : a.spot = none) (i : Nat) : a.add i = adr (some a) i := by
  obtain ⟨b, o, s⟩ := a; subst h; rw [add_lit]; rfl
/-- x[i] of a slice: its place. -/
theorem Yl_indexAddr {a : Option Addr} {n c m : Nat} {k : IntKind} {i : Int} (ho : o.op = .indexAddr t x y) (hx : ev σ x = some (.slice a n c)) (hy : ev σ y = some (.int k i)) [h : Und P t (.slice e)] [hs : Siz P e m] (h0 : 0 ≤ i) (h1 : i < n) (ha' : ∃ b off, a = some ⟨b, off, none⟩) :
    Yl P o σ w (.pointer (some (adr a (i.toNat * m)))) := ⟨fun N ds f ha => by
  obtain ⟨b, off, rfl⟩ := ha'
  simp [execOp, ho, ha.eval hx, ha.eval hy, Instr.indexAt, asIntOf, run_underlying h.und, h0, h1, run_sizeOf, add_lit, adr]⟩
theorem Yl_indexAddr_arr {b off n m : Nat} {k : IntKind} {i : Int} (ho : o.op = .indexAddr t x y) (hx : ev σ x = some (.pointer (some ⟨b, off, none⟩))) (hy : ev σ y = some (.int k i)) [h : Und P t (.array n e)] [hs : Siz P e m] (h0 : 0 ≤ i) (h1 : i < n) :
    Yl P o σ w (.pointer (some ⟨b, off + i.toNat * m, none⟩)) := ⟨fun N ds f ha => by
  simp [execOp, ho, ha.eval hx, ha.eval hy, Instr.indexAt, asIntOf, run_underlying h.und, h0, h1, run_sizeOf, add_lit, Instr.sureAddr]⟩
theorem Yl_index_arr {cs : Array Value} {n : Nat} {k : IntKind} {i : Int} {v : Value} (ho : o.op = .index t x y) (hx : ev σ x = some (.agg cs)) (hy : ev σ y = some (.int k i)) [h : Und P t (.array n e)] [hs : Siz P e 1] [h1 : One P e] (h0 : 0 ≤ i) (h1 : i < n) (hv : cs[i.toNat]? = some v) :
    Yl P o σ w v := ⟨fun N ds f ha => by
  simp [execOp, ho, ha.eval hx, ha.eval hy, Instr.index, asIntOf, run_underlying h.und, h0, h1, run_sizeOf, part, One.one, hv]⟩
theorem Yl_index_str {s : ByteArray} {k : IntKind} {i : Int} (ho : o.op = .index t x y) (hx : ev σ x = some (.string s)) (hy : ev σ y = some (.int k i)) [h : Und P t .string] (h0 : 0 ≤ i) (h1 : i.toNat < s.size) :
    Yl P o σ w (.int .u8 (s[i.toNat].toNat : Int)) := ⟨fun N ds f ha => by
  have : s[i.toNat]? = some s[i.toNat] := getElem?_pos s i.toNat h1
  simp [execOp, ho, ha.eval hx, ha.eval hy, Instr.index, asIntOf, run_underlying h.und, h0, this]⟩
theorem Yl_extract {l : List Value} {n : Nat} {v : Value} (ho : o.op = .extract x n) (hx : ev σ x = some (.tuple l.toArray)) [hv : Nth l n v] : Yl P o σ w v := ⟨fun N ds f ha => by
  simp [execOp, ho, ha.eval hx, Instr.extract, hv.nth]⟩
theorem Yl_len {a : Option Addr} {n c : Nat} (ho : o.op = .call { callee := .builtin .len, args := #[x], argTypes := #[t] }) (hx : ev σ x = some (.slice a n c)) [h : Und P t (.slice e)] : Yl P o σ w (.int .i64 n) := ⟨fun N ds f ha => by
  simp [execOp, ho, resolve, invoke, builtin, Builtin.len_, ha.eval hx, run_underlying h.und, goInt]⟩
theorem Yl_len_str {s : ByteArray} (ho : o.op = .call { callee := .builtin .len, args := #[x], argTypes := #[t] }) (hx : ev σ x = some (.string s)) [h : Und P t .string] : Yl P o σ w (.int .i64 s.size) := ⟨fun N ds f ha => by
  simp [execOp, ho, resolve, invoke, builtin, Builtin.len_, ha.eval hx, run_underlying h.und, goInt]⟩
theorem Yl_cap {a : Option Addr} {n c : Nat} (ho : o.op = .call { callee := .builtin .cap, args := #[x], argTypes := #[t] }) (hx : ev σ x = some (.slice a n c)) [h : Und P t (.slice e)] : Yl P o σ w (.int .i64 c) := ⟨fun N ds f ha => by
  simp [execOp, ho, resolve, invoke, builtin, Builtin.cap_, ha.eval hx, run_underlying h.und, goInt]⟩
theorem Yl_convInt {src dst : TypeId} {k k' : IntKind} {i v : Int} (ho : o.op = .convert src dst x) (hx : ev σ x = some (.int k i)) {d : TypeDesc} [hs : Und P src d] [hd : Und P dst (.int k')] (hv : k'.wrap i = v) : Yl P o σ w (.int k' v) := ⟨fun N ds f ha => by
  simp only [execOp, ho, ha.eval hx, convert, Sem.run_bind, run_underlying hs.und, run_underlying hd.und, Result.andThen_ok]
  cases d <;> simp [Conv.intToInt, hv]⟩

theorem run_eqlSliceNil {a : Option Addr} {n c n' c' : Nat} [h : Und P t (.slice e)] : (Op.equal t (.slice a n c) (.slice none n' c')).run P w = .ok a.isNone w := by
  have key : ∀ d, (Op.equalIn (d + 1) t (.slice a n c) (.slice none n' c')).run P w = .ok a.isNone w := fun d => by
    rw [Op.equalIn]; cases a <;> simp [run_underlying h.und]
  exact key 9999
theorem run_eqlPtrNil {a : Option Addr} [h : Und P t (.pointer e)] : (Op.equal t (.pointer a) (.pointer none)).run P w = .ok a.isNone w := by
  have key : ∀ d, (Op.equalIn (d + 1) t (.pointer a) (.pointer none)).run P w = .ok a.isNone w := fun d => by
    rw [Op.equalIn]; cases a <;> simp [run_underlying h.und]
  exact key 9999
theorem run_eqlNilMap {a : Option Nat} {k : TypeId} [h : Und P t (.map k e)] : (Op.equal t (.map a) (.map none)).run P w = .ok a.isNone w := by
  have key : ∀ d, (Op.equalIn (d + 1) t (.map a) (.map none)).run P w = .ok a.isNone w := fun d => by
    rw [Op.equalIn]; cases a <;> simp [run_underlying h.und]
  exact key 9999
theorem Yl_eqlNilSlice {a : Option Addr} {n c n' c' : Nat} (ho : o.op = .binOp .eql t x y ty) (hx : ev σ x = some (.slice a n c)) (hy : ev σ y = some (.slice none n' c')) [h : Und P t (.slice e)] : Yl P o σ w (.bool a.isNone) := ⟨fun N ds f ha => by
  simp only [execOp, ho, ha.eval hx, ha.eval hy, eqGuard, binOp, Sem.run_bind, Sem.run_pure, Result.andThen_ok, run_eqlSliceNil (e := e)]; rfl⟩
theorem Yl_neqNilSlice {a : Option Addr} {n c n' c' : Nat} (ho : o.op = .binOp .neq t x y ty) (hx : ev σ x = some (.slice a n c)) (hy : ev σ y = some (.slice none n' c')) [h : Und P t (.slice e)] : Yl P o σ w (.bool (!a.isNone)) := ⟨fun N ds f ha => by
  simp only [execOp, ho, ha.eval hx, ha.eval hy, eqGuard, binOp, Sem.run_bind, Sem.run_pure, Result.andThen_ok, run_eqlSliceNil (e := e)]; rfl⟩
theorem Yl_eqlNilPtr {a : Option Addr} (ho : o.op = .binOp .eql t x y ty) (hx : ev σ x = some (.pointer a)) (hy : ev σ y = some (.pointer none)) [h : Und P t (.pointer e)] : Yl P o σ w (.bool a.isNone) := ⟨fun N ds f ha => by
  simp only [execOp, ho, ha.eval hx, ha.eval hy, eqGuard, binOp, Sem.run_bind, Sem.run_pure, Result.andThen_ok, run_eqlPtrNil (e := e)]; cases a <;> rfl⟩
theorem Yl_neqNilPtr {a : Option Addr} (ho : o.op = .binOp .neq t x y ty) (hx : ev σ x = some (.pointer a)) (hy : ev σ y = some (.pointer none)) [h : Und P t (.pointer e)] : Yl P o σ w (.bool (!a.isNone)) := ⟨fun N ds f ha => by
  simp only [execOp, ho, ha.eval hx, ha.eval hy, eqGuard, binOp, Sem.run_bind, Sem.run_pure, Result.andThen_ok, run_eqlPtrNil (e := e)]; cases a <;> rfl⟩
theorem Yl_neqNil_some {a : Addr} (ho : o.op = .binOp .neq t x y ty) (hx : ev σ x = some (.pointer (some a))) (hy : ev σ y = some (.pointer none)) [h : Und P t (.pointer e)] : Yl P o σ w (.bool true) := Yl_neqNilPtr (e := e) ho hx hy
theorem Yl_neqNil_none (ho : o.op = .binOp .neq t x y ty) (hx : ev σ x = some (.pointer none)) (hy : ev σ y = some (.pointer none)) [h : Und P t (.pointer e)] : Yl P o σ w (.bool false) := Yl_neqNilPtr (e := e) ho hx hy
theorem Yl_eqlNil_some {a : Addr} (ho : o.op = .binOp .eql t x y ty) (hx : ev σ x = some (.pointer (some a))) (hy : ev σ y = some (.pointer none)) [h : Und P t (.pointer e)] : Yl P o σ w (.bool false) := Yl_eqlNilPtr (e := e) ho hx hy
theorem Yl_eqlNil_none (ho : o.op = .binOp .eql t x y ty) (hx : ev σ x = some (.pointer none)) (hy : ev σ y = some (.pointer none)) [h : Und P t (.pointer e)] : Yl P o σ w (.bool true) := Yl_eqlNilPtr (e := e) ho hx hy

/-! ### loads -/
theorem Yl_load {ad : Addr} {v : Value} (ho : o.op = .load t x) (hx : ev σ x = some (.pointer (some ad))) [h : One P t] (hc : w.cell? ad = some v) : Yl P o σ w v := ⟨fun N ds f ha => by
  simp [execOp, ho, ha.eval hx, Instr.loadAt, Instr.sureAddr, loadVar, h.one, load, Sem.run, hc]⟩
theorem run_loadAgg {a : Addr} {cs : List Value} [h : Agg P t] [hs : Siz P t cs.length] (hc : CellsAt w a cs) : (loadVar t a).run P w = .ok (.agg cs.toArray) w := by
  simp [loadVar, h.agg, run_sizeOf (n := cs.length), run_loadCells_list (P := P) w a cs hc]
theorem Yl_loadAgg {a : Addr} {cs : List Value} {n : Nat} (ho : o.op = .load t x) (hx : ev σ x = some (.pointer (some a))) [h : Agg P t] [hs : Siz P t n] (hc : CellsAt w a cs) (hn : cs.length = n) : Yl P o σ w (.agg cs.toArray) := ⟨fun N ds f ha => by
  subst hn
  simp [execOp, ho, ha.eval hx, Instr.loadAt, Instr.sureAddr, run_loadAgg hc]⟩

/-- The cells of a value. -/
class CellsOf (v : Value) (vs : outParam (List Value)) : Prop where
  cells : v.cells = vs.toArray
instance (b : Bool) : CellsOf (.bool b) [.bool b] := ⟨rfl⟩
instance (k : IntKind) (n : Int) : CellsOf (.int k n) [.int k n] := ⟨rfl⟩
instance (s : ByteArray) : CellsOf (.string s) [.string s] := ⟨rfl⟩
instance (a : Option Addr) : CellsOf (.pointer a) [.pointer a] := ⟨rfl⟩
instance (a : Option Addr) (n c : Nat) : CellsOf (.slice a n c) [.slice a n c] := ⟨rfl⟩
instance (r : Option Nat) : CellsOf (.map r) [.map r] := ⟨rfl⟩
instance (f : Fn) (a b : Array Value) : CellsOf (.func f a b) [.func f a b] := ⟨rfl⟩
instance : CellsOf .nilFunc [.nilFunc] := ⟨rfl⟩
instance (t : TypeId) (v : Value) : CellsOf (.iface t v) [.iface t v] := ⟨rfl⟩
instance : CellsOf .nilIface [.nilIface] := ⟨rfl⟩
instance (l : List Value) : CellsOf (.agg l.toArray) l := ⟨rfl⟩
class LenIs (l : List Value) (n : Nat) : Prop where
  len : l.length = n
instance : LenIs [] 0 := ⟨rfl⟩
instance (v : Value) (l : List Value) (n : Nat) [h : LenIs l n] : LenIs (v :: l) (n + 1) := ⟨by simp [h.len]⟩

instance spl_full (vs : List Value) (n : Nat) (z : Value) [h : LenIs vs n] : Spl (List.replicate n z) 0 vs vs := ⟨by simp [h.len]⟩
/-- Each is one cell. -/
class Ones (l : List Value) : Prop where
  ones : ∀ u ∈ l, u.oneCell' = true
instance : Ones [] := ⟨fun u hu => by cases hu⟩
class Cell1 (v : Value) : Prop where
  one : v.oneCell' = true
instance (b : Bool) : Cell1 (.bool b) := ⟨rfl⟩
instance (k : IntKind) (n : Int) : Cell1 (.int k n) := ⟨rfl⟩
instance (s : ByteArray) : Cell1 (.string s) := ⟨rfl⟩
instance (a : Option Addr) : Cell1 (.pointer a) := ⟨rfl⟩
instance (a : Option Addr) (n c : Nat) : Cell1 (.slice a n c) := ⟨rfl⟩
instance (r : Option Nat) : Cell1 (.map r) := ⟨rfl⟩
instance (f : Fn) (a b : Array Value) : Cell1 (.func f a b) := ⟨rfl⟩
instance : Cell1 .nilFunc := ⟨rfl⟩
instance (t : TypeId) (v : Value) : Cell1 (.iface t v) := ⟨rfl⟩
instance : Cell1 .nilIface := ⟨rfl⟩
instance ones_cons (v : Value) (l : List Value) [hv : Cell1 v] [h : Ones l] : Ones (v :: l) := ⟨fun u hu => by
  rcases List.mem_cons.mp hu with rfl | hu
  · exact hv.one
  · exact h.ones u hu⟩
instance ones_app (l m : List Value) [h : Ones l] [h' : Ones m] : Ones (l ++ m) := ⟨fun u hu => by
  rcases List.mem_append.mp hu with hu | hu
  · exact h.ones u hu
  · exact h'.ones u hu⟩
instance ones_bv (l : List UInt8) : Ones (bv l) := ⟨bv_one⟩
instance ones_rep (v : Value) (n : Nat) [h : Ones [v]] : Ones (List.replicate n v) := ⟨fun u hu => by rw [List.eq_of_mem_replicate hu]; exact h.ones _ (List.mem_cons_self ..)⟩
/-! picking resources by their places (places in what is left) -/
class At (rs : List Res) (i : Nat) (r : outParam Res) (rest : outParam (List Res)) : Prop where
  perm : rs.Perm (r :: rest)
instance At.zero (r : Res) (rs : List Res) : At (r :: rs) 0 r rs := ⟨.refl _⟩
instance At.succ (q r : Res) (rs rest : List Res) (i : Nat) [h : At rs i r rest] : At (q :: rs) (i + 1) r (q :: rest) := ⟨(List.Perm.cons q h.perm).trans (.swap ..)⟩
class Pick (rs : List Res) (ix : List Nat) (out : outParam (List Res)) : Prop where
  pick : ∀ {W F w}, St W F rs w → St W F out w
theorem St.drops {W : World} {F : Nat → Prop} {w : World} : ∀ {rs : List Res}, St W F rs w → St W F [] w
  | [], h => h
  | _ :: _, h => h.drop.drops
instance Pick.nil (rs : List Res) : Pick rs [] [] := ⟨fun h => h.drops⟩
theorem St.under {W : World} {F : Nat → Prop} {w : World} {r : Res} {rs out : List Res} (h : St W F (r :: rs) w) (hp : ∀ {W F w}, St W F rs w → St W F out w) : St W F (r :: out) w := by
  obtain ⟨F', h1, hr, _, hbk⟩ := h.call (pre := rs) (rest := [r]) (sp := ⟨(List.perm_append_comm (l₁ := [r]) (l₂ := rs))⟩) []
  exact (@hbk out (out ++ [r]) _ ⟨rfl⟩ (hp h1)).perm List.perm_append_comm
instance Pick.cons (rs : List Res) (i : Nat) (ix : List Nat) (r : Res) (rest out : List Res) [h : At rs i r rest] [h2 : Pick rest ix out] : Pick rs (i :: ix) (r :: out) := ⟨fun hS => (hS.perm h.perm).under h2.pick⟩
theorem St.pick {W : World} {F : Nat → Prop} {rs out : List Res} {w : World} (hS : St W F rs w) (ix : List Nat) [h : Pick rs ix out] : St W F out w := h.pick hS

/-! loads of several cells -/
class Seg (l : List Value) (off n : Nat) (cs : outParam (List Value)) : Prop where
  seg : (l.drop off).take n = cs ∧ cs.length = n
instance seg_here (l : List Value) (n : Nat) [h : LenIs l n] : Seg l 0 n l := ⟨by simp [← h.len]⟩
instance seg_app (l m : List Value) (n : Nat) [h : LenIs l n] : Seg (l ++ m) 0 n l := ⟨by simp [← h.len]⟩
instance seg_next (v : Value) (l cs : List Value) (k n : Nat) [h : Seg l k n cs] : Seg (v :: l) (k + 1) n cs := ⟨by simpa using h.seg⟩
def CellsN (w : World) (a : Addr) (n : Nat) (cs : List Value) : Prop := CellsAt w a cs ∧ cs.length = n
theorem St.cellsN {W : World} {F : Nat → Prop} {rs : List Res} {w : World} {b off n : Nat} {l cs : List Value} {T : TypeId} (hS : St W F rs w) [hh : Has rs b (.cells l.toArray T (0, 0))] [hs : Seg l off n cs] : CellsN w ⟨b, off, none⟩ n cs := by
  refine ⟨fun j v hv => ?_, hs.seg.2⟩
  have hb := hS.has (b := b) (o := .cells l.toArray T (0, 0))
  have e := hs.seg.1
  rw [← e, List.getElem?_take] at hv
  split at hv
  · rw [List.getElem?_drop] at hv
    rw [add_lit, cell_of_row w b _ _ T (0, 0) hb]; simpa using hv
  · cases hv
theorem Yl_loadN {a : Addr} {cs : List Value} {n : Nat} (ho : o.op = .load t x) (hx : ev σ x = some (.pointer (some a))) [h : Agg P t] [hs : Siz P t n] (hc : CellsN w a n cs) : Yl P o σ w (.agg cs.toArray) := Yl_loadAgg ho hx hc.1 hc.2

/-! ### what makes memory -/
theorem X_new {v : Value} {T : TypeId} {d : Nat} {W : World} {F : Nat → Prop} {rs : List Res} {l : List Value} (hrun : ∀ N ds a, Fr σ N ds a → (execOp a.eval o).run P w = .ok (.value (.pointer (some ⟨w.heap.size, 0, none⟩))) (w.alloc (.cells v.cells T)))
    (hl : v.cells = l.toArray) (hd : o.dst = some d) (hN : Nat.blt d N = true) (hS : St W F rs w)
    (h : ∀ b w', St W F (pts b (.cells l.toArray T (0, 0)) :: rs) w' → RowKit.Below w.heap.size w w' → K ((d, .pointer (some ⟨b, 0, none⟩)) :: σ) w') : X P o N ds σ w K := ⟨fun a ha K' Q' hK => by
  unfold Oper.wp
  rw [hrun N ds a ha, hl]
  have := hK _ _ _ (ha.put (lt_of_blt hN) (.pointer (some ⟨w.heap.size, 0, none⟩))) (h w.heap.size _ (hS.alloc (.cells l.toArray T)) ((RowKit.Below.refl _ _).alloc (Nat.le_refl _) _))
  rw [← hd] at this
  exact this⟩
theorem X_alloc {z : Value} {n m : Nat} {d : Nat} {W : World} {F : Nat → Prop} {rs : List Res} {l : List Value} (ho : o.op = .alloc t) [h : Inf P t z n m] [hl : CellsOf z l] (hd : o.dst = some d) (hN : Nat.blt d N = true) (hS : St W F rs w)
    (h : ∀ b w', St W F (pts b (.cells l.toArray t (0, 0)) :: rs) w' → RowKit.Below w.heap.size w w' → K ((d, .pointer (some ⟨b, 0, none⟩)) :: σ) w') : X P o N ds σ w K := by
  rename_i hi
  obtain ⟨i, hi, hz, _⟩ := info_parts hi.inf
  exact X_new (v := z) (T := t) (fun N ds a ha => by
    simp [execOp, ho, Instr.alloc, zeroValue, typeInfo, hi, hz, newVar, newRow]) hl.cells hd hN hS h
theorem X_box {v : Value} {d : Nat} {W : World} {F : Nat → Prop} {rs : List Res} {l : List Value} (ho : o.op = .box t x) (hx : ev σ x = some v) [hl : CellsOf v l] (hd : o.dst = some d) (hN : Nat.blt d N = true) (hS : St W F rs w)
    (h : ∀ b w', St W F (pts b (.cells l.toArray t (0, 0)) :: rs) w' → RowKit.Below w.heap.size w w' → K ((d, .pointer (some ⟨b, 0, none⟩)) :: σ) w') : X P o N ds σ w K :=
  X_new (v := v) (T := t) (fun N ds a ha => by simp [execOp, ho, Instr.box, newVar, newRow, ha.eval hx]) hl.cells hd hN hS h

/-! ### stores -/
theorem run_storeVar {b off m : Nat} {v : Value} {l vs : List Value} {T : TypeId} [hs : Siz P t m] (hv : v.cells = vs.toArray) (hm : vs.length = m) (h1 : ∀ u ∈ vs, u.oneCell' = true) (hb : w.heap[b]? = some (.cells l.toArray T (0, 0))) (hfit : off + vs.length ≤ l.length) :
    (storeVar t ⟨b, off, none⟩ v).run P w = .ok () (w.setRow b (l.take off ++ vs ++ l.drop (off + vs.length)).toArray) := by
  subst hm
  have := run_storeCells_at P b off T vs 0 l.toArray w hb (by simpa using hfit) h1
  simp only [Nat.add_zero] at this
  simp [storeVar, hv, run_sizeOf (n := vs.length), this]
theorem X_store {b off m : Nat} {v : Value} {l l' vs : List Value} {T : TypeId} {W : World} {F : Nat → Prop} {rs rs' : List Res} (ho : o.op = .store t x y) (hx : ev σ x = some (.pointer (some ⟨b, off, none⟩))) (hy : ev σ y = some v) [hv : CellsOf v vs] [hs : Siz P t m] [hm : LenIs vs m] [h1 : Ones vs]
    (hd : o.dst = none) (hS : St W F rs w) [hh : Has rs b (.cells l.toArray T (0, 0))] [hsp : Spl l off vs l'] [hu : Upd rs b (.cells l'.toArray T (0, 0)) rs']
    (h : ∀ w', St W F rs' w' → (∀ k, k ≠ b → w'.heap[k]? = w.heap[k]?) → K σ w') : X P o N ds σ w K := ⟨fun a ha K' Q' hK => by
  unfold Oper.wp
  have hb := hS.has (b := b) (o := .cells l.toArray T (0, 0))
  have hr := run_storeVar (P := P) (t := t) hv.cells hm.len h1.ones hb hsp.spl.1
  have hexec : (execOp a.eval o).run P w = .ok .skip (w.setRow b l'.toArray) := by
    simp [execOp, ho, ha.eval hx, ha.eval hy, Instr.storeAt, Instr.sureAddr, hr, hsp.spl.2]
  rw [hexec]
  have u := setBlock_row hb l'.toArray
  refine hK _ _ _ (?_ : Fr σ N ds _) (h _ (hS.upd u) u.other)
  rw [hd]
  exact ha⟩

/-! ### calls -/
class Fun (P : Program) (g : FuncId) : Prop where
  run : ∀ args w, (callFunc g args).run P w = .ok (.enter g args) w
theorem Fun.mk' {g : FuncId} {fn : Func} (h : P.funcs[g]? = some fn) (hn : (fn.name == "runtime.NumGoroutine") = false) (hb : fn.body.isSome = true) : Fun P g := ⟨fun args w => by
  have h1 : ¬ fn.name = "runtime.NumGoroutine" := by simpa using hn
  have h2 : ¬ fn.body = none := by intro e; rw [e] at hb; cases hb
  simp [callFunc, h, h1, h2]⟩
def evs (σ : Env) : List Operand → Option (List Value)
  | [] => some []
  | x :: r => match ev σ x, evs σ r with
    | some v, some l => some (v :: l)
    | _, _ => none
theorem Fr.evals {a : Act} (h : Fr σ N ds a) : ∀ {xs : List Operand} {vs : List Value}, evs σ xs = some vs → xs.map a.eval = vs
  | [], vs, he => by simpa [evs] using he
  | x :: r, vs, he => by
    unfold evs at he
    cases hx : ev σ x with
    | none => simp [hx] at he
    | some v =>
      cases hr : evs σ r with
      | none => simp [hx, hr] at he
      | some l =>
        simp [hx, hr] at he
        subst he
        simp [h.eval hx, h.evals hr]
/-- A function's end: it returned, and R. -/
def Ret (R : Value → World → Prop) : Ending → World → Prop := fun e w => ∃ v, e = .returned v ∧ R v w
theorem Ret.mk {R : Value → World → Prop} {v : Value} {w : World} (h : R v w) : Ret R (.returned v) w := ⟨v, rfl, h⟩
theorem X_call {f : Operand} {xs : List Operand} {vs first captured : List Value} {ts : Array TypeId} {g : FuncId} {d : Nat} {R : Value → World → Prop} (ho : o.op = .call { callee := .value f, args := xs.toArray, argTypes := ts }) (hf : ev σ f = some (.func (.func g) first.toArray captured.toArray)) (hv : evs σ xs = some vs) [hg : Fun P g]
    (hd : o.dst = some d) (hN : Nat.blt d N = true) (hc : Calls P g (first ++ vs ++ captured).toArray w (Ret R)) (h : ∀ v w', R v w' → K ((d, v) :: σ) w') : X P o N ds σ w K := ⟨fun a ha K' Q' hK => by
  unfold Oper.wp
  have hexec : (execOp a.eval o).run P w = .ok (.enter g (first ++ vs ++ captured).toArray) w := by
    simp [execOp, ho, resolve, ha.eval hf, Deferred.ofValue, invoke, hg.run, ha.evals hv]
  rw [hexec]
  refine hc.mono fun e w' ⟨v, he, hR⟩ => ?_
  subst he
  have := hK _ _ _ (ha.put (lt_of_blt hN) v) (h v w' hR)
  rw [← hd] at this
  exact this⟩
/-- A call of a function by its name. -/
theorem X_callg (g : FuncId) {f : Operand} {xs : List Operand} {vs : List Value} {ts : Array TypeId} {d : Nat} {R : Value → World → Prop} (ho : o.op = .call { callee := .value f, args := xs.toArray, argTypes := ts }) (hf : ev σ f = some (.func (.func g) #[] #[])) (hv : evs σ xs = some vs) [hg : Fun P g]
    (hd : o.dst = some d) (hN : Nat.blt d N = true) (hc : Calls P g vs.toArray w (Ret R)) (h : ∀ v w', R v w' → K ((d, v) :: σ) w') : X P o N ds σ w K :=
  X_call (first := []) (captured := []) ho hf hv hd hN (by simpa using hc) h
/-- A call whose result nobody takes. -/
theorem X_call0 {f : Operand} {xs : List Operand} {vs first captured : List Value} {ts : Array TypeId} {g : FuncId} {R : Value → World → Prop} (ho : o.op = .call { callee := .value f, args := xs.toArray, argTypes := ts }) (hf : ev σ f = some (.func (.func g) first.toArray captured.toArray)) (hv : evs σ xs = some vs) [hg : Fun P g]
    (hd : o.dst = none) (hc : Calls P g (first ++ vs ++ captured).toArray w (Ret R)) (h : ∀ v w', R v w' → K σ w') : X P o N ds σ w K := ⟨fun a ha K' Q' hK => by
  unfold Oper.wp
  have hexec : (execOp a.eval o).run P w = .ok (.enter g (first ++ vs ++ captured).toArray) w := by
    simp [execOp, ho, resolve, ha.eval hf, Deferred.ofValue, invoke, hg.run, ha.evals hv]
  rw [hexec]
  refine hc.mono fun e w' ⟨v, he, hR⟩ => ?_
  subst he
  refine hK _ _ _ (?_ : Fr σ N ds _) (h v w' hR)
  rw [hd]; exact ha⟩
end
end Cr
