/-
  Slicing, copy, arrays' slices; stores whose cells are known as a list only. Over any program.
-/
import Derived.Test.YtobnnhlgdoddgaaDoorMk
namespace Cr
open Go

/-- The base of x[l:..], where x has places for c elements of e cells each. -/
def sub (a : Option Addr) (l e c : Nat) : Option Addr := if c = l then a else a.map (·.add (l * e))
theorem sub_zero (a : Option Addr) (e c : Nat) : sub a 0 e c = a := by
  unfold sub; cases a <;> simp [Addr.add]
theorem row_sub {a : Option Addr} {cs cs' : List Value} {l e c : Nat} (hs : ∀ j v, cs'[j]? = some v → cs[l * e + j]? = some v) (hz : c = l → cs' = []) : ∀ h, row a cs h → ∃ h', row (sub a l e c) cs' h' ∧ ∀ b o, h' b = some o → h b = some o := by
  intro h H
  unfold sub
  by_cases hc : c = l
  · have := hz hc; subst this
    exact ⟨fun _ => none, .inl ⟨rfl, fun _ => rfl⟩, fun _ _ h => by cases h⟩
  · rw [if_neg hc]
    rcases H with ⟨rfl, hh⟩ | ⟨b, off, cells, T, fz, rfl, hh, hk⟩
    · have : cs' = [] := by
        cases cs' with
        | nil => rfl
        | cons x l => have := hs 0 x rfl; simp at this
      exact ⟨h, .inl ⟨this, hh⟩, fun _ _ x => x⟩
    · exact ⟨h, .inr ⟨b, off + l * e, cells, T, fz, by simp [add_lit], hh, fun j v hv => by rw [Nat.add_assoc]; exact hk _ _ (hs j v hv)⟩, fun _ _ x => x⟩
theorem Rd.sub {w : World} {a : Option Addr} {cs : List Value} {l h e c : Nat} (H : Rd w (row a cs)) (hh : h ≤ c) (hl : l ≤ h) : Rd w (row (sub a l e c) ((cs.drop (l * e)).take ((h - l) * e))) :=
  H.mono (row_sub (fun j v hv => by
    rw [List.getElem?_take] at hv; split at hv
    · simpa using hv
    · cases hv) (fun hc => by subst hc; simp [show h - c = 0 by omega]))
theorem Ro.sub {w : World} {F : Nat → Prop} {a : Option Addr} {cs : List Value} {l h e c : Nat} (H : Ro w F (row a cs)) (hh : h ≤ c) (hl : l ≤ h) : Ro w F (row (Cr.sub a l e c) ((cs.drop (l * e)).take ((h - l) * e))) :=
  H.mono (row_sub (fun j v hv => by
    rw [List.getElem?_take] at hv; split at hv
    · simpa using hv
    · cases hv) (fun hc => by subst hc; simp [show h - c = 0 by omega]))
theorem Rd.subBytes {w : World} {a : Option Addr} {s : List UInt8} {l h c : Nat} (H : Rd w (bytes a s)) (hh : h ≤ c) (hl : l ≤ h) : Rd w (bytes (Cr.sub a l 1 c) ((s.drop l).take (h - l))) := by
  have := Rd.sub (e := 1) H hh hl
  simpa [bytes, bv_take, bv_drop] using this
theorem Ro.subBytes {w : World} {F : Nat → Prop} {a : Option Addr} {s : List UInt8} {l h c : Nat} (H : Ro w F (bytes a s)) (hh : h ≤ c) (hl : l ≤ h) : Ro w F (bytes (Cr.sub a l 1 c) ((s.drop l).take (h - l))) := by
  have := Ro.sub (e := 1) H hh hl
  simpa [bytes, bv_take, bv_drop] using this

section
variable {P : Program} {o : Oper} {σ : Env} {w : World} {N : Nat} {ds : Md} {K : Env → World → Prop}
variable {x y : Operand} {t ty e : TypeId}

def evo (σ : Env) : Option Operand → Option (Option Value)
  | none => some none
  | some x => match ev σ x with | some v => some (some v) | none => none
theorem Fr.evalo {a : Act} (h : Fr σ N ds a) {x : Option Operand} {v : Option Value} (hx : evo σ x = some v) : x.map a.eval = v := by
  cases x with
  | none => simpa [evo] using hx
  | some x =>
    unfold evo at hx
    cases he : ev σ x with
    | none => simp [he] at hx
    | some u => simp [he] at hx; subst hx; simp [h.eval he]
/-- What a bound comes to: absent, it is d; else within 0 .. m. -/
def Bnd (v : Option Value) (d m n : Nat) : Prop := (v = none ∧ n = d) ∨ (∃ k i, v = some (.int k i) ∧ 0 ≤ i ∧ i.toNat = n ∧ n ≤ m)
theorem Bnd.none {d m : Nat} : Bnd none d m d := .inl ⟨rfl, rfl⟩
theorem Bnd.some {k : IntKind} {i : Int} {d m : Nat} (h0 : 0 ≤ i) (h : i ≤ m) : Bnd (some (.int k i)) d m i.toNat := .inr ⟨k, i, rfl, h0, rfl, by omega⟩
theorem run_bound {k : IntKind} {i : Int} {m : Nat} {c : BoundsCode} (h0 : 0 ≤ i) (h : i.toNat ≤ m) : (Instr.sliceBound (.int k i) m c).run P w = .ok i.toNat w := by
  have : i ≤ m := by omega
  simp [Instr.sliceBound, asIntOf, h0, this]
theorem run_bounds {b : Bool} {len cap : Nat} {lo hi : Option Value} {l h : Nat} (hh : Bnd hi len cap h) (hl : Bnd lo 0 h l) : (Instr.sliceBounds b len cap lo hi none).run P w = .ok (l, h, cap) w := by
  unfold Instr.sliceBounds
  rcases hh with ⟨rfl, rfl⟩ | ⟨k, i, rfl, h0, rfl, h1⟩ <;> rcases hl with ⟨rfl, rfl⟩ | ⟨k', j, rfl, h0', rfl, h1'⟩ <;> simp [run_bound, *]
theorem run_bounds3 {b : Bool} {len cap : Nat} {lo hi mx : Option Value} {l h m : Nat} (hm : ∃ k i, mx = some (.int k i) ∧ 0 ≤ i ∧ i.toNat = m ∧ m ≤ cap) (hh : ∃ k i, hi = some (.int k i) ∧ 0 ≤ i ∧ i.toNat = h ∧ h ≤ m) (hl : Bnd lo 0 h l) : (Instr.sliceBounds b len cap lo hi mx).run P w = .ok (l, h, m) w := by
  unfold Instr.sliceBounds
  obtain ⟨k, i, rfl, h0, rfl, h1⟩ := hm
  obtain ⟨k2, i2, rfl, h02, rfl, h12⟩ := hh
  rcases hl with ⟨rfl, rfl⟩ | ⟨k', j, rfl, h0', rfl, h1'⟩ <;> simp [run_bound, *]
theorem Yl_slice {a : Option Addr} {n c m l h : Nat} {lo hi : Option Operand} {vl vh : Option Value} (ho : o.op = .slice t x lo hi none) (hx : ev σ x = some (.slice a n c)) (hlo : evo σ lo = some vl) (hhi : evo σ hi = some vh) [hu : Und P t (.slice e)] [hs : Siz P e m] (hh : Bnd vh n c h) (hl : Bnd vl 0 h l) :
    Yl P o σ w (.slice (sub a l m c) (h - l) (c - l)) := ⟨fun N ds f ha => by
  have hb := run_bounds (P := P) (w := w) (b := true) hh hl
  have hsz : (Go.sizeOf e).run P w = .ok m w := run_sizeOf w
  simp [execOp, ho, ha.eval hx, ha.evalo hlo, ha.evalo hhi, Instr.sliceAt, Instr.slice, run_underlying hu.und, hb, hsz, sub]⟩
theorem Yl_slice3 {a : Option Addr} {n c m l h k : Nat} {lo hi mx : Option Operand} {vl vh vm : Option Value} (ho : o.op = .slice t x lo hi mx) (hx : ev σ x = some (.slice a n c)) (hlo : evo σ lo = some vl) (hhi : evo σ hi = some vh) (hmx : evo σ mx = some vm) [hu : Und P t (.slice e)] [hs : Siz P e m]
    (hm : ∃ k' i, vm = some (.int k' i) ∧ 0 ≤ i ∧ i.toNat = k ∧ k ≤ c) (hh : ∃ k' i, vh = some (.int k' i) ∧ 0 ≤ i ∧ i.toNat = h ∧ h ≤ k) (hl : Bnd vl 0 h l) :
    Yl P o σ w (.slice (sub a l m k) (h - l) (k - l)) := ⟨fun N ds f ha => by
  have hb := run_bounds3 (P := P) (w := w) (b := true) (len := n) hm hh hl
  have hsz : (Go.sizeOf e).run P w = .ok m w := run_sizeOf w
  simp [execOp, ho, ha.eval hx, ha.evalo hlo, ha.evalo hhi, ha.evalo hmx, Instr.sliceAt, Instr.slice, run_underlying hu.und, hb, hsz, sub]⟩
theorem Yl_slice_str {s : ByteArray} {l h : Nat} {lo hi : Option Operand} {vl vh : Option Value} (ho : o.op = .slice t x lo hi none) (hx : ev σ x = some (.string s)) (hlo : evo σ lo = some vl) (hhi : evo σ hi = some vh) [hu : Und P t .string] (hh : Bnd vh s.size s.size h) (hl : Bnd vl 0 h l) :
    Yl P o σ w (.string (s.extract l h)) := ⟨fun N ds f ha => by
  have hb := run_bounds (P := P) (w := w) (b := false) hh hl
  simp [execOp, ho, ha.eval hx, ha.evalo hlo, ha.evalo hhi, Instr.sliceAt, Instr.slice, run_underlying hu.und, hb]⟩
/-- arr[:], arr an array's address. -/
theorem Yl_slice_arr {b off n : Nat} (ho : o.op = .slice t x none none none) (hx : ev σ x = some (.pointer (some ⟨b, off, none⟩))) [hu : Und P t (.array n e)] {m : Nat} [hs : Siz P e m] :
    Yl P o σ w (.slice (some ⟨b, off, none⟩) n n) := ⟨fun N ds f ha => by
  have hb := run_bounds (P := P) (w := w) (b := false) (len := n) (cap := n) (lo := none) (hi := none) .none .none
  have hsz : (Go.sizeOf e).run P w = .ok m w := run_sizeOf w
  simp [execOp, ho, ha.eval hx, Instr.sliceAt, Instr.sureAddr, run_underlying hu.und, hb, hsz, Addr.add]⟩
theorem Yl_slice_arr2 {b off n m l h : Nat} {lo hi : Option Operand} {vl vh : Option Value} (ho : o.op = .slice t x lo hi none) (hx : ev σ x = some (.pointer (some ⟨b, off, none⟩))) (hlo : evo σ lo = some vl) (hhi : evo σ hi = some vh) [hu : Und P t (.array n e)] [hs : Siz P e m] (hh : Bnd vh n n h) (hl : Bnd vl 0 h l) :
    Yl P o σ w (.slice (sub (some ⟨b, off, none⟩) l m n) (h - l) (n - l)) := ⟨fun N ds f ha => by
  have hb := run_bounds (P := P) (w := w) (b := false) hh hl
  have hsz : (Go.sizeOf e).run P w = .ok m w := run_sizeOf w
  simp [execOp, ho, ha.eval hx, ha.evalo hlo, ha.evalo hhi, Instr.sliceAt, Instr.sureAddr, run_underlying hu.und, hb, hsz, sub]
  split <;> rfl⟩
theorem Yl_arrayAt {a : Addr} {n c m : Nat} (ho : o.op = .sliceToArrayPointer t x) (hx : ev σ x = some (.slice (some a) n c)) [hu : Und P t (.array m e)] (hm : m ≤ n) : Yl P o σ w (.pointer (some a)) := ⟨fun N ds f ha => by
  have : ¬ n < m := by omega
  simp [execOp, ho, ha.eval hx, Instr.arrayAt, run_underlying hu.und, this]⟩

/-! ### stores by lists -/
def splice (l : List Value) (n : Nat) (vs : List Value) : List Value := l.take n ++ vs ++ l.drop (n + vs.length)
theorem splice_length {l vs : List Value} {n : Nat} (h : n + vs.length ≤ l.length) : (splice l n vs).length = l.length := by simp [splice]; omega
theorem splice_append {cs r vs : List Value} {i : Nat} (h : i + vs.length ≤ cs.length) : splice (cs ++ r) i vs = splice cs i vs ++ r := by
  unfold splice
  rw [List.take_append_of_le_length (by omega), List.drop_append_of_le_length h]
  simp
theorem X_storeL {b off m : Nat} {v : Value} {l vs : List Value} {T : TypeId} {W : World} {F : Nat → Prop} {rs rs' : List Res} (ho : o.op = .store t x y) (hx : ev σ x = some (.pointer (some ⟨b, off, none⟩))) (hy : ev σ y = some v) [hv : CellsOf v vs] [hs : Siz P t m] (hm : vs.length = m) (h1 : ∀ u ∈ vs, u.oneCell' = true)
    (hd : o.dst = none) (hS : St W F rs w) [hh : Has rs b (.cells l.toArray T (0, 0))] (hfit : off + vs.length ≤ l.length) [hu : Upd rs b (.cells (splice l off vs).toArray T (0, 0)) rs']
    (h : ∀ w', St W F rs' w' → (∀ k, k ≠ b → w'.heap[k]? = w.heap[k]?) → K σ w') : X P o N ds σ w K := ⟨fun a ha K' Q' hK => by
  unfold Oper.wp
  have hb := hS.has (b := b) (o := .cells l.toArray T (0, 0))
  have hr := run_storeVar (P := P) (t := t) hv.cells hm h1 hb hfit
  have hexec : (execOp a.eval o).run P w = .ok .skip (w.setRow b (splice l off vs).toArray) := by
    simp [execOp, ho, ha.eval hx, ha.eval hy, Instr.storeAt, Instr.sureAddr, hr, splice]
  rw [hexec]
  have u := setBlock_row hb (splice l off vs).toArray
  refine hK _ _ _ (?_ : Fr σ N ds _) (h _ (hS.upd u) u.other)
  rw [hd]
  exact ha⟩
/-- A store of one cell into a row of the run's own. -/
theorem X_storeOwn {T sz c i : Nat} {a : Option Addr} {v : Value} {cs : List Value} {W : World} {F : Nat → Prop} {rs rest : List Res} {ad : Addr} (ho : o.op = .store t x y) (hx : ev σ x = some (.pointer (some ad))) (had : ad = adr a i) (hy : ev σ y = some v) (hv : v.cells = #[v]) (h1 : v.oneCell' = true) [hs : Siz P t 1]
    (hd : o.dst = none) (hS : St W F rs w) [hh : HasOwn rs a T sz c cs rest] (hi : i < cs.length)
    (h : ∀ w', St W F (own T sz a c (cs.set i v) :: rest) w' → K σ w') : X P o N ds σ w K := ⟨fun f ha K' Q' hK => by
  subst had
  obtain ⟨g, ⟨g1, g2, hown, hrest, hdj, hu⟩, s⟩ := hS.perm hh.has
  obtain ⟨hle, hcm, ⟨rfl, _⟩ | ⟨b, cells, rfl, rfl, hcz, ht⟩⟩ := hown
  · rw [Nat.zero_mul] at hle; omega
  · have hb : w.heap[b]? = some (.cells cells T (0, 0)) := s.agrees b _ (by rw [hu, single_self]; rfl)
    have hlen : cells.toList.length = c * sz := by simpa using hcz
    have hb' : w.heap[b]? = some (.cells cells.toList.toArray T (0, 0)) := by simpa using hb
    have hr := run_storeVar (P := P) (t := t) (off := i) (vs := [v]) hv rfl (fun u hu => by simp at hu; subst hu; exact h1) hb' (by simp; omega)
    have e : cells.toList.take i ++ [v] ++ cells.toList.drop (i + 1) = cells.toList.set i v := by rw [set_mid _ _ _ (by omega)]; simp
    simp only [List.length_cons, List.length_nil, Nat.zero_add, e] at hr
    have hexec : (execOp f.eval o).run P w = .ok .skip (w.setRow b (cells.toList.set i v).toArray) := by
      simp [execOp, ho, ha.eval hx, ha.eval hy, Instr.storeAt, Instr.sureAddr, adr, hr]
    unfold Oper.wp
    rw [hexec]
    have u := setBlock_row hb (cells.toList.set i v).toArray
    have hS2 : St W F (pts b (.cells cells T (0, 0)) :: rest) w := ⟨g, ⟨_, g2, rfl, hrest, hdj, hu⟩, s⟩
    refine hK _ _ _ (?_ : Fr σ N ds _) (h _ ((hS2.set u).imp fun q hq => hq.mono_head (own_of_pts (by simp [hcz]) hcm ?_)))
    · rw [hd]; exact ha
    · simp only [List.length_set]
      rw [List.take_set, ht]⟩
/-- A store of several cells into a row of the run's own. -/
theorem X_storeOwnN {T sz c i m : Nat} {a : Option Addr} {v : Value} {cs vs : List Value} {W : World} {F : Nat → Prop} {rs rest : List Res} {ad : Addr} (ho : o.op = .store t x y) (hx : ev σ x = some (.pointer (some ad))) (had : ad = adr a i) (hy : ev σ y = some v) [hv : CellsOf v vs] (h1 : ∀ u ∈ vs, u.oneCell' = true) [hs : Siz P t m] (hm : vs.length = m)
    (hd : o.dst = none) (hS : St W F rs w) [hh : HasOwn rs a T sz c cs rest] (hi : i + vs.length ≤ cs.length) (hpos : 0 < cs.length)
    (h : ∀ w', St W F (own T sz a c (splice cs i vs) :: rest) w' → K σ w') : X P o N ds σ w K := ⟨fun f ha K' Q' hK => by
  subst had
  obtain ⟨g, ⟨g1, g2, hown, hrest, hdj, hu⟩, s⟩ := hS.perm hh.has
  obtain ⟨hle, hcm, ⟨rfl, _⟩ | ⟨b, cells, rfl, rfl, hcz, ht⟩⟩ := hown
  · rw [Nat.zero_mul] at hle; omega
  · have hb : w.heap[b]? = some (.cells cells T (0, 0)) := s.agrees b _ (by rw [hu, single_self]; rfl)
    have hlen : cells.toList.length = c * sz := by simpa using hcz
    have hb' : w.heap[b]? = some (.cells cells.toList.toArray T (0, 0)) := by simpa using hb
    have hr := run_storeVar (P := P) (t := t) (off := i) (vs := vs) hv.cells hm h1 hb' (by omega)
    have hexec : (execOp f.eval o).run P w = .ok .skip (w.setRow b (splice cells.toList i vs).toArray) := by
      have : (storeVar t ⟨b, i, none⟩ v).run P w = .ok () (w.setRow b (splice cells.toList i vs).toArray) := hr
      simp [execOp, ho, ha.eval hx, ha.eval hy, Instr.storeAt, Instr.sureAddr, adr, this]
    unfold Oper.wp
    rw [hexec]
    have u := setBlock_row hb (splice cells.toList i vs).toArray
    have hS2 : St W F (pts b (.cells cells T (0, 0)) :: rest) w := ⟨g, ⟨_, g2, rfl, hrest, hdj, hu⟩, s⟩
    have hsl : (splice cells.toList i vs).length = c * sz := by rw [splice_length (by omega)]; exact hlen
    refine hK _ _ _ (?_ : Fr σ N ds _) (h _ ((hS2.set u).imp fun q hq => hq.mono_head (own_of_pts hsl hcm ?_)))
    · rw [hd]; exact ha
    · have e1 : cells.toList = cs ++ cells.toList.drop cs.length := by
        have := List.take_append_drop cs.length cells.toList
        rw [ht] at this; exact this.symm
      rw [e1, splice_append hi, List.take_left]⟩
end
end Cr
