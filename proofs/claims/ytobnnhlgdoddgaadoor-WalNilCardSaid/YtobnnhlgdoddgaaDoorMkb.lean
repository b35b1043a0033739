/-
  Bytes made; lists of byte slices as a resource. Over any program.
-/
import Derived.Test.YtobnnhlgdoddgaaDoorCv
import Derived.Test.YtobnnhlgdoddgaaDoorDig4
namespace Cr
open Go
set_option maxRecDepth 10000
section
variable {P : Program} {o : Oper} {σ : Env} {w : World} {x y : Operand} {t ty e : TypeId} {N : Nat} {ds : Md} {K : Env → World → Prop}
theorem X_makeB {T bytes d c : Nat} {k k' : IntKind} {W : World} {F : Nat → Prop} {rs : List Res} (ho : o.op = .makeSlice t x y) (hx : ev σ x = some (.int k (c : Nat))) (hy : ev σ y = some (.int k' (c : Nat)))
    [h : Und P t (.slice T)] [hi : Inf P T (.int .u8 0) 1 bytes] (hb : bytes * c ≤ 281474976710656) (hm : c ≤ 9223372036854775807) (hd : o.dst = some d) (hN : Nat.blt d N = true) (hS : St W F rs w)
    (hk : ∀ b w', St W F (pts b (.cells (bv (List.replicate c 0)).toArray T) :: rs) w' → K ((d, .slice (some ⟨b, 0, none⟩) c c) :: σ) w') : X P o N ds σ w K :=
  X_make ho hx hy (by omega) (Int.le_refl _) (by rw [← Int.natCast_mul]; omega) (by omega) hd hN hS fun b w' hS' _ => hk b w' (by
    have e1 : (Value.int .u8 0).cells = #[Value.int .u8 0] := rfl
    rw [e1, madeCells_one, Int.toNat_natCast, Nat.mul_one, bv_rep] at hS'
    exact hS')
theorem X_storeBA {N : Nat} {ds : Md} {K : Env → World → Prop} {b off j : Nat} {c : UInt8} {L : List UInt8} {T : TypeId} {W : World} {F : Nat → Prop} {rs rs' : List Res} (ho : o.op = .store t x y) (hx : ev σ x = some (.pointer (some (adr (some ⟨b, off, none⟩) j)))) (hy : ev σ y = some (.int .u8 (c.toNat : Int))) [hs : Siz P t 1]
    (hd : o.dst = none) (hS : St W F rs w) [hh : Has rs b (.cells (bv L).toArray T (0, 0))] (hfit : off + j < L.length) [hu : Upd rs b (.cells (bv (L.set (off + j) c)).toArray T (0, 0)) rs']
    (h : ∀ w', St W F rs' w' → K σ w') : X P o N ds σ w K := X_storeB (off := off + j) ho hx hy hd hS hfit h
theorem St.cellBA {W : World} {F : Nat → Prop} {rs : List Res} {b off j : Nat} {L : List UInt8} {T : TypeId} (hS : St W F rs w) [hh : Has rs b (.cells (bv L).toArray T (0, 0))] (h : off + j < L.length) : w.cell? (adr (some ⟨b, off, none⟩) j) = some (.int .u8 ((L.getD (off + j) 0).toNat : Int)) := hS.cellB h
end
/-- Slices of bytes of the run's own, each apart. -/
def rds (l : List Bs) : Res := Sep (l.map fun x => bytes x.a x.s)
theorem St.rdsNil {W : World} {F : Nat → Prop} {rs : List Res} {w : World} (hS : St W F rs w) : St W F (rds [] :: rs) w := by
  obtain ⟨h, hs, s⟩ := hS
  exact ⟨h, ⟨fun _ => none, h, fun _ => rfl, hs, fun _ => .inl rfl, fun _ => by simp⟩, s⟩
theorem St.rdsCons {W : World} {F : Nat → Prop} {rs : List Res} {w : World} {x : Bs} {l : List Bs} (hS : St W F (bytes x.a x.s :: rds l :: rs) w) : St W F (rds (l ++ [x]) :: rs) w := by
  obtain ⟨h, hs, s⟩ := hS
  refine ⟨h, ?_, s⟩
  obtain ⟨h1, h2, a, ⟨h3, h4, b, c, d', u'⟩, d, u⟩ := hs
  refine ⟨fun k => (h1 k).or (h3 k), h4, ?_, c, fun k => ?_, fun k => ?_⟩
  · have : Sep (bytes x.a x.s :: (l.map fun x => bytes x.a x.s)) (fun k => (h1 k).or (h3 k)) := ⟨h1, h3, a, b, fun k => by
      rcases d k with e | e
      · exact .inl e
      · rw [u'] at e; simp at e; exact .inr e.1, fun _ => rfl⟩
    have p : (bytes x.a x.s :: (l.map fun x => bytes x.a x.s)).Perm ((l ++ [x]).map fun x => bytes x.a x.s) := by
      rw [List.map_append]; exact (List.perm_append_comm (l₁ := [bytes x.a x.s]) (l₂ := l.map fun x => bytes x.a x.s))
    exact Sep.perm p _ this
  · rcases d k with e | e
    · rcases d' k with e' | e'
      · left; simp [e, e']
      · exact .inr e'
    · rw [u'] at e; simp at e; exact .inr e.2
  · rw [u, u']; cases e1 : h1 k <;> simp [e1]
theorem Ro.sep {W : World} {F : Nat → Prop} {rs : List Res} (H : Ro W F (Sep rs)) : ∀ r ∈ rs, Ro W F r := by
  obtain ⟨f, hs, ha⟩ := H
  induction rs generalizing f with
  | nil => intro r hr; cases hr
  | cons x rs ih =>
    obtain ⟨h1, h2, hx, hrs, hd, hu⟩ := hs
    have s1 : ∀ b o, h1 b = some o → f b = some o := fun b o e => by rw [hu, e]; rfl
    have s2 : ∀ b o, h2 b = some o → f b = some o := fun b o e => by
      rw [hu]; rcases hd b with e' | e'
      · simp [e', e]
      · rw [e] at e'; simp at e'
    intro r hr
    cases hr with
    | head => exact ⟨h1, hx, fun b o e => ha b o (s1 b o e)⟩
    | tail _ hr => exact ih h2 hrs (fun b o e => ha b o (s2 b o e)) r hr
theorem Ro.rds {W : World} {F : Nat → Prop} {l : List Bs} (H : Ro W F (rds l)) : ∀ x ∈ l, Ro W F (bytes x.a x.s) := fun x hx => Ro.sep H _ (List.mem_map.2 ⟨x, hx, rfl⟩)
end Cr
