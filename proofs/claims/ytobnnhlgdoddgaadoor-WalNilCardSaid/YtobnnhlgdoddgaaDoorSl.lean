/-
  The heap logic of this seat's proofs: fragments of a heap, resources, and the state 'St' of a function's run. No program is in sight.
-/
import Derived.Below
namespace Cr
open Go

/-- A piece of a heap: which blocks, and what they hold. -/
abbrev Frag := Nat → Option Obj
abbrev Res := Frag → Prop

def single (b : Nat) (o : Obj) : Frag := fun k => if k = b then some o else none
def pts (b : Nat) (o : Obj) : Res := fun h => h = single b o
def emp : Res := fun h => ∀ k, h k = none

/-- All resources of a list, side by side. -/
def Sep : List Res → Res
  | [] => emp
  | r :: rs => fun h => ∃ h1 h2, r h1 ∧ Sep rs h2 ∧ (∀ k, h1 k = none ∨ h2 k = none) ∧ (∀ k, h k = (h1 k).or (h2 k))

theorem Sep.swap {r s : Res} {rs : List Res} {h : Frag} (H : Sep (r :: s :: rs) h) : Sep (s :: r :: rs) h := by
  obtain ⟨h1, h2, hr, ⟨h3, h4, hs, hrs, hd', hu'⟩, hd, hu⟩ := H
  refine ⟨h3, fun k => (h1 k).or (h4 k), hs, ⟨h1, h4, hr, hrs, fun k => ?_, fun k => rfl⟩, fun k => ?_, fun k => ?_⟩
  · rcases hd k with h | h
    · exact .inl h
    · rw [hu'] at h; simp at h; exact .inr h.2
  · rcases hd k with h | h <;> rcases hd' k with h' | h' <;> simp_all
  · rw [hu, hu']
    rcases hd k with h | h
    · simp [h]
    · rw [hu'] at h; simp at h; simp [h.1, h.2]

theorem Sep.mono_head {r r' : Res} {rs : List Res} {h : Frag} (hr : ∀ h, r h → r' h) (H : Sep (r :: rs) h) : Sep (r' :: rs) h := by
  obtain ⟨h1, h2, a, b, c, d⟩ := H
  exact ⟨h1, h2, hr _ a, b, c, d⟩
theorem Sep.mono_tail {r : Res} {rs rs' : List Res} {h : Frag} (hr : ∀ h, Sep rs h → Sep rs' h) (H : Sep (r :: rs) h) : Sep (r :: rs') h := by
  obtain ⟨h1, h2, a, b, c, d⟩ := H
  exact ⟨h1, h2, a, hr _ b, c, d⟩

/-- 'r' is in 'rs', and 'rest' is what is left. -/
class Take (rs : List Res) (i : Nat) (r : outParam Res) (rest : outParam (List Res)) : Prop where
  take : ∀ h, Sep rs h → Sep (r :: rest) h
  give : ∀ h, Sep (r :: rest) h → Sep rs h

theorem Sep.perm {rs rs' : List Res} (p : rs.Perm rs') : ∀ h, Sep rs h → Sep rs' h := by
  induction p with
  | nil => exact fun _ h => h
  | cons x _ ih => exact fun _ h => Sep.mono_tail ih h
  | swap x y l => exact fun _ h => Sep.swap h
  | trans _ _ ih1 ih2 => exact fun _ h => ih2 _ (ih1 _ h)

theorem Sep.append {rs rs' : List Res} {h : Frag} (H : Sep (rs ++ rs') h) :
    ∃ h1 h2, Sep rs h1 ∧ Sep rs' h2 ∧ (∀ k, h1 k = none ∨ h2 k = none) ∧ (∀ k, h k = (h1 k).or (h2 k)) := by
  induction rs generalizing h with
  | nil => exact ⟨fun _ => none, h, fun _ => rfl, H, fun _ => .inl rfl, fun _ => by simp⟩
  | cons r rs ih =>
    obtain ⟨h1, h2, hr, hs, hd, hu⟩ := H
    obtain ⟨h3, h4, ha, hb, hd', hu'⟩ := ih hs
    refine ⟨fun k => (h1 k).or (h3 k), h4, ⟨h1, h3, hr, ha, fun k => ?_, fun k => rfl⟩, hb, fun k => ?_, fun k => ?_⟩
    · rcases hd k with h | h
      · exact .inl h
      · rw [hu'] at h; simp at h; exact .inr h.1
    · rcases hd' k with h' | h'
      · rcases hd k with h | h
        · left; simp [h, h']
        · rw [hu'] at h; simp at h; exact .inr h.2
      · exact .inr h'
    · rw [hu, hu']; cases e1 : h1 k <;> simp [e1]

theorem Sep.append_mk {rs rs' : List Res} {h h1 h2 : Frag} (H1 : Sep rs h1) (H2 : Sep rs' h2) (hd : ∀ k, h1 k = none ∨ h2 k = none) (hu : ∀ k, h k = (h1 k).or (h2 k)) : Sep (rs ++ rs') h := by
  induction rs generalizing h h1 with
  | nil =>
    have : h = h2 := by funext k; rw [hu, H1 k]; simp
    exact this ▸ H2
  | cons r rs ih =>
    obtain ⟨h3, h4, hr, hs, hd', hu'⟩ := H1
    refine ⟨h3, fun k => (h4 k).or (h2 k), hr, ih hs (fun k => ?_) (fun k => rfl), fun k => ?_, fun k => ?_⟩
    · rcases hd k with h | h
      · rw [hu'] at h; simp at h; exact .inl h.2
      · exact .inr h
    · rcases hd' k with h' | h'
      · exact .inl h'
      · rcases hd k with h | h
        · rw [hu'] at h; simp at h; exact .inl h.1
        · right; simp [h, h']
    · rw [hu, hu']; cases h3 k <;> simp

/-- A fragment is a part of a world's heap. -/
def Agrees (h : Frag) (w : World) : Prop := ∀ b o, h b = some o → w.heap[b]? = some o

/-- THE STATE OF A RUN: it began in W, with leave to write the blocks of F; now the world is w, of which the run holds the resources rs. -/
structure StAt (W : World) (F : Nat → Prop) (h : Frag) (w : World) : Prop where
  agrees : Agrees h w
  foot : ∀ b o, h b = some o → F b ∨ W.heap.size ≤ b
  size : W.heap.size ≤ w.heap.size
  os : w.os = W.os
  tape : w.tape = W.tape
  output : w.output = W.output
  kept : ∀ b, b < W.heap.size → ¬ F b → w.heap[b]? = W.heap[b]?
def St (W : World) (F : Nat → Prop) (rs : List Res) (w : World) : Prop := ∃ h, Sep rs h ∧ StAt W F h w

def noF : Nat → Prop := fun _ => False
/-- A resource that is there to be read: none of what the run may write. -/
def Ro (W : World) (F : Nat → Prop) (r : Res) : Prop := ∃ h, r h ∧ ∀ b o, h b = some o → W.heap[b]? = some o ∧ ¬ F b
/-- A resource that is there, as the world stands. -/
def Rd (w : World) (r : Res) : Prop := ∃ h, r h ∧ Agrees h w

theorem lt_of_get {w : World} {b : Nat} {o : Obj} (h : w.heap[b]? = some o) : b < w.heap.size := (Array.getElem?_eq_some_iff.1 h).1

theorem Ro.rd {W : World} {F : Nat → Prop} {r : Res} {rs : List Res} {w : World} (H : Ro W F r) (hS : St W F rs w) : Rd w r := by
  obtain ⟨h, hr, ha⟩ := H
  obtain ⟨_, _, s⟩ := hS
  exact ⟨h, hr, fun b o hb => by
    have := ha b o hb
    rw [s.kept b (lt_of_get this.1) this.2]; exact this.1⟩
theorem Rd.below {w w' : World} {r : Res} (H : Rd w r) (hb : RowKit.Below w.heap.size w w') : Rd w' r := by
  obtain ⟨h, hr, ha⟩ := H
  exact ⟨h, hr, fun b o e => by have := ha b o e; rw [hb.block b (lt_of_get this)]; exact this⟩
theorem Rd.ro {w : World} {r : Res} (H : Rd w r) : Ro w noF r := by
  obtain ⟨h, hr, ha⟩ := H
  exact ⟨h, hr, fun b o hb => ⟨ha b o hb, fun h => h⟩⟩
theorem Ro.start {W : World} {F : Nat → Prop} {r : Res} (H : Ro W F r) : Rd W r := by
  obtain ⟨h, hr, ha⟩ := H
  exact ⟨h, hr, fun b o hb => (ha b o hb).1⟩
theorem Ro.mono {W : World} {F : Nat → Prop} {r r' : Res} (H : Ro W F r) (hm : ∀ h, r h → ∃ h', r' h' ∧ ∀ b o, h' b = some o → h b = some o) : Ro W F r' := by
  obtain ⟨h, hr, ha⟩ := H
  obtain ⟨h', hr', hs⟩ := hm h hr
  exact ⟨h', hr', fun b o hb => ha b o (hs b o hb)⟩
theorem Rd.mono {w : World} {r r' : Res} (H : Rd w r) (hm : ∀ h, r h → ∃ h', r' h' ∧ ∀ b o, h' b = some o → h b = some o) : Rd w r' := by
  obtain ⟨h, hr, ha⟩ := H
  obtain ⟨h', hr', hs⟩ := hm h hr
  exact ⟨h', hr', fun b o hb => ha b o (hs b o hb)⟩

theorem St.start (w : World) : St w noF [] w :=
  ⟨fun _ => none, fun _ => rfl, fun _ _ h => by simp at h, fun _ _ h => by simp at h, Nat.le_refl _, rfl, rfl, rfl, fun _ _ _ => rfl⟩

theorem St.perm {W : World} {F : Nat → Prop} {rs rs' : List Res} {w : World} (hS : St W F rs w) (p : rs.Perm rs') : St W F rs' w := by
  obtain ⟨h, hs, s⟩ := hS
  exact ⟨h, Sep.perm p h hs, s⟩
theorem St.imp {W : World} {F : Nat → Prop} {rs rs' : List Res} {w : World} (hS : St W F rs w) (p : ∀ h, Sep rs h → Sep rs' h) : St W F rs' w := by
  obtain ⟨h, hs, s⟩ := hS
  exact ⟨h, p h hs, s⟩

theorem single_self (b : Nat) (o : Obj) : single b o b = some o := by simp [single]
theorem single_ne {b k : Nat} (o : Obj) (h : k ≠ b) : single b o k = none := by simp [single, h]
theorem of_single {b k : Nat} {o o' : Obj} (h : single b o k = some o') : k = b ∧ o = o' := by
  unfold single at h; split at h
  · rename_i e; exact ⟨e, by simpa using h⟩
  · simp at h

/-- Resources may be let go. -/
theorem St.drop {W : World} {F : Nat → Prop} {r : Res} {rs : List Res} {w : World} (hS : St W F (r :: rs) w) : St W F rs w := by
  obtain ⟨h, ⟨h1, h2, _, hs, hd, hu⟩, s⟩ := hS
  have sub : ∀ b o, h2 b = some o → h b = some o := fun b o hb => by
    rw [hu]; rcases hd b with e | e
    · simp [e, hb]
    · rw [hb] at e; simp at e
  exact ⟨h2, hs, fun b o hb => s.agrees b o (sub b o hb), fun b o hb => s.foot b o (sub b o hb), s.size, s.os, s.tape, s.output, s.kept⟩

theorem St.get {W : World} {F : Nat → Prop} {b : Nat} {o : Obj} {rs : List Res} {w : World} (hS : St W F (pts b o :: rs) w) : w.heap[b]? = some o := by
  obtain ⟨h, ⟨h1, h2, rfl, _, hd, hu⟩, s⟩ := hS
  exact s.agrees b o (by rw [hu, single_self]; rfl)

/-- A world that is w but for block b. -/
structure SetBlock (w w' : World) (b : Nat) (o : Obj) : Prop where
  size : w'.heap.size = w.heap.size
  at_ : w'.heap[b]? = some o
  other : ∀ k, k ≠ b → w'.heap[k]? = w.heap[k]?
  os : w'.os = w.os
  tape : w'.tape = w.tape
  output : w'.output = w.output

theorem St.set {W : World} {F : Nat → Prop} {b : Nat} {o o' : Obj} {rs : List Res} {w w' : World} (hS : St W F (pts b o :: rs) w) (u : SetBlock w w' b o') : St W F (pts b o' :: rs) w' := by
  obtain ⟨h, ⟨h1, h2, rfl, hs, hd, hu⟩, s⟩ := hS
  have hb2 : h2 b = none := by rcases hd b with e | e; · rw [single_self] at e; simp at e
                               · exact e
  refine ⟨fun k => (single b o' k).or (h2 k), ⟨single b o', h2, rfl, hs, fun k => ?_, fun _ => rfl⟩, ?_⟩
  · by_cases e : k = b
    · subst e; exact .inr hb2
    · exact .inl (single_ne _ e)
  · have ex : ∀ k x, (single b o' k).or (h2 k) = some x → (k = b ∧ x = o') ∨ (k ≠ b ∧ h k = some x) := fun k x hx => by
      by_cases e : k = b
      · subst e; rw [single_self] at hx; exact .inl ⟨rfl, by simpa using hx.symm⟩
      · rw [single_ne _ e] at hx; exact .inr ⟨e, by rw [hu, single_ne _ e]; exact hx⟩
    have fb : F b ∨ W.heap.size ≤ b := s.foot b o (by rw [hu, single_self]; rfl)
    refine ⟨fun k x hx => ?_, fun k x hx => ?_, by rw [u.size]; exact s.size, u.os.trans s.os, u.tape.trans s.tape, u.output.trans s.output, fun k hk hF => ?_⟩
    · rcases ex k x hx with ⟨rfl, rfl⟩ | ⟨e, hx⟩
      · exact u.at_
      · rw [u.other k e]; exact s.agrees k x hx
    · rcases ex k x hx with ⟨rfl, rfl⟩ | ⟨e, hx⟩
      · exact fb
      · exact s.foot k x hx
    · have : k ≠ b := fun e => by subst e; rcases fb with h | h; · exact hF h
                                  · omega
      rw [u.other k this]; exact s.kept k hk hF

theorem St.alloc {W : World} {F : Nat → Prop} {rs : List Res} {w : World} (hS : St W F rs w) (o : Obj) : St W F (pts w.heap.size o :: rs) (w.alloc o) := by
  obtain ⟨h, hs, s⟩ := hS
  have hn : h w.heap.size = none := by
    cases e : h w.heap.size with
    | none => rfl
    | some x => have := lt_of_get (s.agrees _ _ e); omega
  have old : ∀ k, k < w.heap.size → (w.alloc o).heap[k]? = w.heap[k]? := fun k hk => heap_alloc_old w o k hk
  refine ⟨fun k => (single w.heap.size o k).or (h k), ⟨_, h, rfl, hs, fun k => ?_, fun _ => rfl⟩, ?_⟩
  · by_cases e : k = w.heap.size
    · subst e; exact .inr hn
    · exact .inl (single_ne _ e)
  · have ex : ∀ k x, (single w.heap.size o k).or (h k) = some x → (k = w.heap.size ∧ x = o) ∨ h k = some x := fun k x hx => by
      by_cases e : k = w.heap.size
      · subst e; rw [single_self] at hx; exact .inl ⟨rfl, by simpa using hx.symm⟩
      · rw [single_ne _ e] at hx; exact .inr (by simpa using hx)
    refine ⟨fun k x hx => ?_, fun k x hx => ?_, by simp; have := s.size; omega, s.os, s.tape, s.output, fun k hk hF => ?_⟩
    · rcases ex k x hx with ⟨rfl, rfl⟩ | hx
      · exact heap_alloc_new w _
      · have := s.agrees k x hx
        rw [old k (lt_of_get this)]; exact this
    · rcases ex k x hx with ⟨rfl, rfl⟩ | hx
      · exact .inr s.size
      · exact s.foot k x hx
    · have := s.size
      rw [old k (by omega)]; exact s.kept k hk hF

theorem St.below {W : World} {F : Nat → Prop} {rs : List Res} {w w' : World} (hS : St W F rs w) (hb : RowKit.Below w.heap.size w w') : St W F rs w' := by
  obtain ⟨h, hs, s⟩ := hS
  refine ⟨h, hs, fun k x hx => ?_, s.foot, Nat.le_trans s.size hb.size, hb.os.trans s.os, hb.tape.trans s.tape, hb.output.trans s.output, fun k hk hF => ?_⟩
  · have := s.agrees k x hx
    rw [hb.block k (lt_of_get this)]; exact this
  · have := s.size
    rw [hb.block k (by omega)]; exact s.kept k hk hF
theorem St.drew {W : World} {F : Nat → Prop} {rs : List Res} {w : World} (hS : St W F rs w) : St W F rs w.drew := by
  obtain ⟨h, hs, s⟩ := hS
  exact ⟨h, hs, s.agrees, s.foot, s.size, s.os, s.tape, s.output, s.kept⟩
/-- A run that had leave to write nothing that was there. -/
theorem St.toBelow {W : World} {rs : List Res} {w : World} (hS : St W noF rs w) : RowKit.Below W.heap.size W w := by
  obtain ⟨h, _, s⟩ := hS
  exact ⟨s.os, s.tape, s.output, s.size, fun k hk => s.kept k hk (fun h => h)⟩

/-- A part of the resources, by a mask: what is picked, and the rest. -/
class Split (rs : List Res) (m : List Bool) (pre rest : outParam (List Res)) : Prop where
  perm : rs.Perm (pre ++ rest)
instance Split.nil (rs : List Res) : Split rs [] [] rs := ⟨.refl _⟩
instance Split.yes (r : Res) (rs : List Res) (m : List Bool) (pre rest : List Res) [h : Split rs m pre rest] : Split (r :: rs) (true :: m) (r :: pre) rest := ⟨.cons _ h.perm⟩
instance Split.no (r : Res) (rs : List Res) (m : List Bool) (pre rest : List Res) [h : Split rs m pre rest] : Split (r :: rs) (false :: m) pre (r :: rest) :=
  ⟨(List.Perm.cons r h.perm).trans (List.perm_middle.symm)⟩

class AppR (a b : List Res) (c : outParam (List Res)) : Prop where
  app : a ++ b = c
instance (b : List Res) : AppR [] b b := ⟨rfl⟩
instance (r : Res) (a b c : List Res) [h : AppR a b c] : AppR (r :: a) b (r :: c) := ⟨by simp [h.app]⟩
/-- THE CALL RULE: for a callee that is to have the resources 'pre'. -/
theorem St.call {W : World} {F : Nat → Prop} {rs : List Res} {w : World} (m : List Bool) {pre rest : List Res} [sp : Split rs m pre rest] (hS : St W F rs w) :
    ∃ F', St w F' pre w ∧ (∀ r ∈ rest, Ro w F' r) ∧ (∀ r, Ro W F r → Ro w F' r) ∧ ∀ {rs' rs'' : List Res} {w' : World} [AppR rs' rest rs''], St w F' rs' w' → St W F rs'' w' := by
  obtain ⟨h, hs, s⟩ := hS.perm sp.perm
  obtain ⟨h1, h2, hp, hr, hd, hu⟩ := Sep.append hs
  have in1 : ∀ b o, h1 b = some o → h b = some o := fun b o e => by rw [hu, e]; rfl
  have in2 : ∀ b o, h2 b = some o → h b = some o := fun b o e => by
    rw [hu]; rcases hd b with e' | e'
    · simp [e', e]
    · rw [e] at e'; simp at e'
  refine ⟨fun b => ∃ o, h1 b = some o, ⟨h1, hp, fun b o e => s.agrees b o (in1 b o e), fun b o e => .inl ⟨o, e⟩, Nat.le_refl _, rfl, rfl, rfl, fun _ _ _ => rfl⟩, fun r hrm => ?_, fun r hro => ?_, fun {rs' rs'' w'} ha hS' => ?_⟩
  · have key : ∀ (l : List Res) (g : Frag), Sep l g → (∀ b o, g b = some o → h2 b = some o) → ∀ r ∈ l, Ro w (fun b => ∃ o, h1 b = some o) r := by
      intro l
      induction l with
      | nil => intro _ _ _ r hr; cases hr
      | cons x l ih =>
        intro g hg hsub r hr
        obtain ⟨g1, g2, hx, hl, hdg, hug⟩ := hg
        cases hr with
        | head =>
          refine ⟨g1, hx, fun b o e => ?_⟩
          have e2 := hsub b o (by rw [hug, e]; rfl)
          exact ⟨s.agrees b o (in2 b o e2), fun ⟨o', e'⟩ => by rcases hd b with h | h <;> simp_all⟩
        | tail _ hr =>
          refine ih g2 hl (fun b o e => hsub b o ?_) r hr
          rw [hug]; rcases hdg b with h | h
          · simp [h, e]
          · rw [e] at h; simp at h
    exact key rest h2 hr (fun _ _ e => e) r hrm
  · obtain ⟨g, hg, ha⟩ := hro
    refine ⟨g, hg, fun b o e => ?_⟩
    obtain ⟨hW, hF⟩ := ha b o e
    have hlt := lt_of_get hW
    refine ⟨(s.kept b hlt hF).trans hW, fun ⟨o', e'⟩ => ?_⟩
    rcases s.foot b o' (in1 b o' e') with h | h
    · exact hF h
    · omega
  · rw [← ha.app]
    obtain ⟨h', hs', s'⟩ := hS'
    have dis : ∀ k, h' k = none ∨ h2 k = none := fun k => by
      cases e : h' k with
      | none => exact .inl rfl
      | some o =>
        cases e2 : h2 k with
        | none => exact .inr rfl
        | some o2 =>
          have hlt := lt_of_get (s.agrees k o2 (in2 k o2 e2))
          rcases s'.foot k o e with ⟨o3, h3⟩ | h3
          · rcases hd k with h | h <;> simp_all
          · omega
    refine ⟨fun k => (h' k).or (h2 k), Sep.append_mk hs' hr dis (fun _ => rfl), fun b o e => ?_, fun b o e => ?_, Nat.le_trans s.size s'.size, s'.os.trans s.os, s'.tape.trans s.tape, s'.output.trans s.output, fun b hb hF => ?_⟩
    · cases e1 : h' b with
      | some x => simp [e1] at e; subst e; exact s'.agrees b _ e1
      | none =>
        simp [e1] at e
        have hw := s.agrees b o (in2 b o e)
        rw [s'.kept b (lt_of_get hw) (fun ⟨o', e'⟩ => by rcases hd b with h | h <;> simp_all)]
        exact hw
    · cases e1 : h' b with
      | some x =>
        rcases s'.foot b x e1 with ⟨o3, h3⟩ | h3
        · exact s.foot b o3 (in1 b o3 h3)
        · exact .inr (Nat.le_trans s.size h3)
      | none => simp [e1] at e; exact s.foot b o (in2 b o e)
    · have hlt : b < w.heap.size := Nat.lt_of_lt_of_le hb s.size
      rw [s'.kept b hlt (fun ⟨o', e'⟩ => by
        rcases s.foot b o' (in1 b o' e') with h | h
        · exact hF h
        · omega)]
      exact s.kept b hb hF

/-- What is held can be read. -/
theorem St.rd {W : World} {F : Nat → Prop} {rs : List Res} {w : World} (hS : St W F rs w) {r : Res} (hr : r ∈ rs) : Rd w r := by
  obtain ⟨F', _, h, _, _⟩ := hS.call []
  exact (h r hr).start
end Cr
