/-
  The heap logic of this seat's proofs: fragments of a heap,resources,and the state 'St' of a function's run. No program is in sight.
  A statement whose order of evaluation Go leaves open,walked in ONE order of our choice: operations that touch no memory,or only read what the others leave alone,may be taken first.
  The walk of this seat's proofs: slots by number ('Env'),one judgement for each form of code,one lemma for each operation that touches no memory. Over any program.
  One lemma for each operation that the code of this seat holds; facts on the program's types as classes,whose instances a program writes. Over any program.
  Places in memory,slices as resources,and the operations that read or write memory or make it. Over any program.
-/
import Derived.Below
import Derived.WalkKit
import Derived.StillTail
import Derived.RangeFuncLeaves
import Derived.RangeFuncCalls
import Derived.TacticsIn
namespace Cr
open Go

abbrev Frag := Nat → Option Obj
abbrev Res := Frag → Prop

def Zem (b : Nat) (o : Obj) : Frag := fun k => if k = b then some o else none
def pts (b : Nat) (o : Obj) : Res := fun h => h = Zem b o
def emp : Res := fun h => ∀ k,h k = none

def Sep : List Res → Res
 | [] => emp
 | r :: rs => fun h => ∃ h1 h2,r h1 ∧ Sep rs h2 ∧ (∀ k,h1 k = none ∨ h2 k = none) ∧ (∀ k,h k = (h1 k).or (h2 k))

theorem Sep.swap {r s : Res} {rs : List Res} {h : Frag} (H : Sep (r :: s :: rs) h) : Sep (s :: r :: rs) h := by
 obtain ⟨h1,h2,hr,⟨h3,h4,hs,hrs,hd',hu'⟩,hd,hu⟩ := H
 refine ⟨h3,fun k => (h1 k).or (h4 k),hs,⟨h1,h4,hr,hrs,fun k => ?_,fun k => rfl⟩,fun k => ?_,fun k => ?_⟩
 ·rcases hd k with h | h
  ·exact .inl h
  ·rw [hu'] at h; simp at h; exact .inr h.2
 ·rcases hd k with h | h <;> rcases hd' k with h' | h' <;> simp_all
 ·rw [hu,hu']
  rcases hd k with h | h
  ·simp [h]
  ·rw [hu'] at h; simp at h; simp [h.1,h.2]

theorem Sep.mono_head {r r' : Res} {rs : List Res} {h : Frag} (hr : ∀ h,r h → r' h) (H : Sep (r :: rs) h) : Sep (r' :: rs) h := by
 obtain ⟨h1,h2,a,b,c,d⟩ := H
 exact ⟨h1,h2,hr _ a,b,c,d⟩
theorem Sep.mono_tail {r : Res} {rs rs' : List Res} {h : Frag} (hr : ∀ h,Sep rs h → Sep rs' h) (H : Sep (r :: rs) h) : Sep (r :: rs') h := by
 obtain ⟨h1,h2,a,b,c,d⟩ := H
 exact ⟨h1,h2,a,hr _ b,c,d⟩

theorem Sep.perm {rs rs' : List Res} (p : rs.Perm rs') : ∀ h,Sep rs h → Sep rs' h := by
 induction p with
 | nil => exact fun _ h => h
 | cons x _ ih => exact fun _ h => Sep.mono_tail ih h
 | swap x y l => exact fun _ h => Sep.swap h
 | trans _ _ ih1 ih2 => exact fun _ h => ih2 _ (ih1 _ h)

theorem Sep.append {rs rs' : List Res} {h : Frag} (H : Sep (rs ++ rs') h) :
  ∃ h1 h2,Sep rs h1 ∧ Sep rs' h2 ∧ (∀ k,h1 k = none ∨ h2 k = none) ∧ (∀ k,h k = (h1 k).or (h2 k)) := by
 induction rs generalizing h with
 | nil => exact ⟨fun _ => none,h,fun _ => rfl,H,fun _ => .inl rfl,fun _ => by simp⟩
 | cons r rs ih =>
  obtain ⟨h1,h2,hr,hs,hd,hu⟩ := H
  obtain ⟨h3,h4,ha,hb,hd',hu'⟩ := ih hs
  refine ⟨fun k => (h1 k).or (h3 k),h4,⟨h1,h3,hr,ha,fun k => ?_,fun k => rfl⟩,hb,fun k => ?_,fun k => ?_⟩
  ·rcases hd k with h | h
   ·exact .inl h
   ·rw [hu'] at h; simp at h; exact .inr h.1
  ·rcases hd' k with h' | h'
   ·rcases hd k with h | h
    ·left; simp [h,h']
    ·rw [hu'] at h; simp at h; exact .inr h.2
   ·exact .inr h'
  ·rw [hu,hu']; cases e1 : h1 k <;> simp [e1]

theorem Sep.append_mk {rs rs' : List Res} {h h1 h2 : Frag} (H1 : Sep rs h1) (H2 : Sep rs' h2) (hd : ∀ k,h1 k = none ∨ h2 k = none) (hu : ∀ k,h k = (h1 k).or (h2 k)) : Sep (rs ++ rs') h := by
 induction rs generalizing h h1 with
 | nil =>
  have : h = h2 := by funext k; rw [hu,H1 k]; simp
  exact this ▸ H2
 | cons r rs ih =>
  obtain ⟨h3,h4,hr,hs,hd',hu'⟩ := H1
  refine ⟨h3,fun k => (h4 k).or (h2 k),hr,ih hs (fun k => ?_) (fun k => rfl),fun k => ?_,fun k => ?_⟩
  ·rcases hd k with h | h
   ·rw [hu'] at h; simp at h; exact .inl h.2
   ·exact .inr h
  ·rcases hd' k with h' | h'
   ·exact .inl h'
   ·rcases hd k with h | h
    ·rw [hu'] at h; simp at h; exact .inl h.1
    ·right; simp [h,h']
  ·rw [hu,hu']; cases h3 k <;> simp

def Agrees (h : Frag) (w : World) : Prop := ∀ b o,h b = some o → w.heap[b]? = some o

structure StAt (W : World) (F : Nat → Prop) (h : Frag) (w : World) : Prop where
 agrees : Agrees h w
 foot : ∀ b o,h b = some o → F b ∨ W.heap.size ≤ b
 size : W.heap.size ≤ w.heap.size
 os : w.os = W.os
 tape : w.tape = W.tape
 output : w.output = W.output
 kept : ∀ b,b < W.heap.size → ¬ F b → w.heap[b]? = W.heap[b]?
def St (W : World) (F : Nat → Prop) (rs : List Res) (w : World) : Prop := ∃ h,Sep rs h ∧ StAt W F h w

def noF : Nat → Prop := fun _ => False
def Ro (W : World) (F : Nat → Prop) (r : Res) : Prop := ∃ h,r h ∧ ∀ b o,h b = some o → W.heap[b]? = some o ∧ ¬ F b
def Rd (w : World) (r : Res) : Prop := ∃ h,r h ∧ Agrees h w

theorem Zdg {w : World} {b : Nat} {o : Obj} (h : w.heap[b]? = some o) : b < w.heap.size := (Array.getElem?_eq_some_iff.1 h).1

theorem Ro.rd {W : World} {F : Nat → Prop} {r : Res} {rs : List Res} {w : World} (H : Ro W F r) (hS : St W F rs w) : Rd w r := by
 obtain ⟨h,hr,ha⟩ := H
 obtain ⟨_,_,s⟩ := hS
 exact ⟨h,hr,fun b o hb => by
  have := ha b o hb
  rw [s.kept b (Zdg this.1) this.2]; exact this.1⟩
theorem Rd.below {w w' : World} {r : Res} (H : Rd w r) (hb : RowKit.Below w.heap.size w w') : Rd w' r := by
 obtain ⟨h,hr,ha⟩ := H
 exact ⟨h,hr,fun b o e => by have := ha b o e; rw [hb.block b (Zdg this)]; exact this⟩
theorem Rd.ro {w : World} {r : Res} (H : Rd w r) : Ro w noF r := by
 obtain ⟨h,hr,ha⟩ := H
 exact ⟨h,hr,fun b o hb => ⟨ha b o hb,fun h => h⟩⟩
theorem Ro.start {W : World} {F : Nat → Prop} {r : Res} (H : Ro W F r) : Rd W r := by
 obtain ⟨h,hr,ha⟩ := H
 exact ⟨h,hr,fun b o hb => (ha b o hb).1⟩
theorem Ro.mono {W : World} {F : Nat → Prop} {r r' : Res} (H : Ro W F r) (hm : ∀ h,r h → ∃ h',r' h' ∧ ∀ b o,h' b = some o → h b = some o) : Ro W F r' := by
 obtain ⟨h,hr,ha⟩ := H
 obtain ⟨h',hr',hs⟩ := hm h hr
 exact ⟨h',hr',fun b o hb => ha b o (hs b o hb)⟩
theorem Rd.mono {w : World} {r r' : Res} (H : Rd w r) (hm : ∀ h,r h → ∃ h',r' h' ∧ ∀ b o,h' b = some o → h b = some o) : Rd w r' := by
 obtain ⟨h,hr,ha⟩ := H
 obtain ⟨h',hr',hs⟩ := hm h hr
 exact ⟨h',hr',fun b o hb => ha b o (hs b o hb)⟩

theorem St.start (w : World) : St w noF [] w :=
 ⟨fun _ => none,fun _ => rfl,fun _ _ h => by simp at h,fun _ _ h => by simp at h,Nat.le_refl _,rfl,rfl,rfl,fun _ _ _ => rfl⟩

theorem St.perm {W : World} {F : Nat → Prop} {rs rs' : List Res} {w : World} (hS : St W F rs w) (p : rs.Perm rs') : St W F rs' w := by
 obtain ⟨h,hs,s⟩ := hS
 exact ⟨h,Sep.perm p h hs,s⟩
theorem St.imp {W : World} {F : Nat → Prop} {rs rs' : List Res} {w : World} (hS : St W F rs w) (p : ∀ h,Sep rs h → Sep rs' h) : St W F rs' w := by
 obtain ⟨h,hs,s⟩ := hS
 exact ⟨h,p h hs,s⟩

theorem Zbz (b : Nat) (o : Obj) : Zem b o b = some o := by simp [Zem]
theorem Zgv {b k : Nat} (o : Obj) (h : k ≠ b) : Zem b o k = none := by simp [Zem,h]
theorem Zlh {b k : Nat} {o o' : Obj} (h : Zem b o k = some o') : k = b ∧ o = o' := by
 unfold Zem at h; split at h
 ·rename_i e; exact ⟨e,by simpa using h⟩
 ·simp at h

theorem St.drop {W : World} {F : Nat → Prop} {r : Res} {rs : List Res} {w : World} (hS : St W F (r :: rs) w) : St W F rs w := by
 obtain ⟨h,⟨h1,h2,_,hs,hd,hu⟩,s⟩ := hS
 have sub : ∀ b o,h2 b = some o → h b = some o := fun b o hb => by
  rw [hu]; rcases hd b with e | e
  ·simp [e,hb]
  ·rw [hb] at e; simp at e
 exact ⟨h2,hs,fun b o hb => s.agrees b o (sub b o hb),fun b o hb => s.foot b o (sub b o hb),s.size,s.os,s.tape,s.output,s.kept⟩

theorem St.get {W : World} {F : Nat → Prop} {b : Nat} {o : Obj} {rs : List Res} {w : World} (hS : St W F (pts b o :: rs) w) : w.heap[b]? = some o := by
 obtain ⟨h,⟨h1,h2,rfl,_,hd,hu⟩,s⟩ := hS
 exact s.agrees b o (by rw [hu,Zbz]; rfl)

structure SetBlock (w w' : World) (b : Nat) (o : Obj) : Prop where
 size : w'.heap.size = w.heap.size
 at_ : w'.heap[b]? = some o
 other : ∀ k,k ≠ b → w'.heap[k]? = w.heap[k]?
 os : w'.os = w.os
 tape : w'.tape = w.tape
 output : w'.output = w.output

theorem St.set {W : World} {F : Nat → Prop} {b : Nat} {o o' : Obj} {rs : List Res} {w w' : World} (hS : St W F (pts b o :: rs) w) (u : SetBlock w w' b o') : St W F (pts b o' :: rs) w' := by
  obtain ⟨h,⟨h1,h2,rfl,hs,hd,hu⟩,s⟩ := hS
  have hb2 : h2 b = none := by rcases hd b with e | e; · rw [Zbz] at e; simp at e
                               · exact e
  refine ⟨fun k => (Zem b o' k).or (h2 k),⟨Zem b o',h2,rfl,hs,fun k => ?_,fun _ => rfl⟩,?_⟩
  · by_cases e : k = b
    · subst e; exact .inr hb2
    · exact .inl (Zgv _ e)
  · have ex : ∀ k x,(Zem b o' k).or (h2 k) = some x → (k = b ∧ x = o') ∨ (k ≠ b ∧ h k = some x) := fun k x hx => by
      by_cases e : k = b
      · subst e; rw [Zbz] at hx; exact .inl ⟨rfl,by simpa using hx.symm⟩
      · rw [Zgv _ e] at hx; exact .inr ⟨e,by rw [hu,Zgv _ e]; exact hx⟩
    have fb : F b ∨ W.heap.size ≤ b := s.foot b o (by rw [hu,Zbz]; rfl)
    refine ⟨fun k x hx => ?_,fun k x hx => ?_,by rw [u.size]; exact s.size,u.os.trans s.os,u.tape.trans s.tape,u.output.trans s.output,fun k hk hF => ?_⟩
    · rcases ex k x hx with ⟨rfl,rfl⟩ | ⟨e,hx⟩
      · exact u.at_
      · rw [u.other k e]; exact s.agrees k x hx
    · rcases ex k x hx with ⟨rfl,rfl⟩ | ⟨e,hx⟩
      · exact fb
      · exact s.foot k x hx
    · have : k ≠ b := fun e => by subst e; rcases fb with h | h; · exact hF h
                                  · omega
      rw [u.other k this]; exact s.kept k hk hF

theorem St.alloc {W : World} {F : Nat → Prop} {rs : List Res} {w : World} (hS : St W F rs w) (o : Obj) : St W F (pts w.heap.size o :: rs) (w.alloc o) := by
 obtain ⟨h,hs,s⟩ := hS
 have hn : h w.heap.size = none := by
  cases e : h w.heap.size with
  | none => rfl
  | some x => have := Zdg (s.agrees _ _ e); omega
 have old : ∀ k,k < w.heap.size → (w.alloc o).heap[k]? = w.heap[k]? := fun k hk => by
  show (w.heap.push o)[k]? = _
  rw [Array.getElem?_push,if_neg (by omega)]
 refine ⟨fun k => (Zem w.heap.size o k).or (h k),⟨_,h,rfl,hs,fun k => ?_,fun _ => rfl⟩,?_⟩
 ·by_cases e : k = w.heap.size
  ·subst e; exact .inr hn
  ·exact .inl (Zgv _ e)
 ·have ex : ∀ k x,(Zem w.heap.size o k).or (h k) = some x → (k = w.heap.size ∧ x = o) ∨ h k = some x := fun k x hx => by
   by_cases e : k = w.heap.size
   ·subst e; rw [Zbz] at hx; exact .inl ⟨rfl,by simpa using hx.symm⟩
   ·rw [Zgv _ e] at hx; exact .inr (by simpa using hx)
  refine ⟨fun k x hx => ?_,fun k x hx => ?_,by simp; have := s.size; omega,s.os,s.tape,s.output,fun k hk hF => ?_⟩
  ·rcases ex k x hx with ⟨rfl,rfl⟩ | hx
   ·exact heap_alloc_new w _
   ·have := s.agrees k x hx
    rw [old k (Zdg this)]; exact this
  ·rcases ex k x hx with ⟨rfl,rfl⟩ | hx
   ·exact .inr s.size
   ·exact s.foot k x hx
  ·have := s.size
   rw [old k (by omega)]; exact s.kept k hk hF

theorem St.below {W : World} {F : Nat → Prop} {rs : List Res} {w w' : World} (hS : St W F rs w) (hb : RowKit.Below w.heap.size w w') : St W F rs w' := by
 obtain ⟨h,hs,s⟩ := hS
 refine ⟨h,hs,fun k x hx => ?_,s.foot,Nat.le_trans s.size hb.size,hb.os.trans s.os,hb.tape.trans s.tape,hb.output.trans s.output,fun k hk hF => ?_⟩
 ·have := s.agrees k x hx
  rw [hb.block k (Zdg this)]; exact this
 ·have := s.size
  rw [hb.block k (by omega)]; exact s.kept k hk hF
theorem St.drew {W : World} {F : Nat → Prop} {rs : List Res} {w : World} (hS : St W F rs w) : St W F rs w.drew := by
 obtain ⟨h,hs,s⟩ := hS
 exact ⟨h,hs,s.agrees,s.foot,s.size,s.os,s.tape,s.output,s.kept⟩
theorem St.toBelow {W : World} {rs : List Res} {w : World} (hS : St W noF rs w) : RowKit.Below W.heap.size W w := by
 obtain ⟨h,_,s⟩ := hS
 exact ⟨s.os,s.tape,s.output,s.size,fun k hk => s.kept k hk (fun h => h)⟩

class Split (rs : List Res) (m : List Bool) (pre rest : outParam (List Res)) : Prop where
 perm : rs.Perm (pre ++ rest)
instance Split.nil (rs : List Res) : Split rs [] [] rs := ⟨.refl _⟩
instance Split.yes (r : Res) (rs : List Res) (m : List Bool) (pre rest : List Res) [h : Split rs m pre rest] : Split (r :: rs) (true :: m) (r :: pre) rest := ⟨.cons _ h.perm⟩
instance Split.no (r : Res) (rs : List Res) (m : List Bool) (pre rest : List Res) [h : Split rs m pre rest] : Split (r :: rs) (false :: m) pre (r :: rest) :=
 ⟨(List.Perm.cons r h.perm).trans (List.perm_middle.symm)⟩

class AppR (a b : List Res) (c : outParam (List Res)) : Prop where
 app : a ++ b = c
instance (b : List Res) : AppR [] b b := ⟨rfl⟩
instance (r : Res) (a b c : List Res) [h : AppR a b c] : AppR (r :: a) b (r :: c) := ⟨by simp [h.app]⟩
theorem St.call {W : World} {F : Nat → Prop} {rs : List Res} {w : World} (m : List Bool) {pre rest : List Res} [sp : Split rs m pre rest] (hS : St W F rs w) :
  ∃ F',St w F' pre w ∧ (∀ r ∈ rest,Ro w F' r) ∧ (∀ r,Ro W F r → Ro w F' r) ∧ ∀ {rs' rs'' : List Res} {w' : World} [AppR rs' rest rs''],St w F' rs' w' → St W F rs'' w' := by
 obtain ⟨h,hs,s⟩ := hS.perm sp.perm
 obtain ⟨h1,h2,hp,hr,hd,hu⟩ := Sep.append hs
 have in1 : ∀ b o,h1 b = some o → h b = some o := fun b o e => by rw [hu,e]; rfl
 have in2 : ∀ b o,h2 b = some o → h b = some o := fun b o e => by
  rw [hu]; rcases hd b with e' | e'
  ·simp [e',e]
  ·rw [e] at e'; simp at e'
 refine ⟨fun b => ∃ o,h1 b = some o,⟨h1,hp,fun b o e => s.agrees b o (in1 b o e),fun b o e => .inl ⟨o,e⟩,Nat.le_refl _,rfl,rfl,rfl,fun _ _ _ => rfl⟩,fun r hrm => ?_,fun r hro => ?_,fun {rs' rs'' w'} ha hS' => ?_⟩
 ·have key : ∀ (l : List Res) (g : Frag),Sep l g → (∀ b o,g b = some o → h2 b = some o) → ∀ r ∈ l,Ro w (fun b => ∃ o,h1 b = some o) r := by
   intro l
   induction l with
   | nil => intro _ _ _ r hr; cases hr
   | cons x l ih =>
    intro g hg hsub r hr
    obtain ⟨g1,g2,hx,hl,hdg,hug⟩ := hg
    cases hr with
    | head =>
     refine ⟨g1,hx,fun b o e => ?_⟩
     have e2 := hsub b o (by rw [hug,e]; rfl)
     exact ⟨s.agrees b o (in2 b o e2),fun ⟨o',e'⟩ => by rcases hd b with h | h <;> simp_all⟩
    | tail _ hr =>
     refine ih g2 hl (fun b o e => hsub b o ?_) r hr
     rw [hug]; rcases hdg b with h | h
     ·simp [h,e]
     ·rw [e] at h; simp at h
  exact key rest h2 hr (fun _ _ e => e) r hrm
 ·obtain ⟨g,hg,ha⟩ := hro
  refine ⟨g,hg,fun b o e => ?_⟩
  obtain ⟨hW,hF⟩ := ha b o e
  have hlt := Zdg hW
  refine ⟨(s.kept b hlt hF).trans hW,fun ⟨o',e'⟩ => ?_⟩
  rcases s.foot b o' (in1 b o' e') with h | h
  ·exact hF h
  ·omega
 ·rw [← ha.app]
  obtain ⟨h',hs',s'⟩ := hS'
  have dis : ∀ k,h' k = none ∨ h2 k = none := fun k => by
   cases e : h' k with
   | none => exact .inl rfl
   | some o =>
    cases e2 : h2 k with
    | none => exact .inr rfl
    | some o2 =>
     have hlt := Zdg (s.agrees k o2 (in2 k o2 e2))
     rcases s'.foot k o e with ⟨o3,h3⟩ | h3
     ·rcases hd k with h | h <;> simp_all
     ·omega
  refine ⟨fun k => (h' k).or (h2 k),Sep.append_mk hs' hr dis (fun _ => rfl),fun b o e => ?_,fun b o e => ?_,Nat.le_trans s.size s'.size,s'.os.trans s.os,s'.tape.trans s.tape,s'.output.trans s.output,fun b hb hF => ?_⟩
  ·cases e1 : h' b with
   | some x => simp [e1] at e; subst e; exact s'.agrees b _ e1
   | none =>
    simp [e1] at e
    have hw := s.agrees b o (in2 b o e)
    rw [s'.kept b (Zdg hw) (fun ⟨o',e'⟩ => by rcases hd b with h | h <;> simp_all)]
    exact hw
  ·cases e1 : h' b with
   | some x =>
    rcases s'.foot b x e1 with ⟨o3,h3⟩ | h3
    ·exact s.foot b o3 (in1 b o3 h3)
    ·exact .inr (Nat.le_trans s.size h3)
   | none => simp [e1] at e; exact s.foot b o (in2 b o e)
  ·have hlt : b < w.heap.size := Nat.lt_of_lt_of_le hb s.size
   rw [s'.kept b hlt (fun ⟨o',e'⟩ => by
    rcases s.foot b o' (in1 b o' e') with h | h
    ·exact hF h
    ·omega)]
   exact s.kept b hb hF

theorem St.rd {W : World} {F : Nat → Prop} {rs : List Res} {w : World} (hS : St W F rs w) {r : Res} (hr : r ∈ rs) : Rd w r := by
 obtain ⟨F',_,h,_,_⟩ := hS.call []
 exact (h r hr).start
end Cr
namespace Cr
open Go

def Zhl (K : Act → World → Prop) : Exit → Act → World → Prop
 | .normal,a,w => K a w
 | _,_,_ => False

section
variable {P : Program} {ops : Array Oper}

theorem Zqr {o : Oper} {a : Act} {K : Act → World → Prop} {Q Q' : Exit → Act → World → Prop} (hq : ∀ e a w,Q e a w → Q' e a w) {r : Result Next}
  (h : o.upon P a K Q r) : o.upon P a K Q' r := by
 cases r with
 | ok n w =>
  cases n <;> simp only [Oper.upon] at h ⊢ <;> first | exact h | skip
  exact h.mono fun e w' he => by cases e <;> first | exact he | exact hq _ _ _ he | (obtain ⟨a,w,h⟩ := he; exact ⟨a,w,hq _ _ _ h⟩)
 | halt x w => cases x <;> simp only [Oper.upon] at h ⊢ <;> first | exact h | exact hq _ _ _ h
theorem Zqq {i : Nat} {a : Act} {w : World} {K : Act → World → Prop} {Q Q' : Exit → Act → World → Prop} (hq : ∀ e a w,Q e a w → Q' e a w)
  (h : wpOp P ops Q i K a w) : wpOp P ops Q' i K a w := by
 unfold wpOp at *
 split
 ·rename_i ho; simpa [ho] using h
 ·rename_i o ho
  simp only [ho] at h
  split
  ·rename_i hw; simp only [hw,if_true] at h
   exact h.imp (Zqr hq) fun ⟨x,a,w,y⟩ => ⟨x,a,w,hq _ _ _ y⟩
  ·rename_i hw; simp only [hw] at h; exact h
theorem Zgr {md : Region.Mode} {Q Q' : Exit → Act → World → Prop} (hq : ∀ e a w,Q e a w → Q' e a w) : ∀ (fuel : Nat) (listed : Array Bool) (a : Act) (w : World),
  wpAny P md ops Q fuel listed a w → wpAny P md ops Q' fuel listed a w
 | 0,_,_,_,h => ⟨h.1,hq _ _ _ h.2⟩
 | fuel + 1,_,_,_,h => ⟨fun h0 => hq _ _ _ (h.1 h0),fun i hi => wpOp_mono (fun a' w' => Zgr hq fuel _ a' w') (Zqq hq (h.2 i hi))⟩

def SoftAt (P : Program) (ops : Array Oper) (o : Oper) (v : Value) (I : World → Prop) (a : Act) : Prop :=
 (Region.wanted o (yielded ops a.tmps) = true ∧ ∀ w,I w → (execOp a.eval o).run P w = .ok (.value v) w) ∨ (Region.wanted o (yielded ops a.tmps) = false ∧ v = undef)

theorem SoftAt.of_same {o : Oper} {v : Value} {I : World → Prop} {a a' : Act} (hy : SoftAt P ops o v I a) (he : execOp a'.eval o = execOp a.eval o)
  (hw : Region.wanted o (yielded ops a'.tmps) = Region.wanted o (yielded ops a.tmps)) : SoftAt P ops o v I a' := by
 unfold SoftAt at *
 rw [he,hw]; exact hy

theorem SoftAt.wpOp {i : Nat} {o : Oper} {v : Value} {I : World → Prop} {a : Act} {w : World} {Q : Exit → Act → World → Prop} (hi : ops[i]? = some o) (hy : SoftAt P ops o v I a) (hI : I w) {K : Act → World → Prop}
  (h : K (a.put o.dst v) w) : wpOp P ops Q i K a w := by
 unfold Go.wpOp
 simp only [hi]
 rcases hy with ⟨hw,hv⟩ | ⟨hw,rfl⟩
 ·simp only [hw,if_true,Oper.wp,hv w hI,Oper.upon]; exact .inl h
 ·simp only [hw,Bool.false_eq_true,if_false]; exact h

theorem wpOp_put {j : Nat} {oi oj : Oper} {v : Value} {I : World → Prop} (hj : ops[j]? = some oj) (hap : oi.apart ops oj = true)
  (hsi : ∀ cs b,oi.op ≠ .select cs b) (hsj : ∀ cs b,oj.op ≠ .select cs b) {K K0 : Act → World → Prop} {a : Act} {w : World}
  (hy : SoftAt P ops oi v I a) (h : wpOp P ops (Zhl K0) j K (a.put oi.dst v) w) :
  wpOp P ops (Zhl K0) j (fun a' w' => SoftAt P ops oi v I a' ∧ K (a'.put oi.dst v) w') a w := by
 obtain ⟨h1,h2,h3⟩ := Oper.apart_spec hap
 have keep : ∀ (a : Act),SoftAt P ops oi v I a → ∀ u,SoftAt P ops oi v I (a.put oj.dst u) := fun a hy u =>
  hy.of_same (execOp_put oi hsi a oj.dst u h3) (wanted_put oi a oj.dst u h3)
 unfold wpOp at *
 simp only [hj] at *
 rw [wanted_put oj a oi.dst v h1] at h
 have nolet : ¬ LetsOut (Zhl K0) := fun ⟨_,_,h⟩ => h
 split
 ·rename_i hw
  simp only [hw,if_true] at h
  rcases h with h | h
  ·left
   unfold Oper.wp at *
   rw [execOp_put oj hsj a oi.dst v h1] at h
   generalize (execOp a.eval oj).run P w = r at *
   cases r with
   | ok n w' =>
    cases n <;> simp only [Oper.upon] at h ⊢
    case value u => exact ⟨keep a hy u,by rw [← Act.put_comm a v u h2]; exact h⟩
    case skip => exact ⟨keep a hy _,by rw [← Act.put_comm a v undef h2]; exact h⟩
    case defer d =>
     refine ⟨?_,?_⟩
     ·have hd : SoftAt P ops oi v I { a with defers := d :: a.defers } := hy
      exact keep _ hd _
     ·have e : ({ a.put oi.dst v with defers := d :: (a.put oi.dst v).defers } : Act) = ({ a with defers := d :: a.defers } : Act).put oi.dst v := by
       cases oi.dst <;> rfl
      rw [e] at h
      rw [← Act.put_comm _ v undef h2]; exact h
    case enter f args =>
     exact h.mono fun e w'' he => by
      cases e with
      | returned u => exact ⟨keep a hy u,by rw [← Act.put_comm a v u h2]; exact he⟩
      | panicked c => exact he
      | outgrown => exact he
    case row r args => exact h.mono fun u w'' he => ⟨keep a hy u,by rw [← Act.put_comm a v u h2]; exact he⟩
   | halt x w' => cases x <;> simp only [Oper.upon] at h ⊢ <;> exact h
  ·exact (nolet h.2).elim
 ·rename_i hw
  simp only [hw] at h
  exact ⟨keep a hy _,by rw [← Act.put_comm a v undef h2]; exact h⟩

def dep (ops : Array Oper) : Nat → Nat → Nat → Bool
 | 0,_,_ => false
 | n + 1,j,i => match ops[j]? with
  | none => false
  | some o => o.after.any fun e => Region.binds .any e && (e.on == i || dep ops n e.on i)

abbrev Invs := List (Nat × (World → Prop))
def Zi7 (ops : Array Oper) (k : Nat) : Invs → World → Prop
 | [],_ => True
 | (i,I) :: r,w => (dep ops ops.size k i = true ∨ I w) ∧ Zi7 ops k r w
def Zid (P : Program) (ops : Array Oper) (K : Act → World → Prop) : Nat → Array Bool → Invs → Act → World → Prop
 | 0,listed,_,a,w => Region.ready .any ops listed = [] ∧ K a w
 | f + 1,listed,invs,a,w =>
  (Region.ready .any ops listed = [] → K a w) ∧
  ∀ i ∈ Region.ready .any ops listed,wpOp P ops (Zhl K) i (fun a' w' => (∀ p ∈ invs,dep ops ops.size i p.1 = false → p.2 w → p.2 w') ∧ Zid P ops K f (listed.setIfInBounds i true) invs a' w') a w

theorem Zkv {K : Act → World → Prop} {invs invs' : Invs} (hs : ∀ p ∈ invs',p ∈ invs) : ∀ (f : Nat) (listed : Array Bool) (a : Act) (w : World),Zid P ops K f listed invs a w → Zid P ops K f listed invs' a w
 | 0,_,_,_,h => h
 | f + 1,_,_,_,h => ⟨h.1,fun i hi => wpOp_mono (fun a' w' ⟨h1,h2⟩ => ⟨fun p hp => h1 p (hs p hp),Zkv hs f _ a' w' h2⟩) (h.2 i hi)⟩
theorem Zmt {K : Act → World → Prop} {invs : Invs} : ∀ (f : Nat) (listed : Array Bool) (a : Act) (w : World),Zid P ops K f listed invs a w → wpAny P .any ops (Zhl K) f listed a w
 | 0,_,_,_,h => h
 | f + 1,_,_,_,h => ⟨h.1,fun i hi => wpOp_mono (fun a' w' h' => Zmt f _ a' w' h'.2) (h.2 i hi)⟩

def Closed (ops : Array Oper) (listed : Array Bool) : Prop :=
 ∀ j oj,ops[j]? = some oj → listed.getD j false = true → ∀ e ∈ oj.after,Region.binds .any e = true → listed.getD e.on false = true
theorem Closed.set {i : Nat} {listed : Array Bool} (inv : Closed ops listed) (hi : i ∈ Region.ready .any ops listed) : Closed ops (listed.setIfInBounds i true) := by
 obtain ⟨_,oi,hoi,hall⟩ := mem_ready.1 hi
 intro j oj hj hl e he hb
 by_cases hij : i = j
 ·subst hij
  have : oj = oi := Option.some.inj (hj.symm.trans hoi)
  subst this
  exact getD_set_true (hall e he hb)
 ·rw [getD_set_ne false hij] at hl
  exact getD_set_true (inv j oj hj hl e he hb)
theorem Zng {listed : Array Bool} (inv : Closed ops listed) {i : Nat} : ∀ (n j : Nat) (o : Oper),ops[j]? = some o → (∀ e ∈ o.after,Region.binds .any e = true → listed.getD e.on false = true) →
  dep ops n j i = true → listed.getD i false = true
 | 0,_,_,_,_,h => by cases h
 | n + 1,j,o,ho,hall,h => by
  simp only [dep,ho] at h
  obtain ⟨e,he,h2⟩ := Array.any_eq_true'.1 h
  simp only [Bool.and_eq_true,Bool.or_eq_true,beq_iff_eq] at h2
  have hl := hall e he h2.1
  rcases h2.2 with h3 | h3
  ·rw [← h3]; exact hl
  ·cases ho' : ops[e.on]? with
   | none => cases n <;> simp [dep,ho'] at h3
   | some o' => exact Zng inv n e.on o' ho' (fun e' he' hb' => inv e.on o' ho' hl e' he' hb') h3
theorem Zp5 {listed : Array Bool} (inv : Closed ops listed) {i j : Nat} (hj : j ∈ Region.ready .any ops listed) (hi : listed.getD i true = false) (n : Nat) : dep ops n j i = false := by
 obtain ⟨_,o,ho,hall⟩ := mem_ready.1 hj
 cases h : dep ops n j i with
 | false => rfl
 | true => have := Zng inv n j o ho hall h; rw [getD_both hi] at this; cases this

theorem Zo2 {K : Act → World → Prop} {i : Nat} {oi : Oper} {v : Value} {I : World → Prop} (hi : ops[i]? = some oi) (hsel : ∀ (j : Nat) (o : Oper) cs b,ops[j]? = some o → o.op ≠ .select cs b) :
  ∀ (fuel : Nat) (listed : Array Bool) (invs : Invs) (a : Act) (w : World),Closed ops listed →
   (∀ j oj,ops[j]? = some oj → j ≠ i → listed.getD j true = false → (∀ e ∈ oj.after,Region.binds .any e = true → e.on ≠ i) → oi.apart ops oj = true) →
   i ∈ Region.ready .any ops listed → SoftAt P ops oi v I a → I w →
   Zid P ops K fuel (listed.setIfInBounds i true) ((i,I) :: invs) (a.put oi.dst v) w → Zid P ops K (fuel + 1) listed invs a w := by
 intro fuel
 induction fuel with
 | zero =>
  intro listed invs a w inv _ hr hy hI H
  refine ⟨fun h => (by rw [h] at hr; cases hr),fun j hj => ?_⟩
  by_cases hji : j = i
  ·subst hji; exact hy.wpOp hi hI ⟨fun _ _ _ h => h,H⟩
  ·have := ready_mono hj hji
   rw [H.1] at this
   cases this
 | succ fuel ih =>
  intro listed invs a w inv hfree hr hy hI H
  refine ⟨fun h => (by rw [h] at hr; cases hr),fun j hj => ?_⟩
  by_cases hji : j = i
  ·subst hji; exact hy.wpOp hi hI ⟨fun _ _ _ h => h,Zkv (fun p hp => List.mem_cons_of_mem _ hp) _ _ _ _ H⟩
  ·have h1 := H.2 j (ready_mono hj hji)
   obtain ⟨hjun,oj,hoj,hall⟩ := mem_ready.1 hj
   have hun := (mem_ready.1 hr).1
   have hnot : ∀ e ∈ oj.after,Region.binds .any e = true → e.on ≠ i := fun e he hb heq => by
    have h1 := hall e he hb
    rw [heq,getD_both hun] at h1
    cases h1
   have hdep : dep ops ops.size j i = false := Zp5 inv hj hun _
   have h2 := wpOp_put hoj (hfree j oj hoj hji hjun hnot) (fun cs b => hsel i oi cs b hi) (fun cs b => hsel j oj cs b hoj) hy h1
   have hfree' : ∀ k ok,ops[k]? = some ok → k ≠ i → (listed.setIfInBounds j true).getD k true = false →
     (∀ e ∈ ok.after,Region.binds .any e = true → e.on ≠ i) → oi.apart ops ok = true := fun k ok hk hki hun hno => by
    refine hfree k ok hk hki ?_ hno
    by_cases hjk : j = k
    ·subst hjk; exact hjun
    ·rw [getD_set_ne true hjk] at hun; exact hun
   refine wpOp_mono (fun a' w' ⟨h3,h4,h5⟩ => ⟨fun p hp => h4 p (List.mem_cons_of_mem _ hp),?_⟩) h2
   refine ih (listed.setIfInBounds j true) invs a' w' (inv.set hj) hfree' (ready_mono hr (Ne.symm hji)) h3 (h4 (i,I) (List.mem_cons_self ..) hdep hI) ?_
   rw [Array.setIfInBounds_comm _ _ hji]
   exact h5

inductive OT where
 | nil
 | no
 | s (i : Nat) (r : OT)
 | h (i : Nat) (r o : OT)
def OT.alts : OT → List Nat
 | .h i _ o => i :: o.alts
 | _ => []
def Zo0 (P : Program) (ops : Array Oper) (K : Act → World → Prop) : OT → Invs → Act → World → Prop
 | .nil,_,a,w => K a w
 | .no,_,_,_ => True
 | .s i r,invs,a,w => ∃ o v I,ops[i]? = some o ∧ SoftAt P ops o v I a ∧ I w ∧ Zo0 P ops K r ((i,I) :: invs) (a.put o.dst v) w
 | .h i r o,invs,a,w => wpOp P ops (Zhl K) i (fun a' w' => (∀ p ∈ invs,dep ops ops.size i p.1 = false → p.2 w → p.2 w') ∧ Zo0 P ops K r invs a' w') a w ∧ Zo0 P ops K o invs a w

def ordT (ops : Array Oper) : OT → Bool → Nat → Array Bool → Bool
 | .nil,_,n,listed => n == 0 && (Region.ready .any ops listed).isEmpty
 | .no,top,_,_ => !top
 | .s i r,_,n,listed => n != 0 && (Region.ready .any ops listed).contains i && Region.free .any ops listed i && ordT ops r true (n - 1) (listed.setIfInBounds i true)
 | .h i r o,top,n,listed => n != 0 && (!top || decide (Region.ready .any ops listed = i :: o.alts)) && ordT ops r true (n - 1) (listed.setIfInBounds i true) && ordT ops o false n listed

theorem Znv {K : Act → World → Prop} (hsel : ∀ (j : Nat) (o : Oper) cs b,ops[j]? = some o → o.op ≠ .select cs b) : ∀ t : OT,
  (∀ (n : Nat) (listed : Array Bool) (invs : Invs) (a : Act) (w : World),Closed ops listed → ordT ops t true n listed = true → Zo0 P ops K t invs a w → Zid P ops K n listed invs a w) ∧
  (∀ (n : Nat) (listed : Array Bool) (invs : Invs) (a : Act) (w : World),Closed ops listed → (∀ j ∈ t.alts,j ∈ Region.ready .any ops listed) → ordT ops t false (n + 1) listed = true → Zo0 P ops K t invs a w →
   ∀ j ∈ t.alts,wpOp P ops (Zhl K) j (fun a' w' => (∀ p ∈ invs,dep ops ops.size j p.1 = false → p.2 w → p.2 w') ∧ Zid P ops K n (listed.setIfInBounds j true) invs a' w') a w) := by
 intro t
 induction t with
 | nil =>
  refine ⟨fun n listed invs a w _ hB h => ?_,fun _ _ _ _ _ _ _ _ _ j hj => (List.not_mem_nil hj).elim⟩
  simp only [ordT,Bool.and_eq_true,beq_iff_eq] at hB
  obtain ⟨rfl,hB⟩ := hB
  exact ⟨by simpa using hB,h⟩
 | no => exact ⟨fun n listed invs a w _ hB _ => (by simp [ordT] at hB),fun _ _ _ _ _ _ _ _ _ j hj => (List.not_mem_nil hj).elim⟩
 | s i r ih =>
  refine ⟨fun n listed invs a w hc hB h => ?_,fun _ _ _ _ _ _ _ _ _ j hj => (List.not_mem_nil hj).elim⟩
  obtain ⟨o,v,I,ho,hy,hI,h⟩ := h
  simp only [ordT,Bool.and_eq_true,bne_iff_ne,ne_eq] at hB
  obtain ⟨⟨⟨hn,hr⟩,hf⟩,hB'⟩ := hB
  obtain ⟨m,rfl⟩ : ∃ m,n = m + 1 := ⟨n - 1,by omega⟩
  have hr' : i ∈ Region.ready .any ops listed := by simpa using hr
  exact Zo2 ho hsel m listed invs a w hc (Region.free_spec ho hf) hr' hy hI (ih.1 _ _ _ _ _ (hc.set hr') hB' h)
 | h i r o ih1 ih2 =>
  have second : ∀ (n : Nat) (listed : Array Bool) (invs : Invs) (a : Act) (w : World),Closed ops listed → (∀ j ∈ (OT.h i r o).alts,j ∈ Region.ready .any ops listed) → ordT ops (.h i r o) false (n + 1) listed = true → Zo0 P ops K (.h i r o) invs a w →
   ∀ j ∈ (OT.h i r o).alts,wpOp P ops (Zhl K) j (fun a' w' => (∀ p ∈ invs,dep ops ops.size j p.1 = false → p.2 w → p.2 w') ∧ Zid P ops K n (listed.setIfInBounds j true) invs a' w') a w := by
   intro n listed invs a w hc hall hB h j hj
   simp only [ordT,Bool.and_eq_true] at hB
   obtain ⟨⟨_,hB1⟩,hB2⟩ := hB
   obtain ⟨h1,h2⟩ := h
   rcases List.mem_cons.1 hj with rfl | hj'
   ·exact wpOp_mono (fun a' w' ⟨g1,g2⟩ => ⟨g1,ih1.1 _ _ _ _ _ (hc.set (hall _ hj)) hB1 g2⟩) h1
   ·exact ih2.2 n listed invs a w hc (fun k hk => hall k (List.mem_cons_of_mem _ hk)) hB2 h2 j hj'
  refine ⟨fun n listed invs a w hc hB h => ?_,second⟩
  simp only [ordT,Bool.and_eq_true,bne_iff_ne,ne_eq,Bool.not_true,Bool.false_or,decide_eq_true_eq] at hB
  obtain ⟨⟨⟨hn,hr⟩,hB1⟩,hB2⟩ := hB
  obtain ⟨m,rfl⟩ : ∃ m,n = m + 1 := ⟨n - 1,by omega⟩
  refine ⟨fun h0 => (by rw [h0] at hr; cases hr),fun j hj => ?_⟩
  refine second m listed invs a w hc (fun k hk => by rw [hr]; exact hk) ?_ h j (by rw [hr] at hj; exact hj)
  simp only [ordT,Bool.and_eq_true,bne_iff_ne,ne_eq,Bool.not_false,Bool.true_or]
  exact ⟨⟨⟨hn,trivial⟩,hB1⟩,hB2⟩

theorem Znu {id : Nat} {Q : Exit → Act → World → Prop} {a : Act} {w : World} (ord : OT) (hm : P.follows .mixedOrders = true)
  (hB : (Region.noSelect ops && ordT ops ord true ops.size (Array.replicate ops.size false)) = true)
  (h : Zo0 P ops (Q .normal) ord [] a w.drew) : (Code.region id ops true).wp P Q a w := by
 simp only [Bool.and_eq_true] at hB
 obtain ⟨hsel,hB⟩ := hB
 have hc : Closed ops (Array.replicate ops.size false) := fun j oj _ hl => (by rw [getD_replicate_false] at hl; cases hl)
 refine wp_region_any hm ?_
 have h1 := Zmt _ _ _ _ ((Znv (Region.noSelect_spec hsel) ord).1 _ _ [] a w.drew hc hB h)
 exact Zgr (fun e a w hq => by cases e <;> first | exact hq | exact hq.elim) _ _ _ _ h1
end
end Cr
namespace Cr
open Go

abbrev Env := List (Nat × Value)
def look : Env → Nat → Option Value
 | [],_ => none
 | (k,v) :: r,n => bif Nat.beq k n then some v else look r n
def ev (σ : Env) : Operand → Option Value
 | .tmp t => look σ t
 | .const v => some v
 | .global g => some (.pointer (some ⟨g,0,none⟩))
 | .func f => some (.func (.func f) #[] #[])

structure Md where
 ds : List Deferred
 ro : Option Nat
abbrev md0 : Md := ⟨[],none⟩
def Fc (m : Md) : Fence := { Fence.wide with round := m.ro }
theorem Zrx {m : Md} (h : m.ro = none) : Fc m = Fence.wide := by unfold Fc; rw [h]; rfl
theorem Zow (m : Md) {n : Nat} : (Fc m).depth.isSome = true → 1 ≤ n := fun h => by simp [Fc,Fence.wide] at h

structure Fr (σ : Env) (N : Nat) (ds : Md) (a : Act) : Prop where
 size : a.tmps.size = N
 defers : a.defers = ds.ds
 at_ : ∀ n v,look σ n = some v → a.tmps[n]? = some v

theorem Fr.eval {σ : Env} {N : Nat} {ds : Md} {a : Act} (h : Fr σ N ds a) {x : Operand} {v : Value} (hx : ev σ x = some v) : a.eval x = v := by
 cases x with
 | tmp t => have := h.at_ t v hx; simp [Act.eval,this]
 | _ => simpa [ev,Act.eval] using hx
theorem Zc9 (d : Nat) (v : Value) (σ : Env) : look ((d,v) :: σ) d = some v := by simp [look]
theorem Zdh {d n : Nat} (v : Value) (σ : Env) (h : d ≠ n) : look ((d,v) :: σ) n = look σ n := by
 have : Nat.beq d n = false := by
  cases e : Nat.beq d n with
  | false => rfl
  | true => exact absurd (Nat.eq_of_beq_eq_true e) h
 simp [look,this]
theorem Fr.put {σ : Env} {N : Nat} {ds : Md} {a : Act} (h : Fr σ N ds a) {d : Nat} (hd : d < N) (v : Value) : Fr ((d,v) :: σ) N ds (a.put (some d) v) := by
 refine ⟨by simp [Act.put,h.size],h.defers,fun n u hu => ?_⟩
 by_cases e : d = n
 ·subst e
  rw [Zc9] at hu
  simp only [Act.put]
  rw [Array.getElem?_setIfInBounds_self_of_lt (by rw [h.size]; exact hd)]
  exact hu
 ·rw [Zdh _ _ e] at hu
  simp only [Act.put]
  rw [Array.getElem?_setIfInBounds_ne e]
  exact h.at_ n u hu
theorem Zbp {a b : Nat} (h : Nat.blt a b = true) : a < b := Nat.le_of_ble_eq_true h
def subs (σ : Env) : Env → Prop
 | [] => True
 | (n,v) :: r => look σ n = some v ∧ subs σ r
theorem Fr.sub {σ σ' : Env} {N : Nat} {ds : Md} {a : Act} (h : Fr σ N ds a) (hs : subs σ σ') : Fr σ' N ds a := by
 refine ⟨h.size,h.defers,?_⟩
 induction σ' with
 | nil => intro n v hv; cases hv
 | cons x r ih =>
  obtain ⟨k,u⟩ := x
  intro n v hv
  by_cases e : k = n
  ·subst e; rw [Zc9] at hv; exact h.at_ _ _ (hs.1.trans hv)
  ·rw [Zdh _ _ e] at hv; exact ih hs.2 n v hv

/-! ### the judgements -/
section
variable (P : Program)
structure X (o : Oper) (N : Nat) (ds : Md) (σ : Env) (w : World) (K : Env → World → Prop) : Prop where
 run : ∀ a,Fr σ N ds a → ∀ (K' : Act → World → Prop) (Q : Exit → Act → World → Prop),(∀ σ' w' a',Fr σ' N ds a' → K σ' w' → K' a' w') → o.wp P a w K' Q
structure G (ops : Array Oper) (Q : Exit → Act → World → Prop) (l : List Oper) (N : Nat) (ds : Md) (σ : Env) (w : World) : Prop where
 run : ∀ a,Fr σ N ds a → wpListIn (Fc ds) 0 P ops Q l a w
structure GO (ops : Array Oper) (K : Act → World → Prop) (ord : OT) (invs : Invs) (N : Nat) (ds : Md) (σ : Env) (w : World) : Prop where
 run : ∀ a,Fr σ N ds a → ∀ invs',(∀ p ∈ invs',p ∈ invs ∨ ∀ w,p.2 w) → Zo0 P ops K ord invs' a w
structure C (c : Code) (Q : Exit → Act → World → Prop) (N : Nat) (ds : Md) (σ : Env) (w : World) : Prop where
 run : ∀ a,Fr σ N ds a → c.wpIn (Fc ds) 0 P Q a w
end
structure E (Q : Exit → Act → World → Prop) (e : Exit) (N : Nat) (ds : Md) (σ : Env) (w : World) : Prop where
 run : ∀ a,Fr σ N ds a → Q e a w

section
variable {P : Program} {ops : Array Oper} {Q : Exit → Act → World → Prop} {N : Nat} {ds : Md} {σ : Env} {w : World} {rest : List Oper} {o : Oper}

theorem Zah (h : E Q .normal N ds σ w) : G P ops Q [] N ds σ w := ⟨fun a ha => h.run a ha⟩
def nodef : Op → Bool
 | .defer _ => false
 | _ => true
theorem op_in {a : Act} {K : Act → World → Prop} (hnd : nodef o.op = true) (h : o.wp P a w K Q) : o.wpIn (Fc ds) 0 P a w K Q := by
 have hsem : o.semAt (Fc ds).round a.eval = execOp a.eval o := Oper.semAt_eq _ _ _ fun c hc => by rw [hc] at hnd; cases hnd
 refine ⟨fun _ _ => trivial,?_⟩
 rw [hsem]
 unfold Oper.wp at h
 generalize (execOp a.eval o).run P w = r at *
 cases r with
 | ok x w' =>
  cases x <;> simp only [Oper.upon] at h <;> simp only [Oper.uponIn] <;> first | exact h | skip
  case enter f args => exact ⟨Zow ds,show CallsIn Fence.wide _ _ _ _ _ _ from callsIn_wide.2 (h.mono fun e w' he => by cases e <;> exact he)⟩
  case row r args => exact ⟨Zow ds,fun c cs _ => by
   obtain ⟨v,w',hr,hs⟩ := h c cs
   exact ⟨v,w',hr,stepsIn_wide.2 hs⟩⟩
 | halt x w' => cases x <;> simp only [Oper.upon] at h <;> simp only [Oper.uponIn] <;> exact h
theorem Zab (hg : o.guard = none) (hnd : nodef o.op = true) (h : X P o N ds σ w (fun σ' w' => G P ops Q rest N ds σ' w')) : G P ops Q (o :: rest) N ds σ w := ⟨fun a ha =>
 wpListIn_plain hg fun K hK => op_in hnd (h.run a ha K Q fun _ _ a' ha' hG => hK _ _ (hG.run a' ha'))⟩
theorem Zel {j d : Nat} {b b' : Bool} (hg : o.guard = some (j,b)) (hd : (ops[j]?).bind (·.dst) = some d) (hl : look σ d = some (.bool b')) {a : Act} (ha : Fr σ N ds a) : Region.wanted o (yielded ops a.tmps) = (b' == b) := by
 simp [Region.wanted,hg,yielded,hd,ha.at_ d _ hl]
theorem Zjk {j d : Nat} {b : Bool} (hg : o.guard = some (j,b)) (hd : (ops[j]?).bind (·.dst) = some d) (hl : look σ d = some undef) {a : Act} (ha : Fr σ N ds a) : Region.wanted o (yielded ops a.tmps) = false := by
 simp [Region.wanted,hg,yielded,hd,ha.at_ d _ hl,undef]
theorem Zcu {j d : Nat} {b : Bool} (hg : o.guard = some (j,b)) (hd : (ops[j]?).bind (·.dst) = some d) (hl : look σ d = some (.bool b)) (hnd : nodef o.op = true)
  (h : X P o N ds σ w (fun σ' w' => G P ops Q rest N ds σ' w')) : G P ops Q (o :: rest) N ds σ w := ⟨fun a ha => by
 unfold wpListIn
 rw [if_pos (by rw [Zel hg hd hl ha]; simp)]
 exact op_in hnd (h.run a ha _ Q fun _ _ a' ha' hG => hG.run a' ha')⟩
theorem G_no {j d t : Nat} {b b' : Bool} (hg : o.guard = some (j,b)) (hd : (ops[j]?).bind (·.dst) = some d) (hl : look σ d = some (.bool b')) (hb : (b' == b) = false) (ht : o.dst = some t) (hN : Nat.blt t N = true)
  (h : G P ops Q rest N ds ((t,undef) :: σ) w) : G P ops Q (o :: rest) N ds σ w := ⟨fun a ha => by
 unfold wpListIn
 rw [if_neg (by rw [Zel hg hd hl ha,hb]; simp),ht]
 exact ⟨fun _ _ => trivial,h.run _ (ha.put (Zbp hN) _)⟩⟩
theorem G_no_undef {j d t : Nat} {b : Bool} (hg : o.guard = some (j,b)) (hd : (ops[j]?).bind (·.dst) = some d) (hl : look σ d = some undef) (ht : o.dst = some t) (hN : Nat.blt t N = true)
  (h : G P ops Q rest N ds ((t,undef) :: σ) w) : G P ops Q (o :: rest) N ds σ w := ⟨fun a ha => by
 unfold wpListIn
 rw [if_neg (by rw [Zjk hg hd hl ha]; simp),ht]
 exact ⟨fun _ _ => trivial,h.run _ (ha.put (Zbp hN) _)⟩⟩

structure Yl (P : Program) (o : Oper) (σ : Env) (w : World) (v : Value) : Prop where
 run : ∀ N ds a,Fr σ N ds a → (execOp a.eval o).run P w = .ok (.value v) w

theorem X_yl {v : Value} {d : Nat} {K : Env → World → Prop} (hy : Yl P o σ w v) (hd : o.dst = some d) (hN : Nat.blt d N = true) (h : K ((d,v) :: σ) w) : X P o N ds σ w K := ⟨fun a ha K' Q' hK => by
 unfold Oper.wp
 rw [hy.run N ds a ha]
 have := hK _ _ _ (ha.put (Zbp hN) v) h
 rw [← hd] at this
 exact this⟩

/-! ### a region that draws its order -/
variable {K : Act → World → Prop} {invs : Invs} {r : OT} {i : Nat}
theorem Zbw (h : E Q .normal N ds σ w) : GO P ops (Q .normal) .nil invs N ds σ w := ⟨fun a ha _ _ => h.run a ha⟩
theorem Zag {v : Value} {d : Nat} (hi : ops[i]? = some o) (hg : o.guard = none) (hy : ∀ w,Yl P o σ w v) (hd : o.dst = some d) (hN : Nat.blt d N = true) (h : GO P ops K r invs N ds ((d,v) :: σ) w) : GO P ops K (.s i r) invs N ds σ w :=
 ⟨fun a ha invs' hs => ⟨o,v,fun _ => True,hi,.inl ⟨by simp [Region.wanted,hg],fun w _ => (hy w).run N ds a ha⟩,trivial,by
  rw [hd]; exact h.run _ (ha.put (Zbp hN) v) _ fun p hp => by
   cases hp with
   | head => exact .inr fun _ => trivial
   | tail _ hp => exact hs p hp⟩⟩
theorem Zbi {v : Value} {d : Nat} (I : World → Prop) (hi : ops[i]? = some o) (hg : o.guard = none) (hI : I w) (hy : ∀ w,I w → Yl P o σ w v) (hd : o.dst = some d) (hN : Nat.blt d N = true)
  (h : GO P ops K r ((i,I) :: invs) N ds ((d,v) :: σ) w) : GO P ops K (.s i r) invs N ds σ w :=
 ⟨fun a ha invs' hs => ⟨o,v,I,hi,.inl ⟨by simp [Region.wanted,hg],fun w hw => (hy w hw).run N ds a ha⟩,hI,by
  rw [hd]; exact h.run _ (ha.put (Zbp hN) v) _ fun p hp => by
   cases hp with
   | head => exact .inl (List.mem_cons_self ..)
   | tail _ hp => exact (hs p hp).imp (List.mem_cons_of_mem _) id⟩⟩
theorem Ze0 {j d' : Nat} {b : Bool} {v : Value} {d : Nat} (hi : ops[i]? = some o) (hg : o.guard = some (j,b)) (hj : (ops[j]?).bind (·.dst) = some d') (hl : look σ d' = some (.bool b)) (hy : ∀ w,Yl P o σ w v) (hd : o.dst = some d) (hN : Nat.blt d N = true)
  (h : GO P ops K r invs N ds ((d,v) :: σ) w) : GO P ops K (.s i r) invs N ds σ w :=
 ⟨fun a ha invs' hs => ⟨o,v,fun _ => True,hi,.inl ⟨by rw [Zel hg hj hl ha]; simp,fun w _ => (hy w).run N ds a ha⟩,trivial,by
  rw [hd]; exact h.run _ (ha.put (Zbp hN) v) _ fun p hp => by
   cases hp with
   | head => exact .inr fun _ => trivial
   | tail _ hp => exact hs p hp⟩⟩
theorem Zeh {j d' : Nat} {b : Bool} {v : Value} {d : Nat} (I : World → Prop) (hi : ops[i]? = some o) (hg : o.guard = some (j,b)) (hj : (ops[j]?).bind (·.dst) = some d') (hl : look σ d' = some (.bool b)) (hI : I w) (hy : ∀ w,I w → Yl P o σ w v) (hd : o.dst = some d) (hN : Nat.blt d N = true)
  (h : GO P ops K r ((i,I) :: invs) N ds ((d,v) :: σ) w) : GO P ops K (.s i r) invs N ds σ w :=
 ⟨fun a ha invs' hs => ⟨o,v,I,hi,.inl ⟨by rw [Zel hg hj hl ha]; simp,fun w hw => (hy w hw).run N ds a ha⟩,hI,by
  rw [hd]; exact h.run _ (ha.put (Zbp hN) v) _ fun p hp => by
   cases hp with
   | head => exact .inl (List.mem_cons_self ..)
   | tail _ hp => exact (hs p hp).imp (List.mem_cons_of_mem _) id⟩⟩
theorem GO_no {j d' : Nat} {b b' : Bool} {d : Nat} (hi : ops[i]? = some o) (hg : o.guard = some (j,b)) (hj : (ops[j]?).bind (·.dst) = some d') (hl : look σ d' = some (.bool b')) (hb : (b' == b) = false) (hd : o.dst = some d) (hN : Nat.blt d N = true)
  (h : GO P ops K r invs N ds ((d,undef) :: σ) w) : GO P ops K (.s i r) invs N ds σ w :=
 ⟨fun a ha invs' hs => ⟨o,undef,fun _ => True,hi,.inr ⟨by rw [Zel hg hj hl ha,hb],rfl⟩,trivial,by
  rw [hd]; exact h.run _ (ha.put (Zbp hN) undef) _ fun p hp => by
   cases hp with
   | head => exact .inr fun _ => trivial
   | tail _ hp => exact hs p hp⟩⟩
theorem Zg1 {k : Nat} {w : World} : ∀ {invs : Invs},Zi7 ops k invs w → ∀ p ∈ invs,dep ops ops.size k p.1 = true ∨ p.2 w
 | [],_,_,hp => by cases hp
 | _ :: _,h,p,hp => by
  cases hp with
  | head => exact h.1
  | tail _ hp => exact Zg1 h.2 p hp
theorem Za8 (hi : ops[i]? = some o) (hg : o.guard = none) (h : X P o N ds σ w (fun σ' w' => Zi7 ops i invs w' ∧ GO P ops K r invs N ds σ' w')) : GO P ops K (.h i r .no) invs N ds σ w :=
 ⟨fun a ha invs' hs => by
  refine ⟨?_,trivial⟩
  show wpOp P ops (Zhl K) i _ a w
  unfold wpOp
  simp only [hi]
  rw [if_pos (by simp [Region.wanted,hg])]
  exact .inl (h.run a ha _ _ fun σ' w' a' ha' ⟨hk,hG⟩ => ⟨fun p hp hd _ => by
   rcases hs p hp with hp | hp
   ·exact (Zg1 hk p hp).resolve_left (by rw [hd]; simp)
   ·exact hp w',hG.run a' ha' invs' hs⟩)⟩
theorem Zib {j d' : Nat} {b : Bool} (hi : ops[i]? = some o) (hg : o.guard = some (j,b)) (hj : (ops[j]?).bind (·.dst) = some d') (hl : look σ d' = some (.bool b)) (h : X P o N ds σ w (fun σ' w' => Zi7 ops i invs w' ∧ GO P ops K r invs N ds σ' w')) : GO P ops K (.h i r .no) invs N ds σ w :=
 ⟨fun a ha invs' hs => by
  refine ⟨?_,trivial⟩
  show wpOp P ops (Zhl K) i _ a w
  unfold wpOp
  simp only [hi]
  rw [if_pos (by rw [Zel hg hj hl ha]; simp)]
  exact .inl (h.run a ha _ _ fun σ' w' a' ha' ⟨hk,hG⟩ => ⟨fun p hp hd _ => by
   rcases hs p hp with hp | hp
   ·exact (Zg1 hk p hp).resolve_left (by rw [hd]; simp)
   ·exact hp w',hG.run a' ha' invs' hs⟩)⟩
theorem Zf6 {j d' : Nat} {b b' : Bool} {d : Nat} (hi : ops[i]? = some o) (hg : o.guard = some (j,b)) (hj : (ops[j]?).bind (·.dst) = some d') (hl : look σ d' = some (.bool b')) (hb : (b' == b) = false) (hd : o.dst = some d) (hN : Nat.blt d N = true)
  (h : GO P ops K r invs N ds ((d,undef) :: σ) w) : GO P ops K (.h i r .no) invs N ds σ w :=
 ⟨fun a ha invs' hs => by
  refine ⟨?_,trivial⟩
  show wpOp P ops (Zhl K) i _ a w
  unfold wpOp
  simp only [hi]
  rw [if_neg (by rw [Zel hg hj hl ha,hb]; simp),hd]
  exact ⟨fun _ _ _ h => h,h.run _ (ha.put (Zbp hN) undef) invs' hs⟩⟩
theorem Zth {i' : Nat} {r' o' : OT} (h1 : GO P ops K (.h i r .no) invs N ds σ w) (h2 : GO P ops K (.h i' r' o') invs N ds σ w) : GO P ops K (.h i r (.h i' r' o')) invs N ds σ w :=
 ⟨fun a ha invs' hs => ⟨(h1.run a ha invs' hs).1,h2.run a ha invs' hs⟩⟩

/-! ### code -/
variable {x y : Code} {c : Operand}
theorem Zak (h : C P x (Exit.then (y.wpIn (Fc ds) 0 P Q) Q) N ds σ w) : C P (.seq x y) Q N ds σ w := ⟨fun a ha => wpIn_seq (h.run a ha)⟩
theorem Zae (h : C P y Q N ds σ w) : E (Exit.then (y.wpIn (Fc ds) 0 P Q) Q) .normal N ds σ w := ⟨fun a ha => h.run a ha⟩
theorem Zaa {id : Nat} {l : List Oper} (h : G P l.toArray Q l N ds σ w) : C P (.region id l.toArray false) Q N ds σ w := ⟨fun a ha => wpIn_region_lit (h.run a ha)⟩
theorem Zr1 (hro : ds.ro = none) (h : ∀ a,Fr σ N ds a → x.wp P Q a w) : C P x Q N ds σ w := ⟨fun a ha => by rw [Zrx hro]; exact wpIn_wide.2 (h a ha)⟩
theorem C_toPlain (hro : ds.ro = none) (h : C P x Q N ds σ w) : ∀ a,Fr σ N ds a → x.wp P Q a w := fun a ha => by have := h.run a ha; rw [Zrx hro] at this; exact wpIn_wide.1 this
theorem Zr2 {l : Nat} (h : E Q .normal N ds σ w) : C P (.label l) Q N ds σ w := ⟨fun a ha => wpIn_label (h.run a ha)⟩
theorem Zr0 (hro : ds.ro = none) (h : C P x (Exit.noGoto Q) N ds σ w) : C P (.scope x) Q N ds σ w := Zr1 hro fun a ha => wp_scope_straight (C_toPlain hro h a ha)
theorem Zek {e : Exit} (he : ∀ l,e ≠ .goto l) (h : E Q e N ds σ w) : E (Exit.noGoto Q) e N ds σ w := ⟨fun a ha => by cases e <;> first | exact h.run a ha | exact absurd rfl (he _)⟩
theorem Zci {id : Nat} {l : List Oper} (ord : OT) (hm : P.follows .mixedOrders = true)
  (hB : (Region.noSelect l.toArray && ordT l.toArray ord true l.toArray.size (Array.replicate l.toArray.size false)) = true)
  (hro : ds.ro = none) (h : GO P l.toArray (Q .normal) ord [] N ds σ w.drew) : C P (.region id l.toArray true) Q N ds σ w := Zr1 hro fun a ha =>
 Znu ord hm hB (h.run a ha [] fun _ hp => by cases hp)
theorem Zaw (h : E Q .normal N ds σ w) : C P .skip Q N ds σ w := ⟨fun a ha => wpIn_skip (h.run a ha)⟩
theorem Za2 (h : E Q .ret N ds σ w) : C P .ret Q N ds σ w := ⟨fun a ha => wpIn_ret (h.run a ha)⟩
theorem Zb0 {id : Nat} (h : E Q (.exit id) N ds σ w) : C P (.exit id) Q N ds σ w := ⟨fun a ha => wpIn_exit (h.run a ha)⟩
theorem Zaq {id : Nat} (h : C P x (Exit.inBlock id Q) N ds σ w) : C P (.block id x) Q N ds σ w := ⟨fun a ha => wpIn_block (h.run a ha)⟩
theorem C_cond {b : Bool} (hc : ev σ c = some (.bool b)) (ht : b = true → C P x Q N ds σ w) (hf : b = false → C P y Q N ds σ w) : C P (.cond c x y) Q N ds σ w := ⟨fun a ha =>
 wpIn_cond_split (ha.eval hc) (fun h => (ht h).run a ha) (fun h => (hf h).run a ha)⟩
theorem Zns {p : Prop} [Decidable p] (hc : ev σ c = some (.bool (decide p))) (ht : p → C P x Q N ds σ w) (hf : ¬ p → C P y Q N ds σ w) : C P (.cond c x y) Q N ds σ w :=
 C_cond hc (fun h => ht (of_decide_eq_true h)) (fun h => hf (of_decide_eq_false h))
theorem C_cond_dt {p : Prop} [Decidable p] (hc : ev σ c = some (.bool (decide p))) (hp : p) (ht : C P x Q N ds σ w) : C P (.cond c x y) Q N ds σ w := Zns hc (fun _ => ht) (fun h => absurd hp h)
theorem Zml {p : Prop} [Decidable p] (hc : ev σ c = some (.bool (decide p))) (hp : ¬ p) (hf : C P y Q N ds σ w) : C P (.cond c x y) Q N ds σ w := Zns hc (fun h => absurd h hp) (fun _ => hf)
theorem Zam (hc : ev σ c = some (.bool true)) (ht : C P x Q N ds σ w) : C P (.cond c x y) Q N ds σ w := ⟨fun a ha => wpIn_cond_true (ha.eval hc) (ht.run a ha)⟩
theorem Zaj (hc : ev σ c = some (.bool false)) (hf : C P y Q N ds σ w) : C P (.cond c x y) Q N ds σ w := ⟨fun a ha => wpIn_cond_false (ha.eval hc) (hf.run a ha)⟩
theorem Zgq {α : Type} {F : Fence} {n : Nat} {body : Code} {a : Act} (I : α → Act → World → Prop) (μ : α → Nat) (z0 : α) (h0 : I z0 a w)
  (round : ∀ z a w,I z a w → body.wpIn F n P (Exit.then (fun a' w' => ∃ z',I z' a' w' ∧ μ z' < μ z) Q) a w) : (Code.loop body).wpIn F n P Q a w := by
 intro b k cs hro hb hr
 have key : ∀ j z a w,μ z = j → I z a w →
   ∃ e a' w',Q e a' w' ∧ ArrivesIn (Machine.fenced P F) P (lone (b.atR a (.code body :: .inLoop body :: k)) cs w) b k cs e a' w' := by
  intro j
  induction j using Nat.strongRecOn with
  | _ j ih =>
   intro z a w hn hI
   obtain ⟨e,a1,w1,hq,harr⟩ := round z a w hI b (.inLoop body :: k) cs hro hb hr
   cases e with
   | normal =>
    obtain ⟨z',hI',hlt⟩ := hq
    obtain ⟨e2,a2,w2,hq2,harr2⟩ := ih (μ z') (hn ▸ hlt) z' a1 w1 rfl hI'
    exact ⟨e2,a2,w2,hq2,.of_steps (StepsIn.trans harr (.one (fenced_calm hb hr rfl) stepR_inLoop)) harr2⟩
   | exit id => exact ⟨_,a1,w1,hq,.pass (x := .inLoop body) rfl (fun _ _ => .inl (by simp)) harr⟩
   | goto l => exact ⟨_,a1,w1,hq,.pass (x := .inLoop body) rfl (fun _ _ => .inl (by simp)) harr⟩
   | ret => exact ⟨_,a1,w1,hq,.pass (x := .inLoop body) rfl (fun _ _ => .inl (by simp)) harr⟩
   | panic ch => exact ⟨_,a1,w1,hq,.pass (x := .inLoop body) rfl (fun _ _ => .inl (by simp)) harr⟩
   | outgrown => exact ⟨_,a1,w1,hq,.pass (x := .inLoop body) rfl (fun _ _ => .inl (by simp)) harr⟩
 obtain ⟨e,a',w',hq,harr⟩ := key _ z0 a w rfl h0
 exact ⟨e,a',w',hq,.of_steps (.one (fenced_calm hb hr rfl) stepR_loop) harr⟩
theorem Zb7 {α : Type} (S : α → Env) (R : α → World → Prop) (μ : α → Nat) (x0 : α) (hσ : subs σ (S x0)) (hR : R x0 w)
  (round : ∀ z w,R z w → C P x (Exit.then (fun a' w' => ∃ z',(Fr (S z') N ds a' ∧ R z' w') ∧ μ z' < μ z) Q) N ds (S z) w) : C P (.loop x) Q N ds σ w := ⟨fun _ ha =>
 Zgq (fun z a w => Fr (S z) N ds a ∧ R z w) μ x0 ⟨ha.sub hσ,hR⟩ fun z a w ⟨hF,hR⟩ => (round z w hR).run a hF⟩
theorem Zbu {α : Type} {S : α → Env} {R : α → World → Prop} {μ : α → Nat} {z : α} (z' : α) (hσ : subs σ (S z')) (hR : R z' w) (hμ : μ z' < μ z) :
  E (Exit.then (fun a' w' => ∃ z',(Fr (S z') N ds a' ∧ R z' w') ∧ μ z' < μ z) Q) .normal N ds σ w := ⟨fun _ ha => ⟨z',⟨ha.sub hσ,hR⟩,hμ⟩⟩

theorem Zat {K : Act → World → Prop} (h : E Q .ret N ds σ w) : E (Exit.then K Q) .ret N ds σ w := ⟨h.run⟩
theorem Zav {K : Act → World → Prop} {id : Nat} (h : E Q (.exit id) N ds σ w) : E (Exit.then K Q) (.exit id) N ds σ w := ⟨h.run⟩
theorem Zbf {id : Nat} (h : E Q .normal N ds σ w) : E (Exit.inBlock id Q) .normal N ds σ w := ⟨h.run⟩
theorem Zbh {id : Nat} (h : E Q .ret N ds σ w) : E (Exit.inBlock id Q) .ret N ds σ w := ⟨h.run⟩
theorem Zaz {id : Nat} (h : E Q .normal N ds σ w) : E (Exit.inBlock id Q) (.exit id) N ds σ w := ⟨fun a ha => by
 simp only [Exit.inBlock,if_true]; exact h.run a ha⟩
theorem Zku {id id' : Nat} (hne : (id' == id) = false) (h : E Q (.exit id') N ds σ w) : E (Exit.inBlock id Q) (.exit id') N ds σ w := ⟨fun a ha => by
 have : id' ≠ id := by simpa using hne
 simp only [Exit.inBlock,if_neg this]; exact h.run a ha⟩

/-! ### a function's entry and its end -/
def enum : Nat → List Value → Env
 | _,[] => []
 | n,v :: l => (n,v) :: enum (n + 1) l
theorem Zpo : ∀ (l : List Value) (n k : Nat) (v : Value),look (enum n l) k = some v → n ≤ k ∧ l[k - n]? = some v
 | [],_,_,_,h => by cases h
 | u :: l,n,k,v,h => by
  by_cases e : n = k
  ·subst e; rw [enum,Zc9] at h; simp at h; simp [h]
  ·rw [enum,Zdh _ _ e] at h
   obtain ⟨h1,h2⟩ := Zpo l (n + 1) k v h
   refine ⟨by omega,?_⟩
   rw [show k - n = (k - (n + 1)) + 1 by omega]; simpa using h2
abbrev BP (P : Program) (fn : Func) (R : Ending → World → Prop) : Exit → Act → World → Prop := bodyPostM (Fc md0) 0 P fn R
theorem enum_fr {fn : Func} {args : List Value} (hN : fn.ntmps = N) (hl : Nat.ble args.length N = true) : Fr (enum 0 args) N md0 { tmps := args.toArray ++ Array.replicate (fn.ntmps - args.toArray.size) undef,defers := [] } := by
 refine ⟨?_,rfl,fun n v hv => ?_⟩
 ·have : args.length ≤ N := Nat.le_of_ble_eq_true hl
  simp [hN]; omega
 ·obtain ⟨_,h2⟩ := Zpo args 0 n v hv
  have hlt : n < args.length := by
   rcases Nat.lt_or_ge n args.length with h | h
   ·exact h
   ·rw [List.getElem?_eq_none (by omega)] at h2; cases h2
  simp only [Nat.sub_zero] at h2
  simp [Array.getElem?_append,hlt,← h2]
theorem Zas {f : FuncId} {fn : Func} {body : Code} {args : List Value} {R : Ending → World → Prop} (hf : P.funcs[f]? = some fn) (hb : fn.body = some body) (hN : fn.ntmps = N) (hl : Nat.ble args.length N = true)
  (h : C P body (BP P fn R) N md0 (enum 0 args) w) : Calls P f args.toArray w R :=
 (callsIn_wide (n := 0)).1 (callsIn_of_wp_marks (F := Fence.wide) hf hb trivial (h.run _ (enum_fr hN hl)) rfl)

def Rv (P : Program) (σ : Env) (w : World) : ResultVar → Value → Prop
 | .tmp t,v => look σ t = some v
 | .cell t ty,v => ∃ a,look σ t = some (.pointer (some a)) ∧ (loadVar ty a).run P w = .ok v w
theorem Zap {t : Nat} {v : Value} (h : look σ t = some v) : Rv P σ w (.tmp t) v := h
theorem Zay {t : Nat} {ty : TypeId} {v : Value} {a : Addr} (h : look σ t = some (.pointer (some a))) (hl : (loadVar ty a).run P w = .ok v w) : Rv P σ w (.cell t ty) v := ⟨a,h,hl⟩
def Zn3 (tmps : Array Value) : ResultVar → Sem Value
 | .tmp t => pure (tmps.getD t undef)
 | .cell a t => do loadVar t (← asAddr (tmps.getD a undef))
theorem Zhd (fn : Func) (tmps : Array Value) : results fn tmps = (do
  let vs ← fn.results.mapM (Zn3 tmps)
  pure (if h : vs.size = 1 then vs[0] else .tuple vs)) := rfl
theorem Rv.run {rv : ResultVar} {v : Value} (h : Rv P σ w rv v) {a : Act} (ha : Fr σ N ds a) : (Zn3 a.tmps rv).run P w = .ok v w := by
 cases rv with
 | tmp t => have := ha.at_ t v h; simp [Zn3,this]
 | cell t ty =>
  obtain ⟨ad,h1,h2⟩ := h
  have := ha.at_ t _ h1
  simp [Zn3,this,asAddr,h2]
theorem Znt {fn : Func} {R : Ending → World → Prop} {a : Act} {v : Value} (ha : a.defers = []) (hr : (results fn a.tmps).run P w = .ok v w) (hR : R (.returned v) w) : BP P fn R .ret a w ∧ BP P fn R .normal a w := by
 have : LeavesInM (Fc md0) 0 P fn a.tmps R a.defers .returning w := by rw [ha]; exact ⟨v,hr,hR⟩
 exact ⟨this,this⟩
theorem E_ret0 {fn : Func} {R : Ending → World → Prop} (h : fn.results = #[]) (hR : R (.returned (.tuple #[])) w) : E (BP P fn R) .ret N md0 σ w :=
 ⟨fun _ ha => (Znt ha.defers (by simp [results,h]) hR).1⟩
theorem Zer {fn : Func} {R : Ending → World → Prop} (h : fn.results = #[]) (hR : R (.returned (.tuple #[])) w) : E (BP P fn R) .normal N md0 σ w :=
 ⟨fun _ ha => (Znt ha.defers (by simp [results,h]) hR).2⟩
theorem Zax {fn : Func} {R : Ending → World → Prop} {r0 : ResultVar} {v0 : Value} (h : fn.results = #[r0]) (h0 : Rv P σ w r0 v0) (hR : R (.returned v0) w) : E (BP P fn R) .ret N md0 σ w :=
 ⟨fun a ha => (Znt ha.defers (by rw [Zhd,h]; have e0 := h0.run ha; simp [e0]) hR).1⟩
theorem Zdb {fn : Func} {R : Ending → World → Prop} {r0 r1 : ResultVar} {v0 v1 : Value} (h : fn.results = #[r0,r1]) (h0 : Rv P σ w r0 v0) (h1 : Rv P σ w r1 v1) (hR : R (.returned (.tuple #[v0,v1])) w) : E (BP P fn R) .ret N md0 σ w :=
 ⟨fun a ha => (Znt ha.defers (by rw [Zhd,h]; have e0 := h0.run ha; have e1 := h1.run ha; simp [e0,e1]) hR).1⟩
theorem Znr {fn : Func} {R : Ending → World → Prop} {r0 r1 r2 r3 : ResultVar} {v0 v1 v2 v3 : Value} (h : fn.results = #[r0,r1,r2,r3]) (h0 : Rv P σ w r0 v0) (h1 : Rv P σ w r1 v1) (h2 : Rv P σ w r2 v2) (h3 : Rv P σ w r3 v3) (hR : R (.returned (.tuple #[v0,v1,v2,v3])) w) : E (BP P fn R) .ret N md0 σ w :=
 ⟨fun a ha => (Znt ha.defers (by rw [Zhd,h]; have e0 := h0.run ha; have e1 := h1.run ha; have e2 := h2.run ha; have e3 := h3.run ha; simp [e0,e1,e2,e3]) hR).1⟩
end
end Cr
namespace Cr
open Go

/-! ### facts on types -/
class Und (P : Program) (t : TypeId) (d : outParam TypeDesc) : Prop where
 und : P.underlying t = some d
class Siz (P : Program) (t : TypeId) (n : outParam Nat) : Prop where
 siz : (P.info? t).map (·.size) = some n
class Inf (P : Program) (t : TypeId) (z : outParam Value) (size bytes : outParam Nat) : Prop where
 inf : (P.info? t).map (fun i => (i.zero,i.size,i.bytes)) = some (some z,size,bytes)
 zs : z.cells.size = size
instance Inf.siz (P : Program) (t : TypeId) (z : Value) (size bytes : Nat) [h : Inf P t z size bytes] : Siz P t size := ⟨by
 obtain ⟨i,hi,_,hs,_⟩ := info_parts h.inf; simp [hi,hs]⟩
class One (P : Program) (t : TypeId) : Prop where
 one : ∀ w,(isAgg t).run P w = .ok false w
class Agg (P : Program) (t : TypeId) : Prop where
 agg : ∀ w,(isAgg t).run P w = .ok true w
section
variable {P : Program} {t : TypeId}
theorem Zdd {d : TypeDesc} (h : P.underlying t = some d) (w : World) : (isAgg t).run P w = .ok (match d with | .struct _ | .array _ _ => true | _ => false) w := by
 unfold isAgg; rw [Sem.run_bind,run_underlying h]; cases d <;> rfl
instance (k : IntKind) [h : Und P t (.int k)] : One P t := ⟨fun w => Zdd h.und w⟩
instance [h : Und P t .bool] : One P t := ⟨fun w => Zdd h.und w⟩
instance [h : Und P t .string] : One P t := ⟨fun w => Zdd h.und w⟩
instance (e : TypeId) [h : Und P t (.slice e)] : One P t := ⟨fun w => Zdd h.und w⟩
instance (e : TypeId) [h : Und P t (.pointer e)] : One P t := ⟨fun w => Zdd h.und w⟩
instance (k e : TypeId) [h : Und P t (.map k e)] : One P t := ⟨fun w => Zdd h.und w⟩
instance (n : Nat) (e : TypeId) [h : Und P t (.array n e)] : Agg P t := ⟨fun w => Zdd h.und w⟩
theorem Zb3 {n : Nat} [h : Siz P t n] (w : World) : (Go.sizeOf t).run P w = .ok n w := by
 have := h.siz
 cases hi : P.info? t with
 | none => rw [hi] at this; cases this
 | some i => rw [hi] at this; simp at this; simp [Go.sizeOf,typeInfo,hi,this]
end

/-! ### literal lists,element by element -/
class Nth (l : List Value) (n : Nat) (v : outParam Value) : Prop where
 nth : l[n]? = some v
instance (v : Value) (l : List Value) : Nth (v :: l) 0 v := ⟨rfl⟩
instance (u v : Value) (l : List Value) (n : Nat) [h : Nth l n v] : Nth (u :: l) (n + 1) v := ⟨by simpa using h.nth⟩
class Spl (l : List Value) (n : Nat) (vs : List Value) (l' : outParam (List Value)) : Prop where
 spl : n + vs.length ≤ l.length ∧ l.take n ++ vs ++ l.drop (n + vs.length) = l'
instance (l : List Value) : Spl l 0 [] l := ⟨by simp⟩
instance (u v : Value) (l vs l' : List Value) [h : Spl l 0 vs l'] : Spl (u :: l) 0 (v :: vs) (v :: l') := ⟨by
 have := h.spl; simp at this ⊢; exact this⟩
instance (u : Value) (l vs l' : List Value) (n : Nat) [h : Spl l n vs l'] : Spl (u :: l) (n + 1) vs (u :: l') := ⟨by
 have := h.spl
 rw [show n + 1 + vs.length = (n + vs.length) + 1 by omega]
 simp only [List.length_cons,List.take_succ_cons,List.drop_succ_cons,List.cons_append]
 exact ⟨by omega,by rw [this.2]⟩⟩

/-! ### the resources of a run: find one,change one -/
class Has (rs : List Res) (b : Nat) (o : outParam Obj) : Prop where
 has : ∃ rest,rs.Perm (pts b o :: rest)
instance (b : Nat) (o : Obj) (rs : List Res) : Has (pts b o :: rs) b o := ⟨rs,.refl _⟩
instance (r : Res) (rs : List Res) (b : Nat) (o : Obj) [h : Has rs b o] : Has (r :: rs) b o := ⟨by
 obtain ⟨rest,p⟩ := h.has
 exact ⟨r :: rest,(List.Perm.cons r p).trans (.swap _ _ _)⟩⟩
class Upd (rs : List Res) (b : Nat) (o' : Obj) (rs' : outParam (List Res)) : Prop where
 upd : ∃ o rest,rs.Perm (pts b o :: rest) ∧ rs'.Perm (pts b o' :: rest)
instance (b : Nat) (o o' : Obj) (rs : List Res) : Upd (pts b o :: rs) b o' (pts b o' :: rs) := ⟨o,rs,.refl _,.refl _⟩
instance (r : Res) (rs rs' : List Res) (b : Nat) (o' : Obj) [h : Upd rs b o' rs'] : Upd (r :: rs) b o' (r :: rs') := ⟨by
 obtain ⟨o,rest,p,p'⟩ := h.upd
 exact ⟨o,r :: rest,(List.Perm.cons r p).trans (.swap _ _ _),(List.Perm.cons r p').trans (.swap _ _ _)⟩⟩
section
variable {W : World} {F : Nat → Prop} {rs : List Res} {w : World}
theorem St.has {b : Nat} {o : Obj} (hS : St W F rs w) [h : Has rs b o] : w.heap[b]? = some o := by
 obtain ⟨rest,p⟩ := h.has
 exact (hS.perm p).get
theorem Zal {w : World} {b off : Nat} {l : List Value} {T : TypeId} {fz : Nat × Nat} {v : Value} (h : w.heap[b]? = some (.cells l.toArray T fz)) [hv : Nth l off v] : w.cell? ⟨b,off,none⟩ = some v := by
 rw [cell_of_row w b off _ T fz h]; simpa using hv.nth
theorem Rd.pts {w : World} {b : Nat} {o : Obj} (h : Rd w (pts b o)) : w.heap[b]? = some o := by
 obtain ⟨f,rfl,ha⟩ := h
 exact ha b o (Zbz b o)
theorem Rd.sep {w : World} {rs : List Res} (h : Rd w (Sep rs)) : ∀ r ∈ rs,Rd w r := by
 obtain ⟨f,hs,ha⟩ := h
 induction rs generalizing f with
 | nil => intro r hr; cases hr
 | cons x rs ih =>
  obtain ⟨h1,h2,hx,hrs,hd,hu⟩ := hs
  have s1 : ∀ b o,h1 b = some o → f b = some o := fun b o e => by rw [hu,e]; rfl
  have s2 : ∀ b o,h2 b = some o → f b = some o := fun b o e => by
   rw [hu]; rcases hd b with e' | e'
   ·simp [e',e]
   ·rw [e] at e'; simp at e'
  intro r hr
  cases hr with
  | head => exact ⟨h1,hx,fun b o e => ha b o (s1 b o e)⟩
  | tail _ hr => exact ih h2 hrs (fun b o e => ha b o (s2 b o e)) r hr
theorem St.cell {b off : Nat} {l : List Value} {T : TypeId} {fz : Nat × Nat} {v : Value} (hS : St W F rs w) [h : Has rs b (.cells l.toArray T fz)] [hv : Nth l off v] : w.cell? ⟨b,off,none⟩ = some v := by
 rw [cell_of_row w b off _ T fz hS.has]; simpa using hv.nth
theorem St.upd {b : Nat} {o' : Obj} {rs' : List Res} {w' : World} (hS : St W F rs w) [h : Upd rs b o' rs'] (u : SetBlock w w' b o') : St W F rs' w' := by
 obtain ⟨o,rest,p,p'⟩ := h.upd
 exact ((hS.perm p).set u).perm p'.symm
end

/-! ### worlds -/
theorem Zcp {w : World} {b : Nat} {cs : Array Value} {t : TypeId} {fr : Nat × Nat} (h : w.heap[b]? = some (.cells cs t fr)) (cs' : Array Value) : SetBlock w (w.setRow b cs') b (.cells cs' t fr) :=
 ⟨by simp,setRow_heap w b cs cs' t fr h,fun k hk => setRow_other w b k cs' hk,rfl,rfl,rfl⟩

section
variable {P : Program} {o : Oper} {σ : Env} {w : World} {N : Nat} {ds : Md} {K : Env → World → Prop}

/-! ### operations that touch nothing -/
theorem Zad {x : Operand} {v : Value} (ho : o.op = .move x) (hx : ev σ x = some v) : Yl P o σ w v := ⟨fun N ds a ha => by
 simp [execOp,ho,ha.eval hx]⟩
theorem Zac {x : Operand} {v : Value} (ho : o.op = .assign x) (hx : ev σ x = some v) : Yl P o σ w v := ⟨fun N ds a ha => by
 simp [execOp,ho,ha.eval hx]⟩
theorem Zbr {c x y : Operand} {v : Value} (ho : o.op = .pick c x y) (hc : ev σ c = some (.bool true)) (hx : ev σ x = some v) : Yl P o σ w v := ⟨fun N ds a ha => by
 simp [execOp,ho,ha.eval hx,ha.eval hc,asBool]⟩
theorem Zbb {c x y : Operand} {v : Value} (ho : o.op = .pick c x y) (hc : ev σ c = some (.bool false)) (hx : ev σ y = some v) : Yl P o σ w v := ⟨fun N ds a ha => by
 simp [execOp,ho,ha.eval hx,ha.eval hc,asBool]⟩
theorem Zai {x : Operand} {ad : Addr} (ho : o.op = .nilCheck x) (hx : ev σ x = some (.pointer (some ad))) : Yl P o σ w (.pointer (some ad)) := ⟨fun N ds a ha => by
 simp [execOp,ho,ha.eval hx]⟩
theorem Zbl {x : Operand} {t : TypeId} (ho : o.op = .unOp .not t x) (hx : ev σ x = some (.bool true)) : Yl P o σ w (.bool false) := ⟨fun N ds a ha => by
 simp [execOp,ho,ha.eval hx,Op.unary]⟩
theorem Zb8 {x : Operand} {t : TypeId} (ho : o.op = .unOp .not t x) (hx : ev σ x = some (.bool false)) : Yl P o σ w (.bool true) := ⟨fun N ds a ha => by
 simp [execOp,ho,ha.eval hx,Op.unary]⟩
theorem Ztb {x : Operand} {t : TypeId} {b : Bool} (ho : o.op = .unOp .not t x) (hx : ev σ x = some (.bool b)) : Yl P o σ w (.bool (!b)) := ⟨fun N ds a ha => by
 simp [execOp,ho,ha.eval hx,Op.unary]⟩
theorem w64 {n : Int} (h : -9223372036854775808 ≤ n) (h' : n ≤ 9223372036854775807) : IntKind.i64.wrap n = n := by
 rw [IntKind.wrap_i64]; omega
theorem Yl_neg {x : Operand} {t : TypeId} {k : IntKind} {a v : Int} (ho : o.op = .unOp .neg t x) (hx : ev σ x = some (.int k a)) (hv : k.wrap (0 - a) = v) : Yl P o σ w (.int k v) := ⟨fun N ds f ha => by
 simp only [execOp,ho,ha.eval hx,Op.unary,Op.intArith,hv]; rfl⟩
section
variable {x y : Operand} {t ty : TypeId} {k : IntKind} {a b v : Int}
theorem Zbk (ho : o.op = .binOp .add t x y ty) (hx : ev σ x = some (.int k a)) (hy : ev σ y = some (.int k b)) (hv : k.wrap (a + b) = v) : Yl P o σ w (.int k v) := ⟨fun N ds f ha => by
 simp only [execOp,ho,ha.eval hx,ha.eval hy,binOp,eqGuard,Op.intArith,ne_eq,not_true_eq_false,if_false,hv]; rfl⟩
theorem Zdn (ho : o.op = .binOp .sub t x y ty) (hx : ev σ x = some (.int k a)) (hy : ev σ y = some (.int k b)) (hv : k.wrap (a - b) = v) : Yl P o σ w (.int k v) := ⟨fun N ds f ha => by
 simp only [execOp,ho,ha.eval hx,ha.eval hy,binOp,eqGuard,Op.intArith,ne_eq,not_true_eq_false,if_false,hv]; rfl⟩
theorem Zfi (ho : o.op = .binOp .mul t x y ty) (hx : ev σ x = some (.int k a)) (hy : ev σ y = some (.int k b)) (hv : k.wrap (a * b) = v) : Yl P o σ w (.int k v) := ⟨fun N ds f ha => by
 simp only [execOp,ho,ha.eval hx,ha.eval hy,binOp,eqGuard,Op.intArith,ne_eq,not_true_eq_false,if_false,hv]; rfl⟩
theorem Yl_quo (ho : o.op = .binOp .quo t x y ty) (hx : ev σ x = some (.int k a)) (hy : ev σ y = some (.int k b)) (hb : b ≠ 0) (hv : k.wrap (a.tdiv b) = v) : Yl P o σ w (.int k v) := ⟨fun N ds f ha => by
 simp only [execOp,ho,ha.eval hx,ha.eval hy,binOp,eqGuard,Op.intDiv,ne_eq,not_true_eq_false,if_false,hv,if_neg hb]; rfl⟩
theorem Yl_rem (ho : o.op = .binOp .rem t x y ty) (hx : ev σ x = some (.int k a)) (hy : ev σ y = some (.int k b)) (hb : b ≠ 0) (hv : a.tmod b = v) : Yl P o σ w (.int k v) := ⟨fun N ds f ha => by
 simp only [execOp,ho,ha.eval hx,ha.eval hy,binOp,eqGuard,Op.intDiv,ne_eq,not_true_eq_false,if_false,hv,if_neg hb]; rfl⟩
theorem Ztf (ho : o.op = .binOp .eql t x y ty) (hx : ev σ x = some (.int k a)) (hy : ev σ y = some (.int k b)) : Yl P o σ w (.bool (decide (a = b))) := ⟨fun N ds f ha => by
 simp only [execOp,ho,ha.eval hx,ha.eval hy,binOp,eqGuard,Op.intCmp,ne_eq,not_true_eq_false,if_false]; rfl⟩
theorem Ztc (ho : o.op = .binOp .neq t x y ty) (hx : ev σ x = some (.int k a)) (hy : ev σ y = some (.int k b)) : Yl P o σ w (.bool (decide (¬ a = b))) := ⟨fun N ds f ha => by
 simp only [execOp,ho,ha.eval hx,ha.eval hy,binOp,eqGuard,Op.intCmp,ne_eq,not_true_eq_false,if_false]
 by_cases h : a = b <;> simp [h]⟩
theorem Zqf (ho : o.op = .binOp .lss t x y ty) (hx : ev σ x = some (.int k a)) (hy : ev σ y = some (.int k b)) : Yl P o σ w (.bool (decide (a < b))) := ⟨fun N ds f ha => by
 simp only [execOp,ho,ha.eval hx,ha.eval hy,binOp,eqGuard,Op.intCmp,ne_eq,not_true_eq_false,if_false]; rfl⟩
theorem Yl_leq (ho : o.op = .binOp .leq t x y ty) (hx : ev σ x = some (.int k a)) (hy : ev σ y = some (.int k b)) : Yl P o σ w (.bool (decide (a ≤ b))) := ⟨fun N ds f ha => by
 simp only [execOp,ho,ha.eval hx,ha.eval hy,binOp,eqGuard,Op.intCmp,ne_eq,not_true_eq_false,if_false]; rfl⟩
theorem Yl_gtr (ho : o.op = .binOp .gtr t x y ty) (hx : ev σ x = some (.int k a)) (hy : ev σ y = some (.int k b)) : Yl P o σ w (.bool (decide (b < a))) := ⟨fun N ds f ha => by
 simp only [execOp,ho,ha.eval hx,ha.eval hy,binOp,eqGuard,Op.intCmp,ne_eq,not_true_eq_false,if_false]; rfl⟩
theorem Zte (ho : o.op = .binOp .geq t x y ty) (hx : ev σ x = some (.int k a)) (hy : ev σ y = some (.int k b)) : Yl P o σ w (.bool (decide (b ≤ a))) := ⟨fun N ds f ha => by
 simp only [execOp,ho,ha.eval hx,ha.eval hy,binOp,eqGuard,Op.intCmp,ne_eq,not_true_eq_false,if_false]; rfl⟩
theorem Zej (ho : o.op = .binOp .eql t x y ty) (hx : ev σ x = some (.int k a)) (hy : ev σ y = some (.int k b)) (hp : a = b) : Yl P o σ w (.bool true) := by
 have := Ztf (P := P) (w := w) ho hx hy
 rwa [decide_eq_true hp] at this
theorem Zd9 (ho : o.op = .binOp .eql t x y ty) (hx : ev σ x = some (.int k a)) (hy : ev σ y = some (.int k b)) (hp : ¬ (a = b)) : Yl P o σ w (.bool false) := by
 have := Ztf (P := P) (w := w) ho hx hy
 rwa [decide_eq_false hp] at this
theorem Zc0 (ho : o.op = .binOp .neq t x y ty) (hx : ev σ x = some (.int k a)) (hy : ev σ y = some (.int k b)) (hp : ¬ a = b) : Yl P o σ w (.bool true) := by
 have := Ztc (P := P) (w := w) ho hx hy
 rwa [decide_eq_true hp] at this
theorem Zb1 (ho : o.op = .binOp .neq t x y ty) (hx : ev σ x = some (.int k a)) (hy : ev σ y = some (.int k b)) (hp : ¬ (¬ a = b)) : Yl P o σ w (.bool false) := by
 have := Ztc (P := P) (w := w) ho hx hy
 rwa [decide_eq_false hp] at this
theorem Za3 (ho : o.op = .binOp .lss t x y ty) (hx : ev σ x = some (.int k a)) (hy : ev σ y = some (.int k b)) (hp : a < b) : Yl P o σ w (.bool true) := by
 have := Zqf (P := P) (w := w) ho hx hy
 rwa [decide_eq_true hp] at this
theorem Za7 (ho : o.op = .binOp .lss t x y ty) (hx : ev σ x = some (.int k a)) (hy : ev σ y = some (.int k b)) (hp : ¬ (a < b)) : Yl P o σ w (.bool false) := by
 have := Zqf (P := P) (w := w) ho hx hy
 rwa [decide_eq_false hp] at this
theorem Ztd (ho : o.op = .binOp .leq t x y ty) (hx : ev σ x = some (.int k a)) (hy : ev σ y = some (.int k b)) (hp : a ≤ b) : Yl P o σ w (.bool true) := by
 have := Yl_leq (P := P) (w := w) ho hx hy
 rwa [decide_eq_true hp] at this
theorem Yl_leq_f (ho : o.op = .binOp .leq t x y ty) (hx : ev σ x = some (.int k a)) (hy : ev σ y = some (.int k b)) (hp : ¬ (a ≤ b)) : Yl P o σ w (.bool false) := by
 have := Yl_leq (P := P) (w := w) ho hx hy
 rwa [decide_eq_false hp] at this
theorem Zhj (ho : o.op = .binOp .gtr t x y ty) (hx : ev σ x = some (.int k a)) (hy : ev σ y = some (.int k b)) (hp : b < a) : Yl P o σ w (.bool true) := by
 have := Yl_gtr (P := P) (w := w) ho hx hy
 rwa [decide_eq_true hp] at this
theorem Zdl (ho : o.op = .binOp .gtr t x y ty) (hx : ev σ x = some (.int k a)) (hy : ev σ y = some (.int k b)) (hp : ¬ (b < a)) : Yl P o σ w (.bool false) := by
 have := Yl_gtr (P := P) (w := w) ho hx hy
 rwa [decide_eq_false hp] at this
theorem Zda (ho : o.op = .binOp .geq t x y ty) (hx : ev σ x = some (.int k a)) (hy : ev σ y = some (.int k b)) (hp : b ≤ a) : Yl P o σ w (.bool true) := by
 have := Zte (P := P) (w := w) ho hx hy
 rwa [decide_eq_true hp] at this
theorem Zdv (ho : o.op = .binOp .geq t x y ty) (hx : ev σ x = some (.int k a)) (hy : ev σ y = some (.int k b)) (hp : ¬ (b ≤ a)) : Yl P o σ w (.bool false) := by
 have := Zte (P := P) (w := w) ho hx hy
 rwa [decide_eq_false hp] at this
end
end
end Cr
namespace Cr
open Go

/-! ### slices as resources -/
def adr (a : Option Addr) (i : Nat) : Addr := match a with | some x => ⟨x.block,x.off + i,none⟩ | none => ⟨0,i,none⟩
def row (a : Option Addr) (cs : List Value) : Res := fun h =>
 (cs = [] ∧ ∀ k,h k = none) ∨ ∃ b off cells T fz,a = some ⟨b,off,none⟩ ∧ h = Zem b (.cells cells T fz) ∧ ∀ i v,cs[i]? = some v → cells[off + i]? = some v
def own (T : TypeId) (e : Nat) (a : Option Addr) (c : Nat) (cs : List Value) : Res := fun h =>
 cs.length ≤ c * e ∧ c ≤ maxLen ∧
 ((c = 0 ∧ ∀ k,h k = none) ∨ ∃ b cells,a = some ⟨b,0,none⟩ ∧ h = Zem b (.cells cells T (0,0)) ∧ cells.size = c * e ∧ cells.toList.take cs.length = cs)
def bv (l : List UInt8) : List Value := l.map fun b => Value.int .u8 b.toNat
def bytes (a : Option Addr) (l : List UInt8) : Res := row a (bv l)

theorem own.row {T : TypeId} {e : Nat} {a : Option Addr} {c : Nat} {cs : List Value} {h : Frag} (H : own T e a c cs h) : row a cs h := by
 obtain ⟨hl,_,⟨rfl,hh⟩ | ⟨b,cells,ha,hh,hs,ht⟩⟩ := H
 ·exact .inl ⟨List.eq_nil_of_length_eq_zero (by simpa using hl),hh⟩
 ·refine .inr ⟨b,0,cells,T,_,ha,hh,fun i v hv => ?_⟩
  rw [← ht,List.getElem?_take] at hv
  split at hv
  ·simpa using hv
  ·cases hv
theorem Rd.own_row {w : World} {T : TypeId} {e : Nat} {a : Option Addr} {c : Nat} {cs : List Value} (H : Rd w (own T e a c cs)) : Rd w (row a cs) :=
 H.mono fun h hh => ⟨h,hh.row,fun _ _ x => x⟩
theorem Ro.own_row {w : World} {F : Nat → Prop} {T : TypeId} {e : Nat} {a : Option Addr} {c : Nat} {cs : List Value} (H : Ro w F (own T e a c cs)) : Ro w F (row a cs) :=
 H.mono fun h hh => ⟨h,hh.row,fun _ _ x => x⟩
theorem row.part {a : Option Addr} {cs cs' : List Value} {i : Nat} (hs : ∀ j v,cs'[j]? = some v → cs[i + j]? = some v) : ∀ h,row a cs h → ∃ h',row (some (adr a i)) cs' h' ∧ ∀ b o,h' b = some o → h b = some o := by
 intro h H
 rcases H with ⟨rfl,hh⟩ | ⟨b,off,cells,T,fz,rfl,hh,hc⟩
 ·have : cs' = [] := by
   cases cs' with
   | nil => rfl
   | cons x l => have := hs 0 x rfl; simp at this
  exact ⟨h,.inl ⟨this,hh⟩,fun _ _ x => x⟩
 ·exact ⟨h,.inr ⟨b,off + i,cells,T,fz,rfl,hh,fun j v hv => by rw [Nat.add_assoc]; exact hc _ _ (hs j v hv)⟩,fun _ _ x => x⟩
theorem row_nil (a : Option Addr) : row a [] (fun _ => none) := .inl ⟨rfl,fun _ => rfl⟩
theorem Zka (w : World) (a : Option Addr) : Rd w (row a []) := ⟨_,row_nil a,fun _ _ h => by cases h⟩
theorem Ro_nil (w : World) (F : Nat → Prop) (a : Option Addr) : Ro w F (row a []) := ⟨_,row_nil a,fun _ _ h => by cases h⟩

def CellsAt (w : World) (a : Addr) (cs : List Value) : Prop := ∀ j v,cs[j]? = some v → w.cell? (a.add j) = some v
theorem Zcn (b o j : Nat) : (⟨b,o,none⟩ : Addr).add j = ⟨b,o + j,none⟩ := by unfold Addr.add; split <;> simp_all
theorem CellsAt.of_block {w : World} {b : Nat} {l : List Value} {T : TypeId} {fz : Nat × Nat} (h : w.heap[b]? = some (.cells l.toArray T fz)) : CellsAt w ⟨b,0,none⟩ l := fun j v hv => by
 rw [Zcn,cell_of_row w b _ _ T fz h]; simpa using hv
theorem Rd.cells {w : World} {a : Option Addr} {cs : List Value} (H : Rd w (row a cs)) : ∀ j v,cs[j]? = some v → w.cell? (adr a j) = some v := fun j v hv => by
 obtain ⟨h,hr,ha⟩ := H
 rcases hr with ⟨rfl,_⟩ | ⟨b,off,cells,T,fz,rfl,rfl,hc⟩
 ·cases hv
 ·show w.cell? ⟨b,off + j,none⟩ = _
  rw [cell_of_row w b _ cells T fz (ha b _ (Zbz _ _))]
  exact hc j v hv
theorem Rd.none_nil {w : World} {cs : List Value} (H : Rd w (row none cs)) : cs = [] := by
 obtain ⟨f,hr,_⟩ := H
 rcases hr with ⟨rfl,_⟩ | ⟨b,off,_,_,_,hx,_⟩
 ·rfl
 ·cases hx
theorem Zfm {l : List UInt8} : ∀ u ∈ bv l,u.oneCell' = true := fun u hu => by
 simp [bv] at hu; obtain ⟨b,_,rfl⟩ := hu; rfl
theorem Rd.base {w : World} {a : Option Addr} {cs : List Value} (H : Rd w (row a cs)) (h : cs ≠ []) : ∃ b off,a = some ⟨b,off,none⟩ := by
 obtain ⟨f,hr,_⟩ := H
 rcases hr with ⟨rfl,_⟩ | ⟨b,off,_,_,_,hx,_⟩
 ·exact absurd rfl h
 ·exact ⟨b,off,hx⟩
theorem Rd.seg {w : World} {a : Option Addr} {cs : List Value} (H : Rd w (row a cs)) (i n : Nat) : CellsAt w (adr a i) ((cs.drop i).take n) := fun j v hv => by
 rw [List.getElem?_take] at hv
 split at hv
 ·simp only [List.getElem?_drop] at hv
  have := H.cells _ _ hv
  have e : (adr a i).add j = adr a (i + j) := by
   cases a with
   | none => simp [adr,Zcn]
   | some x => simp [adr,Zcn,Nat.add_assoc]
  rw [e]; exact this
 ·cases hv
theorem Rd.cellsAt {w : World} {a : Addr} {cs : List Value} (hsp : a.spot = none) (H : Rd w (row (some a) cs)) : CellsAt w a cs := fun j v hv => by
 have := H.cells j v hv
 obtain ⟨b,o,s⟩ := a
 subst hsp
 rw [Zcn]; exact this
theorem bv_get {l : List UInt8} {i : Nat} (h : i < l.length) : (bv l)[i]? = some (.int .u8 (l[i].toNat : Int)) := by simp [bv,h]
@[simp] theorem Za4 (l : List UInt8) : (bv l).length = l.length := by simp [bv]
theorem Zf3 (l m : List UInt8) : bv (l ++ m) = bv l ++ bv m := by simp [bv]
theorem Zl7 (l : List UInt8) (n : Nat) : bv (l.take n) = (bv l).take n := by simp [bv]
theorem bv_drop (l : List UInt8) (n : Nat) : bv (l.drop n) = (bv l).drop n := by simp [bv]
theorem St.sel {W : World} {F : Nat → Prop} {rs : List Res} {w : World} (m : List Bool) {pre rest : List Res} [sp : Split rs m pre rest] (hS : St W F rs w) : St W F (pre ++ rest) w := hS.perm sp.perm
theorem St.head {W : World} {F : Nat → Prop} {r r' : Res} {rs : List Res} {w : World} (hS : St W F (r :: rs) w) (hr : ∀ h,r h → r' h) : St W F (r' :: rs) w := hS.imp fun _ h => h.mono_head hr
theorem St.second {W : World} {F : Nat → Prop} {q r r' : Res} {rs : List Res} {w : World} (hS : St W F (q :: r :: rs) w) (hr : ∀ h,r h → r' h) : St W F (q :: r' :: rs) w := hS.imp fun _ h => h.mono_tail fun _ h => h.mono_head hr

section
variable {P : Program} {o : Oper} {σ : Env} {w : World} {N : Nat} {ds : Md} {K : Env → World → Prop}
variable {x y : Operand} {t ty e : TypeId}

/-! ### what a goal is,told cheaply -/
section
variable {ops : Array Oper} {Q : Exit → Act → World → Prop} {l : List Oper} {K' : Act → World → Prop} {ord : OT} {invs : Invs} {c : Code} {ex : Exit} {A B : Prop}
theorem X_id (h : X P o N ds σ w K) : X P o N ds σ w K := h
theorem G_id (h : G P ops Q l N ds σ w) : G P ops Q l N ds σ w := h
theorem Zbj (h : GO P ops K' ord invs N ds σ w) : GO P ops K' ord invs N ds σ w := h
theorem C_id (h : C P c Q N ds σ w) : C P c Q N ds σ w := h
theorem E_id (h : E Q ex N ds σ w) : E Q ex N ds σ w := h
theorem Za5 {k : Nat} (h : Zi7 ops k invs w ∧ B) : Zi7 ops k invs w ∧ B := h
end

/-! ### Zih -/
class Fld (P : Program) (s f : Nat) (off : outParam Nat) (t : outParam TypeId) (n : outParam Nat) : Prop where
 fld : ∃ fs fd,P.underlying s = some (.struct fs) ∧ fs[f]? = some fd ∧ fd.offset = off ∧ fd.type = t ∧ (P.info? t).map (·.size) = some n
theorem Zbv {s f off t n b i : Nat} (ho : o.op = .fieldAddr s x f) (hx : ev σ x = some (.pointer (some ⟨b,i,none⟩))) [h : Fld P s f off t n] (hn : Nat.blt 0 n = true) : Yl P o σ w (.pointer (some ⟨b,i + off,none⟩)) := ⟨fun N ds a ha => by
 obtain ⟨fs,fd,h1,h2,h3,h4,h5⟩ := h.fld
 have hsz : (Go.sizeOf fd.type).run P w = .ok n w := by rw [h4]; exact Zb3 (h := ⟨h5⟩) w
 have h0 : ¬ n = 0 := by have := Zbp hn; omega
 simp [execOp,ho,ha.eval hx,Instr.fieldAt,run_underlying h1,h2,Instr.sureAddr,fieldPlace,hsz,h0,h3,Zcn]⟩
theorem Zaf {s f off t n b : Nat} (ho : o.op = .fieldAddr s x f) (hx : ev σ x = some (.pointer (some ⟨b,0,none⟩))) [h : Fld P s f off t n] (hn : Nat.blt 0 n = true) : Yl P o σ w (.pointer (some ⟨b,off,none⟩)) := by
 have := Zbv (w := w) ho hx (h := h) hn
 rwa [Nat.zero_add] at this
theorem Zau {a : Option Addr} {n c m : Nat} {k : IntKind} {i : Int} (ho : o.op = .indexAddr t x y) (hx : ev σ x = some (.slice a n c)) (hy : ev σ y = some (.int k i)) [h : Und P t (.slice e)] [hs : Siz P e m] (h0 : 0 ≤ i) (h1 : i < n) (ha' : ∃ b off,a = some ⟨b,off,none⟩) :
  Yl P o σ w (.pointer (some (adr a (i.toNat * m)))) := ⟨fun N ds f ha => by
 obtain ⟨b,off,rfl⟩ := ha'
 simp [execOp,ho,ha.eval hx,ha.eval hy,Instr.indexAt,asIntOf,run_underlying h.und,h0,h1,Zb3,Zcn,adr]⟩
theorem Zbx {b off n m : Nat} {k : IntKind} {i : Int} (ho : o.op = .indexAddr t x y) (hx : ev σ x = some (.pointer (some ⟨b,off,none⟩))) (hy : ev σ y = some (.int k i)) [h : Und P t (.array n e)] [hs : Siz P e m] (h0 : 0 ≤ i) (h1 : i < n) :
  Yl P o σ w (.pointer (some ⟨b,off + i.toNat * m,none⟩)) := ⟨fun N ds f ha => by
 simp [execOp,ho,ha.eval hx,ha.eval hy,Instr.indexAt,asIntOf,run_underlying h.und,h0,h1,Zb3,Zcn,Instr.sureAddr]⟩
theorem Zqg {s : ByteArray} {k : IntKind} {i : Int} (ho : o.op = .index t x y) (hx : ev σ x = some (.string s)) (hy : ev σ y = some (.int k i)) [h : Und P t .string] (h0 : 0 ≤ i) (h1 : i.toNat < s.size) :
  Yl P o σ w (.int .u8 (s[i.toNat].toNat : Int)) := ⟨fun N ds f ha => by
 have : s[i.toNat]? = some s[i.toNat] := getElem?_pos s i.toNat h1
 simp [execOp,ho,ha.eval hx,ha.eval hy,Instr.index,asIntOf,run_underlying h.und,h0,this]⟩
theorem Zbq {l : List Value} {n : Nat} {v : Value} (ho : o.op = .extract x n) (hx : ev σ x = some (.tuple l.toArray)) [hv : Nth l n v] : Yl P o σ w v := ⟨fun N ds f ha => by
 simp [execOp,ho,ha.eval hx,Instr.extract,hv.nth]⟩
theorem Zbt {a : Option Addr} {n c : Nat} (ho : o.op = .call { callee := .builtin .len,args := #[x],argTypes := #[t] }) (hx : ev σ x = some (.slice a n c)) [h : Und P t (.slice e)] : Yl P o σ w (.int .i64 n) := ⟨fun N ds f ha => by
 simp [execOp,ho,resolve,invoke,builtin,Builtin.len_,ha.eval hx,run_underlying h.und,goInt]⟩
theorem Yl_cap {a : Option Addr} {n c : Nat} (ho : o.op = .call { callee := .builtin .cap,args := #[x],argTypes := #[t] }) (hx : ev σ x = some (.slice a n c)) [h : Und P t (.slice e)] : Yl P o σ w (.int .i64 c) := ⟨fun N ds f ha => by
 simp [execOp,ho,resolve,invoke,builtin,Builtin.cap_,ha.eval hx,run_underlying h.und,goInt]⟩
theorem Zd2 {src dst : TypeId} {k k' : IntKind} {i v : Int} (ho : o.op = .convert src dst x) (hx : ev σ x = some (.int k i)) {d : TypeDesc} [hs : Und P src d] [hd : Und P dst (.int k')] (hv : k'.wrap i = v) : Yl P o σ w (.int k' v) := ⟨fun N ds f ha => by
 simp only [execOp,ho,ha.eval hx,convert,Sem.run_bind,run_underlying hs.und,run_underlying hd.und,Result.andThen_ok]
 cases d <;> simp [Conv.intToInt,hv]⟩

theorem Ze6 {a : Option Addr} {n c n' c' : Nat} [h : Und P t (.slice e)] : (Op.equal t (.slice a n c) (.slice none n' c')).run P w = .ok a.isNone w := by
 have key : ∀ d,(Op.equalIn (d + 1) t (.slice a n c) (.slice none n' c')).run P w = .ok a.isNone w := fun d => by
  rw [Op.equalIn]; cases a <;> simp [run_underlying h.und]
 exact key 9999
theorem Zgb {a : Option Addr} [h : Und P t (.pointer e)] : (Op.equal t (.pointer a) (.pointer none)).run P w = .ok a.isNone w := by
 have key : ∀ d,(Op.equalIn (d + 1) t (.pointer a) (.pointer none)).run P w = .ok a.isNone w := fun d => by
  rw [Op.equalIn]; cases a <;> simp [run_underlying h.und]
 exact key 9999
theorem Zig {a : Option Nat} {k : TypeId} [h : Und P t (.map k e)] : (Op.equal t (.map a) (.map none)).run P w = .ok a.isNone w := by
 have key : ∀ d,(Op.equalIn (d + 1) t (.map a) (.map none)).run P w = .ok a.isNone w := fun d => by
  rw [Op.equalIn]; cases a <;> simp [run_underlying h.und]
 exact key 9999
theorem Zcr {a : Option Addr} {n c n' c' : Nat} (ho : o.op = .binOp .eql t x y ty) (hx : ev σ x = some (.slice a n c)) (hy : ev σ y = some (.slice none n' c')) [h : Und P t (.slice e)] : Yl P o σ w (.bool a.isNone) := ⟨fun N ds f ha => by
 simp only [execOp,ho,ha.eval hx,ha.eval hy,eqGuard,binOp,Sem.run_bind,Sem.run_pure,Result.andThen_ok,Ze6 (e := e)]; rfl⟩
theorem Zht {a : Option Addr} {n c n' c' : Nat} (ho : o.op = .binOp .neq t x y ty) (hx : ev σ x = some (.slice a n c)) (hy : ev σ y = some (.slice none n' c')) [h : Und P t (.slice e)] : Yl P o σ w (.bool (!a.isNone)) := ⟨fun N ds f ha => by
 simp only [execOp,ho,ha.eval hx,ha.eval hy,eqGuard,binOp,Sem.run_bind,Sem.run_pure,Result.andThen_ok,Ze6 (e := e)]; rfl⟩
theorem Zj7 {a : Option Addr} (ho : o.op = .binOp .eql t x y ty) (hx : ev σ x = some (.pointer a)) (hy : ev σ y = some (.pointer none)) [h : Und P t (.pointer e)] : Yl P o σ w (.bool a.isNone) := ⟨fun N ds f ha => by
 simp only [execOp,ho,ha.eval hx,ha.eval hy,eqGuard,binOp,Sem.run_bind,Sem.run_pure,Result.andThen_ok,Zgb (e := e)]; cases a <;> rfl⟩
theorem Zqd {a : Option Addr} (ho : o.op = .binOp .neq t x y ty) (hx : ev σ x = some (.pointer a)) (hy : ev σ y = some (.pointer none)) [h : Und P t (.pointer e)] : Yl P o σ w (.bool (!a.isNone)) := ⟨fun N ds f ha => by
 simp only [execOp,ho,ha.eval hx,ha.eval hy,eqGuard,binOp,Sem.run_bind,Sem.run_pure,Result.andThen_ok,Zgb (e := e)]; cases a <;> rfl⟩
theorem Zhs {a : Addr} (ho : o.op = .binOp .neq t x y ty) (hx : ev σ x = some (.pointer (some a))) (hy : ev σ y = some (.pointer none)) [h : Und P t (.pointer e)] : Yl P o σ w (.bool true) := Zqd (e := e) ho hx hy
theorem Zbg {a : Addr} (ho : o.op = .binOp .eql t x y ty) (hx : ev σ x = some (.pointer (some a))) (hy : ev σ y = some (.pointer none)) [h : Und P t (.pointer e)] : Yl P o σ w (.bool false) := Zj7 (e := e) ho hx hy
theorem Zmq (ho : o.op = .binOp .eql t x y ty) (hx : ev σ x = some (.pointer none)) (hy : ev σ y = some (.pointer none)) [h : Und P t (.pointer e)] : Yl P o σ w (.bool true) := Zj7 (e := e) ho hx hy

/-! ### loads -/
theorem Zao {ad : Addr} {v : Value} (ho : o.op = .load t x) (hx : ev σ x = some (.pointer (some ad))) [h : One P t] (hc : w.cell? ad = some v) : Yl P o σ w v := ⟨fun N ds f ha => by
 simp [execOp,ho,ha.eval hx,Instr.loadAt,Instr.sureAddr,loadVar,h.one,load,Sem.run,hc]⟩
theorem Zhy {a : Addr} {cs : List Value} [h : Agg P t] [hs : Siz P t cs.length] (hc : CellsAt w a cs) : (loadVar t a).run P w = .ok (.agg cs.toArray) w := by
 simp [loadVar,h.agg,Zb3 (n := cs.length),run_loadCells_list (P := P) w a cs hc]
theorem Zef {a : Addr} {cs : List Value} {n : Nat} (ho : o.op = .load t x) (hx : ev σ x = some (.pointer (some a))) [h : Agg P t] [hs : Siz P t n] (hc : CellsAt w a cs) (hn : cs.length = n) : Yl P o σ w (.agg cs.toArray) := ⟨fun N ds f ha => by
 subst hn
 simp [execOp,ho,ha.eval hx,Instr.loadAt,Instr.sureAddr,Zhy hc]⟩

class CellsOf (v : Value) (vs : outParam (List Value)) : Prop where
 cells : v.cells = vs.toArray
instance (b : Bool) : CellsOf (.bool b) [.bool b] := ⟨rfl⟩
instance (k : IntKind) (n : Int) : CellsOf (.int k n) [.int k n] := ⟨rfl⟩
instance (a : Option Addr) : CellsOf (.pointer a) [.pointer a] := ⟨rfl⟩
instance (a : Option Addr) (n c : Nat) : CellsOf (.slice a n c) [.slice a n c] := ⟨rfl⟩
instance (r : Option Nat) : CellsOf (.map r) [.map r] := ⟨rfl⟩
instance (l : List Value) : CellsOf (.agg l.toArray) l := ⟨rfl⟩
class LenIs (l : List Value) (n : Nat) : Prop where
 len : l.length = n
instance : LenIs [] 0 := ⟨rfl⟩
instance (v : Value) (l : List Value) (n : Nat) [h : LenIs l n] : LenIs (v :: l) (n + 1) := ⟨by simp [h.len]⟩

instance spl_full (vs : List Value) (n : Nat) (z : Value) [h : LenIs vs n] : Spl (List.replicate n z) 0 vs vs := ⟨by simp [h.len]⟩
class Ones (l : List Value) : Prop where
 ones : ∀ u ∈ l,u.oneCell' = true
instance : Ones [] := ⟨fun u hu => by cases hu⟩
class Cell1 (v : Value) : Prop where
 one : v.oneCell' = true
instance (b : Bool) : Cell1 (.bool b) := ⟨rfl⟩
instance (k : IntKind) (n : Int) : Cell1 (.int k n) := ⟨rfl⟩
instance (a : Option Addr) : Cell1 (.pointer a) := ⟨rfl⟩
instance (a : Option Addr) (n c : Nat) : Cell1 (.slice a n c) := ⟨rfl⟩
instance (r : Option Nat) : Cell1 (.map r) := ⟨rfl⟩
instance ones_cons (v : Value) (l : List Value) [hv : Cell1 v] [h : Ones l] : Ones (v :: l) := ⟨fun u hu => by
 rcases List.mem_cons.mp hu with rfl | hu
 ·exact hv.one
 ·exact h.ones u hu⟩
instance ones_app (l m : List Value) [h : Ones l] [h' : Ones m] : Ones (l ++ m) := ⟨fun u hu => by
 rcases List.mem_append.mp hu with hu | hu
 ·exact h.ones u hu
 ·exact h'.ones u hu⟩
instance ones_bv (l : List UInt8) : Ones (bv l) := ⟨Zfm⟩
/-! picking resources by their Zih (Zih in what is left) -/
class At (rs : List Res) (i : Nat) (r : outParam Res) (rest : outParam (List Res)) : Prop where
 perm : rs.Perm (r :: rest)
instance At.zero (r : Res) (rs : List Res) : At (r :: rs) 0 r rs := ⟨.refl _⟩
instance At.succ (q r : Res) (rs rest : List Res) (i : Nat) [h : At rs i r rest] : At (q :: rs) (i + 1) r (q :: rest) := ⟨(List.Perm.cons q h.perm).trans (.swap ..)⟩
class Pick (rs : List Res) (ix : List Nat) (out : outParam (List Res)) : Prop where
 pick : ∀ {W F w},St W F rs w → St W F out w
theorem St.drops {W : World} {F : Nat → Prop} {w : World} : ∀ {rs : List Res},St W F rs w → St W F [] w
 | [],h => h
 | _ :: _,h => h.drop.drops
instance Pick.nil (rs : List Res) : Pick rs [] [] := ⟨fun h => h.drops⟩
theorem St.under {W : World} {F : Nat → Prop} {w : World} {r : Res} {rs out : List Res} (h : St W F (r :: rs) w) (hp : ∀ {W F w},St W F rs w → St W F out w) : St W F (r :: out) w := by
 obtain ⟨F',h1,hr,_,hbk⟩ := h.call (pre := rs) (rest := [r]) (sp := ⟨(List.perm_append_comm (l₁ := [r]) (l₂ := rs))⟩) []
 exact (@hbk out (out ++ [r]) _ ⟨rfl⟩ (hp h1)).perm List.perm_append_comm
instance Pick.cons (rs : List Res) (i : Nat) (ix : List Nat) (r : Res) (rest out : List Res) [h : At rs i r rest] [h2 : Pick rest ix out] : Pick rs (i :: ix) (r :: out) := ⟨fun hS => (hS.perm h.perm).under h2.pick⟩
theorem St.pick {W : World} {F : Nat → Prop} {rs out : List Res} {w : World} (hS : St W F rs w) (ix : List Nat) [h : Pick rs ix out] : St W F out w := h.pick hS

/-! loads of several cells -/
class Seg (l : List Value) (off n : Nat) (cs : outParam (List Value)) : Prop where
 seg : (l.drop off).take n = cs ∧ cs.length = n
instance seg_here (l : List Value) (n : Nat) [h : LenIs l n] : Seg l 0 n l := ⟨by simp [← h.len]⟩
instance seg_app (l m : List Value) (n : Nat) [h : LenIs l n] : Seg (l ++ m) 0 n l := ⟨by simp [← h.len]⟩
instance seg_next (v : Value) (l cs : List Value) (k n : Nat) [h : Seg l k n cs] : Seg (v :: l) (k + 1) n cs := ⟨by simpa using h.seg⟩
def Zdj (w : World) (a : Addr) (n : Nat) (cs : List Value) : Prop := CellsAt w a cs ∧ cs.length = n
theorem St.cellsN {W : World} {F : Nat → Prop} {rs : List Res} {w : World} {b off n : Nat} {l cs : List Value} {T : TypeId} (hS : St W F rs w) [hh : Has rs b (.cells l.toArray T (0,0))] [hs : Seg l off n cs] : Zdj w ⟨b,off,none⟩ n cs := by
 refine ⟨fun j v hv => ?_,hs.seg.2⟩
 have hb := hS.has (b := b) (o := .cells l.toArray T (0,0))
 have e := hs.seg.1
 rw [← e,List.getElem?_take] at hv
 split at hv
 ·rw [List.getElem?_drop] at hv
  rw [Zcn,cell_of_row w b _ _ T (0,0) hb]; simpa using hv
 ·cases hv
theorem Zbc {a : Addr} {cs : List Value} {n : Nat} (ho : o.op = .load t x) (hx : ev σ x = some (.pointer (some a))) [h : Agg P t] [hs : Siz P t n] (hc : Zdj w a n cs) : Yl P o σ w (.agg cs.toArray) := Zef ho hx hc.1 hc.2

/-! ### what makes memory -/
theorem X_new {v : Value} {T : TypeId} {d : Nat} {W : World} {F : Nat → Prop} {rs : List Res} {l : List Value} (hrun : ∀ N ds a,Fr σ N ds a → (execOp a.eval o).run P w = .ok (.value (.pointer (some ⟨w.heap.size,0,none⟩))) (w.alloc (.cells v.cells T)))
  (hl : v.cells = l.toArray) (hd : o.dst = some d) (hN : Nat.blt d N = true) (hS : St W F rs w)
  (h : ∀ b w',St W F (pts b (.cells l.toArray T (0,0)) :: rs) w' → RowKit.Below w.heap.size w w' → K ((d,.pointer (some ⟨b,0,none⟩)) :: σ) w') : X P o N ds σ w K := ⟨fun a ha K' Q' hK => by
 unfold Oper.wp
 rw [hrun N ds a ha,hl]
 have := hK _ _ _ (ha.put (Zbp hN) (.pointer (some ⟨w.heap.size,0,none⟩))) (h w.heap.size _ (hS.alloc (.cells l.toArray T)) ((RowKit.Below.refl _ _).alloc (Nat.le_refl _) _))
 rw [← hd] at this
 exact this⟩
theorem Zbe {z : Value} {n m : Nat} {d : Nat} {W : World} {F : Nat → Prop} {rs : List Res} {l : List Value} (ho : o.op = .alloc t) [h : Inf P t z n m] [hl : CellsOf z l] (hd : o.dst = some d) (hN : Nat.blt d N = true) (hS : St W F rs w)
  (h : ∀ b w',St W F (pts b (.cells l.toArray t (0,0)) :: rs) w' → RowKit.Below w.heap.size w w' → K ((d,.pointer (some ⟨b,0,none⟩)) :: σ) w') : X P o N ds σ w K := by
 rename_i hi
 obtain ⟨i,hi,hz,_⟩ := info_parts hi.inf
 exact X_new (v := z) (T := t) (fun N ds a ha => by
  simp [execOp,ho,Instr.alloc,zeroValue,typeInfo,hi,hz,newVar,newRow]) hl.cells hd hN hS h
theorem Zeg {v : Value} {d : Nat} {W : World} {F : Nat → Prop} {rs : List Res} {l : List Value} (ho : o.op = .box t x) (hx : ev σ x = some v) [hl : CellsOf v l] (hd : o.dst = some d) (hN : Nat.blt d N = true) (hS : St W F rs w)
  (h : ∀ b w',St W F (pts b (.cells l.toArray t (0,0)) :: rs) w' → RowKit.Below w.heap.size w w' → K ((d,.pointer (some ⟨b,0,none⟩)) :: σ) w') : X P o N ds σ w K :=
 X_new (v := v) (T := t) (fun N ds a ha => by simp [execOp,ho,Instr.box,newVar,newRow,ha.eval hx]) hl.cells hd hN hS h

/-! ### stores -/
theorem Zgw {b off m : Nat} {v : Value} {l vs : List Value} {T : TypeId} [hs : Siz P t m] (hv : v.cells = vs.toArray) (hm : vs.length = m) (h1 : ∀ u ∈ vs,u.oneCell' = true) (hb : w.heap[b]? = some (.cells l.toArray T (0,0))) (hfit : off + vs.length ≤ l.length) :
  (storeVar t ⟨b,off,none⟩ v).run P w = .ok () (w.setRow b (l.take off ++ vs ++ l.drop (off + vs.length)).toArray) := by
 subst hm
 have := run_storeCells_at P b off T vs 0 l.toArray w hb (by simpa using hfit) h1
 simp only [Nat.add_zero] at this
 simp [storeVar,hv,Zb3 (n := vs.length),this]
theorem Za1 {b off m : Nat} {v : Value} {l l' vs : List Value} {T : TypeId} {W : World} {F : Nat → Prop} {rs rs' : List Res} (ho : o.op = .store t x y) (hx : ev σ x = some (.pointer (some ⟨b,off,none⟩))) (hy : ev σ y = some v) [hv : CellsOf v vs] [hs : Siz P t m] [hm : LenIs vs m] [h1 : Ones vs]
  (hd : o.dst = none) (hS : St W F rs w) [hh : Has rs b (.cells l.toArray T (0,0))] [hsp : Spl l off vs l'] [hu : Upd rs b (.cells l'.toArray T (0,0)) rs']
  (h : ∀ w',St W F rs' w' → (∀ k,k ≠ b → w'.heap[k]? = w.heap[k]?) → K σ w') : X P o N ds σ w K := ⟨fun a ha K' Q' hK => by
 unfold Oper.wp
 have hb := hS.has (b := b) (o := .cells l.toArray T (0,0))
 have hr := Zgw (P := P) (t := t) hv.cells hm.len h1.ones hb hsp.spl.1
 have hexec : (execOp a.eval o).run P w = .ok .skip (w.setRow b l'.toArray) := by
  simp [execOp,ho,ha.eval hx,ha.eval hy,Instr.storeAt,Instr.sureAddr,hr,hsp.spl.2]
 rw [hexec]
 have u := Zcp hb l'.toArray
 refine hK _ _ _ (?_ : Fr σ N ds _) (h _ (hS.upd u) u.other)
 rw [hd]
 exact ha⟩

/-! ### calls -/
class Fun (P : Program) (g : FuncId) : Prop where
 run : ∀ args w,(callFunc g args).run P w = .ok (.enter g args) w
theorem Fun.mk' {g : FuncId} {fn : Func} (h : P.funcs[g]? = some fn) (hn : (fn.name == "runtime.NumGoroutine") = false) (hb : fn.body.isSome = true) : Fun P g := ⟨fun args w => by
 have h1 : ¬ fn.name = "runtime.NumGoroutine" := by simpa using hn
 have h2 : ¬ fn.body = none := by intro e; rw [e] at hb; cases hb
 simp [callFunc,h,h1,h2]⟩
def evs (σ : Env) : List Operand → Option (List Value)
 | [] => some []
 | x :: r => match ev σ x,evs σ r with
  | some v,some l => some (v :: l)
  | _,_ => none
theorem Fr.evals {a : Act} (h : Fr σ N ds a) : ∀ {xs : List Operand} {vs : List Value},evs σ xs = some vs → xs.map a.eval = vs
 | [],vs,he => by simpa [evs] using he
 | x :: r,vs,he => by
  unfold evs at he
  cases hx : ev σ x with
  | none => simp [hx] at he
  | some v =>
   cases hr : evs σ r with
   | none => simp [hx,hr] at he
   | some l =>
    simp [hx,hr] at he
    subst he
    simp [h.eval hx,h.evals hr]
def Ret (R : Value → World → Prop) : Ending → World → Prop := fun e w => ∃ v,e = .returned v ∧ R v w
theorem Ret.mk {R : Value → World → Prop} {v : Value} {w : World} (h : R v w) : Ret R (.returned v) w := ⟨v,rfl,h⟩
theorem Zj9 {f : Operand} {xs : List Operand} {vs first captured : List Value} {ts : Array TypeId} {g : FuncId} {d : Nat} {R : Value → World → Prop} (ho : o.op = .call { callee := .value f,args := xs.toArray,argTypes := ts }) (hf : ev σ f = some (.func (.func g) first.toArray captured.toArray)) (hv : evs σ xs = some vs) [hg : Fun P g]
  (hd : o.dst = some d) (hN : Nat.blt d N = true) (hc : Calls P g (first ++ vs ++ captured).toArray w (Ret R)) (h : ∀ v w',R v w' → K ((d,v) :: σ) w') : X P o N ds σ w K := ⟨fun a ha K' Q' hK => by
 unfold Oper.wp
 have hexec : (execOp a.eval o).run P w = .ok (.enter g (first ++ vs ++ captured).toArray) w := by
  simp [execOp,ho,resolve,ha.eval hf,Deferred.ofValue,invoke,hg.run,ha.evals hv]
 rw [hexec]
 refine hc.mono fun e w' ⟨v,he,hR⟩ => ?_
 subst he
 have := hK _ _ _ (ha.put (Zbp hN) v) (h v w' hR)
 rw [← hd] at this
 exact this⟩
theorem Zan (g : FuncId) {f : Operand} {xs : List Operand} {vs : List Value} {ts : Array TypeId} {d : Nat} {R : Value → World → Prop} (ho : o.op = .call { callee := .value f,args := xs.toArray,argTypes := ts }) (hf : ev σ f = some (.func (.func g) #[] #[])) (hv : evs σ xs = some vs) [hg : Fun P g]
  (hd : o.dst = some d) (hN : Nat.blt d N = true) (hc : Calls P g vs.toArray w (Ret R)) (h : ∀ v w',R v w' → K ((d,v) :: σ) w') : X P o N ds σ w K :=
 Zj9 (first := []) (captured := []) ho hf hv hd hN (by simpa using hc) h
end
end Cr
